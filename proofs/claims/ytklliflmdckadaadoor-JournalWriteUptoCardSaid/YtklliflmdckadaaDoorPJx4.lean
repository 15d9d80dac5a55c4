/-
  The journal's methods that turn a device, by hand. No macro, syntax, notation, axiom, sorry.
-/
import Derived.Test.YtklliflmdckadaaDoorPJx3
namespace Go.Proofs.YtklliflmdckadaaDoor.PJ
open Go.RowKit Go.Proofs.YtklliflmdckadaaDoorW.PrintWords Go.Proofs.YtklliflmdckadaaDoorW.PrintLast Go.Proofs.YtklliflmdckadaaDoor.DevW Go.Proofs.YtklliflmdckadaaDoor.DevC
set_option linter.unusedVariables false
set_option linter.unusedSimpArgs false
set_option maxRecDepth 100000

/-- A journal at block gj of a device that lives at block g. -/
structure JL (w0 w : World) (gj g : Nat) (F : List Nat) (st : St) (nw : Int) : Prop where
  live : Live w0 w g F st nw
  cell : w.cell? ⟨gj, 0, none⟩ = some (.pointer (some ⟨g, 0, none⟩))
  nin : gj ∉ F
  lt : gj < w.heap.size
theorem JL.below {w0 w w1 : World} {gj g : Nat} {F : List Nat} {st : St} {nw : Int} (h : JL w0 w gj g F st nw) (hb : Below w.heap.size w w1) : JL w0 w1 gj g F st nw :=
  ⟨h.live.below hb, (World.cell?_of_block (hb.block _ h.lt)).trans h.cell, h.nin, Nat.lt_of_lt_of_le h.lt hb.size⟩
theorem JL.next {w0 w w1 : World} {gj g : Nat} {F F1 : List Nat} {st st1 : St} {nw n1 : Int} (h : JL w0 w gj g F st nw) (hL : Live w0 w1 g F1 st1 n1) (ht : Turned F w w1) (hF : ∀ k ∈ F1, k ∈ F ∨ w.heap.size ≤ k) : JL w0 w1 gj g F1 st1 n1 :=
  ⟨hL, (World.cell?_of_block (ht.block _ h.lt h.nin)).trans h.cell, fun hm => (hF gj hm).elim h.nin (fun h2 => by have := h.lt; omega), Nat.lt_of_lt_of_le h.lt ht.size⟩
theorem foot_trans {w w1 : World} {F F1 F2 : List Nat} (hs : w.heap.size ≤ w1.heap.size) (h1 : ∀ k ∈ F1, k ∈ F ∨ w.heap.size ≤ k) (h2 : ∀ k ∈ F2, k ∈ F1 ∨ w1.heap.size ≤ k) : ∀ k ∈ F2, k ∈ F ∨ w.heap.size ≤ k :=
  fun k hk => (h2 k hk).elim (h1 k) (fun h => .inr (Nat.le_trans hs h))

set_option maxHeartbeats 2000000 in
/-- journal.Of -/
theorem of_ (w : World) (g : Nat) :
    Calls Tryd.prog 5 #[.pointer (some ⟨g, 0, none⟩)] w fun e w' => e = .returned (.pointer (some ⟨w.heap.size, 0, none⟩)) ∧ w' = w.alloc (.cells #[.pointer (some ⟨g, 0, none⟩)] 46) := by
  go_enter Tryd.func5, Tryd.ntmps5
  go_wp2
  go_ret
  exact ⟨rfl, rfl⟩
theorem JL.fresh {w0 w : World} {g : Nat} {F : List Nat} {st : St} {nw : Int} (h : Live w0 w g F st nw) : JL w0 (w.alloc (.cells #[.pointer (some ⟨g, 0, none⟩)] 46)) w.heap.size g F st nw := by
  refine ⟨h.below (Below.alloc (Below.refl _ _) (Nat.le_refl _) _), ?_, fun hm => by have := (h.foot _ hm).2; omega, by show w.heap.size < (w.heap.push _).size; rw [Array.size_push]; omega⟩
  rw [cell_of_row _ w.heap.size 0 _ _ (0, 0) (heap_alloc_new w _)]
  rfl

/-- What stands when a frame was written. -/
def jwrite (st : St) (fr : List Int) : St := dappend (if 0 < dlast st ∧ 2048 < dlast st + fr.length then dbegin st else st) fr
theorem dlast_le {st : St} : ∃ m : Nat, dlast st = m ∧ m ≤ total st := by
  unfold dlast
  cases hx : st[st.length - 1]? with
  | none => exact ⟨0, rfl, Nat.zero_le _⟩
  | some x => exact ⟨x.1.length, rfl, total_mem (b := x.1) (s := x.2) (List.mem_of_getElem? hx)⟩

set_option maxHeartbeats 8000000 in
/-- (*journal.Journal).Write of bytes that a frame may have. -/
theorem write_ {w0 w : World} {gj g : Nat} {F : List Nat} {st : St} {nw : Int} (h : JL w0 w gj g F st nw) (hl : st.length ≤ 1000000000) (hn0 : 0 ≤ nw) (hn1 : nw ≤ 1099511627776)
    (Ab : Option Addr) (cb : Nat) (bs fr : List Int) (hcb : bs.length ≤ cb) (hr : Kd.C (Kd.int .u8) w Ab bs.length bs) (k : Nat) (hm : frame_Make.f k bs = some (fr, true)) (hbt : total st + fr.length ≤ 1099511627776) :
    Calls Tryd.prog 7 #[.pointer (some ⟨gj, 0, none⟩), .slice Ab bs.length cb] w fun e w' => e = .returned .nilIface ∧ ∃ F', JL w0 w' gj g F' (jwrite st fr) (nw + 1) ∧ Turned F w w' ∧ ∀ k ∈ F', k ∈ F ∨ w.heap.size ≤ k := by
  have HJ := Lib.hid h
  have HR := Lib.hid hr
  have HM := Lib.hid hm
  have HBT := Lib.hid hbt
  clear h hr hm hbt
  go_enter Tryd.func7, Tryd.ntmps7
  go_wp2_with fail
  refine (frame_Make.calls k Ab cb bs fr true w HR.out hcb HM.out).mono ?_
  rintro e w2 ⟨v2, rfl, ho, hb⟩
  obtain ⟨Ao, co, eo⟩ := Kd.R_slice ho
  subst eo
  have hco := (Kd.R_reads' ho).2.1
  have HO := Lib.hid ho
  have HLT := Lib.hid (Kd.R_lt ho)
  have HB2 := Lib.hid hb
  have HJ2 := Lib.hid (HJ.out.below hb)
  have c2 := HJ2.out.cell
  obtain ⟨m, hdl, hmt⟩ := dlast_le (st := st)
  have hmm : m ≤ 1099511627776 := by have := HBT.out; omega
  have hfr : fr.length ≤ 1099511627776 := by have := HBT.out; omega
  have hw1 : IntKind.i64.wrap ((m : Int) + (fr.length : Int)) = (m : Int) + (fr.length : Int) := by rw [Go.Proofs.YtklliflmdckadaaDoor.DevC.i64_w]; unfold wrap64; omega
  have hw2 : wrap64 ((m : Int) + (fr.length : Int)) = (m : Int) + (fr.length : Int) := by unfold wrap64; omega
  clear ho hb
  have HDL := Lib.hid hdl
  clear hdl hmt
  go_wp2_with fail
  have key := live_last HJ2.out.live (by omega)
  rw [HDL.out] at key
  refine key.mono ?_
  clear key
  rintro e w3 ⟨rfl, n3, rfl⟩
  have HJ3 := Lib.hid (HJ2.out.below (pw_below_drewN (Below.refl _ _) n3))
  have c3 := HJ3.out.cell
  obtain ⟨w3, hw3⟩ : ∃ w3, w2.drewN n3 = w3 := ⟨_, rfl⟩
  have hb3 : Below w2.heap.size w2 w3 := by rw [← hw3]; exact pw_below_drewN (Below.refl _ _) n3
  have HB3 := Lib.hid hb3
  rw [hw3] at HJ3 c3 ⊢
  clear hw3 hb3 c2
  by_cases h0 : 0 < m
  · have e0 : decide ((m : Int) > 0) = true := decide_eq_true (by omega)
    go_wp2_with fail
    have key := live_last HJ3.out.live (by omega)
    rw [HDL.out] at key
    refine key.mono ?_
    clear key
    rintro e w4 ⟨rfl, n4, rfl⟩
    have HJ4 := Lib.hid (HJ3.out.below (pw_below_drewN (Below.refl _ _) n4))
    have c4 := HJ4.out.cell
    obtain ⟨w4, hw4⟩ : ∃ w4, w3.drewN n4 = w4 := ⟨_, rfl⟩
    have hb4 : Below w2.heap.size w2 w4 := by rw [← hw4]; exact pw_below_drewN HB3.out n4
    have HB4 := Lib.hid hb4
    rw [hw4] at HJ4 c4 ⊢
    clear hw4 hb4 c3
    by_cases h1 : 2048 < m + fr.length
    · have e1 : decide ((m : Int) + (fr.length : Int) > 2048) = true := decide_eq_true (by omega)
      have hjw : jwrite st fr = dappend (dbegin st) fr := by unfold jwrite; rw [if_pos ⟨by rw [HDL.out]; omega, by rw [HDL.out]; omega⟩]
      have HJW := Lib.hid hjw
      clear hjw
      go_wp2_with fail
      refine (live_begin HJ4.out.live (by omega)).mono ?_
      rintro e w5 ⟨rfl, F5, hL5, ht5, hF5⟩
      have HJ5 := Lib.hid (HJ4.out.next hL5 ht5 hF5)
      have c5 := HJ5.out.cell
      have HT5 := Lib.hid ht5
      have HF5 := Lib.hid hF5
      clear hL5 ht5 hF5 c4
      have hnot : ∀ q, (Value.slice Ao fr.length co).ownBlock = some q → q ∉ F5 := fun q hq hm => by
        have h1 := Kd.R_base HO.out q hq
        have h2 := HLT.out q hq
        have h3 := HF5.out q hm
        rcases h3 with h3 | h3
        · have := (HJ.out.live.foot q h3).2; omega
        · have := HB4.out.size; omega
      have HC := Lib.hid hnot
      clear hnot
      go_wp2_with fail
      refine (live_append HJ5.out.live (by rw [dbegin_len]; omega) hn0 hn1 Ao co fr hco (fun w' ht => own_C (ht.own (HT5.out.own (pw_own_below (Kd.own_of_R HO.out) HB4.out) (fun q hq hm => by have h1 := Kd.R_base HO.out q hq; have := (HJ.out.live.foot q hm).2; omega)) HC.out)) (by intro b s hbs; have h1 := total_mem hbs; rw [dbegin_total] at h1; have := HBT.out; omega) (by have := HBT.out; omega)).mono ?_
      rintro e w6 ⟨rfl, F6, hL6, ht6, hF6⟩
      have HJ6 := Lib.hid (HJ5.out.next hL6 ht6 hF6)
      have HT6 := Lib.hid (((Turned.of_below (HB2.out.trans (HB4.out.mono HB2.out.size)) F).trans HT5.out (fun b hb => .inl hb)).trans ht6 (fun b hb => (HF5.out b hb).elim .inl (fun h => .inr (Nat.le_trans (Nat.le_trans HB2.out.size HB4.out.size) h))))
      have HF6 := Lib.hid (foot_trans (w := w) (F := F) (Nat.le_trans (Nat.le_trans HB2.out.size HB4.out.size) HT5.out.size) (fun b hb => (HF5.out b hb).elim .inl (fun h => .inr (Nat.le_trans (Nat.le_trans HB2.out.size HB4.out.size) h))) hF6)
      clear hL6 ht6 hF6
      go_wp2
      go_ret
      exact ⟨rfl, F6, by rw [HJW.out]; exact HJ6.out, HT6.out, HF6.out⟩
    · have e1 : decide ((m : Int) + (fr.length : Int) > 2048) = false := decide_eq_false (by omega)
      have hjw : jwrite st fr = dappend st fr := by unfold jwrite; rw [if_neg (fun hh => h1 (by have := hh.2; rw [HDL.out] at this; omega))]
      have HJW := Lib.hid hjw
      clear hjw
      have hnot : ∀ q, (Value.slice Ao fr.length co).ownBlock = some q → q ∉ F := fun q hq hm => by
        have h1 := Kd.R_base HO.out q hq
        have h2 := HLT.out q hq
        have := (HJ.out.live.foot q hm).2; omega
      have HC := Lib.hid hnot
      clear hnot
      go_wp2_with fail
      refine (live_append HJ4.out.live (by omega) hn0 hn1 Ao co fr hco (fun w' ht => own_C (ht.own (pw_own_below (Kd.own_of_R HO.out) HB4.out) HC.out)) (by intro b s hbs; have h1 := total_mem hbs; have := HBT.out; omega) (by have := HBT.out; omega)).mono ?_
      rintro e w6 ⟨rfl, F6, hL6, ht6, hF6⟩
      have HJ6 := Lib.hid (HJ4.out.next hL6 ht6 hF6)
      have HT6 := Lib.hid ((Turned.of_below (HB2.out.trans (HB4.out.mono HB2.out.size)) F).trans ht6 (fun b hb => .inl hb))
      have HF6 := Lib.hid (foot_trans (w := w) (F := F) (F1 := F) (Nat.le_trans HB2.out.size HB4.out.size) (fun b hb => .inl hb) hF6)
      clear hL6 ht6 hF6
      go_wp2
      go_ret
      exact ⟨rfl, F6, by rw [HJW.out]; exact HJ6.out, HT6.out, HF6.out⟩
  · have e0 : decide ((m : Int) > 0) = false := decide_eq_false (by omega)
    have hjw : jwrite st fr = dappend st fr := by unfold jwrite; rw [if_neg (fun hh => h0 (by have := hh.1; rw [HDL.out] at this; omega))]
    have HJW := Lib.hid hjw
    clear hjw
    have hnot : ∀ q, (Value.slice Ao fr.length co).ownBlock = some q → q ∉ F := fun q hq hm => by
      have h1 := Kd.R_base HO.out q hq
      have h2 := HLT.out q hq
      have := (HJ.out.live.foot q hm).2; omega
    have HC := Lib.hid hnot
    clear hnot
    go_wp2_with fail
    refine (live_append HJ3.out.live (by omega) hn0 hn1 Ao co fr hco (fun w' ht => own_C (ht.own (pw_own_below (Kd.own_of_R HO.out) HB3.out) HC.out)) (by intro b s hbs; have h1 := total_mem hbs; have := HBT.out; omega) (by have := HBT.out; omega)).mono ?_
    rintro e w6 ⟨rfl, F6, hL6, ht6, hF6⟩
    have HJ6 := Lib.hid (HJ3.out.next hL6 ht6 hF6)
    have HT6 := Lib.hid ((Turned.of_below (HB2.out.trans (HB3.out.mono HB2.out.size)) F).trans ht6 (fun b hb => .inl hb))
    have HF6 := Lib.hid (foot_trans (w := w) (F := F) (F1 := F) (Nat.le_trans HB2.out.size HB3.out.size) (fun b hb => .inl hb) hF6)
    clear hL6 ht6 hF6
    go_wp2
    go_ret
    exact ⟨rfl, F6, by rw [HJW.out]; exact HJ6.out, HT6.out, HF6.out⟩

end Go.Proofs.YtklliflmdckadaaDoor.PJ
