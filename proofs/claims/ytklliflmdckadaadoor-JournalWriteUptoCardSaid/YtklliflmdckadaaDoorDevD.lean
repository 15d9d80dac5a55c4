/-
  The methods of a device that turn its segments, each by a contract: Begin, Append. No macro, syntax, notation, axiom, sorry.
-/
import Derived.Test.YtklliflmdckadaaDoorDevC
namespace Go.Proofs.YtklliflmdckadaaDoor.DevC
open Go.RowKit Go.Proofs.YtklliflmdckadaaDoorW.PrintWords Go.Proofs.YtklliflmdckadaaDoor.DevW
set_option linter.unusedVariables false
set_option linter.unusedSimpArgs false
set_option maxRecDepth 100000

theorem infoS : (Tryd.prog.info? 59).map (fun i => (i.zero, i.size, i.bytes)) = some (some (.agg #[.slice none 0 0, .int .i64 0]), 2, 32) := by kernel_rfl
theorem infoB : (Tryd.prog.info? 5).map (fun i => (i.zero, i.size, i.bytes)) = some (some (.int .u8 0), 1, 1) := by kernel_rfl

theorem C_reads {w : World} {k : IntKind} {A : Option Addr} {xs : List Int} (h : Kd.C (Kd.int k) w A xs.length xs) : ReadsInt w k A xs.length xs := by
  refine ⟨rfl, h.2.1, fun hn => ?_⟩
  obtain ⟨ad, e, hc⟩ := h.2.2 hn
  refine ⟨ad, e, fun j hj => ?_⟩
  obtain ⟨c, h1, h2, h3⟩ := hc j _ (List.getElem?_eq_getElem hj)
  have hcc : c = [.int k xs[j]] := h2
  subst hcc
  have := h3 0 _ rfl
  rw [show j * (Kd.int k).sz + 0 = j by show j * 1 + 0 = j; omega] at this
  rw [this, List.getD_eq_getElem?_getD, List.getElem?_eq_getElem hj]
  rfl

/-- A list's block: the old one's, or a new one. -/
theorem foot_new {w w1 : World} {F F1 : List Nat} {v v1 : Value} (hs : w.heap.size ≤ w1.heap.size) (hF : ∀ k ∈ F1, k ∈ F ∨ w.heap.size ≤ k) (hv : ∀ k, v.ownBlock = some k → k ∈ F1)
    (hat : v1.ownBlock = v.ownBlock ∨ ∃ b, v1.ownBlock = some b ∧ w1.heap.size ≤ b) : ∀ k ∈ v1.ownBlock.toList ++ F1, k ∈ F ∨ w.heap.size ≤ k := by
  intro k hk
  rcases List.mem_append.1 hk with hk | hk
  · rcases hat with hat | ⟨b, hb, hle⟩
    · rw [hat] at hk
      exact hF k (hv k (by cases hv : v.ownBlock with
        | none => rw [hv] at hk; simp at hk
        | some q => rw [hv] at hk; simp at hk; rw [hk]))
    · rw [hb] at hk
      simp at hk
      exact .inr (by omega)
  · exact hF k hk

def dbegin (st : St) : St := dsync st ++ [([], 0)]

set_option maxHeartbeats 400000 in
theorem begin_ (w : World) (base g : Nat) (F : List Nat) (sv : Value) (T : List Seg) (nw : Int) (h : D w base g F sv T nw) (hl : T.length ≤ 1099511627776) :
    Calls Tryd.prog 16 #[.pointer (some ⟨g, 0, none⟩)] w fun e w' => e = .returned (.tuple #[]) ∧ After w base g F (dbegin (stOf T)) nw w' := by
  have H := Lib.hid h
  clear h
  go_enter Tryd.func16, Tryd.ntmps16
  go_wp2_with fail
  refine (sync w base g F sv T nw H.out hl).mono ?_
  rintro e w1 ⟨rfl, F1, sv1, T1, hD, hst, ht, hF⟩
  have hT1 : T1.length = T.length := by
    have := congrArg List.length hst
    rw [stOf_len] at this
    rw [this]
    simp [dsync, stOf_len]
  have c0 := hD.cell0
  have HD := Lib.hid hD
  have HST := Lib.hid hst
  have HT := Lib.hid ht
  have HF := Lib.hid hF
  have HL := Lib.hid hT1
  clear hD hst ht hF hT1 H
  go_wp2_with (at_builtin; refine print_append_cells (w0 := w1) base rfl (.tmp 8) (.tmp 10) 27 59 (.agg #[.slice none 0 0, .int .i64 0]) 2 32 rfl Tryd.underlying27 infoS rfl (by decide) (by decide) sv1 T1.length (segCells T1) [.slice none 0 0, .int .i64 0] rfl rfl rfl ?h1 HD.out.segs (Below.refl _ _) ?hb ?hl ?_)
  case h1 => intro u hu; simp at hu; rcases hu with rfl | rfl <;> rfl
  case hb => have := HD.out.gb; have := HD.out.lt; omega
  case hl => have := HL.out; omega
  intro v2 w2 hown hB hg hat
  obtain ⟨A2, cap2, hv2⟩ := own_slice hown
  subst hv2
  have hb2 := blk_grown HD.out.blk hg (HD.out.ne_segs (by decide))
  have c2 : w2.cell? ⟨g, 0, none⟩ = some sv1 := by rw [blk_cell hb2]; rfl
  have f2 : w2.frozen? ⟨g, 0, none⟩ = false := blk_frozen hb2 0
  have HO := Lib.hid hown
  have HG := Lib.hid hg
  have HA := Lib.hid hat
  clear hown hB hg hat hb2 c0
  go_wp2
  go_end0
  refine ⟨rfl, _, _, _, HD.out.pushSeg (by decide) (by decide) (by decide) HG.out HO.out HA.out, ?_, ?_, ?_⟩
  · unfold dbegin
    rw [← HST.out]
    simp [stOf]
  · exact HT.out.trans ((Turned.of_grown HG.out HD.out.segF).setCell (p := ⟨g, 0, none⟩) (.inl HD.out.gF) _) HF.out
  · exact foot_new HT.out.size HF.out HD.out.segF HA.out

/-- The last one is turned. -/
def onLast (f : List Int × Int → List Int × Int) (st : St) : St := match st[st.length - 1]? with | none => st | some x => st.set (st.length - 1) (f x)
def dappend (st : St) (b : List Int) : St := onLast (fun p => (p.1 ++ b, p.2)) (if st = [] then dbegin st else st)

set_option maxHeartbeats 1000000 in
theorem append (w : World) (base g : Nat) (F : List Nat) (sv : Value) (T : List Seg) (nw : Int) (h : D w base g F sv T nw) (hl : T.length ≤ 1000000000000) (hn0 : 0 ≤ nw) (hn1 : nw ≤ 1099511627776)
    (Ab : Option Addr) (cb : Nat) (bs : List Int) (hc : bs.length ≤ cb) (hr : ∀ w', Turned F w w' → Kd.C (Kd.int .u8) w' Ab bs.length bs) (hb : ∀ b s, (b, s) ∈ stOf T → b.length + bs.length ≤ 140737488355328) (hb0 : bs.length ≤ 140737488355328) :
    Calls Tryd.prog 17 #[.pointer (some ⟨g, 0, none⟩), .slice Ab bs.length cb] w fun e w' => e = .returned (.tuple #[]) ∧ After w base g F (dappend (stOf T) bs) (nw + 1) w' := by
  have H := Lib.hid h
  have HR := Lib.hid hr
  have HB := Lib.hid hb
  clear h hr hb
  by_cases h0 : T.length = 0
  · have c0 := H.out.cell0
    obtain ⟨A0, cap0, he, _⟩ := H.out.segs_slice
    subst he
    have hT : T = [] := List.eq_nil_of_length_eq_zero h0
    subst hT
    go_enter Tryd.func17, Tryd.ntmps17
    go_wp2_with fail
    refine (begin_ w base g F _ [] nw H.out (by simp)).mono ?_
    rintro e w1 ⟨rfl, F1, sv1, T1, hD, hst, ht, hF⟩
    have hl1 : T1.length = 1 := by
      have := congrArg List.length hst
      rw [stOf_len] at this
      rw [this]
      rfl
    have hst' : stOf T1 = (if stOf [] = [] then dbegin (stOf []) else stOf []) := by rw [hst]; rfl
    have HBL : Hid (∀ b, (∃ s, (b, s) ∈ (if stOf [] = [] then dbegin (stOf []) else stOf [])) → b.length + bs.length ≤ 140737488355328) := by
      rintro b ⟨s, hbs⟩
      have : (b, s) ∈ [(([] : List Int), (0 : Int))] := hbs
      simp at this
      rw [this.1]
      simpa using hb0
    have HD := Lib.hid hD
    have HST := Lib.hid hst'
    have HT := Lib.hid ht
    have HF := Lib.hid hF
    clear hD hst hst' ht hF HB H c0
    have c0 := HD.out.cell0
    obtain ⟨gs, cap, A, c, bl, s, he, hc, hgF, hgl, hget, hbc, ca, cb, fa, fb⟩ := seg_facts HD.out (T1.length - 1) (by omega)
    subst he
    obtain ⟨n, hn⟩ : ∃ n, T1.length = n + 1 := ⟨T1.length - 1, by omega⟩
    rw [hn] at c0 ca hget
    rw [show n + 1 - 1 = n by omega] at ca hget
    have hblen : bl.length + bs.length ≤ 140737488355328 := HBL.out bl (by rw [← HST.out]; unfold stOf; exact ⟨s, List.mem_map.2 ⟨_, List.mem_of_getElem? hget, rfl⟩⟩)
    have HG := Lib.hid hget
    have HN := Lib.hid hn
    have hnl : n + 1 ≤ 1099511627776 := by omega
    clear hget hn hc cb fb hl1
    go_wp2
    go_quiet (fail)
    have HD2 := Lib.hid (HD.out.drewN nq)
    have HT2 := Lib.hid (HT.out.drewN nq)
    have ca2 : (w1.drewN nq).cell? ⟨gs, n * 2, none⟩ = some (.slice A bl.length c) := ca
    have hz : w1.heap.size = (w1.drewN nq).heap.size := rfl
    obtain ⟨w2, hw2⟩ : ∃ w2, w1.drewN nq = w2 := ⟨_, rfl⟩
    rw [hw2] at HD2 HT2 ca2 hz ⊢
    rw [hz] at hgl
    clear hw2 HD HT ca fa c0 hz
    go_wp2_with (at_builtin; refine print_append_row (w0 := w2) base rfl (.tmp 28) (.tmp 29) 32 5 .u8 1 rfl Tryd.underlying32 infoB (by decide) (.slice A bl.length c) bl bs Ab bs.length cb rfl rfl ?ho (C_reads (HR.out _ HT2.out)) (Below.refl _ _) ?hb (by omega) ?_)
    case ho => exact HD2.out.rows _ _ HG.out
    case hb => have := HD2.out.gb; have := HD2.out.lt; omega
    intro v3 w3 hown hB hg hat
    obtain ⟨A3, cap3, hv3⟩ := own_slice hown
    subst hv3
    have hat' := hat
    have hgsb : w3.heap[gs]? = w2.heap[gs]? := hg.block gs hgl (HD2.out.ne_row' (k := gs) (by decide) HG.out rfl)
    have c3 : w3.cell? ⟨gs, n * 2, none⟩ = some (.slice A bl.length c) := (World.cell?_of_block hgsb).trans ca2
    have f3 : w3.frozen? ⟨gs, n * 2, none⟩ = false := by rw [World.frozen?_of_block hgsb]; exact HD2.out.frozS _
    have hE := HD2.out
    have hD4 := hE.storeBytes (by decide) (by decide) (by decide) HG.out hg (b := bl ++ bs) (by rw [List.length_append]; exact hown) hat
    rw [show 2 * n = n * 2 by omega, List.length_set, HN.out] at hD4
    have hT4 : Turned F w (w3.setCell ⟨gs, n * 2, none⟩ (.slice A3 (bl.length + bs.length) cap3)) := HT2.out.trans ((Turned.of_grown hg (HD2.out.rowF _ _ HG.out)).setCell (p := ⟨gs, n * 2, none⟩) (.inl hgF) _) HF.out
    have hF4 := foot_new HT2.out.size HF.out (HD2.out.rowF _ _ HG.out) hat
    obtain ⟨F4, hF4e⟩ : ∃ F4, (Value.slice A3 (bl.length + bs.length) cap3).ownBlock.toList ++ F1 = F4 := ⟨_, rfl⟩
    rw [hF4e] at hD4 hF4
    have HD4 := Lib.hid hD4
    have HT4 := Lib.hid hT4
    have HF4 := Lib.hid hF4
    have hgb := hg.block g HD2.out.lt (HD2.out.ne_row (by decide) HG.out)
    have cw : w3.cell? ⟨g, 1, none⟩ = some (.int .i64 nw) := (World.cell?_of_block (a := ⟨g, 1, none⟩) hgb).trans HD2.out.cell1
    have fw : w3.frozen? ⟨g, 1, none⟩ = false := (World.frozen?_of_block (a := ⟨g, 1, none⟩) hgb).trans (HD2.out.froz 1)
    have hne : ¬ g = gs := fun e => HD2.out.ne_segs (by decide) (by rw [e]; rfl)
    have hne' : ¬ gs = g := fun e => hne e.symm
    obtain ⟨w4, hw4⟩ : ∃ w4, w3.setCell ⟨gs, n * 2, none⟩ (.slice A3 (bl.length + bs.length) cap3) = w4 := ⟨_, rfl⟩
    rw [hw4] at HD4 HT4
    have HW4 := Lib.hid hw4
    clear hw4 hD4 hT4 hF4 hE hgb hown hB hg hat hat' hgsb HD2 HT2 ca2 hF4e
    go_wp2
    rw [HW4.out]
    go_end0
    refine ⟨rfl, F4, _, _, HD4.out.storeWrites (by decide) (by decide) (nw + 1), ?_, HT4.out.setCell (p := ⟨g, 1, none⟩) ?_ _, HF4.out⟩
    · rw [stOf_set]
      unfold dappend onLast
      rw [← HST.out, stOf_len, HN.out]
      have := stOf_get HG.out
      rw [show n + 1 - 1 = n by omega, this]
    · rcases HF4.out g HD4.out.gF with h' | h'
      · exact .inl h'
      · exact .inr h'
  · have hst' : stOf T = (if stOf T = [] then dbegin (stOf T) else stOf T) := by
      rw [if_neg]
      intro e
      have := congrArg List.length e
      rw [stOf_len] at this
      exact h0 this
    have HBL : Hid (∀ b, (∃ s, (b, s) ∈ (if stOf T = [] then dbegin (stOf T) else stOf T)) → b.length + bs.length ≤ 140737488355328) := by
      rintro b ⟨s, hbs⟩
      rw [← hst'] at hbs
      exact HB.out b s hbs
    have HST := Lib.hid hst'
    have HT := Lib.hid (Turned.refl F w)
    have HF : Hid (∀ k ∈ F, k ∈ F ∨ w.heap.size ≤ k) := fun k hk => .inl hk
    clear hst' HB
    have HD := H
    clear H
    have c0 := HD.out.cell0
    obtain ⟨gs, cap, A, c, bl, s, he, hc, hgF, hgl, hget, hbc, ca, cb, fa, fb⟩ := seg_facts HD.out (T.length - 1) (by omega)
    subst he
    obtain ⟨n, hn⟩ : ∃ n, T.length = n + 1 := ⟨T.length - 1, by omega⟩
    rw [hn] at c0 ca hget
    rw [show n + 1 - 1 = n by omega] at ca hget
    have hblen : bl.length + bs.length ≤ 140737488355328 := HBL.out bl (by rw [← HST.out]; unfold stOf; exact ⟨s, List.mem_map.2 ⟨_, List.mem_of_getElem? hget, rfl⟩⟩)
    have HG := Lib.hid hget
    have HN := Lib.hid hn
    have hnl : n + 1 ≤ 1099511627776 := by omega
    clear hget hn hc cb fb
    go_enter Tryd.func17, Tryd.ntmps17
    go_wp2
    go_quiet (fail)
    have HD2 := Lib.hid (HD.out.drewN nq)
    have HT2 := Lib.hid (HT.out.drewN nq)
    have ca2 : (w.drewN nq).cell? ⟨gs, n * 2, none⟩ = some (.slice A bl.length c) := ca
    have hz : w.heap.size = (w.drewN nq).heap.size := rfl
    obtain ⟨w2, hw2⟩ : ∃ w2, w.drewN nq = w2 := ⟨_, rfl⟩
    rw [hw2] at HD2 HT2 ca2 hz ⊢
    rw [hz] at hgl
    clear hw2 HD HT ca fa c0 hz
    go_wp2_with (at_builtin; refine print_append_row (w0 := w2) base rfl (.tmp 28) (.tmp 29) 32 5 .u8 1 rfl Tryd.underlying32 infoB (by decide) (.slice A bl.length c) bl bs Ab bs.length cb rfl rfl ?ho (C_reads (HR.out _ HT2.out)) (Below.refl _ _) ?hb (by omega) ?_)
    case ho => exact HD2.out.rows _ _ HG.out
    case hb => have := HD2.out.gb; have := HD2.out.lt; omega
    intro v3 w3 hown hB hg hat
    obtain ⟨A3, cap3, hv3⟩ := own_slice hown
    subst hv3
    have hat' := hat
    have hgsb : w3.heap[gs]? = w2.heap[gs]? := hg.block gs hgl (HD2.out.ne_row' (k := gs) (by decide) HG.out rfl)
    have c3 : w3.cell? ⟨gs, n * 2, none⟩ = some (.slice A bl.length c) := (World.cell?_of_block hgsb).trans ca2
    have f3 : w3.frozen? ⟨gs, n * 2, none⟩ = false := by rw [World.frozen?_of_block hgsb]; exact HD2.out.frozS _
    have hE := HD2.out
    have hD4 := hE.storeBytes (by decide) (by decide) (by decide) HG.out hg (b := bl ++ bs) (by rw [List.length_append]; exact hown) hat
    rw [show 2 * n = n * 2 by omega, List.length_set, HN.out] at hD4
    have hT4 : Turned F w (w3.setCell ⟨gs, n * 2, none⟩ (.slice A3 (bl.length + bs.length) cap3)) := HT2.out.trans ((Turned.of_grown hg (HD2.out.rowF _ _ HG.out)).setCell (p := ⟨gs, n * 2, none⟩) (.inl hgF) _) HF.out
    have hF4 := foot_new HT2.out.size HF.out (HD2.out.rowF _ _ HG.out) hat
    obtain ⟨F4, hF4e⟩ : ∃ F4, (Value.slice A3 (bl.length + bs.length) cap3).ownBlock.toList ++ F = F4 := ⟨_, rfl⟩
    rw [hF4e] at hD4 hF4
    have HD4 := Lib.hid hD4
    have HT4 := Lib.hid hT4
    have HF4 := Lib.hid hF4
    have hgb := hg.block g HD2.out.lt (HD2.out.ne_row (by decide) HG.out)
    have cw : w3.cell? ⟨g, 1, none⟩ = some (.int .i64 nw) := (World.cell?_of_block (a := ⟨g, 1, none⟩) hgb).trans HD2.out.cell1
    have fw : w3.frozen? ⟨g, 1, none⟩ = false := (World.frozen?_of_block (a := ⟨g, 1, none⟩) hgb).trans (HD2.out.froz 1)
    have hne : ¬ g = gs := fun e => HD2.out.ne_segs (by decide) (by rw [e]; rfl)
    have hne' : ¬ gs = g := fun e => hne e.symm
    obtain ⟨w4, hw4⟩ : ∃ w4, w3.setCell ⟨gs, n * 2, none⟩ (.slice A3 (bl.length + bs.length) cap3) = w4 := ⟨_, rfl⟩
    rw [hw4] at HD4 HT4
    have HW4 := Lib.hid hw4
    clear hw4 hD4 hT4 hF4 hE hgb hown hB hg hat hat' hgsb HD2 HT2 ca2 hF4e
    go_wp2
    rw [HW4.out]
    go_end0
    refine ⟨rfl, F4, _, _, HD4.out.storeWrites (by decide) (by decide) (nw + 1), ?_, HT4.out.setCell (p := ⟨g, 1, none⟩) ?_ _, HF4.out⟩
    · rw [stOf_set]
      unfold dappend onLast
      rw [← HST.out, stOf_len, HN.out]
      have := stOf_get HG.out
      rw [show n + 1 - 1 = n by omega, this]
    · rcases HF4.out g HD4.out.gF with h' | h'
      · exact .inl h'
      · exact .inr h'

end Go.Proofs.YtklliflmdckadaaDoor.DevC
