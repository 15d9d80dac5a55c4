/-
  The law JournalCrash: acts that are read, rows of the law's own beside a journal, and what is too long to be written. No macro, syntax, notation, axiom, sorry.
-/
import Derived.Test.YtklliflmdckadaaDoorPJx9
namespace Go.Proofs.YtklliflmdckadaaDoor.PJ
open Go.RowKit Go.Proofs.YtklliflmdckadaaDoorW.PrintWords Go.Proofs.YtklliflmdckadaaDoorW.PrintLast Go.Proofs.YtklliflmdckadaaDoor.DevW Go.Proofs.YtklliflmdckadaaDoor.DevC
set_option linter.unusedVariables false
set_option linter.unusedSimpArgs false
set_option maxRecDepth 100000

structure S35 where
  f0 : Int
  f1 : List Int
  f2 : Int
  f3 : Int
abbrev JAct := S35
def k35 : Kd JAct := Kd.iso (Kd.pair (Kd.int .u8) (Kd.pair (Kd.slice 5 (Kd.int .u8)) (Kd.pair (Kd.int .u8) (Kd.int .i8)))) (fun x : JAct => (x.f0, x.f1, x.f2, x.f3))
/-- One act of a row of acts that is read. -/
theorem act_at {w : World} {A : Option Addr} {n : Nat} {xs : List JAct} (h : Kd.C k35 w A n xs) (i : Nat) (x : JAct) (hx : xs[i]? = some x) :
    ∃ ad A1 c1, A = some ad ∧ w.cell? (ad.add (i * 4)) = some (.int .u8 x.f0) ∧ w.cell? (ad.add (i * 4 + 1)) = some (.slice A1 x.f1.length c1) ∧ w.cell? (ad.add (i * 4 + 2)) = some (.int .u8 x.f2) ∧ w.cell? (ad.add (i * 4 + 3)) = some (.int .i8 x.f3) ∧ x.f1.length ≤ c1 ∧ Kd.C (Kd.int .u8) w A1 x.f1.length x.f1 := by
  have hi := (List.getElem?_eq_some_iff.1 hx).1
  have hn := h.1
  obtain ⟨ad, ha, hc⟩ := h.2.2 (by omega)
  obtain ⟨c, h1, ⟨ca, cb, rfl, h2, ⟨cc, cd, rfl, ⟨A1, c1, h3, h4, h5⟩, ⟨ce, cf, rfl, h6, h8⟩⟩⟩, h7⟩ := hc i x hx
  have h2' : ca = [.int .u8 x.f0] := h2
  have h6' : ce = [.int .u8 x.f2] := h6
  have h8' : cf = [.int .i8 x.f3] := h8
  subst h2' h3 h6' h8'
  exact ⟨ad, A1, c1, ha, h7 0 _ rfl, h7 1 _ rfl, h7 2 _ rfl, h7 3 _ rfl, h4, h5⟩

/-! ### Rows of the law's own beside a device -/
def Row {α : Type} (e : TypeId) (enc : α → Value) (w0 w : World) (F : List Nat) (v : Value) (xs : List α) : Prop := w.ownsRow w0.heap.size e 1 v xs.length (encs enc xs) ∧ ∀ k, v.ownBlock = some k → k ∉ F
section
variable {α : Type} {e : TypeId} {enc : α → Value} {w0 w w' : World} {F F' : List Nat} {v : Value} {xs : List α}
theorem Row.next (h : Row e enc w0 w F v xs) (ht : Turned F w w') (hF : ∀ k ∈ F', k ∈ F ∨ w.heap.size ≤ k) : Row e enc w0 w' F' v xs :=
  ⟨ht.own h.1 h.2, fun k hk hm => by
    rcases hF k hm with h1 | h1
    · exact h.2 k hk h1
    · have := (h.1.lt k hk).2
      omega⟩
theorem Row.below (h : Row e enc w0 w F v xs) (hb : Below w.heap.size w w') : Row e enc w0 w' F v xs := ⟨pw_own_below h.1 hb, h.2⟩
theorem Row.slice (h : Row e enc w0 w F v xs) : ∃ A c, v = .slice A xs.length c ∧ xs.length ≤ c := own_slice_le h.1
theorem Row.at_ (h : Row e enc w0 w F v xs) (i : Nat) (s : α) (hs : xs[i]? = some s) : ∃ g c, v = .slice (some ⟨g, 0, none⟩) xs.length c ∧ xs.length ≤ c ∧ w.cell? ⟨g, i, none⟩ = some (enc s) ∧ w.frozen? ⟨g, i, none⟩ = false ∧ g ∉ F ∧ w0.heap.size ≤ g ∧ g < w.heap.size := by
  have hi := (List.getElem?_eq_some_iff.1 hs).1
  obtain ⟨g, c, hv, _, _⟩ := h.1.form (by omega)
  subst hv
  have hc := own_le h.1
  have := h.1.cells (g := g) rfl i (enc s) (by simp [encs, hs])
  rw [add_plain] at this
  exact ⟨g, c, rfl, hc, this, h.1.frozenAt i, h.2 g rfl, (h.1.lt g rfl).1, (h.1.lt g rfl).2⟩
theorem Row.set_ {g c : Nat} (h : Row e enc w0 w F (.slice (some ⟨g, 0, none⟩) xs.length c) xs) (i : Nat) (s : α) : Row e enc w0 (w.setCell ⟨g, i, none⟩ (enc s)) F (.slice (some ⟨g, 0, none⟩) (xs.set i s).length c) (xs.set i s) := by
  have hs := (h.1.stored i (enc s)).1
  have he : (encs enc xs).set i (enc s) = encs enc (xs.set i s) := by simp [encs, List.map_set]
  rw [he] at hs
  rw [List.length_set]
  exact ⟨by rw [List.length_set]; exact hs, h.2⟩
/-- A cell of another row is written. -/
theorem Row.far (h : Row e enc w0 w F v xs) {g : Nat} (hg : some g ≠ v.ownBlock) (i : Nat) (u : Value) : Row e enc w0 (w.setCell ⟨g, i, none⟩ u) F v xs := ⟨own_setCell h.1 hg u, h.2⟩
theorem Row.apart {β : Type} {e' : TypeId} {enc' : β → Value} {ys : List β} {g n c : Nat} (h : Row e enc w0 w F v xs) (h' : Row e' enc' w0 w F (.slice (some ⟨g, 0, none⟩) n c) ys) (hne : e ≠ e') : some g ≠ v.ownBlock := by
  obtain ⟨cells, hh⟩ := own_typed h'.1 g rfl
  exact own_ne h.1 hh hne
theorem Row.reads (h : Row e enc w0 w F v xs) {h1 : ∀ x, (enc x).oneCell' = true} {A : Option Addr} {n c : Nat} (hv : v = .slice A n c) : Kd.C (Kd.scalar enc h1) w A xs.length xs := by
  subst hv
  exact (Kd.R_reads' (Kd.R_of_own (enc := enc) (h1 := h1) (ok := fun _ => True) (by
    obtain ⟨A', c', he, _⟩ := own_slice_le h.1
    injection he with e1 e2 e3
    subst e2
    exact h.1) (fun _ _ => trivial))).2.2
end
theorem live_row {α : Type} {e : TypeId} {enc : α → Value} {w0 w : World} {F : List Nat} {xs : List α} {st : St} {nw : Int} {g d n c : Nat} (h : Live w0 w d F st nw) (hr : Row e enc w0 w F (.slice (some ⟨g, 0, none⟩) n c) xs) (i : Nat) (u : Value) : Live w0 (w.setCell ⟨g, i, none⟩ u) d F st nw :=
  h.other (F1 := [g]) ((Turned.refl _ w).setCell (p := ⟨g, i, none⟩) (.inl (by simp)) u) (by intro k hk; simp at hk; subst hk; exact hr.2 k rfl) (by intro k hk; simp at hk; subst hk; exact (hr.1.lt k rfl).1)
/-- A row was appended to. -/
theorem live_grown {w0 w w1 : World} {F : List Nat} {st : St} {nw : Int} {d : Nat} {v : Value} (h : Live w0 w d F st nw) (hg : w.grownBy w1 v.ownBlock) (hv : ∀ k, v.ownBlock = some k → k ∉ F ∧ w0.heap.size ≤ k) : Live w0 w1 d F st nw := by
  have key : ∀ q ∈ v.ownBlock.toList, v.ownBlock = some q := by
    intro q hq
    cases h : v.ownBlock with
    | none => rw [h] at hq; simp at hq
    | some b => rw [h] at hq; simp at hq; rw [hq]
  exact h.other (F1 := v.ownBlock.toList) (Turned.of_grown hg (fun q hq => by rw [hq]; simp)) (fun q hq => (hv q (key q hq)).1) (fun q hq => (hv q (key q hq)).2)
theorem Row.grown {α : Type} {e : TypeId} {enc : α → Value} {w0 w w1 : World} {F : List Nat} {st : St} {nw : Int} {d : Nat} {v v1 : Value} {xs ys : List α} (hL : Live w0 w d F st nw) (h : Row e enc w0 w F v xs) (ho : w1.ownsRow w0.heap.size e 1 v1 ys.length (encs enc ys)) (hat : v1.ownBlock = v.ownBlock ∨ ∃ b, v1.ownBlock = some b ∧ w.heap.size ≤ b) : Row e enc w0 w1 F v1 ys :=
  ⟨ho, fun k hk hm => by
    rcases hat with hat | ⟨b, hb, hle⟩
    · exact h.2 k (hat ▸ hk) hm
    · rw [hb] at hk
      injection hk with hk
      have := (hL.foot k hm).2
      omega⟩
theorem Row.over {α β : Type} {e e' : TypeId} {enc : α → Value} {enc' : β → Value} {w0 w w1 : World} {F : List Nat} {v v' : Value} {xs : List α} {ys : List β} (h : Row e enc w0 w F v xs) (h' : Row e' enc' w0 w F v' ys) (hg : w.grownBy w1 v'.ownBlock) (hne : e ≠ e') : Row e enc w0 w1 F v xs :=
  ⟨own_other h.1 hg (own_type_ne h.1 h'.1 hne), h.2⟩


/-- A row beside a journal was appended to. -/
theorem JL.grown {α : Type} {e : TypeId} {enc : α → Value} {w0 w w1 : World} {gj g : Nat} {F : List Nat} {st : St} {nw : Int} {v : Value} {xs : List α} (h : JL w0 w gj g F st nw) (hr : Row e enc w0 w (gj :: F) v xs) (hg : w.grownBy w1 v.ownBlock) : JL w0 w1 gj g F st nw :=
  ⟨live_grown h.live hg (fun q hq => ⟨fun hm => hr.2 q hq (List.mem_cons_of_mem _ hm), (hr.1.lt q hq).1⟩),
   (World.cell?_of_block (hg.block _ h.lt (fun e => hr.2 gj e.symm (List.mem_cons_self ..)))).trans h.cell, h.nin, Nat.lt_of_lt_of_le h.lt hg.size⟩
theorem Row.grownJ {α : Type} {e : TypeId} {enc : α → Value} {w0 w w1 : World} {gj g : Nat} {F : List Nat} {st : St} {nw : Int} {v v1 : Value} {xs ys : List α} (hL : JL w0 w gj g F st nw) (h : Row e enc w0 w (gj :: F) v xs) (ho : w1.ownsRow w0.heap.size e 1 v1 ys.length (encs enc ys)) (hat : v1.ownBlock = v.ownBlock ∨ ∃ b, v1.ownBlock = some b ∧ w.heap.size ≤ b) : Row e enc w0 w1 (gj :: F) v1 ys :=
  ⟨ho, fun k hk hm => by
    rcases hat with hat | ⟨b, hb, hle⟩
    · exact h.2 k (hat ▸ hk) hm
    · rw [hb] at hk
      injection hk with hk
      rcases List.mem_cons.1 hm with hm | hm
      · have := hL.lt
        omega
      · have := (hL.live.foot k hm).2
        omega⟩
theorem Row.nextJ {α : Type} {e : TypeId} {enc : α → Value} {w0 w w' : World} {gj : Nat} {F F' : List Nat} {v : Value} {xs : List α} (h : Row e enc w0 w (gj :: F) v xs) (ht : Turned F w w') (hF : ∀ k ∈ F', k ∈ F ∨ w.heap.size ≤ k) : Row e enc w0 w' (gj :: F') v xs :=
  h.next (ht.mono (fun k hk => List.mem_cons_of_mem _ hk)) (fun k hk => by
    rcases List.mem_cons.1 hk with hk | hk
    · exact .inl (by rw [hk]; exact List.mem_cons_self ..)
    · exact (hF k hk).imp (List.mem_cons_of_mem _) id)

set_option maxHeartbeats 2000000 in
/-- (*journal.Journal).Write of bytes that no frame may have. -/
theorem write_no {w0 w : World} {gj g : Nat} {F : List Nat} {st : St} {nw : Int} (h : JL w0 w gj g F st nw)
    (Ab : Option Addr) (cb : Nat) (bs fr : List Int) (hcb : bs.length ≤ cb) (hr : Kd.C (Kd.int .u8) w Ab bs.length bs) (k : Nat) (hm : frame_Make.f k bs = some (fr, false)) :
    Calls Tryd.prog 7 #[.pointer (some ⟨gj, 0, none⟩), .slice Ab bs.length cb] w fun e w' => e = .returned (.iface 40 (.int .i64 9)) ∧ Below w.heap.size w w' := by
  have HJ := Lib.hid h
  have HR := Lib.hid hr
  have HM := Lib.hid hm
  clear h hr hm
  go_enter Tryd.func7, Tryd.ntmps7
  go_wp2_with fail
  refine (frame_Make.calls k Ab cb bs fr false w HR.out hcb HM.out).mono ?_
  rintro e w2 ⟨v2, rfl, ho, hb⟩
  have HB := Lib.hid hb
  clear ho hb
  go_wp2
  go_ret
  exact ⟨rfl, HB.out⟩
end Go.Proofs.YtklliflmdckadaaDoor.PJ
