/-
  The law DeviceScript of layer 23, first half: what the deeds leave, and rows of the law's own beside a device. No macro, syntax, notation, axiom, sorry.
-/
import Derived.Test.YtkicgmhbcldbbaaPDx3
namespace Go.Proofs.Ytkicgmhbcldbbaa.PD
open Go.RowKit Go.Proofs.YtkicgmhbcldbbaaW.PrintWords Go.Proofs.Ytkicgmhbcldbbaa.DevW Go.Proofs.Ytkicgmhbcldbbaa.DevC
set_option linter.unusedVariables false
set_option linter.unusedSimpArgs false
set_option maxRecDepth 100000

structure S41 where
  f0 : Int
  f1 : List Int
  f2 : Int
abbrev Deed := S41
def k41 : Kd Deed := Kd.iso (Kd.pair (Kd.int .u8) (Kd.pair (Kd.slice 5 (Kd.int .u8)) (Kd.int .i8))) (fun x : Deed => (x.f0, x.f1, x.f2))

/-- One deed of a row of deeds that is read. -/
theorem deed_at {w : World} {A : Option Addr} {n : Nat} {xs : List Deed} (h : Kd.C k41 w A n xs) (i : Nat) (x : Deed) (hx : xs[i]? = some x) :
    ∃ ad A1 c1, A = some ad ∧ w.cell? (ad.add (i * 3)) = some (.int .u8 x.f0) ∧ w.cell? (ad.add (i * 3 + 1)) = some (.slice A1 x.f1.length c1) ∧ w.cell? (ad.add (i * 3 + 2)) = some (.int .i8 x.f2) ∧ x.f1.length ≤ c1 ∧ Kd.C (Kd.int .u8) w A1 x.f1.length x.f1 := by
  have hi := (List.getElem?_eq_some_iff.1 hx).1
  have hn := h.1
  obtain ⟨ad, ha, hc⟩ := h.2.2 (by omega)
  obtain ⟨c, h1, ⟨ca, cb, rfl, h2, ⟨cc, cd, rfl, ⟨A1, c1, h3, h4, h5⟩, h6⟩⟩, h7⟩ := hc i x hx
  have h2' : ca = [.int .u8 x.f0] := h2
  have h6' : cd = [.int .i8 x.f2] := h6
  subst h2' h3 h6'
  exact ⟨ad, A1, c1, ha, h7 0 _ rfl, h7 1 _ rfl, h7 2 _ rfl, h4, h5⟩

/-! ### What the deeds leave -/
def deed (st : St) (a : Deed) : St :=
  if a.f0 % 6 = 0 ∨ a.f0 % 6 = 1 then dappend st a.f1 else if a.f0 % 6 = 2 then dbegin st else if a.f0 % 6 = 3 then dsync st else if a.f0 % 6 = 4 then dcrash st a.f2 else dcut st a.f2
def deeds (l : List Deed) : St := l.foldl deed []
def counts (l : List Deed) : Int := (l.map fun a => if a.f0 % 6 = 0 ∨ a.f0 % 6 = 1 then (1 : Int) else 0).sum
theorem deeds_succ (l : List Deed) (k : Nat) (x : Deed) (h : l[k]? = some x) : deeds (l.take (k + 1)) = deed (deeds (l.take k)) x := by
  have hk := (List.getElem?_eq_some_iff.1 h).1
  rw [List.take_succ_eq_append_getElem hk]
  rw [List.getElem?_eq_getElem hk] at h
  injection h with h
  rw [h]
  simp [deeds, List.foldl_append]
theorem counts_succ (l : List Deed) (k : Nat) (x : Deed) (h : l[k]? = some x) : counts (l.take (k + 1)) = counts (l.take k) + if x.f0 % 6 = 0 ∨ x.f0 % 6 = 1 then 1 else 0 := by
  have hk := (List.getElem?_eq_some_iff.1 h).1
  rw [List.take_succ_eq_append_getElem hk]
  rw [List.getElem?_eq_getElem hk] at h
  injection h with h
  rw [h]
  simp [counts]
theorem counts_bd (l : List Deed) : 0 ≤ counts l ∧ counts l ≤ l.length := by
  induction l with
  | nil => simp [counts]
  | cons x r ih =>
    have e : counts (x :: r) = (if x.f0 % 6 = 0 ∨ x.f0 % 6 = 1 then (1 : Int) else 0) + counts r := by simp [counts]
    rw [e, List.length_cons]
    split <;> omega
def bulk (l : List Deed) : Nat := (l.map fun a => a.f1.length).sum
theorem bulk_take (l : List Deed) (k : Nat) : bulk (l.take k) ≤ bulk l := by
  induction l generalizing k with
  | nil => simp [bulk]
  | cons x r ih =>
    cases k with
    | zero => simp [bulk]
    | succ k =>
      have := ih k
      simp only [bulk, List.take_succ_cons, List.map_cons, List.sum_cons] at *
      omega
theorem bulk_succ (l : List Deed) (k : Nat) (x : Deed) (h : l[k]? = some x) : bulk (l.take (k + 1)) = bulk (l.take k) + x.f1.length := by
  have hk := (List.getElem?_eq_some_iff.1 h).1
  rw [List.take_succ_eq_append_getElem hk]
  rw [List.getElem?_eq_getElem hk] at h
  injection h with h
  rw [h]
  simp [bulk]

theorem fine_snoc {r : St} {x : List Int × Int} : Fine (r ++ [x]) ↔ Fine r ∧ 0 ≤ x.2 ∧ x.2 ≤ x.1.length := by
  constructor
  · intro h
    exact ⟨fun b s hb => h b s (List.mem_append_left _ hb), h x.1 x.2 (List.mem_append_right _ (by simp))⟩
  · rintro ⟨h1, h2⟩ b s hb
    rcases List.mem_append.1 hb with hb | hb
    · exact h1 b s hb
    · simp at hb
      subst hb
      exact h2
theorem onLast_ok {st : St} {f : List Int × Int → List Int × Int} {m : Nat} (h : Fine st) (hf : ∀ p, 0 ≤ p.2 → p.2 ≤ p.1.length → 0 ≤ (f p).2 ∧ (f p).2 ≤ (f p).1.length ∧ (f p).1.length ≤ p.1.length + m) :
    Fine (onLast f st) ∧ total (onLast f st) ≤ total st + m ∧ (onLast f st).length = st.length := by
  rcases snoc_cases st with rfl | ⟨r, x, rfl⟩
  · exact ⟨h, by simp [onLast, total], rfl⟩
  · rw [onLast_snoc]
    obtain ⟨h1, h2, h3⟩ := fine_snoc.1 h
    obtain ⟨h4, h5, h6⟩ := hf x h2 h3
    refine ⟨fine_snoc.2 ⟨h1, h4, h5⟩, ?_, by simp⟩
    rw [total_snoc, total_snoc]
    omega
theorem append_ok {st : St} (b : List Int) (h : Fine st) : Fine (dappend st b) ∧ total (dappend st b) ≤ total st + b.length ∧ (dappend st b).length ≤ st.length + 1 := by
  unfold dappend
  by_cases e : st = []
  · subst e
    rw [if_pos rfl]
    have := onLast_ok (m := b.length) (dbegin_fine []) (f := fun p => (p.1 ++ b, p.2)) (fun p h0 h1 => ⟨h0, by simp; omega, by simp⟩)
    rw [dbegin_total, dbegin_len] at this
    exact ⟨this.1, this.2.1, by omega⟩
  · rw [if_neg e]
    have := onLast_ok (m := b.length) h (f := fun p => (p.1 ++ b, p.2)) (fun p h0 h1 => ⟨h0, by simp; omega, by simp⟩)
    exact ⟨this.1, this.2.1, by omega⟩
theorem crash_ok {st : St} (n : Int) (h : Fine st) : Fine (dcrash st n) ∧ total (dcrash st n) ≤ total st ∧ (dcrash st n).length = st.length := by
  have := onLast_ok (m := 0) h (f := fun p => (p.1.take (left p n), (left p n : Int))) (fun p h0 h1 => by
    have := left_le p n h0 h1
    simp only [List.length_take]
    omega)
  exact this
theorem cut_ok {st : St} (n : Int) (h : Fine st) : Fine (dcut st n) ∧ total (dcut st n) ≤ total st ∧ (dcut st n).length = st.length := by
  have := onLast_ok (m := 0) h (f := fun p => (p.1.take (max 0 (min n p.1.length)).toNat, min p.2 ((max 0 (min n p.1.length)).toNat : Int))) (fun p h0 h1 => by
    simp only [List.length_take]
    omega)
  exact this
theorem deed_ok {st : St} (a : Deed) (h : Fine st) : Fine (deed st a) ∧ total (deed st a) ≤ total st + a.f1.length ∧ (deed st a).length ≤ st.length + 1 := by
  unfold deed
  split
  · exact append_ok _ h
  · split
    · exact ⟨dbegin_fine _, by rw [dbegin_total]; omega, by rw [dbegin_len]; omega⟩
    · split
      · exact ⟨dsync_fine _, by rw [dsync_total]; omega, by rw [dsync_len]; omega⟩
      · split
        · have := crash_ok a.f2 h
          exact ⟨this.1, by omega, by omega⟩
        · have := cut_ok a.f2 h
          exact ⟨this.1, by omega, by omega⟩
theorem deeds_ok (l : List Deed) : ∀ k, k ≤ l.length → Fine (deeds (l.take k)) ∧ total (deeds (l.take k)) ≤ bulk (l.take k) ∧ (deeds (l.take k)).length ≤ k := by
  intro k
  induction k with
  | zero => intro _; exact ⟨(by intro b s h; cases h), by simp [deeds, total], by simp [deeds]⟩
  | succ k ih =>
    intro hk
    have hg := List.getElem?_eq_getElem (show k < l.length by omega)
    obtain ⟨h1, h2, h3⟩ := ih (by omega)
    rw [deeds_succ l k _ hg, bulk_succ l k _ hg]
    obtain ⟨h4, h5, h6⟩ := deed_ok l[k] h1
    exact ⟨h4, by omega, by omega⟩

/-! ### Rows of the law's own beside a device -/
def Row {α : Type} (e : TypeId) (enc : α → Value) (w0 w : World) (F : List Nat) (v : Value) (xs : List α) : Prop := w.ownsRow w0.heap.size e 1 v xs.length (encs enc xs) ∧ ∀ k, v.ownBlock = some k → k ∉ F
section
variable {α : Type} {e : TypeId} {enc : α → Value} {w0 w w' : World} {F F' : List Nat} {v : Value} {xs : List α}
theorem Row.next (h : Row e enc w0 w F v xs) (ht : Turned F w w') (hF : ∀ k ∈ F', k ∈ F ∨ w.heap.size ≤ k) : Row e enc w0 w' F' v xs :=
  ⟨ht.own h.1 h.2, fun k hk hm => by
    rcases hF k hm with h1 | h1
    · exact h.2 k hk h1
    · have := (h.1.lt k hk).2
      omega⟩
theorem Row.below (h : Row e enc w0 w F v xs) (hb : Below w.heap.size w w') : Row e enc w0 w' F v xs := ⟨pw_own_below h.1 hb, h.2⟩
theorem Row.slice (h : Row e enc w0 w F v xs) : ∃ A c, v = .slice A xs.length c ∧ xs.length ≤ c := own_slice_le h.1
theorem Row.at_ (h : Row e enc w0 w F v xs) (i : Nat) (s : α) (hs : xs[i]? = some s) : ∃ g c, v = .slice (some ⟨g, 0, none⟩) xs.length c ∧ xs.length ≤ c ∧ w.cell? ⟨g, i, none⟩ = some (enc s) ∧ w.frozen? ⟨g, i, none⟩ = false ∧ g ∉ F ∧ w0.heap.size ≤ g ∧ g < w.heap.size := by
  have hi := (List.getElem?_eq_some_iff.1 hs).1
  obtain ⟨g, c, hv, _, _⟩ := h.1.form (by omega)
  subst hv
  have hc := own_le h.1
  have := h.1.cells (g := g) rfl i (enc s) (by simp [encs, hs])
  rw [add_plain] at this
  exact ⟨g, c, rfl, hc, this, h.1.frozenAt i, h.2 g rfl, (h.1.lt g rfl).1, (h.1.lt g rfl).2⟩
theorem Row.set_ {g c : Nat} (h : Row e enc w0 w F (.slice (some ⟨g, 0, none⟩) xs.length c) xs) (i : Nat) (s : α) : Row e enc w0 (w.setCell ⟨g, i, none⟩ (enc s)) F (.slice (some ⟨g, 0, none⟩) (xs.set i s).length c) (xs.set i s) := by
  have hs := (h.1.stored i (enc s)).1
  have he : (encs enc xs).set i (enc s) = encs enc (xs.set i s) := by simp [encs, List.map_set]
  rw [he] at hs
  rw [List.length_set]
  exact ⟨by rw [List.length_set]; exact hs, h.2⟩
/-- A cell of another row is written. -/
theorem Row.far (h : Row e enc w0 w F v xs) {g : Nat} (hg : some g ≠ v.ownBlock) (i : Nat) (u : Value) : Row e enc w0 (w.setCell ⟨g, i, none⟩ u) F v xs := ⟨own_setCell h.1 hg u, h.2⟩
theorem Row.apart {β : Type} {e' : TypeId} {enc' : β → Value} {ys : List β} {g n c : Nat} (h : Row e enc w0 w F v xs) (h' : Row e' enc' w0 w F (.slice (some ⟨g, 0, none⟩) n c) ys) (hne : e ≠ e') : some g ≠ v.ownBlock := by
  obtain ⟨cells, hh⟩ := own_typed h'.1 g rfl
  exact own_ne h.1 hh hne
theorem Row.reads (h : Row e enc w0 w F v xs) {h1 : ∀ x, (enc x).oneCell' = true} {A : Option Addr} {n c : Nat} (hv : v = .slice A n c) : Kd.C (Kd.scalar enc h1) w A xs.length xs := by
  subst hv
  exact (Kd.R_reads' (Kd.R_of_own (enc := enc) (h1 := h1) (ok := fun _ => True) (by
    obtain ⟨A', c', he, _⟩ := own_slice_le h.1
    injection he with e1 e2 e3
    subst e2
    exact h.1) (fun _ _ => trivial))).2.2
end
theorem live_row {α : Type} {e : TypeId} {enc : α → Value} {w0 w : World} {F : List Nat} {xs : List α} {st : St} {nw : Int} {g d n c : Nat} (h : Live w0 w d F st nw) (hr : Row e enc w0 w F (.slice (some ⟨g, 0, none⟩) n c) xs) (i : Nat) (u : Value) : Live w0 (w.setCell ⟨g, i, none⟩ u) d F st nw :=
  h.other (F1 := [g]) ((Turned.refl _ w).setCell (p := ⟨g, i, none⟩) (.inl (by simp)) u) (by intro k hk; simp at hk; subst hk; exact hr.2 k rfl) (by intro k hk; simp at hk; subst hk; exact (hr.1.lt k rfl).1)
/-- A row was appended to. -/
theorem live_grown {w0 w w1 : World} {F : List Nat} {st : St} {nw : Int} {d : Nat} {v : Value} (h : Live w0 w d F st nw) (hg : w.grownBy w1 v.ownBlock) (hv : ∀ k, v.ownBlock = some k → k ∉ F ∧ w0.heap.size ≤ k) : Live w0 w1 d F st nw := by
  have key : ∀ q ∈ v.ownBlock.toList, v.ownBlock = some q := by
    intro q hq
    cases h : v.ownBlock with
    | none => rw [h] at hq; simp at hq
    | some b => rw [h] at hq; simp at hq; rw [hq]
  exact h.other (F1 := v.ownBlock.toList) (Turned.of_grown hg (fun q hq => by rw [hq]; simp)) (fun q hq => (hv q (key q hq)).1) (fun q hq => (hv q (key q hq)).2)
theorem Row.grown {α : Type} {e : TypeId} {enc : α → Value} {w0 w w1 : World} {F : List Nat} {st : St} {nw : Int} {d : Nat} {v v1 : Value} {xs ys : List α} (hL : Live w0 w d F st nw) (h : Row e enc w0 w F v xs) (ho : w1.ownsRow w0.heap.size e 1 v1 ys.length (encs enc ys)) (hat : v1.ownBlock = v.ownBlock ∨ ∃ b, v1.ownBlock = some b ∧ w.heap.size ≤ b) : Row e enc w0 w1 F v1 ys :=
  ⟨ho, fun k hk hm => by
    rcases hat with hat | ⟨b, hb, hle⟩
    · exact h.2 k (hat ▸ hk) hm
    · rw [hb] at hk
      injection hk with hk
      have := (hL.foot k hm).2
      omega⟩
theorem Row.over {α β : Type} {e e' : TypeId} {enc : α → Value} {enc' : β → Value} {w0 w w1 : World} {F : List Nat} {v v' : Value} {xs : List α} {ys : List β} (h : Row e enc w0 w F v xs) (h' : Row e' enc' w0 w F v' ys) (hg : w.grownBy w1 v'.ownBlock) (hne : e ≠ e') : Row e enc w0 w1 F v xs :=
  ⟨own_other h.1 hg (own_type_ne h.1 h'.1 hne), h.2⟩

def strs (st : St) : List ByteArray := st.map fun x => strOfNums x.1
def safes (st : St) : List Int := st.map fun x => x.2
theorem strs_len (st : St) : (strs st).length = st.length := List.length_map _
theorem safes_len (st : St) : (safes st).length = st.length := List.length_map _
end Go.Proofs.Ytkicgmhbcldbbaa.PD
