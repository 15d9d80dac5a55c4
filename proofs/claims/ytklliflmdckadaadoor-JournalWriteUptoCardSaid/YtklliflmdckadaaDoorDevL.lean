/-
  A device that lives while a law runs: its methods once more, told by what stands on it. No macro, syntax, notation, axiom, sorry.
-/
import Derived.Test.YtklliflmdckadaaDoorDevS
import Derived.Test.YtklliflmdckadaaDoorHandW
namespace Go.Proofs.YtklliflmdckadaaDoor.DevC
open Go.RowKit Go.Proofs.YtklliflmdckadaaDoorW.PrintWords Go.Proofs.YtklliflmdckadaaDoor.DevW
set_option linter.unusedVariables false
set_option linter.unusedSimpArgs false
set_option maxRecDepth 100000

/-- The device at block g holds st; F are its blocks; what was there when the law began is as it was. -/
def Live (w0 w : World) (g : Nat) (F : List Nat) (st : St) (nw : Int) : Prop := ∃ sv T, D w w0.heap.size g F sv T nw ∧ stOf T = st ∧ Below w0.heap.size w0 w
/-- What a deed leaves. -/
def Next (w0 w : World) (g : Nat) (F : List Nat) (st : St) (nw : Int) (w' : World) : Prop := ∃ F', Live w0 w' g F' st nw ∧ Turned F w w' ∧ ∀ k ∈ F', k ∈ F ∨ w.heap.size ≤ k

theorem Live.below {w0 w w1 : World} {g : Nat} {F : List Nat} {st : St} {nw : Int} (h : Live w0 w g F st nw) (hb : Below w.heap.size w w1) : Live w0 w1 g F st nw := by
  obtain ⟨sv, T, hD, hst, hB⟩ := h
  exact ⟨sv, T, hD.below hb, hst, hB.trans (hb.mono hB.size)⟩
theorem Live.base {w0 w : World} {g : Nat} {F : List Nat} {st : St} {nw : Int} (h : Live w0 w g F st nw) : Below w0.heap.size w0 w := by
  obtain ⟨sv, T, hD, hst, hB⟩ := h
  exact hB
theorem Live.foot {w0 w : World} {g : Nat} {F : List Nat} {st : St} {nw : Int} (h : Live w0 w g F st nw) : ∀ k ∈ F, w0.heap.size ≤ k ∧ k < w.heap.size := by
  obtain ⟨sv, T, hD, hst, hB⟩ := h
  exact hD.foot
/-- Other blocks of the law's own were turned. -/
theorem Live.other {w0 w w1 : World} {g : Nat} {F F1 : List Nat} {st : St} {nw : Int} (h : Live w0 w g F st nw) (ht : Turned F1 w w1) (hd : ∀ k ∈ F1, k ∉ F) (hb : ∀ k ∈ F1, w0.heap.size ≤ k) : Live w0 w1 g F st nw := by
  obtain ⟨sv, T, hD, hst, hB⟩ := h
  exact ⟨sv, T, hD.other ht hd, hst, hB.trans (ht.below hb hB.size)⟩
theorem Live.fresh (w0 w : World) (h : Below w0.heap.size w0 w) : Live w0 (w.alloc (.cells #[.slice none 0 0, .int .i64 0] 29)) w.heap.size [w.heap.size] [] 0 :=
  ⟨_, [], Dev.fresh w w0.heap.size h.size, rfl, h.alloc h.size _⟩
theorem next_of {w0 w w' : World} {g : Nat} {F : List Nat} {st : St} {nw : Int} (hB : Below w0.heap.size w0 w) (hF : ∀ k ∈ F, w0.heap.size ≤ k ∧ k < w.heap.size) (h : After w w0.heap.size g F st nw w') : Next w0 w g F st nw w' := by
  obtain ⟨F', sv', T', hD, hst, ht, hn⟩ := h
  exact ⟨F', ⟨sv', T', hD, hst, hB.trans (ht.below (fun k hk => (hF k hk).1) hB.size)⟩, ht, hn⟩

theorem live_sync {w0 w : World} {g : Nat} {F : List Nat} {st : St} {nw : Int} (h : Live w0 w g F st nw) (hl : st.length ≤ 1000000000000) :
    Calls Tryd.prog 11 #[.pointer (some ⟨g, 0, none⟩)] w fun e w' => e = .returned (.tuple #[]) ∧ Next w0 w g F (dsync st) nw w' := by
  obtain ⟨sv, T, hD, hst, hB⟩ := h
  rw [← hst, stOf_len] at hl
  refine (sync w _ g F sv T nw hD (by omega)).mono ?_
  rintro e w' ⟨rfl, ha⟩
  rw [hst] at ha
  exact ⟨rfl, next_of hB hD.foot ha⟩
theorem live_begin {w0 w : World} {g : Nat} {F : List Nat} {st : St} {nw : Int} (h : Live w0 w g F st nw) (hl : st.length ≤ 1000000000000) :
    Calls Tryd.prog 16 #[.pointer (some ⟨g, 0, none⟩)] w fun e w' => e = .returned (.tuple #[]) ∧ Next w0 w g F (dbegin st) nw w' := by
  obtain ⟨sv, T, hD, hst, hB⟩ := h
  rw [← hst, stOf_len] at hl
  refine (begin_ w _ g F sv T nw hD (by omega)).mono ?_
  rintro e w' ⟨rfl, ha⟩
  rw [hst] at ha
  exact ⟨rfl, next_of hB hD.foot ha⟩
theorem live_append {w0 w : World} {g : Nat} {F : List Nat} {st : St} {nw : Int} (h : Live w0 w g F st nw) (hl : st.length ≤ 1000000000000) (hn0 : 0 ≤ nw) (hn1 : nw ≤ 1099511627776)
    (Ab : Option Addr) (cb : Nat) (bs : List Int) (hc : bs.length ≤ cb) (hr : ∀ w', Turned F w w' → Kd.C (Kd.int .u8) w' Ab bs.length bs) (hb : ∀ b s, (b, s) ∈ st → b.length + bs.length ≤ 140737488355328) (hb0 : bs.length ≤ 140737488355328) :
    Calls Tryd.prog 17 #[.pointer (some ⟨g, 0, none⟩), .slice Ab bs.length cb] w fun e w' => e = .returned (.tuple #[]) ∧ Next w0 w g F (dappend st bs) (nw + 1) w' := by
  obtain ⟨sv, T, hD, hst, hB⟩ := h
  subst hst
  rw [stOf_len] at hl
  refine (append w _ g F sv T nw hD hl hn0 hn1 Ab cb bs hc hr hb hb0).mono ?_
  rintro e w' ⟨rfl, ha⟩
  exact ⟨rfl, next_of hB hD.foot ha⟩
theorem live_crash {w0 w : World} {g : Nat} {F : List Nat} {st : St} {nw : Int} (h : Live w0 w g F st nw) (hl : st.length ≤ 1000000000000) (keep : Int) (hk0 : -9223372036854775808 ≤ keep) (hk1 : keep ≤ 9223372036854775807)
    (hb : ∀ b s, (b, s) ∈ st → 0 ≤ s ∧ s ≤ b.length ∧ b.length ≤ 140737488355328) :
    Calls Tryd.prog 12 #[.pointer (some ⟨g, 0, none⟩), .int .i64 keep] w fun e w' => e = .returned (.tuple #[]) ∧ Next w0 w g F (dcrash st keep) nw w' := by
  obtain ⟨sv, T, hD, hst, hB⟩ := h
  subst hst
  rw [stOf_len] at hl
  refine (crash w _ g F sv T nw hD hl keep hk0 hk1 hb).mono ?_
  rintro e w' ⟨rfl, ha⟩
  exact ⟨rfl, next_of hB hD.foot ha⟩
theorem live_cut {w0 w : World} {g : Nat} {F : List Nat} {st : St} {nw : Int} (h : Live w0 w g F st nw) (hl : st.length ≤ 1000000000000) (n : Int)
    (hb : ∀ b s, (b, s) ∈ st → 0 ≤ s ∧ s ≤ b.length ∧ b.length ≤ 140737488355328) :
    Calls Tryd.prog 20 #[.pointer (some ⟨g, 0, none⟩), .int .i64 n] w fun e w' => e = .returned (.tuple #[]) ∧ Next w0 w g F (dcut st n) nw w' := by
  obtain ⟨sv, T, hD, hst, hB⟩ := h
  subst hst
  rw [stOf_len] at hl
  refine (cut w _ g F sv T nw hD hl n hb).mono ?_
  rintro e w' ⟨rfl, ha⟩
  exact ⟨rfl, next_of hB hD.foot ha⟩
theorem live_last {w0 w : World} {g : Nat} {F : List Nat} {st : St} {nw : Int} (h : Live w0 w g F st nw) (hl : st.length ≤ 1000000000000) :
    Calls Tryd.prog 15 #[.pointer (some ⟨g, 0, none⟩)] w fun e w' => e = .returned (.int .i64 (dlast st)) ∧ ∃ n, w' = w.drewN n := by
  obtain ⟨sv, T, hD, hst, hB⟩ := h
  subst hst
  rw [stOf_len] at hl
  exact last w _ g F sv T nw hD (by omega)
/-- The safe ones sum up to no more than so many. -/
def SafeOk (st : St) : Prop := ∀ i, 0 ≤ dsafe (st.take i) ∧ dsafe (st.take i) ≤ 1099511627776
theorem live_segments {w0 w : World} {g : Nat} {F : List Nat} {st : St} {nw : Int} (h : Live w0 w g F st nw) (hl : st.length ≤ 1000000000000) (hb : ∀ b s, (b, s) ∈ st → b.length ≤ 140737488355328) :
    Calls Tryd.prog 10 #[.pointer (some ⟨g, 0, none⟩)] w fun e w' => ∃ v, e = .returned v ∧ Kd.R (Kd.slice 5 (Kd.int .u8)) 32 w' w.heap.size (fun _ => True) v (dsegs st) ∧ Below w.heap.size w w' := by
  obtain ⟨sv, T, hD, hst, hB⟩ := h
  subst hst
  rw [stOf_len] at hl
  exact segments w _ g F sv T nw hD hl hb

/-- A row of bytes in a block that is not turned. -/
theorem C_turned {F : List Nat} {w w' : World} (ht : Turned F w w') {k : IntKind} {A : Option Addr} {xs : List Int} (h : Kd.C (Kd.int k) w A xs.length xs) (hA : ∀ ad, A = some ad → ad.block ∉ F) : Kd.C (Kd.int k) w' A xs.length xs := by
  refine ⟨h.1, h.2.1, fun hn => ?_⟩
  obtain ⟨ad, ha, hc⟩ := h.2.2 hn
  refine ⟨ad, ha, fun j p hj => ?_⟩
  obtain ⟨c, h1, h2, h3⟩ := hc j p hj
  refine ⟨c, h1, h2, fun i u hu => ?_⟩
  have hcell := h3 i u hu
  have hb : (ad.add (j * (Kd.int k).sz + i)).block = ad.block := by unfold Addr.add; split <;> rfl
  exact (World.cell?_of_block (ht.block _ (World.block_lt_of_cell? w _ hcell) (by rw [hb]; exact hA ad ha))).trans hcell
/-- A row that lay there when the law began. -/
theorem C_args {F : List Nat} {w0 w w' : World} (hB : Below w0.heap.size w0 w) (ht : Turned F w w') (hF : ∀ k ∈ F, w0.heap.size ≤ k) {α : Type} {d : Kd α} {A : Option Addr} {n : Nat} {xs : List α} (h : Kd.C d w0 A n xs) : Kd.C d w' A n xs :=
  Kd.C_below h (hB.trans (ht.below hF hB.size))

/-! ### What stands on a device, told in numbers -/
/-- No more is safe than is there. -/
def Fine (st : St) : Prop := ∀ b s, (b, s) ∈ st → 0 ≤ s ∧ s ≤ b.length
def total (st : St) : Nat := (st.map fun x => x.1.length).sum
theorem total_snoc (st : St) (x : List Int × Int) : total (st ++ [x]) = total st + x.1.length := by simp [total]
theorem total_mem {st : St} {b : List Int} {s : Int} (h : (b, s) ∈ st) : b.length ≤ total st := by
  induction st with
  | nil => cases h
  | cons x r ih =>
    have e : total (x :: r) = x.1.length + total r := by simp [total]
    rw [e]
    rcases List.mem_cons.1 h with h | h
    · rw [← h]
      show b.length ≤ b.length + _
      omega
    · have := ih h
      omega
theorem fine_safe {st : St} (h : Fine st) : 0 ≤ dsafe st ∧ dsafe st ≤ total st := by
  induction st with
  | nil => simp [dsafe, total]
  | cons x r ih =>
    have h0 := ih (fun b s hb => h b s (List.mem_cons_of_mem _ hb))
    have h1 := h x.1 x.2 (List.mem_cons_self ..)
    have e1 : dsafe (x :: r) = x.2 + dsafe r := by simp [dsafe]
    have e2 : total (x :: r) = x.1.length + total r := by simp [total]
    rw [e1, e2]
    omega
theorem total_take (st : St) (i : Nat) : total (st.take i) ≤ total st := by
  induction st generalizing i with
  | nil => simp [total]
  | cons x r ih =>
    cases i with
    | zero => simp [total]
    | succ i =>
      have e : total (x :: r) = x.1.length + total r := by simp [total]
      have e' : total ((x :: r).take (i + 1)) = x.1.length + total (r.take i) := by simp [total]
      have := ih i
      omega
theorem fine_safeOk {st : St} (h : Fine st) (ht : total st ≤ 1099511627776) : SafeOk st := fun i => by
  have h1 := fine_safe (st := st.take i) (fun b s hb => h b s (List.mem_of_mem_take hb))
  have h2 := total_take st i
  omega
theorem dsync_total (st : St) : total (dsync st) = total st := by simp [total, dsync, Function.comp_def]
theorem dsync_fine (st : St) : Fine (dsync st) := by
  intro b s h
  obtain ⟨x, _, hx⟩ := List.mem_map.1 h
  injection hx with h1 h2
  subst h1
  omega
theorem dsync_len (st : St) : (dsync st).length = st.length := List.length_map _
theorem dbegin_fine (st : St) : Fine (dbegin st) := by
  intro b s h
  rcases List.mem_append.1 h with h | h
  · exact dsync_fine st b s h
  · simp at h
    obtain ⟨rfl, rfl⟩ := h
    simp
theorem dbegin_total (st : St) : total (dbegin st) = total st := by unfold dbegin; rw [total_snoc, dsync_total]; rfl
theorem dbegin_len (st : St) : (dbegin st).length = st.length + 1 := by unfold dbegin; rw [List.length_append, dsync_len]; rfl
theorem onLast_snoc (f : List Int × Int → List Int × Int) (st : St) (x : List Int × Int) : onLast f (st ++ [x]) = st ++ [f x] := by
  unfold onLast
  have : (st ++ [x])[(st ++ [x]).length - 1]? = some x := by
    rw [List.length_append]
    simp
  rw [this]
  simp
theorem onLast_nil (f : List Int × Int → List Int × Int) : onLast f [] = [] := rfl
theorem snoc_cases (st : St) : st = [] ∨ ∃ r x, st = r ++ [x] := by
  rcases List.eq_nil_or_concat st with h | ⟨r, x, h⟩
  · exact .inl h
  · exact .inr ⟨r, x, by simpa using h⟩
end Go.Proofs.YtklliflmdckadaaDoor.DevC
