/- part of a proof; what it has no use for was struck out -/
import Derived.Test.YtnikfeaggppmpaaTrn
import Derived.Test.YtnikfeaggppmpaaMapS
import Derived.Lib.AppendStr
namespace Go.Proofs.Ytnikfeaggppmpaa.Wr
open Go.RowKit Go.Proofs.YtnikfeaggppmpaaW.PrintWords Go.Proofs.YtnikfeaggppmpaaW.PrintLast Go.Proofs.Ytnikfeaggppmpaa.Base Go.Proofs.Ytnikfeaggppmpaa.Nam Go.Proofs.Ytnikfeaggppmpaa.Trn Go.Proofs.Ytnikfeaggppmpaa.MapS
set_option linter.unusedVariables false
set_option linter.unusedSimpArgs false
theorem append_str_at {P : Program} {w w' : World} {t u ty e : TypeId} {i : TypeInfo} (ht : P.underlying t = some (.slice e)) (hu : P.underlying u = some .string) (hi : P.info? e = some i) (hz : i.zero = some (.int .u8 0)) (hsize : i.size = 1) (hby : i.bytes = 1)
    {v v' : Value} {n base : Nat} {xs : List Value} (hown : w.ownsRow base e 1 v n xs) {s : ByteArray} (h63 : n + s.size ≤ 140737488355328)
    (hr : (Builtin.append_ #[t, u] ty #[v, .string s]).run P w = .ok v' w') : v'.ownBlock = v.ownBlock ∨ ∃ b, v'.ownBlock = some b ∧ w.heap.size ≤ b := by
  have hxl : xs.length = n := by simpa using hown.1
  rcases hown.2 with ⟨rfl, rfl⟩ | ⟨g, cap, cur, rfl, hbg, hg, hnc, hcm, hcs, htake⟩
  · by_cases hm : s.size = 0
    · have hf := Lib.run_firstCells_string (P := P) w 1 s
      rw [hm] at hf
      simp [Builtin.append_, run_underlying ht, run_underlying hu, sizeOf, typeInfo, hi, hsize, Builtin.lenOf, hm, hf] at hr
      rw [← hr.1]
      exact .inl rfl
    · have h2 := run_append_nil_string (P := P) w t u ty e i (.int .u8 0) ht hu hi hz s (by omega) (by omega) (by rw [hby]; omega)
      rw [h2] at hr
      injection hr with h3 _
      rw [← h3]
      exact .inr ⟨_, rfl, Nat.le_refl _⟩
  · by_cases hroom : n + s.size ≤ cap
    · have hcs' : cur.size = cap := by simpa using hcs
      have h2 := Lib.run_append_room_string (P := P) w t u ty e i ht hu hi hsize g n cap cur hg s hroom (by omega)
      rw [h2] at hr
      injection hr with h3 _
      rw [← h3]
      exact .inl rfl
    · have holds : ∀ j u, xs[j]? = some u → w.cell? ((⟨g, 0, none⟩ : Addr).add j) = some u := hown.cells (g := g) rfl
      have h2 := Lib.run_append_grow_string (P := P) w t u ty e i (.int .u8 0) ht hu hi hz ⟨g, 0, none⟩ n cap xs (by rw [hsize]; simpa using hxl) holds s (by omega) (by omega) (by rw [hby]; exact growslice_fits (by omega) (by omega))
      rw [h2] at hr
      injection hr with h3 _
      rw [← h3]
      exact .inr ⟨_, rfl, Nat.le_refl _⟩
section
variable {P : Program} {ops : Array Oper} {rest : List Oper} {o : Oper} {a : Act} {Q : Exit → Act → World → Prop}
theorem app_str {W : World} (base : Nat) (hgd : o.guard = none) (s x : Operand) (t u e : TypeId)
    (ho : o.op = .call { callee := .builtin .append, args := #[s, x], argTypes := #[t, u] })
    (ht : P.underlying t = some (.slice e)) (hu : P.underlying u = some .string) (hinfo : (P.info? e).map (fun i => (i.zero, i.size, i.bytes)) = some (some (.int .u8 0), 1, 1))
    (v : Value) (xs : List Int) (y : List Int) (hy : B8 y) (hs : a.eval s = v) (hx : a.eval x = .string (strOfNums y))
    (HO : W.ownsRow base e 1 v xs.length (nums .u8 xs)) (hbase : base ≤ W.heap.size) (hl : xs.length + y.length ≤ 140737488355328)
    (h : ∀ v1 w1, w1.ownsRow base e 1 v1 (xs ++ y).length (nums .u8 (xs ++ y)) → W.grownBy w1 v.ownBlock → (v1.ownBlock = v.ownBlock ∨ ∃ b, v1.ownBlock = some b ∧ W.heap.size ≤ b) → wpList P ops Q rest (a.put o.dst v1) w1) :
    wpList P ops Q (o :: rest) a W := by
  obtain ⟨i0, hi, hzz⟩ := Option.map_eq_some_iff.1 hinfo
  simp only [Prod.mk.injEq] at hzz
  obtain ⟨hz0, hz1, hz2⟩ := hzz
  have hsz := str_size y
  refine wpList_plain hgd fun K hK => ?_
  obtain ⟨v1, w1, hr, h2, h3, h4⟩ := Lib.run_append_own_string (P := P) W base t u o.type e i0 ht hu hi hz0 hz1 hz2 v xs.length (nums .u8 xs) HO (strOfNums y) (by simp only [maxLen]; omega) (by omega) hbase
  have hat := append_str_at ht hu hi hz0 hz1 hz2 HO (by omega) hr
  unfold Oper.wp execOp
  simp only [ho, resolve, invoke, builtin, Sem.run_bind, Sem.run_pure, Result.andThen_ok, List.map_toArray, List.map_cons, List.map_nil, hs, hx, hr]
  refine hK _ _ (h v1 w1 ?_ h3 hat)
  have hl2 : (xs ++ y).length = xs.length + (strOfNums y).size := by rw [List.length_append, hsz]
  have hc : nums .u8 (xs ++ y) = nums .u8 xs ++ Lib.strCells (strOfNums y) := by
    rw [nums_append]
    congr 1
    have := bytes_str hy
    conv => lhs; rw [← this]
    simp [nums, bytesOf, Lib.strCells]
  rw [hl2, hc]
  exact h2
end
structure Wm (w : World) (base g : Nat) (F : List Nat) (v m : Value) (bs : List Int) (f : List Int → Option Int) (c : Nat) : Prop where
  blk : w.heap[g]? = some (.cells #[v, m] 70 (0, 0))
  gF : g ∈ F
  own : w.ownsRow base 5 1 v bs.length (nums .u8 bs)
  vF : ∀ k, v.ownBlock = some k → k ∈ F
  map : (m = .map none ∧ ∀ x, f x = none) ∨ ∃ b n, m = .map (some b) ∧ b ∈ F ∧ MIs w b n f ∧ n ≤ c
  rng : ∀ x a, f x = some a → 0 ≤ a ∧ a < 16384
  foot : ∀ k ∈ F, base ≤ k ∧ k < w.heap.size
def Wr (w : World) (base g : Nat) (F : List Nat) (bs : List Int) (f : List Int → Option Int) : Prop := ∃ v m, Wm w base g F v m bs f bs.length
section
variable {w w1 : World} {base g : Nat} {F : List Nat} {v m : Value} {bs : List Int} {f : List Int → Option Int} {c : Nat}
theorem Wm.cell0 (h : Wm w base g F v m bs f c) : w.cell? ⟨g, 0, none⟩ = some v := by rw [blk_cell h.blk]; rfl
theorem Wm.cell1 (h : Wm w base g F v m bs f c) : w.cell? ⟨g, 1, none⟩ = some m := by rw [blk_cell h.blk]; rfl
theorem Wm.froz (h : Wm w base g F v m bs f c) (i : Nat) : w.frozen? ⟨g, i, none⟩ = false := blk_frozen h.blk i
theorem Wm.gb (h : Wm w base g F v m bs f c) : base ≤ g ∧ g < w.heap.size := h.foot g h.gF
theorem Wm.size (h : Wm w base g F v m bs f c) : base ≤ w.heap.size := by have := h.gb; omega
theorem Wm.turned (h : Wm w base g F v m bs f c) (hk : ∀ k ∈ F, w1.heap[k]? = w.heap[k]?) (hs : w.heap.size ≤ w1.heap.size) : Wm w1 base g F v m bs f c := by
  refine ⟨(hk g h.gF).trans h.blk, h.gF, own_move h.own fun k e => hk k (h.vF k e), h.vF, ?_, h.rng, fun k hkF => ⟨(h.foot k hkF).1, Nat.lt_of_lt_of_le (h.foot k hkF).2 hs⟩⟩
  rcases h.map with hm | ⟨b, n, e1, e2, e3, e4⟩
  · exact .inl hm
  · exact .inr ⟨b, n, e1, e2, mis_move e3 (hk b e2), e4⟩
theorem Wm.below (h : Wm w base g F v m bs f c) (hb : Below w.heap.size w w1) : Wm w1 base g F v m bs f c := h.turned (fun k hk => hb.block k (h.foot k hk).2) hb.size
theorem Wr.below (h : Wr w base g F bs f) (hb : Below w.heap.size w w1) : Wr w1 base g F bs f := by
  obtain ⟨v, m, h⟩ := h
  exact ⟨v, m, h.below hb⟩
theorem Wr.foot (h : Wr w base g F bs f) : ∀ k ∈ F, base ≤ k ∧ k < w.heap.size := by
  obtain ⟨v, m, h⟩ := h
  exact h.foot
theorem Wr.gb (h : Wr w base g F bs f) : g ∈ F ∧ base ≤ g ∧ g < w.heap.size := by
  obtain ⟨v, m, h⟩ := h
  exact ⟨h.gF, h.gb⟩
theorem Wm.ne_v (h : Wm w base g F v m bs f c) : v.ownBlock ≠ some g := by
  intro e
  exact own_ne h.own h.blk (by decide) e.symm
theorem Wm.ne_m (h : Wm w base g F v m bs f c) {b n : Nat} (hb : MIs w b n f) : b ≠ g := by
  rintro rfl
  obtain ⟨es, cl, he⟩ := mis_blk hb
  rw [h.blk] at he
  cases he
theorem own_map {w : World} {base n : Nat} {e : TypeId} {size : Nat} {v : Value} {xs : List Value} {b k : Nat} {f : List Int → Option Int} (ho : w.ownsRow base e size v n xs) (hb : MIs w b k f) : v.ownBlock ≠ some b := by
  intro e1
  obtain ⟨es, cl, he⟩ := mis_blk hb
  rcases ho.2 with ⟨rfl, _⟩ | ⟨g', cap, cur, rfl, _, hg, _⟩
  · simp [Value.ownBlock] at e1
  · simp only [Value.ownBlock, Option.some.injEq] at e1
    subst e1
    rw [he] at hg
    cases hg
theorem Wm.put (h : Wm w base g F v m bs f c) {v1 : Value} {bs1 : List Int} (hg : w.grownBy w1 v.ownBlock) (ho : w1.ownsRow base 5 1 v1 bs1.length (nums .u8 bs1)) (hat : v1.ownBlock = v.ownBlock ∨ ∃ b, v1.ownBlock = some b ∧ w.heap.size ≤ b) (hl : c ≤ bs1.length) :
    ∃ F1, Wm (w1.setCell ⟨g, 0, none⟩ v1) base g F1 v1 m bs1 f bs1.length ∧ (∀ k ∈ F, k ∈ F1) ∧ (∀ k ∈ F1, k ∈ F ∨ w.heap.size ≤ k) ∧ Turned F w (w1.setCell ⟨g, 0, none⟩ v1) := by
  have hne := h.ne_v
  have hblk1 : w1.heap[g]? = some (.cells #[v, m] 70 (0, 0)) := blk_grown h.blk hg (fun e => hne e.symm)
  have hT : Turned F w (w1.setCell ⟨g, 0, none⟩ v1) := (Turned.of_grown hg (fun k e => h.vF k e)).setCell (p := ⟨g, 0, none⟩) (.inl h.gF) _
  have hv1 : v1.ownBlock ≠ some g := by
    intro e
    exact own_ne ho hblk1 (by decide) e.symm
  have hs1 : (w1.setCell ⟨g, 0, none⟩ v1).heap.size = w1.heap.size := World.size_setCell _ _ _
  refine ⟨(match v1.ownBlock with | some k => [k] | none => []) ++ F, ⟨?_, by simp [h.gF], own_setCell ho (fun e => hv1 e.symm) _, ?_, ?_, h.rng, ?_⟩, by simp +contextual, ?_, hT⟩
  · rw [blk_set hblk1]; rfl
  · intro k e
    rw [e]
    simp
  · rcases h.map with hm | ⟨b, n, e1, e2, e3, e4⟩
    · exact .inl hm
    · refine .inr ⟨b, n, e1, by simp [e2], ?_, by omega⟩
      have k1 := mis_kept e3 hg (fun e => own_map h.own e3 e.symm)
      exact mis_move k1 (Below.heap_setCell _ _ _ _ (h.ne_m e3))
  · intro k hk
    rcases List.mem_append.1 hk with hk | hk
    · cases e : v1.ownBlock with
      | none => rw [e] at hk; cases hk
      | some k' =>
        rw [e] at hk
        have : k = k' := by simpa using hk
        subst this
        have := own_lt ho k e
        exact ⟨own_base ho k e, by rw [hs1]; exact this⟩
    · exact ⟨(h.foot k hk).1, by rw [hs1]; exact Nat.lt_of_lt_of_le (h.foot k hk).2 hg.size⟩
  · intro k hk
    rcases List.mem_append.1 hk with hk | hk
    · cases e : v1.ownBlock with
      | none => rw [e] at hk; cases hk
      | some k' =>
        rw [e] at hk
        have hkk : k = k' := by simpa using hk
        subst hkk
        rcases hat with e1 | ⟨b, e1, hb⟩
        · exact .inl (h.vF k (by rw [← e1]; exact e))
        · rw [e] at e1
          injection e1 with e1
          subst e1
          exact .inr hb
    · exact .inl hk
theorem Wm.see {b n : Nat} (h : Wm w base g F v (.map (some b)) bs f c) (hm : MIs w b n f) (hF : b ∈ F) (hn : n ≤ c) {f1 : List Int → Option Int} (hm1 : MIs w1 b (n + 1) f1) (hg : w.grownBy w1 (some b))
    (hr : ∀ x a, f1 x = some a → 0 ≤ a ∧ a < 16384) : Wm w1 base g F v (.map (some b)) bs f1 (c + 1) ∧ Turned F w w1 :=
  ⟨⟨blk_grown h.blk hg (by simpa using (h.ne_m hm).symm), h.gF, own_other h.own hg (by
      rcases Option.eq_none_or_eq_some v.ownBlock with e | ⟨k, e⟩
      · exact .inl e
      · exact .inr (own_map h.own hm)), h.vF, .inr ⟨b, n + 1, rfl, hF, hm1, by omega⟩, hr, fun k hk => ⟨(h.foot k hk).1, Nat.lt_of_lt_of_le (h.foot k hk).2 hg.size⟩⟩,
    Turned.of_grown hg (fun k e => by injection e with e; exact e ▸ hF)⟩
theorem Wm.mapped (h : Wm w base g F v (.map none) bs f c) : ∃ F1, Wm ((w.alloc (.map #[] 0)).setCell ⟨g, 1, none⟩ (.map (some w.heap.size))) base g F1 v (.map (some w.heap.size)) bs (fun _ => none) c ∧ MIs ((w.alloc (.map #[] 0)).setCell ⟨g, 1, none⟩ (.map (some w.heap.size))) w.heap.size 0 (fun _ => none) ∧ w.heap.size ∈ F1 ∧ (∀ k ∈ F, k ∈ F1) ∧ (∀ k ∈ F1, k ∈ F ∨ w.heap.size ≤ k) ∧
    Turned F w ((w.alloc (.map #[] 0)).setCell ⟨g, 1, none⟩ (.map (some w.heap.size))) ∧ f = fun _ => none := by
  have hgl := h.gb
  have hb1 := blk_alloc h.blk (.map #[] 0)
  have hmk : MIs ((w.alloc (.map #[] 0)).setCell ⟨g, 1, none⟩ (.map (some w.heap.size))) w.heap.size 0 (fun _ => none) := mis_move (mis_made w) (Below.heap_setCell _ _ _ _ (by simp; omega))
  have hs1 : ((w.alloc (.map #[] 0)).setCell ⟨g, 1, none⟩ (.map (some w.heap.size))).heap.size = w.heap.size + 1 := by rw [World.size_setCell]; simp
  refine ⟨w.heap.size :: F, ⟨by rw [blk_set hb1]; rfl, by simp [h.gF], own_setCell (pw_own_below h.own (below_alloc (Below.refl _ _) _)) (fun e => h.ne_v e.symm) _, fun k e => by simp [h.vF k e], .inr ⟨_, 0, rfl, by simp, hmk, Nat.zero_le _⟩, fun x a e => (by cases e), ?_⟩, hmk, by simp, fun k hk => by simp [hk], ?_, ?_, ?_⟩
  · intro k hk
    rw [hs1]
    rcases List.mem_cons.1 hk with rfl | hk
    · exact ⟨h.size, by omega⟩
    · have := h.foot k hk
      omega
  · intro k hk
    rcases List.mem_cons.1 hk with rfl | hk
    · exact .inr (Nat.le_refl _)
    · exact .inl hk
  · exact ((Turned.refl F w).alloc _).setCell (p := ⟨g, 1, none⟩) (.inl h.gF) _
  · rcases h.map with ⟨_, hf⟩ | ⟨b, n, e, _⟩
    · exact funext hf
    · cases e
end
theorem Wr.freshOf (w : World) {base : Nat} (hb : base ≤ w.heap.size) {v : Value} {bs : List Int} (ho : w.ownsRow base 5 1 v bs.length (nums .u8 bs)) :
    ∃ F, Wr (w.alloc (.cells #[v, .map none] 70)) base w.heap.size F bs (fun _ => none) ∧ ∀ k ∈ F, k = w.heap.size ∨ v.ownBlock = some k := by
  refine ⟨w.heap.size :: (match v.ownBlock with | some k => [k] | none => []), ⟨_, _, ⟨blk_new w _, by simp, pw_own_below ho (below_alloc (Below.refl _ _) _), ?_, .inl ⟨rfl, fun _ => rfl⟩, fun _ _ e => (by cases e), ?_⟩⟩, ?_⟩
  · intro k e
    rw [e]
    simp
  · intro k hk
    rcases List.mem_cons.1 hk with rfl | hk
    · simp; omega
    · cases e : v.ownBlock with
      | none => rw [e] at hk; cases hk
      | some k' =>
        rw [e] at hk
        have : k = k' := by simpa using hk
        subst this
        have h1 := own_lt ho k e
        exact ⟨own_base ho k e, by simp; omega⟩
  · intro k hk
    rcases List.mem_cons.1 hk with rfl | hk
    · exact .inl rfl
    · cases e : v.ownBlock with
      | none => rw [e] at hk; cases hk
      | some k' =>
        rw [e] at hk
        have : k = k' := by simpa using hk
        subst this
        exact .inr rfl
theorem Wr.cell {w : World} {base g : Nat} {F : List Nat} {bs : List Int} {f : List Int → Option Int} (h : Wr w base g F bs f) :
    ∃ A c, w.cell? ⟨g, 0, none⟩ = some (.slice A bs.length c) ∧ w.frozen? ⟨g, 0, none⟩ = false ∧ w.ownsRow base 5 1 (.slice A bs.length c) bs.length (nums .u8 bs) ∧
      (∀ wx : World, (convert 40 9 (.slice A bs.length c)).run Try.prog w = .ok (.string (strOfNums bs)) w) := by
  obtain ⟨v, m, h⟩ := h
  obtain ⟨A, c, hv⟩ : ∃ A c, v = .slice A bs.length c := by
    rcases h.own.2 with ⟨rfl, e⟩ | ⟨g', cap, cur, rfl, _⟩
    · exact ⟨none, 0, by rw [e]⟩
    · exact ⟨_, _, rfl⟩
  subst hv
  exact ⟨A, c, h.cell0, h.froz 0, h.own, fun _ => own_string (P := Try.prog) Try.underlying40 Try.underlying5 Try.underlying9 h.own⟩
end Go.Proofs.Ytnikfeaggppmpaa.Wr
