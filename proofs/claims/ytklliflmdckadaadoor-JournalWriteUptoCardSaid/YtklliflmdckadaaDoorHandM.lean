/-
  Words for contracts that this session proves by hand: a row of the call's own that bears the run-time's mark behind its last cell ([]byte(s)): it is appended to, written, read. No macro, syntax, notation, axiom, sorry.
-/
import Derived.Test.YtklliflmdckadaaDoorHandW
import Derived.Lib.FrozenHead2
import Derived.Lib.QuietBelow
import Derived.Laws.Strings
namespace Go.Proofs.YtklliflmdckadaaDoorW.HandM
open Go.RowKit Go.Proofs.YtklliflmdckadaaDoorW.PrintWords
set_option linter.unusedVariables false

/-- No cell of a row of n cells is frozen. -/
def Free (fz : Nat × Nat) (n : Nat) : Prop := ∀ j, j < n → ¬ (fz.1 ≤ j ∧ j < fz.2)
theorem free_zero (n : Nat) : Free (0, 0) n := fun j _ h => Nat.not_lt_zero _ h.2
theorem free_behind (n m k : Nat) (h : n ≤ m) : Free (m, k) n := fun j hj h' => by have := h'.1; simp only at this; omega

/-- The slice value v, of n elements of size cells each, owns the cells xs, whatever mark its row bears that freezes none of them. -/
def ownsM (w : World) (base : Nat) (e : TypeId) (size : Nat) (v : Value) (n : Nat) (xs : List Value) : Prop :=
  xs.length = n * size ∧
  ((v = .slice none 0 0 ∧ n = 0) ∨
   ∃ g cap cur fz, v = .slice (some ⟨g, 0, none⟩) n cap ∧ base ≤ g ∧ w.heap[g]? = some (.cells cur e fz) ∧ Free fz cur.size ∧ n ≤ cap ∧ cap ≤ maxLen ∧ cur.size = cap * size ∧ cur.toList.take (n * size) = xs)

section
variable {w : World} {base : Nat} {e : TypeId} {size : Nat} {v : Value} {n : Nat} {xs : List Value}

theorem ownsM_of (h : w.ownsRow base e size v n xs) : ownsM w base e size v n xs := by
  refine ⟨h.1, ?_⟩
  rcases h.2 with hn | ⟨g, cap, cur, hv, hb, hg, rest⟩
  · exact .inl hn
  · exact .inr ⟨g, cap, cur, (0, 0), hv, hb, hg, free_zero _, rest⟩

theorem ownsM_lt (h : ownsM w base e size v n xs) : ∀ k, v.ownBlock = some k → base ≤ k ∧ k < w.heap.size := by
  intro k hk
  rcases h.2 with ⟨rfl, _⟩ | ⟨g, cap, cur, fz, rfl, hb, hg, _⟩
  · simp [Value.ownBlock] at hk
  · simp [Value.ownBlock] at hk
    subst hk
    exact ⟨hb, (Array.getElem?_eq_some_iff.1 hg).1⟩

theorem ownsM_kept {w' : World} {row : Option Nat} (h : ownsM w base e size v n xs) (hg : w.grownBy w' row) (hne : v.ownBlock = none ∨ v.ownBlock ≠ row) : ownsM w' base e size v n xs := by
  refine ⟨h.1, ?_⟩
  rcases h.2 with hn | ⟨g, cap, cur, fz, rfl, hb, hgg, rest⟩
  · exact .inl hn
  · refine .inr ⟨g, cap, cur, fz, rfl, hb, ?_, rest⟩
    rw [hg.block g (Array.getElem?_eq_some_iff.1 hgg).1 (by simpa [Value.ownBlock] using hne)]
    exact hgg

theorem ownsM_below {w' : World} (h : ownsM w base e size v n xs) (hb : Below w.heap.size w w') : ownsM w' base e size v n xs :=
  ownsM_kept h (grown_of_below hb none) (by cases v.ownBlock <;> simp)

theorem ownsM_cells (h : ownsM w base e size v n xs) {g : Nat} (hg : v.ownBlock = some g) : ∀ j u, xs[j]? = some u → w.cell? ((⟨g, 0, none⟩ : Addr).add j) = some u := by
  intro j u hu
  rcases h.2 with ⟨rfl, _⟩ | ⟨g', cap, cur, fz, rfl, _, hgg, _, _, _, _, htake⟩
  · simp [Value.ownBlock] at hg
  · simp [Value.ownBlock] at hg
    subst hg
    have hadd : (⟨g', 0, none⟩ : Addr).add j = ⟨g', j, none⟩ := by unfold Addr.add; split <;> simp_all
    rw [hadd, cell_of_row w g' j cur e fz hgg]
    rw [← htake, List.getElem?_take] at hu
    split at hu
    · simpa using hu
    · cases hu

theorem ownsM_form (h : ownsM w base e size v n xs) (hn : 0 < n) : ∃ g cap, v = .slice (some ⟨g, 0, none⟩) n cap ∧ n ≤ cap ∧ base ≤ g ∧ g < w.heap.size := by
  rcases h.2 with ⟨_, h0⟩ | ⟨g, cap, cur, fz, rfl, hb, hg, _, hc, _⟩
  · omega
  · exact ⟨g, cap, rfl, hc, hb, (Array.getElem?_eq_some_iff.1 hg).1⟩

theorem ownsM_slice (h : ownsM w base e size v n xs) : ∃ A c, v = .slice A n c ∧ n ≤ c := by
  rcases h.2 with ⟨rfl, rfl⟩ | ⟨g, cap, cur, fz, rfl, hb, hg, _, hc, _⟩
  · exact ⟨none, 0, rfl, Nat.le_refl _⟩
  · exact ⟨_, cap, rfl, hc⟩

/-- Bytes that are owned read as they are. -/
theorem ownsM_C {l : List Int} (h : ownsM w base e 1 v l.length (nums .u8 l)) : ∃ A c, v = .slice A l.length c ∧ l.length ≤ c ∧ Kd.C (Kd.int .u8) w A l.length l := by
  rcases h.2 with ⟨rfl, h0⟩ | ⟨g, cap, cur, fz, rfl, hb, hg, _, hc, hm, _⟩
  · have : l = [] := List.eq_nil_of_length_eq_zero h0
    subst this
    exact ⟨none, 0, rfl, Nat.le_refl _, rfl, by simp, fun h => absurd h (Nat.lt_irrefl 0)⟩
  · refine ⟨_, cap, rfl, hc, rfl, by simp only [maxLen] at hm; omega, fun _ => ⟨_, rfl, fun j p hj => ⟨[.int .u8 p], rfl, rfl, fun i u hu => ?_⟩⟩⟩
    have hi : i = 0 := by
      have := (List.getElem?_eq_some_iff.1 hu).1
      simp at this
      exact this
    subst hi
    have hu' : u = .int .u8 p := by simpa using hu.symm
    subst hu'
    refine ownsM_cells h (g := g) rfl _ _ ?_
    have hj' : l[j]? = some p := hj
    rw [show j * (Kd.int IntKind.u8).sz + 0 = j by show j * 1 + 0 = j; omega]
    simp only [nums, List.getElem?_map, hj', Option.map_some]

/-- A byte is written. -/
theorem ownsM_set {l : List Int} {g cap : Nat} (h : ownsM w base e 1 (.slice (some ⟨g, 0, none⟩) l.length cap) l.length (nums .u8 l)) (i : Nat) (x : Int) :
    ownsM (w.setCell ⟨g, i, none⟩ (.int .u8 x)) base e 1 (.slice (some ⟨g, 0, none⟩) (l.set i x).length cap) (l.set i x).length (nums .u8 (l.set i x)) := by
  rw [List.length_set]
  rcases h.2 with ⟨h', _⟩ | ⟨g', cap', cur, fz, hv, hb, hg, hf, hc, hm, hs, ht⟩
  · cases h'
  · injection hv with hv1 hv2 hv3
    injection hv1 with hv1
    injection hv1 with hv1
    subst hv1
    subst hv3
    refine ⟨by simp [nums], .inr ⟨g, cap, cur.setIfInBounds i (.int .u8 x), fz, rfl, hb, ?_, by simpa using hf, hc, hm, by simpa using hs, ?_⟩⟩
    · simp [World.setCell, Array.getElem?_modify, hg]
    · rw [Array.toList_setIfInBounds, List.take_set, ht]
      simp [nums, List.map_set]

theorem ownsM_at {l : List Int} {g cap : Nat} (h : ownsM w base e 1 (.slice (some ⟨g, 0, none⟩) l.length cap) l.length (nums .u8 l)) (i : Nat) (hi : i < l.length) :
    w.cell? ⟨g, i, none⟩ = some (.int .u8 (l.getD i 0)) ∧ w.frozen? ⟨g, i, none⟩ = false := by
  constructor
  · have hc := ownsM_cells h (g := g) rfl i (.int .u8 (l.getD i 0)) (by simp [nums, List.getElem?_eq_getElem hi, List.getD_eq_getElem?_getD])
    have ha : (⟨g, 0, none⟩ : Addr).add i = ⟨g, i, none⟩ := by unfold Addr.add; split <;> simp_all
    rwa [ha] at hc
  · rcases h.2 with ⟨h', _⟩ | ⟨g', cap', cur, fz, hv, hb, hg, hf, hc, hm, hs, ht⟩
    · cases h'
    · injection hv with hv1 hv2 hv3
      injection hv1 with hv1
      injection hv1 with hv1
      subst hv1
      subst hv3
      have := hf i (by omega)
      simp only [World.frozen?, hg, Bool.and_eq_false_iff, decide_eq_false_iff_not]
      omega
end

theorem storeCells_M (P : Program) (g o : Nat) (t : TypeId) (fz : Nat × Nat) : ∀ (vs : List Value) (i : Nat) (cur : Array Value) (w : World), w.heap[g]? = some (.cells cur t fz) → Free fz cur.size → o + i + vs.length ≤ cur.size → (∀ v ∈ vs, v.oneCell' = true) →
    (storeCells ⟨g, o, none⟩ vs i).run P w = .ok () (w.setRow g (cur.toList.take (o + i) ++ vs ++ cur.toList.drop (o + i + vs.length)).toArray)
  | [], i, cur, w, hg, _, _, _ => by
    simp only [storeCells, List.append_nil, List.length_nil, Nat.add_zero, List.take_append_drop, Array.toArray_toList]
    rw [setRow_self w g cur t fz hg]
    rfl
  | v :: rest, i, cur, w, hg, hfz, hl, h1 => by
    have hi : o + i < cur.size := by simp at hl; omega
    have hadd : (⟨g, o, none⟩ : Addr).add i = ⟨g, o + i, none⟩ := by unfold Addr.add; split <;> simp_all
    have hcell : w.cell? ⟨g, o + i, none⟩ = some cur[o + i] := by simp [World.cell?, hg, hi]
    have hfro : w.frozen? ⟨g, o + i, none⟩ = false := by
      have := hfz (o + i) hi
      simp only [World.frozen?, hg, Bool.and_eq_false_iff, decide_eq_false_iff_not]
      omega
    have hst : (store ((⟨g, o, none⟩ : Addr).add i) v).run P w = .ok () (w.setRow g (cur.setIfInBounds (o + i) v)) := by
      rw [hadd, run_store P w _ v _ (h1 v (by simp)), hcell]
      simp [hfro, setCell_eq_setRow w g (o + i) cur t fz v hg]
    have ih := storeCells_M P g o t fz rest (i + 1) (cur.setIfInBounds (o + i) v) (w.setRow g (cur.setIfInBounds (o + i) v)) (setRow_heap w g cur _ t _ hg) (by simpa using hfz) (by simp at hl ⊢; omega) (fun x hx => h1 x (by simp [hx]))
    simp only [storeCells, Sem.run_bind, hst, Result.andThen_ok, ih, setRow_setRow]
    congr 3
    have e := list_seg_step cur.toList (o + i) v rest (by simp at hl ⊢; omega)
    simpa [Array.toList_setIfInBounds, Nat.add_assoc] using e

section
variable {P : Program} (w : World)
theorem run_append_roomM (t ty e : TypeId) (i : TypeInfo) (ht : P.underlying t = some (.slice e)) (hi : P.info? e = some i)
    (g sLen sCap : Nat) (cur : Array Value) (fz : Nat × Nat) (hg : w.heap[g]? = some (.cells cur e fz)) (hfz : Free fz cur.size)
    (a : Addr) (m c : Nat) (news : List Value) (hl : news.length = m * i.size) (hnews : ∀ j u, news[j]? = some u → w.cell? (a.add j) = some u) (h1 : ∀ u ∈ news, u.oneCell' = true)
    (hroom : sLen + m ≤ sCap) (hfit : sLen * i.size + news.length ≤ cur.size) :
    (Builtin.append_ #[t, t] ty #[.slice (some ⟨g, 0, none⟩) sLen sCap, .slice (some a) m c]).run P w =
      .ok (.slice (some ⟨g, 0, none⟩) (sLen + m) sCap) (w.setRow g (cur.toList.take (sLen * i.size) ++ news ++ cur.toList.drop (sLen * i.size + news.length)).toArray) := by
  have hf := run_firstCells_some (P := P) w i.size m a m c news hl hnews
  have hst := storeCells_M P g (sLen * i.size) e fz news 0 cur w hg hfz (by simpa using hfit) h1
  simp only [Nat.add_zero] at hst
  simp [Builtin.append_, run_underlying ht, sizeOf, typeInfo, hi, Builtin.lenOf, hroom, hf, Addr.add_lit, hst]

theorem run_append_M (base : Nat) (t ty e : TypeId) (i : TypeInfo) (z : Value) (size bytes : Nat) (ht : P.underlying t = some (.slice e)) (hi : P.info? e = some i) (hz : i.zero = some z)
    (hsize : i.size = size) (hby : i.bytes = bytes) (hzs : z.cells.size = size) (hsz : 0 < size)
    (v : Value) (n : Nat) (xs : List Value) (hown : ownsM w base e size v n xs)
    (a : Addr) (m c : Nat) (news : List Value) (hl : news.length = m * size) (hnews : ∀ j u, news[j]? = some u → w.cell? (a.add j) = some u) (h1 : ∀ u ∈ news, u.oneCell' = true)
    (h63 : n + m ≤ maxLen) (hbytes : (n + m) * bytes ≤ 140737488355328) (hbase : base ≤ w.heap.size) :
    ∃ v' w', (Builtin.append_ #[t, t] ty #[v, .slice (some a) m c]).run P w = .ok v' w' ∧ ownsM w' base e size v' (n + m) (xs ++ news) ∧ w.grownBy w' v.ownBlock := by
  rcases hown.2 with ⟨rfl, rfl⟩ | ⟨g, cap, cur, fz, rfl, hbg, hg, hfz, hnc, hcm, hcs, htake⟩
  · obtain ⟨v', w', r1, r2, r3, r4⟩ := run_append_own (P := P) w base t ty e i z size bytes ht hi hz hsize hby hzs hsz (.slice none 0 0) 0 xs ⟨hown.1, .inl ⟨rfl, rfl⟩⟩ a m c news hl hnews h1 h63 hbytes hbase
    exact ⟨v', w', r1, ownsM_of r2, r3⟩
  · subst hsize
    subst hby
    have hsmall : n + m ≤ 9223372036854775807 := by simp only [maxLen] at h63; omega
    have hlen : (xs ++ news).length = (n + m) * i.size := by rw [List.length_append, hown.1, hl, Nat.add_mul]
    by_cases hroom : n + m ≤ cap
    · have hfit : n * i.size + news.length ≤ cur.size := by rw [hl, hcs, ← Nat.add_mul]; exact Nat.mul_le_mul_right _ hroom
      have hr := run_append_roomM (P := P) w t ty e i ht hi g n cap cur fz hg hfz a m c news hl hnews h1 hroom hfit
      have hsz' : (cur.toList.take (n * i.size) ++ news ++ cur.toList.drop (n * i.size + news.length)).toArray.size = cur.size := by
        simp only [List.size_toArray, List.length_append, List.length_take, List.length_drop, Array.length_toList]
        omega
      refine ⟨_, _, hr, ⟨hlen, .inr ⟨g, cap, _, fz, rfl, hbg, setRow_heap w g cur _ e _ hg, by rw [hsz']; exact hfz, hroom, hcm, by rw [hsz']; exact hcs, ?_⟩⟩, ⟨rfl, rfl, rfl, by simp, fun k _ hk => setRow_other w g k _ (fun e => hk (by simp [Value.ownBlock, e]))⟩⟩
      rw [htake, ← hlen]
      exact List.take_left
    · have holds : ∀ j u, xs[j]? = some u → w.cell? ((⟨g, 0, none⟩ : Addr).add j) = some u := ownsM_cells hown (g := g) rfl
      have hr := run_append_grow (P := P) w t ty e i z ht hi hz ⟨g, 0, none⟩ n cap xs hown.1 holds a m c news hl hnews (by omega) (by omega) (growslice_fits (by omega) hbytes)
      have hge := grownCap_ge w (n + m) cap e
      have hcm2 : grownCap w (n + m) cap e ≤ maxLen := grownCap_le_maxLen w (n + m) cap e h63
      refine ⟨_, _, hr, ⟨hlen, .inr ⟨w.heap.size, _, _, (0, 0), rfl, hbase, heap_alloc_new w.drew _, free_zero _, hge, hcm2, ?_, ?_⟩⟩, ⟨rfl, rfl, rfl, by simp, fun k hk _ => Below.heap_alloc w.drew _ k hk⟩⟩
      · simp only [Array.size_append, List.size_toArray, size_zeroCells, hzs, hown.1, hl, ← Nat.add_mul]
        congr 1
        omega
      · simp only [Array.toList_append, List.append_assoc]
        rw [← List.append_assoc, ← hlen]
        exact List.take_left

/-- append(v, ys...) of bytes, ys a slice that is read, nil let in. -/
theorem wpList_append_M {ops : Array Oper} {rest : List Oper} {o : Oper} {a : Act} {Q : Exit → Act → World → Prop} (hgd : o.guard = none) (s x : Operand) (t : TypeId)
    (ho : o.op = .call { callee := .builtin .append, args := #[s, x], argTypes := #[t, t] })
    (base : Nat) (e : TypeId) (ht : P.underlying t = some (.slice e)) (hinfo : (P.info? e).map (fun i => (i.zero, i.size, i.bytes)) = some (some (.int .u8 0), 1, 1))
    (v : Value) (l ys : List Int) (hs : a.eval s = v) (hown : ownsM w base e 1 v l.length (nums .u8 l))
    (A : Option Addr) (m c : Nat) (hx : a.eval x = .slice A m c) (hm : ys.length = m) (HR : Kd.C (Kd.int .u8) w A ys.length ys)
    (hbytes : l.length + m ≤ 140737488355328) (hbase : base ≤ w.heap.size)
    (h : ∀ v' w', ownsM w' base e 1 v' (l ++ ys).length (nums .u8 (l ++ ys)) → w.grownBy w' v.ownBlock → wpList P ops Q rest (a.put o.dst v') w') : wpList P ops Q (o :: rest) a w := by
  obtain ⟨i0, hi, hzz⟩ := Option.map_eq_some_iff.1 hinfo
  simp only [Prod.mk.injEq] at hzz
  obtain ⟨hz0, hz1, hz2⟩ := hzz
  have hrun : ∃ v' w', (Builtin.append_ #[t, t] o.type #[v, .slice A m c]).run P w = .ok v' w' ∧ ownsM w' base e 1 v' (l ++ ys).length (nums .u8 (l ++ ys)) ∧ w.grownBy w' v.ownBlock := by
    rcases A with _ | ad
    · have h0 : m = 0 := by
        rcases Nat.eq_zero_or_pos m with h0 | h0
        · exact h0
        · obtain ⟨ad, h, _⟩ := HR.2.2 (by omega)
          cases h
      subst h0
      obtain rfl : ys = [] := List.eq_nil_of_length_eq_zero hm
      refine ⟨v, w, ?_, by simpa using hown, World.grownBy.refl w _⟩
      rcases hown.2 with ⟨rfl, hn⟩ | ⟨g, cap, cur, fz, rfl, _, _, _, hnc, _⟩
      · simp [Builtin.append_, run_underlying ht, sizeOf, typeInfo, hi, Builtin.lenOf, Builtin.firstCells]
      · simp [Builtin.append_, run_underlying ht, sizeOf, typeInfo, hi, Builtin.lenOf, Builtin.firstCells, hnc, storeCells]
    · have hcells : ∀ j u, (nums .u8 ys)[j]? = some u → w.cell? (ad.add j) = some u := by
        intro j u hu
        have hj : j < ys.length := by
          rcases Nat.lt_or_ge j ys.length with h | h
          · exact h
          · simp [nums, List.getElem?_eq_none h] at hu
        obtain ⟨ad', h', hc⟩ := HR.2.2 (by omega)
        injection h' with h'
        subst h'
        obtain ⟨c', hc1, hc2, hc3⟩ := hc j _ (List.getElem?_eq_getElem hj)
        have hcc : c' = [.int .u8 ys[j]] := hc2
        subst hcc
        have := hc3 0 _ rfl
        simp [nums, List.getElem?_eq_getElem hj] at hu
        subst hu
        have hz : j * (Kd.int IntKind.u8).sz + 0 = j := by show j * 1 + 0 = j; omega
        rwa [hz] at this
      obtain ⟨v1, w1, hr, h2, h3⟩ := run_append_M (P := P) w base t o.type e i0 (.int .u8 0) 1 1 ht hi hz0 hz1 hz2 rfl (by omega) v l.length (nums .u8 l) hown ad m c (nums .u8 ys) (by simp [nums, hm]) hcells
        (by intro u hu; simp only [nums, List.mem_map] at hu; obtain ⟨q, _, rfl⟩ := hu; rfl) (by simp only [maxLen]; omega) (by omega) hbase
      exact ⟨v1, w1, hr, by simpa [nums, hm] using h2, h3⟩
  obtain ⟨v1, w1, hr, hown1, hg⟩ := hrun
  refine wpList_plain hgd fun K hK => ?_
  unfold Oper.wp execOp
  simp only [ho, resolve, invoke, builtin, Sem.run_bind, Sem.run_pure, Result.andThen_ok, List.map_toArray, List.map_cons, List.map_nil, hs, hx, hr]
  exact hK _ _ (h v1 w1 hown1 hg)
end

/-- The world behind '[]byte(s)': a new row of the string's bytes, owned, that may be appended to; what was is as it was. -/
theorem bytes_M (w : World) (e : TypeId) (s : ByteArray) (hs : s.size ≤ 140737488355328) :
    ∃ (W : World) (c : Nat), (∀ (P : Program) (src dst : TypeId) (u : TypeDesc), P.underlying src = some u → P.underlying dst = some (.slice e) → P.underlying e = some (.int .u8) →
      (convert src dst (.string s)).run P w = .ok (.slice (some ⟨w.heap.size, 0, none⟩) s.size c) W) ∧ s.size ≤ c ∧ Below w.heap.size w W ∧ W.heap.size = w.heap.size + 1 ∧
      ownsM W w.heap.size e 1 (.slice (some ⟨w.heap.size, 0, none⟩) (bytesOf s).length c) (bytesOf s).length (nums .u8 (bytesOf s)) := by
  refine ⟨Go.Lib.bytesWorld w e s, grownCap w s.size 0 e, fun P src dst u h1 h2 h3 => Go.Lib.run_convert_string_bytes w src dst e s h1 h2 h3, grownCap_ge w s.size 0 e, ⟨?_, ?_, ?_, ?_, ?_⟩, Go.Lib.bytesWorld_size w e s, ?_⟩
  · unfold Go.Lib.bytesWorld World.freeze
    split <;> rfl
  · unfold Go.Lib.bytesWorld World.freeze
    split <;> rfl
  · unfold Go.Lib.bytesWorld World.freeze
    split <;> rfl
  · rw [Go.Lib.bytesWorld_size]; omega
  · intro i hi
    exact Go.Lib.bytesWorld_at_old w e s i hi
  · have hb := Go.Lib.bytesWorld_at_new w e s
    have hge := grownCap_ge w s.size 0 e
    have hsz : (Go.Lib.bytesCells w e s).size = grownCap w s.size 0 e := by
      unfold Go.Lib.bytesCells
      rw [Array.size_append, Array.size_map, Array.size_replicate]
      have : s.data.size = s.size := rfl
      omega
    rw [bytesOf_length]
    refine ⟨by simp [nums, bytesOf_length], .inr ⟨_, _, _, _, rfl, Nat.le_refl _, hb, free_behind _ _ _ (Nat.le_refl _), hge, grownCap_le_maxLen w s.size 0 e (by simp only [maxLen]; omega), by rw [hsz]; omega, ?_⟩⟩
    unfold Go.Lib.bytesCells
    rw [Array.toList_append, Nat.mul_one]
    have hl : (s.data.map fun b => Value.int .u8 b.toNat).toList = nums .u8 (bytesOf s) := by
      simp [nums, bytesOf]
    rw [hl, List.take_append_of_le_length (by rw [nums_length, bytesOf_length]; exact Nat.le_refl _), List.take_of_length_le (by rw [nums_length, bytesOf_length]; exact Nat.le_refl _)]
/-- Strings that have the same bytes. -/
theorem ba_ext {a b : ByteArray} (h : a.toList = b.toList) : a = b := by
  rw [ByteArray.toList_eq, ByteArray.toList_eq] at h
  cases a; cases b
  simp only at h
  congr 1
  exact Array.toList_inj.1 h
theorem ba_join {a b c : ByteArray} (h : a.toList ++ b.toList = c.toList) : a ++ b = c := by
  apply ba_ext
  rw [← h, ByteArray.toList_eq, ByteArray.toList_eq, ByteArray.toList_eq, ByteArray.data_append, Array.toList_append]
theorem str_size (l : List Int) : (strOfNums l).size = l.length := by simp [strOfNums, ByteArray.size]
theorem str_of (s : ByteArray) : strOfNums (bytesOf s) = s := by
  cases s with
  | mk d => simp [strOfNums, bytesOf, List.map_map, Function.comp_def]
theorem str_data (l : List Int) : (strOfNums l).data.toList = l.map fun n => UInt8.ofNat n.toNat := by simp [strOfNums]
theorem str_append (a b : List Int) : strOfNums a ++ strOfNums b = strOfNums (a ++ b) := by
  apply ba_ext
  rw [ByteArray.toList_eq, ByteArray.toList_eq, ByteArray.data_append, Array.toList_append, str_data, str_data, str_data, List.map_append]
/-- One row of a row of rows of bytes. -/
theorem row_at {w : World} {e : Nat} {A : Option Addr} {n : Nat} {xs : List (List Int)} (h : Kd.C (Kd.slice e (Kd.int .u8)) w A n xs) (i : Nat) (x : List Int) (hx : xs[i]? = some x) :
    ∃ ad A0 c0, A = some ad ∧ w.cell? (ad.add i) = some (.slice A0 x.length c0) ∧ x.length ≤ c0 ∧ Kd.C (Kd.int .u8) w A0 x.length x := by
  have hi := (List.getElem?_eq_some_iff.1 hx).1
  have hn := h.1
  obtain ⟨ad, ha, hc⟩ := h.2.2 (by omega)
  obtain ⟨c, h1, ⟨A0, c0, h2, h3, h4⟩, h5⟩ := hc i x hx
  subst h2
  have := h5 0 _ rfl
  rw [show i * (Kd.slice e (Kd.int IntKind.u8)).sz + 0 = i by show i * 1 + 0 = i; omega] at this
  exact ⟨ad, A0, c0, ha, this, h3, h4⟩
/-- Bytes of the call's own read. -/
theorem own_C {w : World} {base : Nat} {e : TypeId} {A : Option Addr} {c : Nat} {b : List Int} (h : w.ownsRow base e 1 (.slice A b.length c) b.length (nums .u8 b)) : Kd.C (Kd.int .u8) w A b.length b :=
  (Kd.R_reads' (Kd.R_of_own (enc := Value.int .u8) (h1 := fun _ => rfl) (ok := fun _ => True) (by exact h) (fun _ _ => trivial))).2.2
theorem C_reads {w : World} {k : IntKind} {A : Option Addr} {xs : List Int} (h : Kd.C (Kd.int k) w A xs.length xs) : ReadsInt w k A xs.length xs := by
  refine ⟨rfl, h.2.1, fun hn => ?_⟩
  obtain ⟨ad, e, hc⟩ := h.2.2 hn
  refine ⟨ad, e, fun j hj => ?_⟩
  obtain ⟨c, h1, h2, h3⟩ := hc j _ (List.getElem?_eq_getElem hj)
  have hcc : c = [.int k xs[j]] := h2
  subst hcc
  have := h3 0 _ rfl
  rw [show j * (Kd.int k).sz + 0 = j by show j * 1 + 0 = j; omega] at this
  rw [this, List.getD_eq_getElem?_getD, List.getElem?_eq_getElem hj]
  rfl
theorem own_slice_le {w : World} {base n : Nat} {e : TypeId} {size : Nat} {v : Value} {xs : List Value} (h : w.ownsRow base e size v n xs) : ∃ A c, v = .slice A n c ∧ n ≤ c := by
  rcases h.2 with ⟨rfl, rfl⟩ | ⟨g, cap, cur, rfl, _, _, hc, _⟩
  · exact ⟨none, 0, rfl, Nat.le_refl _⟩
  · exact ⟨_, cap, rfl, hc⟩
theorem strCells_eq (s : ByteArray) : Go.Lib.strCells s = nums .u8 (bytesOf s) := by simp [Go.Lib.strCells, nums, bytesOf]
end Go.Proofs.YtklliflmdckadaaDoorW.HandM
