/-
  An entry struck out and matched (slices.Delete, pending.Match) walked. No macro, syntax, notation, axiom, sorry.
-/
import Derived.Test.YtecpginkacaebaaDoorEntH
namespace Go.Proofs.YtecpginkacaebaaDoor.Ent
open Go.RowKit Go.Proofs.YtecpginkacaebaaDoorW Go.Proofs.YtecpginkacaebaaDoorW.PrintWords Go.Proofs.YtecpginkacaebaaDoorW.PrintLast Go.Proofs.YtecpginkacaebaaDoorW.PrintMore Go.Proofs.YtecpginkacaebaaDoor.Base Go.Proofs.YtecpginkacaebaaDoor.Heap Go.Proofs.YtecpginkacaebaaDoor.Trn
set_option linter.unusedVariables false
set_option linter.unusedSimpArgs false
set_option maxRecDepth 100000

theorem zcells_ (n : Nat) (W : World) : (zeroValue 42).run Tryd.prog W = .ok (.agg (cs zE).toArray) W := by kernel_rfl
theorem rc_ {o : Oper} {a : Act} {W W1 : World} {s x : Operand} {t : TypeId} {v u v1 : Value} (ho : o.op = .call { callee := .builtin .append, args := #[s, x], argTypes := #[t, t] }) (hs : a.eval s = v) (hx : a.eval x = u) (hr : (Builtin.append_ #[t, t] o.type #[v, u]).run Tryd.prog W = .ok v1 W1) :
    (execOp a.eval o).run Tryd.prog W = .ok (.value v1) W1 := by
  unfold execOp
  simp only [ho, resolve, invoke, builtin, Sem.run_bind, Sem.run_pure, Result.andThen_ok, List.map_toArray, List.map_cons, List.map_nil, hs, hx, hr]
/-- The cell behind the last one is cleared. -/
theorem clear_ {W : World} {base g c : Nat} {es : List E} (h : Own W base (.slice (some ⟨g, 0, none⟩) es.length c) es) (hm : es.length < c) (ty : TypeId) :
    ∃ w', (Builtin.clear_ #[25] ty #[.slice (some ⟨g, es.length * 19, none⟩) 1 (c - es.length)]).run Tryd.prog W = .ok (.tuple #[]) w' ∧ Own w' base (.slice (some ⟨g, 0, none⟩) es.length c) es ∧ W.grownBy w' (some g) := by
  rcases h.2 with ⟨hv, _⟩ | ⟨g', cap, cur, hv, hb, hg, hc, hcm, hs, ht⟩
  · cases hv
  · injection hv with hv1 _ hv3
    injection hv1 with hv1
    injection hv1 with hv1
    subst hv1
    subst hv3
    have hle : (es.length + 1) * 19 ≤ cur.size := by rw [hs]; exact Nat.mul_le_mul_right _ hm
    have hst := HandM.storeCells_M Tryd.prog g (es.length * 19) 42 (0, 0) (cs zE) 0 cur W hg (fun j _ hh => by omega) (by rw [cs_len]; omega) (cs_one zE)
    simp only [Nat.add_zero, cs_len] at hst
    refine ⟨W.setRow g (cur.toList.take (es.length * 19) ++ cs zE ++ cur.toList.drop (es.length * 19 + 19)).toArray, ?_, ⟨h.1, .inr ⟨g, c, _, rfl, hb, setRow_heap W g cur _ 42 _ hg, hc, hcm, ?_, ?_⟩⟩, ⟨rfl, rfl, rfl, by simp, fun k _ hk => setRow_other W g k _ (fun e => hk (by simp [e]))⟩⟩
    · have hz : (Builtin.zeroCells (cs zE).toArray 1).toList = cs zE := by kernel_rfl
      simp [Builtin.clear_, run_underlying Tryd.underlying25, zcells_ 0, Value.cells, Result.andThen]
      rw [hz, hst]
      simp [List.append_assoc]
    · simp only [List.size_toArray, List.length_append, List.length_take, List.length_drop, Array.length_toList, cs_len]
      omega
    · rw [List.append_assoc, List.take_append_of_le_length (by simp only [List.length_take, Array.length_toList]; omega), List.take_take, Nat.min_self]
      exact ht
def delete_T5 : Bool × List (List Nat × List Nat) := (true, [([], []), ([], []), ([0, 1], [0, 1]), ([], []), ([], []), ([3, 4], [3, 4]), ([2, 5], [2, 5]), ([6, 6, 0, 1, 2, 3, 4, 5, 6], [0, 3, 6])])
def delete_B5 : List Nat := [0, 0, 3, 0, 0, 24, 63, 127]
theorem delete_tab5 : rtab .any (opsOf Tryd.f21 5) = delete_T5 := by kernel_rfl
theorem delete_bits5 : waitsOk delete_T5.2 delete_B5 = true := by kernel_rfl
set_option maxHeartbeats 4000000 in
theorem delete_ (g c i : Nat) (es : List E) (w : World) (base : Nat) (h : Own w base (.slice (some ⟨g, 0, none⟩) es.length c) es) (hi : i < es.length) (hl : es.length ≤ 1048576) (hbw : base ≤ w.heap.size) :
    Calls Tryd.prog 21 #[.slice (some ⟨g, 0, none⟩) es.length c, .int .i64 i, .int .i64 ((i : Int) + 1)] w fun x w' => x = .returned (.slice (some ⟨g, 0, none⟩) (es.eraseIdx i).length c) ∧ Own w' base (.slice (some ⟨g, 0, none⟩) (es.eraseIdx i).length c) (es.eraseIdx i) ∧ w.grownBy w' (some g) := by
  have hlc : es.length ≤ c := own_cap h
  obtain ⟨n, hn⟩ : ∃ n, es.length = n := ⟨_, rfl⟩
  rw [hn] at hi hl hlc
  obtain ⟨m, hm⟩ : ∃ m, n = i + 1 + m := ⟨n - (i + 1), by omega⟩
  have herl : (es.eraseIdx i).length = i + m := by rw [List.length_eraseIdx]; split <;> omega
  have her : es.eraseIdx i = es.take i ++ es.drop (i + 1) := List.eraseIdx_eq_take_drop_succ es i
  obtain ⟨i0, hi0, hz0, hz1, hz2⟩ := info_parts info_
  have hel : Tryd.prog.elem 25 = 42 := by simp [Program.elem, Tryd.underlying25]
  have hu : Tryd.prog.underlying 25 = some (.slice (Tryd.prog.elem 25)) := by rw [hel]; exact Tryd.underlying25
  have hsz : ∀ W : World, (sizeOf 42).run Tryd.prog W = .ok 19 W := fun W => by simp [sizeOf, typeInfo, hi0, hz1]
  have hsA : ∀ W : World, (Instr.slice 25 (.slice (some ⟨g, 0, none⟩) n c) (some (.int .i64 (i : Int))) (some (.int .i64 ((i : Int) + 1))) (some (.int .i64 (n : Int)))).run Tryd.prog W = .ok (sliced (some ⟨g, 0, none⟩) i (i + 1) n 19) W := by
    intro W
    rw [run_slice_lhm W _ _ n c hu .i64 .i64 .i64 (i : Int) ((i : Int) + 1) (n : Int) (by omega) (by omega) (by omega) (by omega), hel]
    have e1 : ((i : Int) + 1).toNat = i + 1 := by omega
    simp only [hsz, Result.andThen, Int.toNat_natCast, e1]
  have hsB : ∀ W : World, (Instr.slice 25 (.slice (some ⟨g, 0, none⟩) n c) none (some (.int .i64 (i : Int))) none).run Tryd.prog W = .ok (.slice (some ⟨g, 0, none⟩) i c) W := by
    intro W
    rw [run_slice_h W _ _ n c hu .i64 (i : Int) (by omega) (by omega), hel]
    simp only [hsz, Result.andThen, sliced, Int.toNat_natCast, Nat.zero_mul, Option.map_some, Addr.add_lit, Nat.zero_add, Nat.sub_zero]
    congr 2
    split <;> rfl
  obtain ⟨a0, ha0⟩ : ∃ a0, (if c = i + 1 then (⟨g, 0, none⟩ : Addr) else ⟨g, (i + 1) * 19, none⟩) = a0 := ⟨_, rfl⟩
  have hsC : ∀ W : World, (Instr.slice 25 (.slice (some ⟨g, 0, none⟩) n c) (some (.int .i64 ((i : Int) + 1))) none none).run Tryd.prog W = .ok (.slice (some a0) m (c - (i + 1))) W := by
    intro W
    rw [← ha0]
    rw [run_slice_l W _ _ n c hu .i64 ((i : Int) + 1) (by omega) (by omega), hel]
    have e1 : ((i : Int) + 1).toNat = i + 1 := by omega
    simp only [hsz, Result.andThen, sliced, e1, Addr.add_lit, Nat.zero_add, Option.map_some]
    rw [show n - (i + 1) = m by omega]
    congr 2
    split <;> rfl
  have hsD : ∀ W : World, (Instr.slice 25 (.slice (some ⟨g, 0, none⟩) (i + m) c) (some (.int .i64 ((i : Int) + (m : Int)))) (some (.int .i64 (n : Int))) none).run Tryd.prog W = .ok (.slice (some ⟨g, (i + m) * 19, none⟩) 1 (c - (i + m))) W := by
    intro W
    rw [run_slice_lh W _ _ (i + m) c hu .i64 .i64 ((i : Int) + (m : Int)) (n : Int) (by omega) (by omega) (by omega), hel]
    have e1 : ((i : Int) + (m : Int)).toNat = i + m := by omega
    have e2 : n - (i + m) = 1 := by omega
    have e3 : c ≠ i + m := by omega
    simp only [hsz, Result.andThen, sliced, Int.toNat_natCast, e1, e2, if_neg e3, Option.map_some, Addr.add_lit, Nat.zero_add]
  have hq : ((i : Int) == (i : Int) + 1) = false := by simp; omega
  have f1 : i ≤ c := by omega
  have f2 : (0 : Int) ≤ (i : Int) + 1 := by omega
  have f3 : (i : Int) + 1 ≤ (n : Int) := by omega
  have f4 : i + 1 ≤ n := by omega
  have f5 : (i : Int) ≤ (i : Int) + 1 := by omega
  have f6 : n ≤ c := hlc
  have f7 : i ≤ n := by omega
  have f8 : ((i : Int) + 1).toNat = i + 1 := by omega
  have f9 : n - (i + 1) = m := by omega
  have f10 : i ≤ i + 1 := by omega
  have f11 : (0 : Int) ≤ (i : Int) + 1 ∧ (i : Int) + 1 ≤ (n : Int) := ⟨f2, f3⟩
  have HEN := Lib.hid hn
  have HTK : Hid (Own w base (.slice (some ⟨g, 0, none⟩) (es.take i).length c) (es.take i)) := by
    have := own_take (m := i) h (by omega)
    refine Lib.hid ?_
    unfold Own
    rw [show (es.take i).length = i by rw [List.length_take]; omega, ← rw_take]
    exact this
  have hC := h.reads
  have HNW : Hid (∀ j u, (rw_ (es.drop (i + 1)))[j]? = some u → w.cell? (a0.add j) = some u) := by
    refine Lib.hid fun j u hj => ?_
    rw [← ha0]
    have hjl : j < (rw_ (es.drop (i + 1))).length := (List.getElem?_eq_some_iff.1 hj).1
    rw [rw_len, List.length_drop] at hjl
    rw [if_neg (by omega), Addr.add_lit]
    rw [← rw_drop, List.getElem?_drop] at hj
    have hb : w.cell? ⟨g, (i + 1) * 19 + j, none⟩ = (rw_ es)[(i + 1) * 19 + j]? := h.cellAt ((i + 1) * 19 + j) (by omega)
    rw [hb, hj]
  have HER := Lib.hid her
  have HEL := Lib.hid herl
  have HM := Lib.hid hm
  have HLC := Lib.hid hlc
  have hle : es.length ≤ 1048576 := by omega
  have HLE := Lib.hid hle
  rw [hn]
  have HI0 := Lib.hid hi0
  have HZ1 := Lib.hid hz1
  clear ha0 h hC hi hlc hl hm herl her hn hel hu hsz hi0 hz0 hz1 hz2 hle
  go_enter Tryd.func21, Tryd.ntmps21
  go_wp2_with fail
  refine start_ (n := 8) (ds := ([] : List Nat)) (S := fun _ => True) #[false, false, false, false, false, false, false, false] (by kernel_rfl) rfl rfl trivial (fun hHeld => ?_)
  refine with_tabW delete_tab5 delete_bits5 (fun HT_ HW_ => ?_)
  refine pure_ (i := 0) (N := (some 20)) (v := ?_) (a' := ?_) #[true, false, false, false, false, false, false, false] rfl rfl (any_of HT_.out (by kernel_rfl)) (fun _ _ _ h => h) (Or.inl ⟨by rfl, ?_⟩) ?_ ?_
  rotate_left
  · intro w'
    go_simp
    with_reducible rfl
  rotate_left
  · simp only [Act.put, List.setIfInBounds_toArray, List.set_cons_zero, List.set_cons_succ, i64_w, i32_w]
    rfl
  refine pure_ (i := 1) (N := (some 21)) (v := ?_) (a' := ?_) #[true, true, false, false, false, false, false, false] rfl rfl (any_of HT_.out (by kernel_rfl)) (fun _ _ _ h => h) (Or.inl ⟨by rfl, ?_⟩) ?_ ?_
  rotate_left
  · intro w'
    go_simp
    with_reducible rfl
  rotate_left
  · simp only [Act.put, List.setIfInBounds_toArray, List.set_cons_zero, List.set_cons_succ, i64_w, i32_w]
    rfl
  refine pure_ (i := 2) (N := (some 22)) (v := ?_) (a' := ?_) #[true, true, true, false, false, false, false, false] rfl rfl (any_of HT_.out (by kernel_rfl)) (fun _ _ _ h => h) (Or.inl ⟨by rfl, ?_⟩) ?_ ?_
  rotate_left
  · intro w'
    go_simp
    with_reducible rfl
  rotate_left
  · simp only [Act.put, List.setIfInBounds_toArray, List.set_cons_zero, List.set_cons_succ, i64_w, i32_w]
    rfl
  refine pure_ (i := 3) (N := (some 23)) (v := ?_) (a' := ?_) #[true, true, true, true, false, false, false, false] rfl rfl (any_of HT_.out (by kernel_rfl)) (fun _ _ _ h => h) (Or.inl ⟨by rfl, ?_⟩) ?_ ?_
  rotate_left
  · intro w'
    go_simp
    with_reducible rfl
  rotate_left
  · simp only [Act.put, List.setIfInBounds_toArray, List.set_cons_zero, List.set_cons_succ, i64_w, i32_w]
    rfl
  refine pure_ (i := 4) (N := (some 24)) (v := ?_) (a' := ?_) #[true, true, true, true, true, false, false, false] rfl rfl (any_of HT_.out (by kernel_rfl)) (fun _ _ _ h => h) (Or.inl ⟨by rfl, ?_⟩) ?_ ?_
  rotate_left
  · intro w'
    go_simp
    with_reducible rfl
  rotate_left
  · simp only [Act.put, List.setIfInBounds_toArray, List.set_cons_zero, List.set_cons_succ, i64_w, i32_w]
    rfl
  refine pure_ (i := 5) (N := (some 25)) (v := ?_) (a' := ?_) #[true, true, true, true, true, true, false, false] rfl rfl (any_of HT_.out (by kernel_rfl)) (fun _ _ _ h => h) (Or.inl ⟨by rfl, ?_⟩) ?_ ?_
  rotate_left
  · intro w'
    go_simp
    with_reducible rfl
  rotate_left
  · simp only [Act.put, List.setIfInBounds_toArray, List.set_cons_zero, List.set_cons_succ, i64_w, i32_w]
    rfl
  refine one_ (i := 6) (N := (some 26)) #[true, true, true, true, true, true, true, false] rfl rfl (one_of HT_.out (by kernel_rfl)) (by decide) (fun K hK => ?_)
  rw [if_pos (by rfl)]
  obtain ⟨w5, hr5, ho5, hg5⟩ := run_append_fits (P := Tryd.prog) w.drew base 25 25 42 _ 19 Tryd.underlying25 HI0.out HZ1.out g (es.take i).length c (rw_ (es.take i)) HTK.out a0 m (c - (i + 1)) (rw_ (es.drop (i + 1))) (by rw [rw_len, List.length_drop, HEN.out]; have := HM.out; omega) HNW.out (fun u hu => by obtain ⟨y, hy, hu⟩ := List.mem_flatMap.1 hu; exact cs_one y u hu) (by rw [List.length_take]; have := HM.out; have := HLC.out; omega)
  have htl : (es.take i).length = i := by rw [List.length_take, HEN.out]; have := HM.out; omega
  rw [htl] at hr5
  have HO5 : Hid (Own w5 base (.slice (some ⟨g, 0, none⟩) (es.eraseIdx i).length c) (es.eraseIdx i)) := Lib.hid (by unfold Own; rw [HEL.out, HER.out, rw_app]; rw [htl] at ho5; exact ho5)
  have HG5 := Lib.hid hg5
  refine wp_val (rc_ rfl rfl rfl hr5) ?_
  clear hr5 ho5 hg5 htl
  refine hK.out _ _ trivial (fun hHeld => ?_)
  clear hK K
  refine norm_ (a' := ?_) ?_ ?_
  rotate_left
  · show Act.put _ (some 26) _ = _
    simp only [Act.put, List.setIfInBounds_toArray, List.set_cons_zero, List.set_cons_succ, i64_w, i32_w]
    rfl
  refine pure_ (i := 7) (N := (some 0)) (v := ?_) (a' := ?_) #[true, true, true, true, true, true, true, true] rfl rfl (any_of HT_.out (by kernel_rfl)) (fun _ _ _ h => h) (Or.inl ⟨by rfl, ?_⟩) ?_ ?_
  rotate_left
  · intro w'
    go_simp
    with_reducible rfl
  rotate_left
  · simp only [Act.put, List.setIfInBounds_toArray, List.set_cons_zero, List.set_cons_succ, i64_w, i32_w]
    rfl
  refine done_ (done_of HT_.out (by kernel_rfl)) ?_
  have HC5 := clear_ HO5.out (by rw [HEL.out]; have := HM.out; have := HLC.out; omega)
  rw [HEL.out] at HC5
  obtain ⟨w6, hcl, ho6, hg6⟩ := HC5 24
  have hcl2 : ∀ ty, (Builtin.clear_ #[25] ty #[.slice (some ⟨g, (i + m) * 19, none⟩) 1 (c - (i + m))]).run Tryd.prog w5 = .ok (.tuple #[]) w6 := fun ty => hcl
  have HO6 := Lib.hid ho6
  have HG6 := Lib.hid hg6
  have m1 := HM.out
  have m2 := HLC.out
  have f12 : ¬ c = i + m := by omega
  have f13 : n - (i + m) = 1 := by omega
  have f14 : i + m ≤ n := by omega
  have f15 : (0 : Int) ≤ (i : Int) + (m : Int) := by omega
  have f16 : (i : Int) + (m : Int) ≤ (n : Int) := by omega
  have f17 : ((i : Int) + (m : Int)).toNat = i + m := by omega
  have f18 : (n : Int) ≤ (c : Int) := by omega
  clear hcl ho6 hg6 HC5 m1 m2 f1 f2 f3 f4 f5 f7 f8 f9 f10 f11 hq hsA hsB hsC hHeld
  go_wp2_with fail
  go_ret
  refine ⟨by rw [HEL.out]; rfl, by rw [HEL.out]; exact HO6.out, (World.grownBy.trans (show w.grownBy w5 (some g) from ⟨HG5.out.os, HG5.out.tape, HG5.out.output, HG5.out.size, HG5.out.block⟩) HG6.out)⟩
def match_T5 : Bool × List (List Nat × List Nat) := (true, [([], []), ([], []), ([1], [1]), ([], []), ([], []), ([4], [4]), ([2, 3, 5, 2], [2, 3, 5]), ([0, 6, 0], [0]), ([6, 7, 0, 1, 2, 3, 4, 5, 6, 7], [6]), ([8, 0, 1, 2, 3, 4, 5, 6, 7, 8], [])])
def match_B5 : List Nat := [0, 0, 2, 0, 0, 16, 62, 127, 255, 511]
theorem match_tab5 : rtab .any (opsOf Tryd.f11 5) = match_T5 := by kernel_rfl
theorem match_bits5 : waitsOk match_T5.2 match_B5 = true := by kernel_rfl

/-- Which entry is looked for. -/
def hit (id : Int) (qn : ByteArray) (qt : Int) (e : E) : Bool := decide (e.id = id) && (decide (e.nm = qn) && decide (e.ty = qt))
attribute [local go_sem high] PQ.eqA37
set_option maxHeartbeats 4000000 in
theorem match_ (A : Option Addr) (c : Nat) (es : List E) (id : Int) (qn : ByteArray) (qt : Int) (w : World) (hC : Kd.C kE w A es.length es) (hN : A = none → es.length = 0 ∧ c = 0) (hl : es.length ≤ 1048576) :
    Calls Tryd.prog 11 #[.slice A es.length c, .int .u16 id, .agg #[.string qn, .int .u16 qt]] w fun x w' => Below w.heap.size w w' ∧
      ((∃ (k : Nat) (e : E) (v : Value), es[k]? = some e ∧ hit id qn qt e = true ∧ (∀ (j : Nat) (y : E), j < k → es[j]? = some y → hit id qn qt y = false) ∧ x = .returned (.tuple #[(.agg #[.int .u16 e.id, .int .u16 0, .bool false, .int .i64 0, .bool false, .bool false, .bool false, .bool false, .int .i64 0, .string e.nm, .int .u16 e.ty, .slice none 0 0, .slice none 0 0, .slice none 0 0, .int .i64 0, .string e.cl, .int .i64 e.po, .bool false, .int .i64 e.un]), v, .bool true]) ∧ Own w' w.heap.size v (es.eraseIdx k)) ∨
       ((∀ (j : Nat) (y : E), es[j]? = some y → hit id qn qt y = false) ∧ x = .returned (.tuple #[(.agg #[.int .u16 zE.id, .int .u16 0, .bool false, .int .i64 0, .bool false, .bool false, .bool false, .bool false, .int .i64 0, .string zE.nm, .int .u16 zE.ty, .slice none 0 0, .slice none 0 0, .slice none 0 0, .int .i64 0, .string zE.cl, .int .i64 zE.po, .bool false, .int .i64 zE.un]), .slice none 0 0, .bool false]))) := by
  have HC := Lib.hid hC
  have HN := Lib.hid hN
  have HL := Lib.hid hl
  have hbx := blk_new w (.cells #[.string qn, .int .u16 qt] 37)
  have hbb := below_alloc (Below.refl w.heap.size w) (.cells #[.string qn, .int .u16 qt] 37)
  obtain ⟨b, hb⟩ : ∃ b, w.heap.size = b := ⟨_, rfl⟩
  have HBX := Lib.hid hbx
  have HBB := Lib.hid hbb
  clear hC hN hbx hbb
  go_enter Tryd.func11, Tryd.ntmps11
  go_wp2_with ((with_reducible refine gate_al (t := 42) rfl ?_); refine ev_new rfl rfl ?_; intro g w1 hg hV hbg hs; have HB1 := Lib.hid (HBB.out.trans (hbg.mono (by simp))); have HX1 := Lib.hid (blk_below HBX.out hbg); have HV1 := Lib.hid hV; have HG := Lib.hid (show w.heap.size ≤ g by rw [hg]; simp); clear hg hV hbg hs)
  (try rw [hb])
  rw [hb] at HX1
  have HBE := Lib.hid hb
  clear hb HBX HBB
  go_loopw [13] (fun i wr => ∃ k : Nat, k ≤ es.length ∧ i = .int .i64 k ∧ Aside0 (∀ (j : Nat) (y : E), j < k → es[j]? = some y → hit id qn qt y = false) ∧ Aside0 (wr.heap[b]? = some (.cells #[.string qn, .int .u16 qt] 37 (0, 0))) ∧ Aside0 (Var wr g zE) ∧ Aside0 (Below w.heap.size w wr))
    (fun i _ => es.length - (intOf i).toNat)
  case atStart => exact ⟨0, Nat.zero_le _, rfl, ⟨fun j y hj => absurd hj (Nat.not_lt_zero j)⟩, ⟨HX1.out⟩, ⟨HV1.out⟩, ⟨HB1.out⟩⟩
  case round =>
    obtain ⟨k, hk, rfl, HNO, HX, HV, HB⟩ := hrel
    by_cases hlt : k < es.length
    · obtain ⟨e, he⟩ : ∃ e, es[k]? = some e := ⟨_, List.getElem?_eq_getElem hlt⟩
      obtain ⟨ad, ha, -⟩ := load_ (Kd.C_below HC.out HB.out) k e he
      subst ha
      have HLD := Lib.hid (load_at (Kd.C_below HC.out HB.out) k e he)
      have HE := Lib.hid he
      clear he
      have HLT := Lib.hid hlt
      have HKK := Lib.hid hk
      cases hh : hit id qn qt e with
      | false =>
        have hno : ∀ (j : Nat) (y : E), j < k + 1 → es[j]? = some y → hit id qn qt y = false := by
          intro j y hj hy
          by_cases h : j = k
          · subst h
            rw [HE.out] at hy
            injection hy with hy
            rw [← hy]
            exact hh
          · exact HNO.out j y (by omega) hy
        have HNO2 := Lib.hid hno
        clear hno
        by_cases hid : e.id = id
        · have d1 : (e.id == id) = true := by simp [hid]
          have d2 : (e.nm.toList == qn.toList && (e.ty == qt)) = false := by
            unfold hit at hh
            rw [decide_eq_true hid, Bool.true_and] at hh
            cases h1 : (e.ty == qt) with
            | false => simp
            | true =>
              have h2 : e.ty = qt := by simpa using h1
              rw [decide_eq_true h2, Bool.and_true] at hh
              have h3 := of_decide_eq_false hh
              have h4 : (e.nm.toList == qn.toList) = false := by
                rw [beq_eq_false_iff_ne]
                intro h
                apply h3
                rw [ByteArray.toList_eq, ByteArray.toList_eq] at h
                exact ByteArray.ext (Array.toList_inj.1 h)
              rw [h4, Bool.false_and]
          clear hid hh
          go_wp2_with (first
            | ((with_reducible refine gate_dst (N := 17) rfl ?_); refine ev_load (t := 42) rfl rfl rfl HLD.out ?_)
            | ((with_reducible refine gate_al (t := 42) rfl ?_); refine ev_new rfl rfl ?_; intro g4 w4 hg hV4 hb4 hs4; have HG4 := Lib.hid (show b < g4 ∧ g < g4 by rw [hg]; exact ⟨blk_lt HX.out, HV.out.lt⟩); have HX4 := Lib.hid (blk_below HX.out hb4); have HZ4 := Lib.hid (HV.out.below hb4); have HB4 := Lib.hid (HB.out.trans (hb4.mono HB.out.size)); have HV4 := Lib.hid hV4; have HW4 := Lib.hid (show w.heap.size ≤ g4 by rw [hg]; exact HB.out.size); clear hg hV4 hb4 hs4)
            | ((with_reducible refine gate_st (t := 42) rfl ?_); obtain ⟨w5, hrun5, hV5, hg5⟩ := Var.store HV4.out e; refine ev_store rfl rfl rfl rfl rfl hrun5 ?_; have HV5 := Lib.hid hV5; have HX5 : Hid (w5.heap[b]? = some (.cells #[.string qn, .int .u16 qt] 37 (0, 0))) := Lib.hid ((hg5.block b (blk_lt HX4.out) (fun e => by injection e with e; have := HG4.out; omega)).trans HX4.out); have HZ5 : Hid (Var w5 g zE) := Lib.hid ((hg5.block g HZ4.out.lt (fun e => by injection e with e; have := HG4.out; omega)).trans HZ4.out); have HB5 := Lib.hid (HB4.out.grown hg5 HB4.out.size (fun k hk => by injection hk with hk; rw [← hk]; exact HW4.out)); have hc0 := (blk_ e hV5).1; obtain ⟨hc9, hc10⟩ := hV5.c9; obtain ⟨hq0, hq1⟩ := cells2 HX5.out; clear hrun5 hV5 hg5))
          go_roundw
          case rel => exact ⟨k + 1, by omega, by go_num, ⟨HNO2.out⟩, ⟨HX5.out⟩, ⟨HZ5.out⟩, ⟨HB5.out⟩⟩
          case measure => simp [intOf]; omega
        · have d1 : (e.id == id) = false := by simp [hid]
          clear hid hh
          go_wp2_with (first
            | ((with_reducible refine gate_dst (N := 17) rfl ?_); refine ev_load (t := 42) rfl rfl rfl HLD.out ?_)
            | ((with_reducible refine gate_al (t := 42) rfl ?_); refine ev_new rfl rfl ?_; intro g4 w4 hg hV4 hb4 hs4; have HG4 := Lib.hid (show b < g4 ∧ g < g4 by rw [hg]; exact ⟨blk_lt HX.out, HV.out.lt⟩); have HX4 := Lib.hid (blk_below HX.out hb4); have HZ4 := Lib.hid (HV.out.below hb4); have HB4 := Lib.hid (HB.out.trans (hb4.mono HB.out.size)); have HV4 := Lib.hid hV4; have HW4 := Lib.hid (show w.heap.size ≤ g4 by rw [hg]; exact HB.out.size); clear hg hV4 hb4 hs4)
            | ((with_reducible refine gate_st (t := 42) rfl ?_); obtain ⟨w5, hrun5, hV5, hg5⟩ := Var.store HV4.out e; refine ev_store rfl rfl rfl rfl rfl hrun5 ?_; have HV5 := Lib.hid hV5; have HX5 : Hid (w5.heap[b]? = some (.cells #[.string qn, .int .u16 qt] 37 (0, 0))) := Lib.hid ((hg5.block b (blk_lt HX4.out) (fun e => by injection e with e; have := HG4.out; omega)).trans HX4.out); have HZ5 : Hid (Var w5 g zE) := Lib.hid ((hg5.block g HZ4.out.lt (fun e => by injection e with e; have := HG4.out; omega)).trans HZ4.out); have HB5 := Lib.hid (HB4.out.grown hg5 HB4.out.size (fun k hk => by injection hk with hk; rw [← hk]; exact HW4.out)); have hc0 := (blk_ e hV5).1; obtain ⟨hc9, hc10⟩ := hV5.c9; obtain ⟨hq0, hq1⟩ := cells2 HX5.out; clear hrun5 hV5 hg5))
          go_roundw
          case rel => exact ⟨k + 1, by omega, by go_num, ⟨HNO2.out⟩, ⟨HX5.out⟩, ⟨HZ5.out⟩, ⟨HB5.out⟩⟩
          case measure => simp [intOf]; omega
      | true =>
        have HHH := Lib.hid hh
        have h3 : e.id = id ∧ e.nm = qn ∧ e.ty = qt := by simpa [hit] using hh
        have d1 : (e.id == id) = true := by simp [h3.1]
        have d2 : (e.nm.toList == qn.toList && (e.ty == qt)) = true := by rw [h3.2.1, h3.2.2]; simp
        clear hh h3
        have hwk : wrap64 ((k : Int) + 1) = (k : Int) + 1 := w64 (by omega) (by omega)
        have hwk2 : IntKind.i64.wrap ((k : Int) + 1) = (k : Int) + 1 := IntWalk.i64_in _ (by omega)
        go_wp2_with (first
          | ((with_reducible refine gate_dst (N := 17) rfl ?_); refine ev_load (t := 42) rfl rfl rfl HLD.out ?_)
          | ((with_reducible refine gate_al (t := 42) rfl ?_); refine ev_new rfl rfl ?_; intro g4 w4 hg hV4 hb4 hs4; have HG4 := Lib.hid (show b < g4 ∧ g < g4 by rw [hg]; exact ⟨blk_lt HX.out, HV.out.lt⟩); have HX4 := Lib.hid (blk_below HX.out hb4); have HZ4 := Lib.hid (HV.out.below hb4); have HB4 := Lib.hid (HB.out.trans (hb4.mono HB.out.size)); have HV4 := Lib.hid hV4; have HW4 := Lib.hid (show w.heap.size ≤ g4 by rw [hg]; exact HB.out.size); clear hg hV4 hb4 hs4)
          | ((with_reducible refine gate_st (t := 42) rfl ?_); obtain ⟨w5, hrun5, hV5, hg5⟩ := Var.store HV4.out e; refine ev_store rfl rfl rfl rfl rfl hrun5 ?_; have HV5 := Lib.hid hV5; have HX5 : Hid (w5.heap[b]? = some (.cells #[.string qn, .int .u16 qt] 37 (0, 0))) := Lib.hid ((hg5.block b (blk_lt HX4.out) (fun e => by injection e with e; have := HG4.out; omega)).trans HX4.out); have HZ5 : Hid (Var w5 g zE) := Lib.hid ((hg5.block g HZ4.out.lt (fun e => by injection e with e; have := HG4.out; omega)).trans HZ4.out); have HB5 := Lib.hid (HB4.out.grown hg5 HB4.out.size (fun k hk => by injection hk with hk; rw [← hk]; exact HW4.out)); have hc0 := (blk_ e hV5).1; obtain ⟨hc9, hc10⟩ := hV5.c9; obtain ⟨hq0, hq1⟩ := cells2 HX5.out; clear hrun5 hV5 hg5))
        clear hc0 hc9 hc10 hq0 hq1 d1 d2
        refine start_ (n := 10) (ds := [7]) (S := fun w' => Var w' g4 e ∧ Var w' g zE ∧ Kd.C kE w' (some ad) es.length es ∧ Below w.heap.size w w') #[false, false, false, false, false, false, false, false, false, false] (by kernel_rfl) rfl rfl ⟨HV5.out, HZ5.out, Kd.C_below HC.out (below_drew1 HB5.out), below_drew1 HB5.out⟩ (fun hHeld => ?_)
        refine with_tabW match_tab5 match_bits5 (fun HT_ HW_ => ?_)
        generalize w5.drew = w6 at hHeld ⊢
        refine pure_ (i := 1) (N := (some 30)) (v := ?_) (a' := ?_) #[false, true, false, false, false, false, false, false, false, false] rfl rfl (any_of HT_.out (by kernel_rfl)) (fun _ _ _ h => h) (Or.inl ⟨by rfl, ?_⟩) ?_ ?_
        rotate_left
        · intro w'
          go_simp
          with_reducible rfl
        rotate_left
        · simp only [Act.put, List.setIfInBounds_toArray, List.set_cons_zero, List.set_cons_succ, i64_w, i32_w]
          rfl
        refine pure_ (i := 3) (N := (some 32)) (v := ?_) (a' := ?_) #[false, true, false, true, false, false, false, false, false, false] rfl rfl (any_of HT_.out (by kernel_rfl)) (fun _ _ _ h => h) (Or.inl ⟨by rfl, ?_⟩) ?_ ?_
        rotate_left
        · intro w'
          go_simp
          with_reducible rfl
        rotate_left
        · simp only [Act.put, List.setIfInBounds_toArray, List.set_cons_zero, List.set_cons_succ, i64_w, i32_w]
          rfl
        refine pure_ (i := 4) (N := (some 33)) (v := ?_) (a' := ?_) #[false, true, false, true, true, false, false, false, false, false] rfl rfl (any_of HT_.out (by kernel_rfl)) (fun _ _ _ h => h) (Or.inl ⟨by rfl, ?_⟩) ?_ ?_
        rotate_left
        · intro w'
          go_simp
          with_reducible rfl
        rotate_left
        · simp only [Act.put, List.setIfInBounds_toArray, List.set_cons_zero, List.set_cons_succ, i64_w, i32_w]
          rfl
        refine pure_ (i := 5) (N := (some 34)) (v := ?_) (a' := ?_) #[false, true, false, true, true, true, false, false, false, false] rfl rfl (any_of HT_.out (by kernel_rfl)) (fun _ _ _ h => h) (Or.inl ⟨by rfl, ?_⟩) ?_ ?_
        rotate_left
        · intro w'
          go_simp
          with_reducible rfl
        rotate_left
        · simp only [Act.put, List.setIfInBounds_toArray, List.set_cons_zero, List.set_cons_succ, i64_w, i32_w]
          rfl
        refine take_ (i := 0) (N := (some 29)) (v := (.agg #[.int .u16 e.id, .int .u16 0, .bool false, .int .i64 0, .bool false, .bool false, .bool false, .bool false, .int .i64 0, .string e.nm, .int .u16 e.ty, .slice none 0 0, .slice none 0 0, .slice none 0 0, .int .i64 0, .string e.cl, .int .i64 e.po, .bool false, .int .i64 e.un])) (a' := ?_) #[true, true, false, true, true, true, false, false, false, false] rfl rfl (take_ofW HT_.out HW_.out (by kernel_rfl)) (fun _ _ _ h => h) (Or.inl ⟨by rfl, ?_⟩) hHeld ?_ ?_
        · intro w' hS
          exact run_ld (t := 42) rfl rfl hS.1.load
        rotate_left
        · simp only [Act.put, List.setIfInBounds_toArray, List.set_cons_zero, List.set_cons_succ, i64_w, i32_w]
          rfl
        refine one_ (i := 2) (N := (some 31)) #[true, true, true, true, true, true, false, false, false, false] rfl rfl (one_of HT_.out (by kernel_rfl)) (by decide) (fun K hK => ?_)
        refine goes_ Tryd.func18 (by kernel_rfl) rfl #[.slice (some ad) es.length c] (by rfl) rfl rfl (by (try simp only [List.map_toArray, List.map_cons, List.map_nil]); rfl) ?_
        with_reducible refine (clone_ (some ad) c es _ hHeld.2.2.1 HN.out hl).mono ?_
        rintro x w7 ⟨v, rfl, hO, hb⟩
        have hO7 := hO
        have hw67 := hHeld.2.2.2.size
        obtain ⟨g7, c7, hv⟩ : ∃ g7 c7, v = .slice (some ⟨g7, 0, none⟩) es.length c7 := by
          rcases hO.2 with ⟨_, h0⟩ | ⟨g7, c7, cur, hv, _⟩
          · have := HLT.out; omega
          · exact ⟨g7, c7, hv⟩
        subst hv
        have HO7 := Lib.hid hO7
        clear hO hO7
        have HG7 := Lib.hid (own_base HO7.out g7 rfl)
        have HS7 := Lib.hid hb.size
        have HLL := Lib.hid (And.intro hHeld.1.lt (And.intro hHeld.2.1.lt hw67))
        clear hw67
        refine ⟨_, rfl, ?_⟩
        refine hK.out _ _ ⟨hHeld.1.below hb, hHeld.2.1.below hb, Kd.C_below hHeld.2.2.1 hb, hHeld.2.2.2.trans (hb.mono hHeld.2.2.2.size)⟩ (fun hHeld => ?_)
        clear hK K
        refine norm_ (a' := ?_) ?_ ?_
        rotate_left
        · show Act.put _ (some 31) _ = _
          simp only [Act.put, List.setIfInBounds_toArray, List.set_cons_zero, List.set_cons_succ, i64_w, i32_w]
          rfl
        refine one_ (i := 6) (N := (some 35)) #[true, true, true, true, true, true, true, false, false, false] rfl rfl (one_of HT_.out (by kernel_rfl)) (by decide) (fun K hK => ?_)
        refine goes_ Tryd.func21 (by kernel_rfl) rfl #[.slice (some ⟨g7, 0, none⟩) es.length c7, .int .i64 k, .int .i64 ((k : Int) + 1)] (by rfl) rfl rfl (by (try simp only [List.map_toArray, List.map_cons, List.map_nil]); rfl) ?_
        with_reducible refine (delete_ g7 c7 k es _ _ HO7.out HLT.out hl HS7.out).mono ?_
        rintro x w8 ⟨rfl, hO8, hg8⟩
        have ht8 : Turned [g7] w7 w8 := Turned.of_grown hg8 fun k e => by injection e with e; simp [e]
        have HO8 := Lib.hid hO8
        have HD8 := Lib.hid (hHeld.2.2.2.trans (ht8.below (fun k hk => by have := List.mem_singleton.1 hk; have := HG7.out; have := HLL.out.2.2; omega) hHeld.2.2.2.size))
        have HF8 : Hid (Var w8 g4 e ∧ Var w8 g zE) := Lib.hid ⟨ht8.blk hHeld.1 (fun hm => by have := List.mem_singleton.1 hm; have := HG7.out; have := HLL.out.1; omega), ht8.blk hHeld.2.1 (fun hm => by have := List.mem_singleton.1 hm; have := HG7.out; have := HLL.out.2.1; omega)⟩
        have HM8 := Lib.hid (own_less HO8.out HLL.out.2.2)
        clear hO8 hg8 ht8
        refine ⟨_, rfl, ?_⟩
        refine hK.out _ _ ⟨HF8.out.1, HF8.out.2, Kd.C_below HC.out HD8.out, HD8.out⟩ (fun hHeld => ?_)
        clear hK K
        refine norm_ (a' := ?_) ?_ ?_
        rotate_left
        · show Act.put _ (some 35) _ = _
          simp only [Act.put, List.setIfInBounds_toArray, List.set_cons_zero, List.set_cons_succ, i64_w, i32_w]
          rfl
        refine last_ (i := 7) (N := none) #[true, true, true, true, true, true, true, true, false, false] rfl rfl (one_of HT_.out (by kernel_rfl)) (by decide) (fun K hK => ?_)
        obtain ⟨w9, hr9, hV9, hg9⟩ := Var.store hHeld.2.1 e
        refine st_store (by rfl) rfl rfl rfl rfl hr9 ?_
        have HV9 := Lib.hid hV9
        have HB9 := Lib.hid (hHeld.2.2.2.grown hg9 hHeld.2.2.2.size (fun k hk => by injection hk with hk; rw [← hk]; exact HG.out))
        have HO9 := Lib.hid (HM8.out.kept hg9 (.inr (fun e => by have e2 : g7 = g := (by simpa [Value.ownBlock] using e); have := HG7.out; have := HLL.out.2.1; omega)))
        refine hK.out _ _ ?_
        clear hK K
        refine pure_ (i := 8) (N := (some 7)) (v := ?_) (a' := ?_) #[true, true, true, true, true, true, true, true, true, false] rfl rfl (any_of HT_.out (by kernel_rfl)) (fun _ _ _ h => h) (Or.inl ⟨by rfl, ?_⟩) ?_ ?_
        rotate_left
        · intro w'
          go_simp
          with_reducible rfl
        rotate_left
        · simp only [Act.put, List.setIfInBounds_toArray, List.set_cons_zero, List.set_cons_succ, i64_w, i32_w]
          rfl
        refine pure_ (i := 9) (N := (some 8)) (v := ?_) (a' := ?_) #[true, true, true, true, true, true, true, true, true, true] rfl rfl (any_of HT_.out (by kernel_rfl)) (fun _ _ _ h => h) (Or.inl ⟨by rfl, ?_⟩) ?_ ?_
        rotate_left
        · intro w'
          go_simp
          with_reducible rfl
        rotate_left
        · simp only [Act.put, List.setIfInBounds_toArray, List.set_cons_zero, List.set_cons_succ, i64_w, i32_w]
          rfl
        refine done_ (done_of HT_.out (by kernel_rfl)) ?_
        (try go_wp2)
        refine bodyPost_ret (results_list (rs := [.cell 6 42, .tmp 7, .tmp 8]) rfl (by simp) (.cell g _ _ (0, 0) _ rfl HV9.out Tryd.underlying42 rfl size_ (.tmp (.tmp .nil)))) rfl ?_
        exact ⟨HB9.out, .inl ⟨k, e, _, HE.out, HHH.out, HNO.out, rfl, HO9.out⟩⟩
    · obtain rfl : k = es.length := by omega
      go_wp2_with ((with_reducible refine gate_st (t := 42) rfl ?_); obtain ⟨w5, hrun5, hV5, hg5⟩ := Var.store HV.out zE; refine ev_store rfl rfl rfl rfl rfl hrun5 ?_; have HV5 := Lib.hid hV5; have HB5 := Lib.hid (HB.out.grown hg5 HB.out.size (fun k hk => by injection hk with hk; rw [← hk]; exact HG.out)); clear hrun5 hV5 hg5)
      refine bodyPost_ret (results_list (rs := [.cell 6 42, .tmp 7, .tmp 8]) rfl (by simp) (.cell g _ _ (0, 0) _ rfl HV5.out Tryd.underlying42 rfl size_ (.tmp (.tmp .nil)))) rfl ?_
      exact ⟨HB5.out, .inr ⟨fun j y hy => HNO.out j y (List.getElem?_eq_some_iff.1 hy).1 hy, rfl⟩⟩
end Go.Proofs.YtecpginkacaebaaDoor.Ent
