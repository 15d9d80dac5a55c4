/- part of a proof; what it has no use for was struck out -/
import Derived.Test.YtnikfeaggppmpaaDoorRw
namespace Go.Proofs.YtnikfeaggppmpaaDoor.Wr
open Go.RowKit Go.Proofs.YtnikfeaggppmpaaDoor.PM Go.Proofs.YtnikfeaggppmpaaDoorW Go.Proofs.YtnikfeaggppmpaaDoorW.PrintWords Go.Proofs.YtnikfeaggppmpaaDoorW.PrintLast Go.Proofs.YtnikfeaggppmpaaDoorW.PrintMore Go.Proofs.YtnikfeaggppmpaaDoor.Base Go.Proofs.YtnikfeaggppmpaaDoor.Nam Go.Proofs.YtnikfeaggppmpaaDoor.Trn Go.Proofs.YtnikfeaggppmpaaDoor.MapS Go.Proofs.YtnikfeaggppmpaaDoor.QM
set_option linter.unusedVariables false
set_option linter.unusedSimpArgs false
set_option maxRecDepth 100000
theorem put32_ (A : Option Addr) (c : Nat) (b : List Int) (A1 : Option Addr) (c1 : Nat) (ns : List Int) (w : World) (h0 : Kd.C (Kd.int .u8) w A b.length b) (hc : b.length ≤ c) (h1 : Kd.C (Kd.int .u32) w A1 ns.length ns) (hc1 : ns.length ≤ c1) (hb : b.length + 4 * ns.length < 140737488355328) :
    Calls Tryd.prog 37 #[.slice A b.length c, .slice A1 ns.length c1] w fun e w' => ∃ v, e = .returned v ∧ w'.ownsRow w.heap.size 5 1 v (b ++ all32 ns).length (nums .u8 (b ++ all32 ns)) ∧ Below w.heap.size w w' := by
  obtain ⟨k, hk⟩ := Ev.rounds (put32 b ns hb)
  refine (num_Put32.calls k A c b A1 c1 ns _ w h0 hc h1 hc1 hk).mono ?_
  rintro e w' ⟨v, rfl, hR, hB⟩
  exact ⟨v, rfl, Kd.own_of_R hR, hB⟩
def rrec_T2 : Bool × List (List Nat × List Nat) := (true, [([], []), ([], []), ([1], [1]), ([2], [2]), ([3], [3]), ([], []), ([5], [5]), ([6], [6]), ([4, 7], [4, 7]), ([0, 0, 1, 2, 3, 4, 5, 6, 7, 8], [0]), ([9, 0, 1, 2, 3, 4, 5, 6, 7, 8], [9]), ([10, 8, 8, 0, 1, 2, 3, 4, 5, 6, 7, 8], [8, 10])])
def rrec_B2 : List Nat := [0, 0, 2, 6, 14, 0, 32, 96, 254, 511, 1023, 2047]
theorem rrec_tab2 : rtab .any (opsOf Tryd.f36 2) = rrec_T2 := by kernel_rfl
theorem rrec_bits2 : waitsOk rrec_T2.2 rrec_B2 = true := by kernel_rfl
def rrec_T3 : Bool × List (List Nat × List Nat) := (true, [([], []), ([], []), ([1], [1]), ([2], [2]), ([3], [3]), ([], []), ([5], [5]), ([6], [6]), ([4, 7], [4, 7]), ([0, 0, 1, 2, 3, 4, 5, 6, 7, 8], [0]), ([9, 0, 1, 2, 3, 4, 5, 6, 7, 8], [9]), ([10, 8, 8, 0, 1, 2, 3, 4, 5, 6, 7, 8], [8, 10])])
def rrec_B3 : List Nat := [0, 0, 2, 6, 14, 0, 32, 96, 254, 511, 1023, 2047]
theorem rrec_tab3 : rtab .any (opsOf Tryd.f36 3) = rrec_T3 := by kernel_rfl
theorem rrec_bits3 : waitsOk rrec_T3.2 rrec_B3 = true := by kernel_rfl
def WfR (r : R) : Prop := (0 ≤ r.f1 ∧ r.f1 < 65536) ∧ (0 ≤ r.f2 ∧ r.f2 < 4294967296) ∧ r.f0.size ≤ 1000000000 ∧ r.f3.size ≤ 1000000000
set_option maxHeartbeats 4000000 in
theorem record_ {w : World} {base g : Nat} {F : List Nat} {bs : List Int} {f : List Int → Option Int} (h : Wr w base g F bs f) (r : R) (hd : WfR r) (hb : bs.length ≤ 1000000000) :
    Calls Tryd.prog 36 #[.pointer (some ⟨g, 0, none⟩), .agg #[.string r.f0, .int .u16 r.f1, .int .u32 r.f2, .string r.f3]] w fun e w' => e = .returned (.tuple #[]) ∧ Goes w w' base g F (recW r (bs, f)).1 (recW r (bs, f)).2 := by
  have hW := h
  obtain ⟨gR, hgR⟩ : ∃ gR, w.heap.size = gR := ⟨_, rfl⟩
  have hbX := below_alloc (Below.refl w.heap.size w) (Obj.cells #[.string r.f0, .int .u16 r.f1, .int .u32 r.f2, .string r.f3] 70)
  have hBK : (w.alloc (Obj.cells #[.string r.f0, .int .u16 r.f1, .int .u32 r.f2, .string r.f3] 70)).heap[gR]? = some (Obj.cells #[.string r.f0, .int .u16 r.f1, .int .u32 r.f2, .string r.f3] 70 (0, 0)) := by rw [← hgR]; exact blk_new w _
  obtain ⟨w1, hw1⟩ : ∃ w1, w.alloc (Obj.cells #[.string r.f0, .int .u16 r.f1, .int .u32 r.f2, .string r.f3] 70) = w1 := ⟨_, rfl⟩
  have hgF : ∀ k ∈ F, k ≠ gR := fun k hk e => by have := (h.foot k hk).2; omega
  have hz0 : bytesOf r.f0 = bytesOf r.f0 := rfl
  have HGF := Lib.hid hgF
  have HH := Lib.hid h
  have HD := Lib.hid hd
  clear h hW hz0 hgF hd
  go_enter Tryd.func36, Tryd.ntmps36
  go_upto_region 1 with fail
  rw [hw1] at hbX hBK
  (try rw [hw1])
  (try rw [hgR])
  have HBX := Lib.hid hbX
  have HBK1 := Lib.hid hBK
  have HW1 := Lib.hid (HH.out.below hbX)
  clear hbX hBK hw1 hgR
  have p0 := (blk_cell HBK1.out 0).trans rfl
  go_wp2_with fail
  clear p0
  have key := name_ HW1.out (bytesOf r.f0) (of_b8 r.f0) (by rw [of_size]; exact HD.out.2.2.1) (by omega)
  rw [str_of] at key
  refine key.mono ?_
  clear key
  rintro e w2 ⟨rfl, hg⟩
  have hn1 := namW_len (bytesOf r.f0) (bs, f)
  obtain ⟨⟨b2, f2⟩, hz⟩ : ∃ s, namW (bytesOf r.f0) (bs, f) = s := ⟨_, rfl⟩
  rw [hz] at hg hn1
  have HZ := Lib.hid hz
  have HL2 : Hid (b2.length ≤ bs.length + 256) := Lib.hid hn1.2
  have HBK2 := Lib.hid (hg.turn.blk HBK1.out (fun hk => HGF.out gR hk rfl))
  have HG2 := Lib.hid hg
  clear hg hz hn1
  go_upto_region 2 with fail
  refine start_ (n := 12) (ds := [11]) (S := fun W => Below w2.heap.size w2 W) #[false, false, false, false, false, false, false, false, false, false, false, false] (by kernel_rfl) rfl rfl (below_drew1 (Below.refl w2.heap.size w2)) (fun hHeld => ?_)
  refine with_tabW rrec_tab2 rrec_bits2 (fun HT_ HW_ => ?_)
  obtain ⟨wa, hwa⟩ : ∃ wa, w2.drew = wa := ⟨_, rfl⟩
  rw [hwa] at hHeld ⊢
  clear hwa
  obtain ⟨Ax, cx, hcx, hfx, hox, hCx, hlx⟩ := HG2.out.cell
  have HCX := Lib.hid hcx
  have HKX := Lib.hid hCx
  have HLX := Lib.hid hlx
  clear hcx hfx hox hCx hlx
  refine pure_ (i := 0) (N := (some 8)) (v := ?_) (a' := ?_) #[true, false, false, false, false, false, false, false, false, false, false, false] rfl rfl (any_of HT_.out (by kernel_rfl)) (fun _ _ _ h => h) (Or.inl ⟨by rfl, ?_⟩) ?_ ?_
  rotate_left
  · intro w'
    go_simp
    with_reducible rfl
  rotate_left
  · simp only [Act.put, List.setIfInBounds_toArray, List.set_cons_zero, List.set_cons_succ, i64_w, i32_w]
    rfl
  refine pure_ (i := 1) (N := (some 9)) (v := ?_) (a' := ?_) #[true, true, false, false, false, false, false, false, false, false, false, false] rfl rfl (any_of HT_.out (by kernel_rfl)) (fun _ _ _ h => h) (Or.inl ⟨by rfl, ?_⟩) ?_ ?_
  rotate_left
  · intro w'
    go_simp
    with_reducible rfl
  rotate_left
  · simp only [Act.put, List.setIfInBounds_toArray, List.set_cons_zero, List.set_cons_succ, i64_w, i32_w]
    rfl
  refine pure_ (i := 2) (N := (some 10)) (v := ?_) (a' := ?_) #[true, true, true, false, false, false, false, false, false, false, false, false] rfl rfl (any_of HT_.out (by kernel_rfl)) (fun _ _ _ h => h) (Or.inl ⟨by rfl, ?_⟩) ?_ ?_
  rotate_left
  · intro w'
    go_simp
    with_reducible rfl
  rotate_left
  · simp only [Act.put, List.setIfInBounds_toArray, List.set_cons_zero, List.set_cons_succ, i64_w, i32_w]
    rfl
  refine pure_ (i := 3) (N := (some 11)) (v := ?_) (a' := ?_) #[true, true, true, true, false, false, false, false, false, false, false, false] rfl rfl (any_of HT_.out (by kernel_rfl)) (fun _ _ _ h => h) (Or.inl ⟨by rfl, ?_⟩) ?_ ?_
  rotate_left
  · intro w'
    go_simp
    with_reducible rfl
  rotate_left
  · simp only [Act.put, List.setIfInBounds_toArray, List.set_cons_zero, List.set_cons_succ, i64_w, i32_w]
    rfl
  refine take_ (i := 4) (N := (some 12)) (v := ?_) (a' := ?_) #[true, true, true, true, true, false, false, false, false, false, false, false] rfl rfl (take_ofW HT_.out HW_.out (by kernel_rfl)) (fun _ _ _ h => h) (Or.inl ⟨by rfl, ?_⟩) hHeld ?_ ?_
  rotate_left
  · intro w' hS
    have hc := (hS.cell (World.block_lt_of_cell? w2 _ HCX.out)).trans HCX.out
    go_simp
    with_reducible rfl
  rotate_left
  · simp only [Act.put, List.setIfInBounds_toArray, List.set_cons_zero, List.set_cons_succ, i64_w, i32_w]
    rfl
  refine pure_ (i := 5) (N := (some 13)) (v := ?_) (a' := ?_) #[true, true, true, true, true, true, false, false, false, false, false, false] rfl rfl (any_of HT_.out (by kernel_rfl)) (fun _ _ _ h => h) (Or.inl ⟨by rfl, ?_⟩) ?_ ?_
  rotate_left
  · intro w'
    go_simp
    with_reducible rfl
  rotate_left
  · simp only [Act.put, List.setIfInBounds_toArray, List.set_cons_zero, List.set_cons_succ, i64_w, i32_w]
    rfl
  refine take_ (i := 6) (N := (some 14)) (v := ?_) (a' := ?_) #[true, true, true, true, true, true, true, false, false, false, false, false] rfl rfl (take_ofW HT_.out HW_.out (by kernel_rfl)) (fun _ _ _ h => h) (Or.inl ⟨by rfl, ?_⟩) hHeld ?_ ?_
  rotate_left
  · intro w' hS
    have hb := (blk_cell (blk_below HBK2.out hS) 1).trans rfl
    go_simp
    with_reducible rfl
  rotate_left
  · simp only [Act.put, List.setIfInBounds_toArray, List.set_cons_zero, List.set_cons_succ, i64_w, i32_w]
    rfl
  refine one_ (i := 7) (N := (some 15)) #[true, true, true, true, true, true, true, true, false, false, false, false] rfl rfl (one_of HT_.out (by kernel_rfl)) (by decide) (fun K hK => ?_)
  go_simp
  refine hK.out _ _ (below_alloc hHeld _) (fun hHeld => ?_)
  clear hK K
  have hCl : Kd.C (Kd.int .u16) (wa.alloc (.cells #[.int .u16 (r.f1), .int .u16 1] 24)) (some ⟨wa.heap.size, 0, none⟩) ([r.f1, 1] : List Int).length [r.f1, 1] := C_two wa .u16 24 _ _
  obtain ⟨gl, hgl⟩ : ∃ gl, wa.heap.size = gl := ⟨_, rfl⟩
  obtain ⟨wb, hwb⟩ : ∃ wb, wa.alloc (.cells #[.int .u16 (r.f1), .int .u16 1] 24) = wb := ⟨_, rfl⟩
  rw [hgl, hwb] at hCl
  rw [hwb] at hHeld ⊢
  rw [hgl]
  have HCL := Lib.hid hCl
  clear hCl hgl hwb
  refine one_ (i := 8) (N := (some 16)) #[true, true, true, true, true, true, true, true, true, false, false, false] rfl rfl (one_of HT_.out (by kernel_rfl)) (by decide) (fun K hK => ?_)
  refine goes_ Tryd.func33 (by kernel_rfl) rfl #[.slice Ax b2.length cx, .slice (some ⟨gl, 0, none⟩) 2 2] (by rfl) rfl rfl (by (try simp only [List.map_toArray, List.map_cons, List.map_nil]); rfl) ?_
  refine (put16_ Ax cx b2 _ 2 [r.f1, 1] _ (Kd.C_below HKX.out hHeld) HLX.out HCL.out (Nat.le_refl _) (by have := HL2.out; simp only [List.length_cons, List.length_nil]; omega)).mono ?_
  rintro e wc ⟨vc, rfl, hoc, hbc⟩
  have hoc2 := own_lower hoc hHeld.size
  obtain ⟨bn, hbn⟩ : ∃ bn, b2 ++ all16 [r.f1, 1] = bn := ⟨_, rfl⟩
  have hbnl : bn.length = b2.length + 4 := by rw [← hbn, List.length_append, all16_len]; rfl
  rw [hbn] at hoc2
  obtain ⟨Av, cv, hv⟩ := own_slice hoc2
  subst hv
  have HBN := Lib.hid hbn
  have HBNL := Lib.hid hbnl
  clear hbn hbnl
  refine ⟨_, rfl, ?_⟩
  refine hK.out _ _ (hHeld.trans (hbc.mono hHeld.size)) (fun hHeld => ?_)
  clear hbc hoc
  clear hK K
  refine norm_ (a' := ?_) ?_ ?_
  rotate_left
  · show Act.put _ (some 16) _ = _
    simp only [Act.put, List.setIfInBounds_toArray, List.set_cons_zero, List.set_cons_succ, i64_w, i32_w]
    rfl
  refine pure_ (i := 9) (N := (some 17)) (v := ?_) (a' := ?_) #[true, true, true, true, true, true, true, true, true, true, false, false] rfl rfl (any_of HT_.out (by kernel_rfl)) (fun _ _ _ h => h) (Or.inl ⟨by rfl, ?_⟩) ?_ ?_
  rotate_left
  · intro w'
    go_simp
    with_reducible rfl
  rotate_left
  · simp only [Act.put, List.setIfInBounds_toArray, List.set_cons_zero, List.set_cons_succ, i64_w, i32_w]
    rfl
  refine pure_ (i := 10) (N := (some 18)) (v := ?_) (a' := ?_) #[true, true, true, true, true, true, true, true, true, true, true, false] rfl rfl (any_of HT_.out (by kernel_rfl)) (fun _ _ _ h => h) (Or.inl ⟨by rfl, ?_⟩) ?_ ?_
  rotate_left
  · intro w'
    go_simp
    with_reducible rfl
  rotate_left
  · simp only [Act.put, List.setIfInBounds_toArray, List.set_cons_zero, List.set_cons_succ, i64_w, i32_w]
    rfl
  have hcf := (HG2.out.below hHeld).cell
  obtain ⟨Ay, cy, hcy, hfy, -, -, -⟩ := hcf
  have HGN := Lib.hid (HG2.out.put hHeld hoc2 (by have := HBNL.out; omega) (by have := HBNL.out; omega))
  refine last_ (i := 11) (N := none) #[true, true, true, true, true, true, true, true, true, true, true, true] rfl rfl (one_of HT_.out (by kernel_rfl)) (by decide) (fun K hK => ?_)
  go_simp
  refine hK.out _ _ ?_
  clear hK K
  refine done_ (done_of HT_.out (by kernel_rfl)) ?_
  obtain ⟨w3, hw3⟩ : ∃ wx, wc.setCell ⟨g, 0, none⟩ (.slice Av bn.length cv) = wx := ⟨_, rfl⟩
  rw [hw3] at HGN ⊢
  clear hw3 hcy hfy HCX HKX HLX HCL hoc2 hHeld
  have hHT : Turned F w1 w3 := HGN.out.turn
  have HBK3 := Lib.hid (hHT.blk HBK1.out (fun hk => HGF.out gR hk rfl))
  have hHL : bn.length ≤ bs.length + 260 := by have := HL2.out; have := HBNL.out; omega
  have HG3 := Lib.hid HGN.out
  have HL3 := Lib.hid hHL
  have HB3 := Lib.hid HBN.out
  clear hHT HGN HG2 HBK2 hHL HBN HBNL
  obtain ⟨b3, hb3⟩ : ∃ b3, bn = b3 := ⟨_, rfl⟩
  rw [hb3] at HG3 HL3 HB3 ⊢
  clear hb3
  go_upto_region 3 with fail
  refine start_ (n := 12) (ds := [11]) (S := fun W => Below w3.heap.size w3 W) #[false, false, false, false, false, false, false, false, false, false, false, false] (by kernel_rfl) rfl rfl (below_drew1 (Below.refl w3.heap.size w3)) (fun hHeld => ?_)
  refine with_tabW rrec_tab3 rrec_bits3 (fun HT_ HW_ => ?_)
  obtain ⟨wa, hwa⟩ : ∃ wa, w3.drew = wa := ⟨_, rfl⟩
  rw [hwa] at hHeld ⊢
  clear hwa
  obtain ⟨Ax, cx, hcx, hfx, hox, hCx, hlx⟩ := HG3.out.cell
  have HCX := Lib.hid hcx
  have HKX := Lib.hid hCx
  have HLX := Lib.hid hlx
  clear hcx hfx hox hCx hlx
  refine pure_ (i := 0) (N := (some 19)) (v := ?_) (a' := ?_) #[true, false, false, false, false, false, false, false, false, false, false, false] rfl rfl (any_of HT_.out (by kernel_rfl)) (fun _ _ _ h => h) (Or.inl ⟨by rfl, ?_⟩) ?_ ?_
  rotate_left
  · intro w'
    go_simp
    with_reducible rfl
  rotate_left
  · simp only [Act.put, List.setIfInBounds_toArray, List.set_cons_zero, List.set_cons_succ, i64_w, i32_w]
    rfl
  refine pure_ (i := 1) (N := (some 20)) (v := ?_) (a' := ?_) #[true, true, false, false, false, false, false, false, false, false, false, false] rfl rfl (any_of HT_.out (by kernel_rfl)) (fun _ _ _ h => h) (Or.inl ⟨by rfl, ?_⟩) ?_ ?_
  rotate_left
  · intro w'
    go_simp
    with_reducible rfl
  rotate_left
  · simp only [Act.put, List.setIfInBounds_toArray, List.set_cons_zero, List.set_cons_succ, i64_w, i32_w]
    rfl
  refine pure_ (i := 2) (N := (some 21)) (v := ?_) (a' := ?_) #[true, true, true, false, false, false, false, false, false, false, false, false] rfl rfl (any_of HT_.out (by kernel_rfl)) (fun _ _ _ h => h) (Or.inl ⟨by rfl, ?_⟩) ?_ ?_
  rotate_left
  · intro w'
    go_simp
    with_reducible rfl
  rotate_left
  · simp only [Act.put, List.setIfInBounds_toArray, List.set_cons_zero, List.set_cons_succ, i64_w, i32_w]
    rfl
  refine pure_ (i := 3) (N := (some 22)) (v := ?_) (a' := ?_) #[true, true, true, true, false, false, false, false, false, false, false, false] rfl rfl (any_of HT_.out (by kernel_rfl)) (fun _ _ _ h => h) (Or.inl ⟨by rfl, ?_⟩) ?_ ?_
  rotate_left
  · intro w'
    go_simp
    with_reducible rfl
  rotate_left
  · simp only [Act.put, List.setIfInBounds_toArray, List.set_cons_zero, List.set_cons_succ, i64_w, i32_w]
    rfl
  refine take_ (i := 4) (N := (some 23)) (v := ?_) (a' := ?_) #[true, true, true, true, true, false, false, false, false, false, false, false] rfl rfl (take_ofW HT_.out HW_.out (by kernel_rfl)) (fun _ _ _ h => h) (Or.inl ⟨by rfl, ?_⟩) hHeld ?_ ?_
  rotate_left
  · intro w' hS
    have hc := (hS.cell (World.block_lt_of_cell? w3 _ HCX.out)).trans HCX.out
    go_simp
    with_reducible rfl
  rotate_left
  · simp only [Act.put, List.setIfInBounds_toArray, List.set_cons_zero, List.set_cons_succ, i64_w, i32_w]
    rfl
  refine pure_ (i := 5) (N := (some 24)) (v := ?_) (a' := ?_) #[true, true, true, true, true, true, false, false, false, false, false, false] rfl rfl (any_of HT_.out (by kernel_rfl)) (fun _ _ _ h => h) (Or.inl ⟨by rfl, ?_⟩) ?_ ?_
  rotate_left
  · intro w'
    go_simp
    with_reducible rfl
  rotate_left
  · simp only [Act.put, List.setIfInBounds_toArray, List.set_cons_zero, List.set_cons_succ, i64_w, i32_w]
    rfl
  refine take_ (i := 6) (N := (some 25)) (v := ?_) (a' := ?_) #[true, true, true, true, true, true, true, false, false, false, false, false] rfl rfl (take_ofW HT_.out HW_.out (by kernel_rfl)) (fun _ _ _ h => h) (Or.inl ⟨by rfl, ?_⟩) hHeld ?_ ?_
  rotate_left
  · intro w' hS
    have hb := (blk_cell (blk_below HBK3.out hS) 2).trans rfl
    go_simp
    with_reducible rfl
  rotate_left
  · simp only [Act.put, List.setIfInBounds_toArray, List.set_cons_zero, List.set_cons_succ, i64_w, i32_w]
    rfl
  refine one_ (i := 7) (N := (some 26)) #[true, true, true, true, true, true, true, true, false, false, false, false] rfl rfl (one_of HT_.out (by kernel_rfl)) (by decide) (fun K hK => ?_)
  go_simp
  refine hK.out _ _ (below_alloc hHeld _) (fun hHeld => ?_)
  clear hK K
  have hCl : Kd.C (Kd.int .u32) (wa.alloc (.cells #[.int .u32 (r.f2)] 68)) (some ⟨wa.heap.size, 0, none⟩) ([r.f2] : List Int).length [r.f2] := C_one wa .u32 68 _
  obtain ⟨gl, hgl⟩ : ∃ gl, wa.heap.size = gl := ⟨_, rfl⟩
  obtain ⟨wb, hwb⟩ : ∃ wb, wa.alloc (.cells #[.int .u32 (r.f2)] 68) = wb := ⟨_, rfl⟩
  rw [hgl, hwb] at hCl
  rw [hwb] at hHeld ⊢
  rw [hgl]
  have HCL := Lib.hid hCl
  clear hCl hgl hwb
  refine one_ (i := 8) (N := (some 27)) #[true, true, true, true, true, true, true, true, true, false, false, false] rfl rfl (one_of HT_.out (by kernel_rfl)) (by decide) (fun K hK => ?_)
  refine goes_ Tryd.func37 (by kernel_rfl) rfl #[.slice Ax b3.length cx, .slice (some ⟨gl, 0, none⟩) 1 1] (by rfl) rfl rfl (by (try simp only [List.map_toArray, List.map_cons, List.map_nil]); rfl) ?_
  refine (put32_ Ax cx b3 _ 1 [r.f2] _ (Kd.C_below HKX.out hHeld) HLX.out HCL.out (Nat.le_refl _) (by have := HL3.out; simp only [List.length_cons, List.length_nil]; omega)).mono ?_
  rintro e wc ⟨vc, rfl, hoc, hbc⟩
  have hoc2 := own_lower hoc hHeld.size
  obtain ⟨bn, hbn⟩ : ∃ bn, b3 ++ all32 [r.f2] = bn := ⟨_, rfl⟩
  have hbnl : bn.length = b3.length + 4 := by rw [← hbn, List.length_append, all32_len]; rfl
  rw [hbn] at hoc2
  obtain ⟨Av, cv, hv⟩ := own_slice hoc2
  subst hv
  have HBN := Lib.hid hbn
  have HBNL := Lib.hid hbnl
  clear hbn hbnl
  refine ⟨_, rfl, ?_⟩
  refine hK.out _ _ (hHeld.trans (hbc.mono hHeld.size)) (fun hHeld => ?_)
  clear hbc hoc
  clear hK K
  refine norm_ (a' := ?_) ?_ ?_
  rotate_left
  · show Act.put _ (some 27) _ = _
    simp only [Act.put, List.setIfInBounds_toArray, List.set_cons_zero, List.set_cons_succ, i64_w, i32_w]
    rfl
  refine pure_ (i := 9) (N := (some 28)) (v := ?_) (a' := ?_) #[true, true, true, true, true, true, true, true, true, true, false, false] rfl rfl (any_of HT_.out (by kernel_rfl)) (fun _ _ _ h => h) (Or.inl ⟨by rfl, ?_⟩) ?_ ?_
  rotate_left
  · intro w'
    go_simp
    with_reducible rfl
  rotate_left
  · simp only [Act.put, List.setIfInBounds_toArray, List.set_cons_zero, List.set_cons_succ, i64_w, i32_w]
    rfl
  refine pure_ (i := 10) (N := (some 29)) (v := ?_) (a' := ?_) #[true, true, true, true, true, true, true, true, true, true, true, false] rfl rfl (any_of HT_.out (by kernel_rfl)) (fun _ _ _ h => h) (Or.inl ⟨by rfl, ?_⟩) ?_ ?_
  rotate_left
  · intro w'
    go_simp
    with_reducible rfl
  rotate_left
  · simp only [Act.put, List.setIfInBounds_toArray, List.set_cons_zero, List.set_cons_succ, i64_w, i32_w]
    rfl
  have hcf := (HG3.out.below hHeld).cell
  obtain ⟨Ay, cy, hcy, hfy, -, -, -⟩ := hcf
  have HGN := Lib.hid (HG3.out.put hHeld hoc2 (by have := HBNL.out; omega) (by have := HBNL.out; omega))
  refine last_ (i := 11) (N := none) #[true, true, true, true, true, true, true, true, true, true, true, true] rfl rfl (one_of HT_.out (by kernel_rfl)) (by decide) (fun K hK => ?_)
  go_simp
  refine hK.out _ _ ?_
  clear hK K
  refine done_ (done_of HT_.out (by kernel_rfl)) ?_
  obtain ⟨w4, hw4⟩ : ∃ wx, wc.setCell ⟨g, 0, none⟩ (.slice Av bn.length cv) = wx := ⟨_, rfl⟩
  rw [hw4] at HGN ⊢
  clear hw4 hcy hfy HCX HKX HLX HCL hoc2 hHeld
  have hHT : Turned F w1 w4 := HGN.out.turn
  have HBK4 := Lib.hid (hHT.blk HBK1.out (fun hk => HGF.out gR hk rfl))
  have hHL : bn.length ≤ bs.length + 300 := by have := HL3.out; have := HBNL.out; omega
  have HL4 := Lib.hid hHL
  have HB4 := Lib.hid HBN.out
  obtain ⟨b4, hb4⟩ : ∃ b4, bn = b4 := ⟨_, rfl⟩
  rw [hb4] at HGN HL4 HB4 ⊢
  clear HBN HBNL hHL
  clear hb4
  obtain ⟨F4, hW4, hs4, hT4⟩ := HGN.out
  have HW4 := Lib.hid hW4
  have HS4 := Lib.hid hs4
  have HT4 := Lib.hid hT4
  clear hHT HGN HG3 HBK3 hW4 hs4 hT4
  have p1 := (blk_cell HBK4.out 1).trans rfl
  have p3 := (blk_cell HBK4.out 3).trans rfl
  go_wp2_with fail
  clear p1 p3
  have key := write_ HW4.out r.f1 HD.out.1 (bytesOf r.f3) (of_b8 r.f3) (by rw [of_size]; exact HD.out.2.2.2) (by have := HL4.out; omega)
  rw [str_of] at key
  refine key.mono ?_
  clear key
  rintro e w5 ⟨rfl, hg⟩
  (try go_wp2)
  go_end0
  have hr : recW r (bs, f) = wrD r.f1 r.f3 (b4, f2) := by
    unfold recW
    rw [HZ.out]
    simp only [HB3.out, HB4.out]
  rw [hr]
  exact ⟨rfl, Goes.step HW1.out (fun k hk => .inl hk) (Turned.of_below HBX.out F) (Goes.step HW4.out HS4.out HT4.out hg)⟩
end Go.Proofs.YtnikfeaggppmpaaDoor.Wr
