/- part of a proof; what it has no use for was struck out -/
import Derived.Test.YtnikfeaggppmpaaDoorRdd
import Derived.Test.YtnikfeaggppmpaaDoorHeap
namespace Go.Proofs.YtnikfeaggppmpaaDoor.Rdr
open Go.RowKit Go.Proofs.YtnikfeaggppmpaaDoor.PM Go.Proofs.YtnikfeaggppmpaaDoorW Go.Proofs.YtnikfeaggppmpaaDoorW.PrintWords Go.Proofs.YtnikfeaggppmpaaDoorW.PrintLast Go.Proofs.YtnikfeaggppmpaaDoorW.PrintMore Go.Proofs.YtnikfeaggppmpaaDoor.Base Go.Proofs.YtnikfeaggppmpaaDoor.Trn Go.Proofs.YtnikfeaggppmpaaDoor.QM Go.Proofs.YtnikfeaggppmpaaDoor.Nam Go.Proofs.YtnikfeaggppmpaaDoor.Rd Go.Proofs.YtnikfeaggppmpaaDoor.Wr Go.Proofs.YtnikfeaggppmpaaDoor.Heap
set_option linter.unusedVariables false
set_option linter.unusedSimpArgs false
set_option maxRecDepth 100000
def hdB (s : ByteArray) (p : Int) (bad : Bool) : Bool := ((((bad || !(nmR s p).2.2) || !(g16 s (nmR s p).2.1).2) || !(g16 s ((nmR s p).2.1 + 2)).2) || !(g32 s ((nmR s p).2.1 + 4)).2) || !(g16 s ((nmR s p).2.1 + 8)).2
noncomputable def rcR (s : ByteArray) (p : Int) (bad : Bool) : R × Int × Int × Bool :=
  if hdB s p bad = true then (⟨strOfNums (nmR s p).1, (g16 s (nmR s p).2.1).1, (g32 s ((nmR s p).2.1 + 4)).1, ⟨#[]⟩⟩, (g16 s ((nmR s p).2.1 + 2)).1, (nmR s p).2.1 + 10, true)
  else (⟨strOfNums (nmR s p).1, (g16 s (nmR s p).2.1).1, (g32 s ((nmR s p).2.1 + 4)).1, (dR s ((nmR s p).2.1 + 10) (g16 s ((nmR s p).2.1 + 8)).1 (g16 s (nmR s p).2.1).1).1⟩, (g16 s ((nmR s p).2.1 + 2)).1, (nmR s p).2.1 + 10 + (g16 s ((nmR s p).2.1 + 8)).1, !(dR s ((nmR s p).2.1 + 10) (g16 s ((nmR s p).2.1 + 8)).1 (g16 s (nmR s p).2.1).1).2)
theorem g16_rng (s : ByteArray) (p : Int) : 0 ≤ (g16 s p).1 ∧ (g16 s p).1 < 65536 := by
  unfold g16
  have h0 := bt_range s p
  have h1 := bt_range s (p + 1)
  split
  · show 0 ≤ bt s p * 256 + bt s (p + 1) ∧ _ < 65536
    omega
  · decide
section
variable {P : Program} {ops : Array Oper} {rest : List Oper} {o : Oper} {a : Act} {Q : Exit → Act → World → Prop} {W : World}
theorem gate_lr {t : TypeId} {p : Tmp} (_ho : o.op = .load t (.tmp p)) (h : wpList P ops Q (o :: rest) a W) : wpList P ops Q (o :: rest) a W := h
end
def XV (w : World) (g : Nat) (n : ByteArray) (t l : Int) (d : ByteArray) : Prop := w.heap[g]? = some (.cells #[.string n, .int .u16 t, .int .u32 l, .string d] 70 (0, 0))
def rrc_T7 : Bool × List (List Nat × List Nat) := (true, [([], []), ([0], [0]), ([1], [1]), ([2], [2]), ([], []), ([4], [4]), ([5], [5]), ([6], [6]), ([], []), ([], []), ([9], [9]), ([3, 7, 8, 10], [3, 7, 8, 10]), ([11], [11]), ([12], [12]), ([12], [12]), ([13, 11, 0, 1, 2, 3, 4, 5, 6, 7, 8, 9, 10, 11, 12, 13], [13]), ([14, 15, 0, 1, 2, 3, 4, 5, 6, 7, 8, 9, 10, 11, 12, 13, 14, 15], [14])])
def rrc_B7 : List Nat := [0, 1, 3, 7, 0, 16, 48, 112, 0, 0, 512, 2047, 4095, 8191, 8191, 16383, 65535]
theorem rrc_tab7 : rtab .any (opsOf Tryd.f28 7) = rrc_T7 := by kernel_rfl
theorem rrc_bits7 : waitsOk rrc_T7.2 rrc_B7 = true := by kernel_rfl
set_option maxHeartbeats 8000000 in
theorem rrec_ {w : World} {g : Nat} {s : ByteArray} {p : Int} {bad : Bool} (h : RV w g s p bad) (hs : s.size ≤ 1000000000) (hp : 0 ≤ p ∧ p ≤ 100000000000) :
    Calls Tryd.prog 28 #[.pointer (some ⟨g, 0, none⟩)] w fun e w' => e = .returned (.tuple #[.agg #[.string (rcR s p bad).1.f0, .int .u16 (rcR s p bad).1.f1, .int .u32 (rcR s p bad).1.f2, .string (rcR s p bad).1.f3], .int .u16 (rcR s p bad).2.1]) ∧ RV w' g s (rcR s p bad).2.2.1 (rcR s p bad).2.2.2 ∧ Turned [g] w w' := by
  have HV := Lib.hid h
  have HTU := Lib.hid (Turned.refl [g] w)
  have hgw := blk_lt h
  have HGW := Lib.hid hgw
  clear h hgw
  obtain ⟨r, hr⟩ : ∃ r, rcR s p bad = r := ⟨_, rfl⟩
  rw [hr]
  have HRR := Lib.hid hr
  clear hr
  go_enter Tryd.func28, Tryd.ntmps28
  go_wp2_with fail
  have hV0 := blk_below HV.out (below_alloc (Below.refl w.heap.size w) (.cells #[.string { data := #[] }, .int .u16 0, .int .u32 0, .string { data := #[] }] 70))
  have hX0 : XV _ w.heap.size { data := #[] } 0 0 { data := #[] } := blk_new w (.cells #[.string { data := #[] }, .int .u16 0, .int .u32 0, .string { data := #[] }] 70)
  have hT0 := HTU.out.alloc (.cells #[.string { data := #[] }, .int .u16 0, .int .u32 0, .string { data := #[] }] 70)
  obtain ⟨gr, hgr⟩ : ∃ x, w.heap.size = x := ⟨_, rfl⟩
  rw [hgr] at hX0 ⊢
  have HGR : Hid (g < gr ∧ w.heap.size = gr) := Lib.hid ⟨by have := HGW.out; omega, hgr⟩
  clear hgr
  generalize w.alloc (.cells #[.string { data := #[] }, .int .u16 0, .int .u32 0, .string { data := #[] }] 70) = w0 at hV0 hX0 hT0 ⊢
  have HX0 := Lib.hid hX0
  have HT0 := Lib.hid hT0
  have HV0 := Lib.hid hV0
  clear hX0 hT0 hV0 HV HTU HGW
  refine (rname_ HV0.out hs (by omega)).mono ?_
  rintro e w1 ⟨rfl, hV1, hT1⟩
  have hrn := nmR_rng s p
  obtain ⟨nv, hnv⟩ : ∃ n, (nmR s p).1 = n := ⟨_, rfl⟩
  obtain ⟨p1, hE⟩ : ∃ n, (nmR s p).2.1 = n := ⟨_, rfl⟩
  obtain ⟨b1, hb1⟩ : ∃ b, (bad || !(nmR s p).2.2) = b := ⟨_, rfl⟩
  rw [hE] at hrn hV1
  rw [hb1] at hV1
  rw [hnv]
  have HE := Lib.hid (And.intro hnv (And.intro hE hb1))
  have HP1 := Lib.hid hrn
  have HV1 := Lib.hid hV1
  have HX1 : Hid (XV w1 gr { data := #[] } 0 0 { data := #[] }) := Lib.hid (hT1.blk HX0.out (by have := HGR.out.1; simp; omega))
  have HT1 := Lib.hid (HT0.out.trans hT1 (fun b hb => .inl hb))
  clear hnv hE hb1 hrn hV1 hT1 HV0 HX0 HT0
  go_wp2_with fail
  refine (num16_ HV1.out hs (by have := HP1.out; omega)).mono ?_
  rintro e w2 ⟨rfl, hV2, hT2⟩
  obtain ⟨t, ht⟩ : ∃ n, (g16 s p1).1 = n := ⟨_, rfl⟩
  obtain ⟨b2, hb2⟩ : ∃ b, (b1 || !(g16 s p1).2) = b := ⟨_, rfl⟩
  have hr16 := g16_rng s p1
  rw [ht] at hr16 ⊢
  rw [hb2] at hV2
  have HE2 := Lib.hid (And.intro ht hb2)
  have HTR := Lib.hid hr16
  have HV2 := Lib.hid hV2
  have HX2 : Hid (XV w2 gr { data := #[] } 0 0 { data := #[] }) := Lib.hid (hT2.blk HX1.out (by have := HGR.out.1; simp; omega))
  have HT2 := Lib.hid (HT1.out.trans hT2 (fun b hb => .inl hb))
  clear ht hb2 hr16 hV2 hT2 HV1 HX1 HT1
  go_wp2_with fail
  have hA3 := below_alloc (Below.refl w2.heap.size w2) (.cells #[.string (strOfNums nv), .int .u16 t, .int .u32 0, .string { data := #[] }] 70)
  have hV3 := blk_below HV2.out hA3
  have hX3 := blk_below HX2.out hA3
  have hY3 : XV _ w2.heap.size (strOfNums nv) t 0 { data := #[] } := blk_new w2 (.cells #[.string (strOfNums nv), .int .u16 t, .int .u32 0, .string { data := #[] }] 70)
  have hT3 := HT2.out.alloc (.cells #[.string (strOfNums nv), .int .u16 t, .int .u32 0, .string { data := #[] }] 70)
  have hlt := blk_lt HX2.out
  obtain ⟨gx, hgx⟩ : ∃ x, w2.heap.size = x := ⟨_, rfl⟩
  rw [hgx] at hY3 hlt hA3 ⊢
  have HGX : Hid (gr < gx ∧ g < gx ∧ w.heap.size ≤ gx) := Lib.hid ⟨hlt, by have := HGR.out; omega, by have := HGR.out; omega⟩
  generalize w2.alloc (.cells #[.string (strOfNums nv), .int .u16 t, .int .u32 0, .string { data := #[] }] 70) = w3 at hV3 hX3 hY3 hT3 hA3 ⊢
  have HV3 := Lib.hid hV3
  have HX3 := Lib.hid hX3
  have HY3 := Lib.hid hY3
  have HT3 := Lib.hid hT3
  clear hA3 hV3 hX3 hY3 hT3 hlt hgx HV2 HX2 HT2
  refine (num16_ HV3.out hs (by have := HP1.out; omega)).mono ?_
  rintro e w4 ⟨rfl, hV4, hT4⟩
  obtain ⟨c, hcc⟩ : ∃ n, (g16 s (p1 + 2)).1 = n := ⟨_, rfl⟩
  obtain ⟨b3, hb3⟩ : ∃ b, (b2 || !(g16 s (p1 + 2)).2) = b := ⟨_, rfl⟩
  rw [hcc]
  rw [hb3, show p1 + 2 + 2 = p1 + 4 by omega] at hV4
  have HE3 := Lib.hid (And.intro hcc hb3)
  have HV4 := Lib.hid hV4
  have HX4 : Hid (XV w4 gr { data := #[] } 0 0 { data := #[] }) := Lib.hid (hT4.blk HX3.out (by have := HGR.out.1; simp; omega))
  have HY4 : Hid (XV w4 gx (strOfNums nv) t 0 { data := #[] }) := Lib.hid (hT4.blk HY3.out (by have := HGX.out.2; simp; omega))
  have HT4 := Lib.hid (HT3.out.trans hT4 (fun b hb => .inl hb))
  clear hcc hb3 hV4 hT4 HV3 HX3 HY3 HT3
  go_wp2_with fail
  refine (num32_ HV4.out hs (by have := HP1.out; omega)).mono ?_
  rintro e w5 ⟨rfl, hV5, hT5⟩
  obtain ⟨tl, htl⟩ : ∃ n, (g32 s (p1 + 4)).1 = n := ⟨_, rfl⟩
  obtain ⟨b4, hb4⟩ : ∃ b, (b3 || !(g32 s (p1 + 4)).2) = b := ⟨_, rfl⟩
  rw [htl]
  rw [hb4, show p1 + 4 + 4 = p1 + 8 by omega] at hV5
  have HE4 := Lib.hid (And.intro htl hb4)
  have HX5 : Hid (XV w5 gr { data := #[] } 0 0 { data := #[] }) := Lib.hid (hT5.blk HX4.out (by have := HGR.out.1; simp; omega))
  have hY5 : XV w5 gx (strOfNums nv) t 0 { data := #[] } := hT5.blk HY4.out (by have := HGX.out.2; simp; omega)
  have HV5 := Lib.hid hV5
  have HT5 := Lib.hid (HT4.out.trans hT5 (fun b hb => .inl hb))
  have hcx := (blk_cell hY5 2).trans rfl
  have hfx := blk_frozen hY5 2
  have HY5 := Lib.hid hY5
  clear htl hb4 hV5 hT5 hY5 HV4 HX4 HY4 HT4
  go_wp2_with fail
  clear hcx hfx
  have hV6 := blk_far HV5.out (p := ⟨gx, 2, none⟩) (by have := HGX.out; simp; omega) (.int .u32 tl)
  have hX6 := blk_far HX5.out (p := ⟨gx, 2, none⟩) (by have := HGX.out; simp; omega) (.int .u32 tl)
  have hY6 : XV _ gx (strOfNums nv) t tl { data := #[] } := blk_put HY5.out 2 (.int .u32 tl) rfl
  have hT6 := HT5.out.setCell (p := ⟨gx, 2, none⟩) (.inr HGX.out.2.2) (.int .u32 tl)
  generalize w5.setCell ⟨gx, 2, none⟩ (.int .u32 tl) = w6 at hV6 hX6 hY6 hT6 ⊢
  have HX6 := Lib.hid hX6
  have HY6 := Lib.hid hY6
  have HT6 := Lib.hid hT6
  have HV6 := Lib.hid hV6
  clear hX6 hY6 hT6 hV6 HV5 HX5 HY5 HT5
  refine (num16_ HV6.out hs (by have := HP1.out; omega)).mono ?_
  rintro e w7 ⟨rfl, hV7, hT7⟩
  obtain ⟨n, hn⟩ : ∃ n, (g16 s (p1 + 8)).1 = n := ⟨_, rfl⟩
  obtain ⟨b5, hb5⟩ : ∃ b, (b4 || !(g16 s (p1 + 8)).2) = b := ⟨_, rfl⟩
  have hr16 := g16_rng s (p1 + 8)
  rw [hn] at hr16 ⊢
  rw [hb5, show p1 + 8 + 2 = p1 + 10 by omega] at hV7
  have HE5 := Lib.hid (And.intro hn hb5)
  have HN := Lib.hid hr16
  have hwn : wrap64 n = n := by unfold wrap64; omega
  have HX7 : Hid (XV w7 gr { data := #[] } 0 0 { data := #[] }) := Lib.hid (hT7.blk HX6.out (by have := HGR.out.1; simp; omega))
  have HY7 : Hid (XV w7 gx (strOfNums nv) t tl { data := #[] }) := Lib.hid (hT7.blk HY6.out (by have := HGX.out.2; simp; omega))
  have hb := (blk_cell hV7 2).trans rfl
  have HV7 := Lib.hid hV7
  have HT7 := Lib.hid (HT6.out.trans hT7 (fun b hb => .inl hb))
  clear hn hb5 hr16 hV7 hT7 HV6 HX6 HY6 HT6
  have HB5 : Hid (hdB s p bad = b5) := Lib.hid (by unfold hdB; rw [HE.out.2.2, HE.out.2.1, HE2.out.2, HE3.out.2, HE4.out.2, HE5.out.2])
  have HGR2 : Hid (g ≠ gr) := Lib.hid (by have := HGR.out.1; omega)
  have HGR3 : Hid (w.heap.size ≤ gr) := Lib.hid (by have := HGR.out.2; omega)
  cases b5 with
  | true =>
    have hcs := cells4 HX7.out
    have hfs := froz4 HX7.out
    obtain ⟨hc0, hc1, hc2, hc3⟩ := hcs
    obtain ⟨hf0, hf1, hf2, hf3⟩ := hfs
    go_wp2_with ((with_reducible refine gate_lr (t := 70) rfl ?_); refine wpList_load_row rfl _ _ rfl gx rfl _ _ _ _ HY7.out Tryd.underlying70 rfl (by kernel_rfl) ?_)
    refine bodyPost_ret (results_list (rs := [.cell 2 70, .tmp 3]) rfl (by simp) (.cell gr _ #[.string (strOfNums nv), .int .u16 t, .int .u32 tl, .string { data := #[] }] (0, 0) _ rfl (put4 HX7.out) Tryd.underlying70 rfl (by kernel_rfl) (.tmp .nil))) rfl ?_
    have hr := HRR.out
    unfold rcR at hr
    rw [if_pos HB5.out, HE.out.1, HE.out.2.1, HE2.out.1, HE3.out.1, HE4.out.1] at hr
    subst hr
    exact ⟨rfl, putF4 HV7.out HGR2.out, (((HT7.out.setCell (p := ⟨gr, 0, none⟩) (.inr HGR3.out) _).setCell (p := ⟨gr, 1, none⟩) (.inr HGR3.out) _).setCell (p := ⟨gr, 2, none⟩) (.inr HGR3.out) _).setCell (p := ⟨gr, 3, none⟩) (.inr HGR3.out) _⟩
  | false =>
    go_upto_region 7 with fail
    rw [hwn]
    clear hb hwn
    refine start_ (n := 17) (ds := ([] : List Nat)) (S := fun W => Below w7.heap.size w7 W) #[false, false, false, false, false, false, false, false, false, false, false, false, false, false, false, false, false] (by kernel_rfl) rfl rfl (below_drew1 (Below.refl w7.heap.size w7)) (fun hHeld => ?_)
    refine with_tabW rrc_tab7 rrc_bits7 (fun HT_ HW_ => ?_)
    refine pure_ (i := 0) (N := (some 29)) (v := ?_) (a' := ?_) #[true, false, false, false, false, false, false, false, false, false, false, false, false, false, false, false, false] rfl rfl (any_of HT_.out (by kernel_rfl)) (fun _ _ _ h => h) (Or.inl ⟨by rfl, ?_⟩) ?_ ?_
    rotate_left
    · intro w'
      go_simp
      with_reducible rfl
    rotate_left
    · simp only [Act.put, List.setIfInBounds_toArray, List.set_cons_zero, List.set_cons_succ, i64_w, i32_w]
      rfl
    refine pure_ (i := 1) (N := (some 30)) (v := ?_) (a' := ?_) #[true, true, false, false, false, false, false, false, false, false, false, false, false, false, false, false, false] rfl rfl (any_of HT_.out (by kernel_rfl)) (fun _ _ _ h => h) (Or.inl ⟨by rfl, ?_⟩) ?_ ?_
    rotate_left
    · intro w'
      go_simp
      with_reducible rfl
    rotate_left
    · simp only [Act.put, List.setIfInBounds_toArray, List.set_cons_zero, List.set_cons_succ, i64_w, i32_w]
      rfl
    refine pure_ (i := 2) (N := (some 31)) (v := ?_) (a' := ?_) #[true, true, true, false, false, false, false, false, false, false, false, false, false, false, false, false, false] rfl rfl (any_of HT_.out (by kernel_rfl)) (fun _ _ _ h => h) (Or.inl ⟨by rfl, ?_⟩) ?_ ?_
    rotate_left
    · intro w'
      go_simp
      with_reducible rfl
    rotate_left
    · simp only [Act.put, List.setIfInBounds_toArray, List.set_cons_zero, List.set_cons_succ, i64_w, i32_w]
      rfl
    refine take_ (i := 3) (N := (some 32)) (v := ?_) (a' := ?_) #[true, true, true, true, false, false, false, false, false, false, false, false, false, false, false, false, false] rfl rfl (take_ofW HT_.out HW_.out (by kernel_rfl)) (fun _ _ _ h => h) (Or.inl ⟨by rfl, ?_⟩) hHeld ?_ ?_
    rotate_left
    · intro w' hS
      have hb := (blk_cell (blk_below HV7.out hS) 0).trans rfl
      go_simp
      with_reducible rfl
    rotate_left
    · simp only [Act.put, List.setIfInBounds_toArray, List.set_cons_zero, List.set_cons_succ, i64_w, i32_w]
      rfl
    refine pure_ (i := 4) (N := (some 33)) (v := ?_) (a' := ?_) #[true, true, true, true, true, false, false, false, false, false, false, false, false, false, false, false, false] rfl rfl (any_of HT_.out (by kernel_rfl)) (fun _ _ _ h => h) (Or.inl ⟨by rfl, ?_⟩) ?_ ?_
    rotate_left
    · intro w'
      go_simp
      with_reducible rfl
    rotate_left
    · simp only [Act.put, List.setIfInBounds_toArray, List.set_cons_zero, List.set_cons_succ, i64_w, i32_w]
      rfl
    refine pure_ (i := 5) (N := (some 34)) (v := ?_) (a' := ?_) #[true, true, true, true, true, true, false, false, false, false, false, false, false, false, false, false, false] rfl rfl (any_of HT_.out (by kernel_rfl)) (fun _ _ _ h => h) (Or.inl ⟨by rfl, ?_⟩) ?_ ?_
    rotate_left
    · intro w'
      go_simp
      with_reducible rfl
    rotate_left
    · simp only [Act.put, List.setIfInBounds_toArray, List.set_cons_zero, List.set_cons_succ, i64_w, i32_w]
      rfl
    refine pure_ (i := 6) (N := (some 35)) (v := ?_) (a' := ?_) #[true, true, true, true, true, true, true, false, false, false, false, false, false, false, false, false, false] rfl rfl (any_of HT_.out (by kernel_rfl)) (fun _ _ _ h => h) (Or.inl ⟨by rfl, ?_⟩) ?_ ?_
    rotate_left
    · intro w'
      go_simp
      with_reducible rfl
    rotate_left
    · simp only [Act.put, List.setIfInBounds_toArray, List.set_cons_zero, List.set_cons_succ, i64_w, i32_w]
      rfl
    refine take_ (i := 7) (N := (some 36)) (v := ?_) (a' := ?_) #[true, true, true, true, true, true, true, true, false, false, false, false, false, false, false, false, false] rfl rfl (take_ofW HT_.out HW_.out (by kernel_rfl)) (fun _ _ _ h => h) (Or.inl ⟨by rfl, ?_⟩) hHeld ?_ ?_
    rotate_left
    · intro w' hS
      have hb := (blk_cell (blk_below HV7.out hS) 1).trans rfl
      go_simp
      with_reducible rfl
    rotate_left
    · simp only [Act.put, List.setIfInBounds_toArray, List.set_cons_zero, List.set_cons_succ, i64_w, i32_w]
      rfl
    refine pure_ (i := 8) (N := (some 37)) (v := ?_) (a' := ?_) #[true, true, true, true, true, true, true, true, true, false, false, false, false, false, false, false, false] rfl rfl (any_of HT_.out (by kernel_rfl)) (fun _ _ _ h => h) (Or.inl ⟨by rfl, ?_⟩) ?_ ?_
    rotate_left
    · intro w'
      go_simp
      with_reducible rfl
    rotate_left
    · simp only [Act.put, List.setIfInBounds_toArray, List.set_cons_zero, List.set_cons_succ, i64_w, i32_w]
      rfl
    refine pure_ (i := 9) (N := (some 38)) (v := ?_) (a' := ?_) #[true, true, true, true, true, true, true, true, true, true, false, false, false, false, false, false, false] rfl rfl (any_of HT_.out (by kernel_rfl)) (fun _ _ _ h => h) (Or.inl ⟨by rfl, ?_⟩) ?_ ?_
    rotate_left
    · intro w'
      go_simp
      with_reducible rfl
    rotate_left
    · simp only [Act.put, List.setIfInBounds_toArray, List.set_cons_zero, List.set_cons_succ, i64_w, i32_w]
      rfl
    refine take_ (i := 10) (N := (some 39)) (v := ?_) (a' := ?_) #[true, true, true, true, true, true, true, true, true, true, true, false, false, false, false, false, false] rfl rfl (take_ofW HT_.out HW_.out (by kernel_rfl)) (fun _ _ _ h => h) (Or.inl ⟨by rfl, ?_⟩) hHeld ?_ ?_
    rotate_left
    · intro w' hS
      have hb := (blk_cell (blk_below HY7.out hS) 1).trans rfl
      go_simp
      with_reducible rfl
    rotate_left
    · simp only [Act.put, List.setIfInBounds_toArray, List.set_cons_zero, List.set_cons_succ, i64_w, i32_w]
      rfl
    refine one_ (i := 11) (N := (some 40)) #[true, true, true, true, true, true, true, true, true, true, true, true, false, false, false, false, false] rfl rfl (one_of HT_.out (by kernel_rfl)) (by decide) (fun K hK => ?_)
    refine goes_ Tryd.func44 (by kernel_rfl) rfl #[.string s, .int .i64 (p1 + 10), .int .i64 n, .int .u16 t] (by rfl) rfl rfl (by (try simp only [List.map_toArray, List.map_cons, List.map_nil]); rfl) ?_
    refine (dread_ s (p1 + 10) n t hs (by have := HP1.out; omega) (by have := HN.out; omega) HTR.out _).mono ?_
    rintro e wq ⟨rfl, hb⟩
    refine ⟨_, rfl, ?_⟩
    refine hK.out _ _ (hHeld.trans (hb.mono hHeld.size)) (fun hHeld => ?_)
    clear hb
    clear hK K
    refine norm_ (a' := ?_) ?_ ?_
    rotate_left
    · show Act.put _ (some 40) _ = _
      simp only [Act.put, List.setIfInBounds_toArray, List.set_cons_zero, List.set_cons_succ, i64_w, i32_w]
      rfl
    refine pure_ (i := 12) (N := (some 28)) (v := ?_) (a' := ?_) #[true, true, true, true, true, true, true, true, true, true, true, true, true, false, false, false, false] rfl rfl (any_of HT_.out (by kernel_rfl)) (fun _ _ _ h => h) (Or.inl ⟨by rfl, ?_⟩) ?_ ?_
    rotate_left
    · intro w'
      go_simp
      with_reducible rfl
    rotate_left
    · simp only [Act.put, List.setIfInBounds_toArray, List.set_cons_zero, List.set_cons_succ, i64_w, i32_w]
      rfl
    refine pure_ (i := 13) (N := (some 41)) (v := ?_) (a' := ?_) #[true, true, true, true, true, true, true, true, true, true, true, true, true, true, false, false, false] rfl rfl (any_of HT_.out (by kernel_rfl)) (fun _ _ _ h => h) (Or.inl ⟨by rfl, ?_⟩) ?_ ?_
    rotate_left
    · intro w'
      go_simp
      with_reducible rfl
    rotate_left
    · simp only [Act.put, List.setIfInBounds_toArray, List.set_cons_zero, List.set_cons_succ, i64_w, i32_w]
      rfl
    refine pure_ (i := 14) (N := (some 42)) (v := ?_) (a' := ?_) #[true, true, true, true, true, true, true, true, true, true, true, true, true, true, true, false, false] rfl rfl (any_of HT_.out (by kernel_rfl)) (fun _ _ _ h => h) (Or.inl ⟨by rfl, ?_⟩) ?_ ?_
    rotate_left
    · intro w'
      go_simp
      with_reducible rfl
    rotate_left
    · simp only [Act.put, List.setIfInBounds_toArray, List.set_cons_zero, List.set_cons_succ, i64_w, i32_w]
      rfl
    refine pure_ (i := 15) (N := (some 7)) (v := ?_) (a' := ?_) #[true, true, true, true, true, true, true, true, true, true, true, true, true, true, true, true, false] rfl rfl (any_of HT_.out (by kernel_rfl)) (fun _ _ _ h => h) (Or.inl ⟨by rfl, ?_⟩) ?_ ?_
    rotate_left
    · intro w'
      go_simp
      with_reducible rfl
    rotate_left
    · simp only [Act.put, List.setIfInBounds_toArray, List.set_cons_zero, List.set_cons_succ, i64_w, i32_w]
      rfl
    refine pure_ (i := 16) (N := (some 8)) (v := ?_) (a' := ?_) #[true, true, true, true, true, true, true, true, true, true, true, true, true, true, true, true, true] rfl rfl (any_of HT_.out (by kernel_rfl)) (fun _ _ _ h => h) (Or.inl ⟨by rfl, ?_⟩) ?_ ?_
    rotate_left
    · intro w'
      go_simp
      with_reducible rfl
    rotate_left
    · simp only [Act.put, List.setIfInBounds_toArray, List.set_cons_zero, List.set_cons_succ, i64_w, i32_w]
      rfl
    refine done_ (done_of HT_.out (by kernel_rfl)) ?_
    obtain ⟨w8, hw8⟩ : ∃ x, wq = x := ⟨_, rfl⟩
    rw [hw8] at hHeld ⊢
    have HX8 := Lib.hid (blk_below HX7.out hHeld)
    have HY8 := Lib.hid (blk_below HY7.out hHeld)
    have HV8 := Lib.hid (blk_below HV7.out hHeld)
    have HT8 := Lib.hid (HT7.out.trans (Turned.of_below hHeld [g]) (fun b hb => .inl hb))
    clear hHeld hw8 HX7 HY7 HV7 HT7
    obtain ⟨D, hD⟩ : ∃ x, (dR s (p1 + 10) n t).1 = x := ⟨_, rfl⟩
    obtain ⟨ok, hok⟩ : ∃ x, (dR s (p1 + 10) n t).2 = x := ⟨_, rfl⟩
    rw [hD, hok]
    have HD := Lib.hid (And.intro hD hok)
    clear hD hok
    have hcx := (blk_cell HY8.out 3).trans rfl
    have hfx := blk_frozen HY8.out 3
    go_upto_region 9 with fail
    clear hcx hfx
    have hX9 := blk_far HX8.out (p := ⟨gx, 3, none⟩) (by have := HGX.out; simp; omega) (.string D)
    have hY9 : XV _ gx (strOfNums nv) t tl D := blk_put HY8.out 3 (.string D) rfl
    have hV9 := blk_far HV8.out (p := ⟨gx, 3, none⟩) (by have := HGX.out; simp; omega) (.string D)
    have hT9 := HT8.out.setCell (p := ⟨gx, 3, none⟩) (.inr HGX.out.2.2) (.string D)
    generalize w8.setCell ⟨gx, 3, none⟩ (.string D) = w9 at hX9 hY9 hV9 hT9 ⊢
    have HX9 := Lib.hid hX9
    have HY9 := Lib.hid hY9
    have HT9 := Lib.hid hT9
    clear hX9 hY9 hT9 HX8 HY8 HV8 HT8
    have hwn : wrap64 (p1 + 10 + n) = p1 + 10 + n := by have := HP1.out; have := HN.out; unfold wrap64; omega
    have hc1 := (blk_cell hV9 1).trans rfl
    have hf1 := blk_frozen hV9 1
    have hV10 := blk_set hV9 1 (.int .i64 (p1 + 10 + n))
    have hc2 := (blk_cell hV10 2).trans rfl
    have hf2 := blk_frozen hV10 2
    have HV11 : Hid (RV ((w9.setCell ⟨g, 1, none⟩ (.int .i64 (p1 + 10 + n))).setCell ⟨g, 2, none⟩ (.bool (!ok))) g s (p1 + 10 + n) (!ok)) := Lib.hid (blk_set hV10 2 (.bool (!ok)))
    clear hV9 hV10
    go_upto_region 10 with fail
    clear hc1 hf1 hc2 hf2 hwn
    have hX11 : XV _ gr { data := #[] } 0 0 { data := #[] } := blk_far (blk_far HX9.out (p := ⟨g, 1, none⟩) (Ne.symm HGR2.out) (.int .i64 (p1 + 10 + n))) (p := ⟨g, 2, none⟩) (Ne.symm HGR2.out) (.bool (!ok))
    have hY11 : XV _ gx (strOfNums nv) t tl D := blk_far (blk_far HY9.out (p := ⟨g, 1, none⟩) (by have := HGX.out; simp; omega) (.int .i64 (p1 + 10 + n))) (p := ⟨g, 2, none⟩) (by have := HGX.out; simp; omega) (.bool (!ok))
    have hT11 := (HT9.out.setCell (p := ⟨g, 1, none⟩) (.inl (by simp)) (.int .i64 (p1 + 10 + n))).setCell (p := ⟨g, 2, none⟩) (.inl (by simp)) (.bool (!ok))
    generalize (w9.setCell ⟨g, 1, none⟩ (.int .i64 (p1 + 10 + n))).setCell ⟨g, 2, none⟩ (.bool (!ok)) = w11 at hX11 hY11 hT11 HV11 ⊢
    have HX11 := Lib.hid hX11
    have HY11 := Lib.hid hY11
    have HT11 := Lib.hid hT11
    have hcs := cells4 HX11.out
    have hfs := froz4 HX11.out
    clear hX11 hY11 hT11 HX9 HY9 HT9
    obtain ⟨hc0, hc1, hc2, hc3⟩ := hcs
    obtain ⟨hf0, hf1, hf2, hf3⟩ := hfs
    go_wp2_with ((with_reducible refine gate_lr (t := 70) rfl ?_); refine wpList_load_row rfl _ _ rfl gx rfl _ _ _ _ HY11.out Tryd.underlying70 rfl (by kernel_rfl) ?_)
    refine bodyPost_ret (results_list (rs := [.cell 2 70, .tmp 3]) rfl (by simp) (.cell gr _ #[.string (strOfNums nv), .int .u16 t, .int .u32 tl, .string D] (0, 0) _ rfl (put4 HX11.out) Tryd.underlying70 rfl (by kernel_rfl) (.tmp .nil))) rfl ?_
    have hr := HRR.out
    unfold rcR at hr
    rw [if_neg (by rw [HB5.out]; decide), HE.out.1, HE.out.2.1, HE2.out.1, HE3.out.1, HE4.out.1, HE5.out.1, HD.out.1, HD.out.2] at hr
    subst hr
    exact ⟨rfl, putF4 HV11.out HGR2.out, (((HT11.out.setCell (p := ⟨gr, 0, none⟩) (.inr HGR3.out) _).setCell (p := ⟨gr, 1, none⟩) (.inr HGR3.out) _).setCell (p := ⟨gr, 2, none⟩) (.inr HGR3.out) _).setCell (p := ⟨gr, 3, none⟩) (.inr HGR3.out) _⟩
end Go.Proofs.YtnikfeaggppmpaaDoor.Rdr
