/- part of a proof; what it has no use for was struck out -/
import Derived.Test.YtnikfeaggppmpaaRdt
namespace Go.Proofs.Ytnikfeaggppmpaa.Wr
open Go.RowKit Go.Proofs.Ytnikfeaggppmpaa.PM Go.Proofs.YtnikfeaggppmpaaW Go.Proofs.YtnikfeaggppmpaaW.PrintWords Go.Proofs.YtnikfeaggppmpaaW.PrintLast Go.Proofs.YtnikfeaggppmpaaW.PrintMore Go.Proofs.Ytnikfeaggppmpaa.Base Go.Proofs.Ytnikfeaggppmpaa.Nam Go.Proofs.Ytnikfeaggppmpaa.Trn Go.Proofs.Ytnikfeaggppmpaa.MapS Go.Proofs.Ytnikfeaggppmpaa.QM
set_option linter.unusedVariables false
set_option linter.unusedSimpArgs false
set_option maxRecDepth 100000
def rwrite_T14 : Bool × List (List Nat × List Nat) := (true, [([], []), ([0], [0]), ([1], [1]), ([2], [2]), ([], []), ([], []), ([5], [5]), ([6], [6]), ([7], [7]), ([], []), ([9], [9]), ([], []), ([11], [11]), ([12], [12]), ([], []), ([14], [14]), ([15], [15]), ([3, 4, 0, 1, 2, 3, 4, 8, 11, 12, 13, 16], [3, 4]), ([17, 13, 0, 1, 2, 3, 4, 8, 11, 12, 13, 16], [13, 17]), ([8, 10, 0, 1, 2, 3, 4, 5, 6, 7, 8, 9, 10, 11, 12, 13, 14, 15, 16, 17, 18], [8, 10]), ([19, 16, 18, 0, 1, 2, 3, 4, 5, 6, 7, 8, 9, 10, 11, 12, 13, 14, 15, 16, 17, 18], [16, 19])])
def rwrite_B14 : List Nat := [0, 1, 3, 7, 0, 0, 32, 96, 224, 0, 512, 0, 2048, 6144, 0, 16384, 49152, 129535, 260607, 524287, 1048575]
theorem rwrite_tab14 : rtab .any (opsOf Try.f26 14) = rwrite_T14 := by kernel_rfl
theorem rwrite_bits14 : waitsOk rwrite_T14.2 rwrite_B14 = true := by kernel_rfl
set_option maxHeartbeats 4000000 in
theorem write_ {w : World} {base g : Nat} {F : List Nat} {bs : List Int} {f : List Int → Option Int} (h : Wr w base g F bs f) (t : Int) (ht : 0 ≤ t ∧ t < 65536) (D : List Int) (h8 : B8 D) (hl : D.length ≤ 1000000000) (hb : bs.length ≤ 10000000000) :
    Calls Try.prog 26 #[.pointer (some ⟨g, 0, none⟩), .int .u16 t, .string (strOfNums D)] w fun e w' => e = .returned (.tuple #[]) ∧ Goes w w' base g F (wrD t (strOfNums D) (bs, f)).1 (wrD t (strOfNums D) (bs, f)).2 := by
  obtain ⟨kM, hkM⟩ := Ev.rounds (mayB_ev t (strOfNums D) (by rw [str_size]; omega))
  have HKM := Lib.hid hkM
  have HG0 := Lib.hid (Goes.refl h)
  have H8 := Lib.hid h8
  clear h hkM h8
  go_enter Try.func26, Try.ntmps26
  go_wp2_with fail
  refine (rdata_May.calls kM t (strOfNums D) _ w HKM.out).mono ?_
  rintro e w1 ⟨rfl, hb1⟩
  have HG1 := Lib.hid (HG0.out.below hb1)
  clear hb1 HG0 HKM
  cases hm : mayB t (strOfNums D) with
  | false =>
    go_wp2
    refine bodyPost_ret (results_none rfl _ _ _) rfl ?_
    have e1 : wrD t (strOfNums D) (bs, f) = (bs, f) := by unfold wrD; rw [hm]; rfl
    rw [e1]
    exact ⟨rfl, HG1.out⟩
  | true =>
    have HMB := Lib.hid hm
    clear hm
    obtain ⟨A, c, hc, hf, ho, hC, hle⟩ := HG1.out.cell
    have HC := Lib.hid hC
    clear ho hC
    go_wp2_with fail
    clear hc hf
    have hC1 := C_one w1 .u16 22 0
    refine (put16_ A c bs _ 1 [0] _ (Kd.C_alloc HC.out _) hle hC1 (by simp) (by simp; omega)).mono ?_
    rintro e w2 ⟨v2, rfl, ho2, hb2⟩
    have hbb : Below w1.heap.size w1 w2 := (below_alloc (Below.refl _ _) _).trans (hb2.mono (by simp))
    have hsz1 : (w1.alloc (.cells #[.int .u16 0] 22)).heap.size = w1.heap.size + 1 := by simp
    obtain ⟨b2, hb2d⟩ : ∃ b2, bs ++ be16 0 = b2 := ⟨_, rfl⟩
    have hbl : b2.length = bs.length + 2 := by rw [← hb2d, List.length_append, be16_len]
    rw [show bs ++ all16 [0] = b2 from hb2d, hsz1] at ho2
    have HG3 := Lib.hid (HG1.out.put hbb (own_lower ho2 (by omega)) (by omega) (by omega))
    obtain ⟨A2, c2, hc2, hf2, -, -, -⟩ := (HG1.out.below hbb).cell
    obtain ⟨A3, c3, hv2⟩ := own_slice ho2
    subst hv2
    have HB2 := Lib.hid hb2d
    have HBL := Lib.hid hbl
    clear hbb hsz1 hb2 ho2 hb2d hbl hC1 HC hle HG1
    go_upto_region 3 with fail
    clear hc2 hf2
    obtain ⟨w3, hw3⟩ : ∃ w3, w2.setCell ⟨g, 0, none⟩ (.slice A3 b2.length c3) = w3 := ⟨_, rfl⟩
    rw [hw3] at HG3 ⊢
    clear hw3
    by_cases h2 : t = 2 ∨ t = 5
    rotate_left
    focus
      by_cases h6 : t = 6
      rotate_left
      focus
        have q2 : (t == 2) = false := beq_eq_false_iff_ne.2 (fun e => h2 (.inl e))
        have q5 : (t == 5) = false := beq_eq_false_iff_ne.2 (fun e => h2 (.inr e))
        have q6 : (t == 6) = false := beq_eq_false_iff_ne.2 h6
        have hdw : datW t (strOfNums D) (b2, f) = (b2 ++ D, f) := by unfold datW; rw [if_neg h2, if_neg h6, bytes_str H8.out]
        obtain ⟨A4, c4, hc4, hf4, ho4, -, -⟩ := HG3.out.cell
        have HO4 := Lib.hid ho4
        have HHC := Lib.hid hc4
        clear ho4
        go_wp2_with (at_builtin; refine app_str base rfl (.tmp 35) (.tmp 36) 40 9 5 rfl Try.underlying40 Try.underlying9 infoB (.slice A4 b2.length c4) b2 D H8.out rfl rfl HO4.out HG3.out.low (by have := HBL.out; omega) ?_)
        intro v5 w4 ho5 hg5 hat5
        rw [← List.length_append] at ho5
        have hcf := HG3.out.grown HHC.out hg5
        have hc5 := hcf.1
        have hf5 := hcf.2
        have HG5 := Lib.hid (HG3.out.app HHC.out hg5 ho5 hat5 (by rw [List.length_append]; omega))
        have HZ := Lib.hid hdw
        obtain ⟨z, hz⟩ : ∃ z, b2 ++ D = z := ⟨_, rfl⟩
        rw [hz] at ho5 HG5 HZ
        obtain ⟨A5, c5, hv5⟩ := own_slice ho5
        subst hv5
        obtain ⟨fz, hfz⟩ : ∃ fz, f = fz := ⟨_, rfl⟩
        rw [hfz] at HG5
        rw [show (z, f) = (z, fz) by rw [hfz]] at HZ
        clear hcf ho5 hg5 hat5 HO4 HHC hc4 hf4 hdw hz HG3 hfz
        go_upto_region 13 with fail
        clear hc5 hf5 q2 q5 q6
        obtain ⟨w5, hw5⟩ : ∃ w5, w4.setCell ⟨g, 0, none⟩ (.slice A5 z.length c5) = w5 := ⟨_, rfl⟩
        rw [hw5] at HG5 ⊢
        clear hw5
      rotate_left
      focus
        subst h6
        obtain ⟨pa, pb, pl, pk, hp⟩ : ∃ a b l k, soaP D = (a, b, l, k) := ⟨_, _, _, _, rfl⟩
        have hk : pk = true := by
          have h := HMB.out
          unfold mayB at h
          rw [bytes_str H8.out, hp] at h
          simpa using h
        subst hk
        obtain ⟨-, -, h20, heq⟩ := soaP_yes hp
        have HA8 : Hid (B8 pa) := Lib.hid (fun y hy => H8.out y (by rw [heq]; simp [hy]))
        have HB8 : Hid (B8 pb) := Lib.hid (fun y hy => H8.out y (by rw [heq]; simp [hy]))
        have HL8 : Hid (B8 pl) := Lib.hid (fun y hy => H8.out y (by rw [heq]; simp [hy]))
        have hle := congrArg List.length heq
        simp only [List.length_append, List.length_cons] at hle
        have HLE : Hid (pa.length ≤ 1000000000 ∧ pb.length ≤ 1000000000 ∧ pl.length ≤ 1000000000) := Lib.hid (by omega)
        obtain ⟨kS, hkS⟩ := Ev.rounds (rsoa_ev (strOfNums D) (by rw [str_size]; omega))
        rw [bytes_str H8.out, hp] at hkS
        have HKS := Lib.hid hkS
        have hdw : datW 6 (strOfNums D) (b2, f) = ((namW pb (namW pa (b2, f))).1 ++ pl, (namW pb (namW pa (b2, f))).2) := by unfold datW; rw [if_neg h2, if_pos rfl, bytes_str H8.out, hp]
        have hn1 := namW_len pa (b2, f)
        have hn2 := namW_len pb (namW pa (b2, f))
        obtain ⟨⟨z1, f1⟩, hz1⟩ : ∃ s, namW pa (b2, f) = s := ⟨_, rfl⟩
        rw [hz1] at hdw hn1 hn2
        obtain ⟨⟨z2, fz⟩, hz2⟩ : ∃ s, namW pb (z1, f1) = s := ⟨_, rfl⟩
        rw [hz2] at hdw hn2
        obtain ⟨z, hz⟩ : ∃ z, z2 ++ pl = z := ⟨_, rfl⟩
        have hdw' : datW 6 (strOfNums D) (b2, f) = (z, fz) := by rw [hdw, ← hz]
        have HZ := Lib.hid hdw'
        have HZ1 := Lib.hid hz1
        have HZ2 := Lib.hid hz2
        have HZZ := Lib.hid hz
        have HN1 : Hid (z1.length ≤ b2.length + 256 ∧ z2.length ≤ b2.length + 512) := Lib.hid (by simp only at hn1 hn2; omega)
        clear hdw hdw' hz hz1 hz2 hn1 hn2 hkS hle hp heq h20
        go_wp2_with fail
        refine (rdata_soa.calls kS (strOfNums D) (strOfNums pa) (strOfNums pb) (strOfNums pl) true w3 HKS.out).mono ?_
        rintro e w4 ⟨rfl, hb4⟩
        obtain ⟨F4, hW4, hs4, hT4⟩ := HG3.out.below hb4
        have HS4 := Lib.hid hs4
        have HT4 := Lib.hid hT4
        have HW4 := Lib.hid hW4
        clear hb4 HG3 hs4 hT4 hW4 HKS
        go_wp2_with fail
        refine (name_ HW4.out pa HA8.out HLE.out.1 (by have := HBL.out; omega)).mono ?_
        rintro e w6 ⟨rfl, hg⟩
        rw [HZ1.out] at hg
        obtain ⟨F6, hW6, hs6, hT6⟩ := Goes.step HW4.out HS4.out HT4.out hg
        have HS6 := Lib.hid hs6
        have HT6 := Lib.hid hT6
        have HW6 := Lib.hid hW6
        clear hg HZ1 HS4 HT4 HW4 hs6 hT6 hW6
        go_wp2_with fail
        refine (name_ HW6.out pb HB8.out HLE.out.2.1 (by have := HBL.out; have := HN1.out.1; omega)).mono ?_
        rintro e w7 ⟨rfl, hg⟩
        rw [HZ2.out] at hg
        have HG7 := Lib.hid (Goes.step HW6.out HS6.out HT6.out hg)
        clear hg HZ2 HS6 HT6 HW6
        obtain ⟨A4, c4, hc4, hf4, ho4, -, -⟩ := HG7.out.cell
        have HO4 := Lib.hid ho4
        have HHC := Lib.hid hc4
        clear ho4
        go_wp2_with (at_builtin; refine app_str base rfl (.tmp 65) (.tmp 66) 40 9 5 rfl Try.underlying40 Try.underlying9 infoB (.slice A4 z2.length c4) z2 pl HL8.out rfl rfl HO4.out HG7.out.low (by have := HBL.out; have := HN1.out.2; have := HLE.out.2.2; omega) ?_)
        intro v5 w4 ho5 hg5 hat5
        rw [← List.length_append] at ho5
        have hcf := HG7.out.grown HHC.out hg5
        have hc5 := hcf.1
        have hf5 := hcf.2
        have HG5 := Lib.hid (HG7.out.app HHC.out hg5 ho5 hat5 (by rw [List.length_append]; omega))
        rw [HZZ.out] at ho5 HG5
        obtain ⟨A5, c5, hv5⟩ := own_slice ho5
        subst hv5
        clear hcf ho5 hg5 hat5 HO4 HHC hc4 hf4 HG7 HZZ HN1 HLE HA8 HB8 HL8
        go_upto_region 13 with fail
        clear hc5 hf5
        obtain ⟨w5, hw5⟩ : ∃ w5, w4.setCell ⟨g, 0, none⟩ (.slice A5 z.length c5) = w5 := ⟨_, rfl⟩
        rw [hw5] at HG5 ⊢
        clear hw5
    rotate_left 2
    focus
      have hdw : datW t (strOfNums D) (b2, f) = namW D (b2, f) := by unfold datW; rw [if_pos h2, bytes_str H8.out]
      obtain ⟨F3, hW3, hs3, hT3⟩ := HG3.out
      have HS3 := Lib.hid hs3
      have HT3 := Lib.hid hT3
      have HW3 := Lib.hid hW3
      obtain ⟨⟨z, fz⟩, hz⟩ : ∃ s, namW D (b2, f) = s := ⟨_, rfl⟩
      rw [hz] at hdw
      have HNZ := Lib.hid hz
      have HZ := Lib.hid hdw
      clear hdw hz hs3 hT3 hW3 HG3
      rcases h2 with rfl | rfl
      all_goals
        go_wp2_with fail
        refine (name_ HW3.out D H8.out hl (by have := HBL.out; omega)).mono ?_
        rintro e w5 ⟨rfl, hg⟩
        rw [HNZ.out] at hg
        have HG5 := Lib.hid (Goes.step HW3.out HS3.out HT3.out hg)
        clear hg HNZ HS3 HT3 HW3
        go_upto_region 13 with fail
    all_goals
      obtain ⟨A6, c6, hc6, -, -, -, -⟩ := HG5.out.cell
      have hzl : bs.length + 2 ≤ z.length ∧ z.length ≤ 20000000000 := by
        have h := datW_len HMB.out (b2, f)
        rw [HZ.out] at h
        have := HBL.out
        simp only at h
        omega
      obtain ⟨k, hk⟩ : ∃ k, z.length = bs.length + 2 + k := ⟨z.length - bs.length - 2, by omega⟩
      have hs1 : wrap64 ((z.length : Int) - (bs.length : Int)) = ((k + 2 : Nat) : Int) := by unfold wrap64; omega
      have hs2 : wrap64 (k : Int) = (k : Int) := by unfold wrap64; omega
      obtain ⟨m, hm⟩ : ∃ m : Int, (k : Int) % 65536 = m := ⟨_, rfl⟩
      have hs3 : IntKind.u16.wrap (k : Int) = m := by rw [IntKind.wrap_u16]; exact hm
      have HK := Lib.hid hk
      have HM := Lib.hid hm
      have HZL := Lib.hid hzl
      clear hk hm hzl
      go_wp2_with fail
      clear hs1 hs2 hs3 hc6
      refine (put16_ none 0 [] _ 1 [m] _ (Kd.C_nil _ _) (Nat.zero_le _) (C_one w5 .u16 22 m) (by simp) (by simp)).mono ?_
      rintro e w7 ⟨v7, rfl, ho7, hb7⟩
      have hbb : Below w5.heap.size w5 w7 := (below_alloc (Below.refl _ _) _).trans (hb7.mono (by simp))
      have HG7 := Lib.hid (HG5.out.below hbb)
      obtain ⟨gn, cn, hv7, hn0, hn1, hcn⟩ := own_two (x := m / 256 % 256) (y := m % 256) ho7
      subst hv7
      have HN0 := Lib.hid hn0
      have HN1 := Lib.hid hn1
      clear ho7 hb7 hbb hn0 hn1 HG5
      go_upto_region 14 with fail
      obtain ⟨A8, c8, hc8, -, -, -, -⟩ := HG7.out.cell
      obtain ⟨gb, hA8, -⟩ := HG7.out.set hc8 bs.length (by have := HZL.out; omega)
      subst hA8
      have HC7 := Lib.hid hc8
      have HW1 : Hid (wrap64 ((bs.length : Int) + 1) = (bs.length : Int) + 1) := Lib.hid (by unfold wrap64; omega)
      have h1i : (bs.length : Int) < (z.length : Int) := by have := HZL.out; omega
      have h1j : (bs.length : Int) + 1 < (z.length : Int) := by have := HZL.out; omega
      have h1k : ((bs.length : Int) + 1).toNat = bs.length + 1 := by omega
      clear hc8
      refine start_ (n := 21) (ds := [18, 20]) (S := fun W => Below w7.heap.size w7 W) #[false, false, false, false, false, false, false, false, false, false, false, false, false, false, false, false, false, false, false, false, false] (by kernel_rfl) rfl rfl (below_drew1 (Below.refl w7.heap.size w7)) (fun hHeld => ?_)
      refine with_tabW rwrite_tab14 rwrite_bits14 (fun HT_ HW_ => ?_)
      obtain ⟨w8, hw8⟩ : ∃ w8, w7.drew = w8 := ⟨_, rfl⟩
      rw [hw8] at hHeld ⊢
      clear hw8
      refine pure_ (i := 0) (N := (some 81)) (v := ?_) (a' := ?_) #[true, false, false, false, false, false, false, false, false, false, false, false, false, false, false, false, false, false, false, false, false] rfl rfl (any_of HT_.out (by kernel_rfl)) (fun _ _ _ h => h) (Or.inl ⟨by rfl, ?_⟩) ?_ ?_
      rotate_left
      · intro w'
        go_simp
        with_reducible rfl
      rotate_left
      · simp only [Act.put, List.setIfInBounds_toArray, List.set_cons_zero, List.set_cons_succ, i64_w, i32_w]
        rfl
      refine pure_ (i := 1) (N := (some 82)) (v := ?_) (a' := ?_) #[true, true, false, false, false, false, false, false, false, false, false, false, false, false, false, false, false, false, false, false, false] rfl rfl (any_of HT_.out (by kernel_rfl)) (fun _ _ _ h => h) (Or.inl ⟨by rfl, ?_⟩) ?_ ?_
      rotate_left
      · intro w'
        go_simp
        with_reducible rfl
      rotate_left
      · simp only [Act.put, List.setIfInBounds_toArray, List.set_cons_zero, List.set_cons_succ, i64_w, i32_w]
        rfl
      refine pure_ (i := 2) (N := (some 83)) (v := ?_) (a' := ?_) #[true, true, true, false, false, false, false, false, false, false, false, false, false, false, false, false, false, false, false, false, false] rfl rfl (any_of HT_.out (by kernel_rfl)) (fun _ _ _ h => h) (Or.inl ⟨by rfl, ?_⟩) ?_ ?_
      rotate_left
      · intro w'
        go_simp
        with_reducible rfl
      rotate_left
      · simp only [Act.put, List.setIfInBounds_toArray, List.set_cons_zero, List.set_cons_succ, i64_w, i32_w]
        rfl
      refine take_ (i := 3) (N := (some 84)) (v := ?_) (a' := ?_) #[true, true, true, true, false, false, false, false, false, false, false, false, false, false, false, false, false, false, false, false, false] rfl rfl (take_ofW HT_.out HW_.out (by kernel_rfl)) (fun _ _ _ h => h) (Or.inl ⟨by rfl, ?_⟩) hHeld ?_ ?_
      rotate_left
      · intro w' hS
        have hc := (hS.cell (World.block_lt_of_cell? w7 _ HC7.out)).trans HC7.out
        go_simp
        with_reducible rfl
      rotate_left
      · simp only [Act.put, List.setIfInBounds_toArray, List.set_cons_zero, List.set_cons_succ, i64_w, i32_w]
        rfl
      refine pure_ (i := 4) (N := (some 85)) (v := ?_) (a' := ?_) #[true, true, true, true, true, false, false, false, false, false, false, false, false, false, false, false, false, false, false, false, false] rfl rfl (any_of HT_.out (by kernel_rfl)) (fun _ _ _ h => h) (Or.inl ⟨by rfl, ?_⟩) ?_ ?_
      rotate_left
      · intro w'
        go_simp
        with_reducible rfl
      rotate_left
      · simp only [Act.put, List.setIfInBounds_toArray, List.set_cons_zero, List.set_cons_succ, i64_w, i32_w]
        rfl
      refine pure_ (i := 5) (N := (some 86)) (v := ?_) (a' := ?_) #[true, true, true, true, true, true, false, false, false, false, false, false, false, false, false, false, false, false, false, false, false] rfl rfl (any_of HT_.out (by kernel_rfl)) (fun _ _ _ h => h) (Or.inl ⟨by rfl, ?_⟩) ?_ ?_
      rotate_left
      · intro w'
        go_simp
        with_reducible rfl
      rotate_left
      · simp only [Act.put, List.setIfInBounds_toArray, List.set_cons_zero, List.set_cons_succ, i64_w, i32_w]
        rfl
      refine pure_ (i := 6) (N := (some 87)) (v := ?_) (a' := ?_) #[true, true, true, true, true, true, true, false, false, false, false, false, false, false, false, false, false, false, false, false, false] rfl rfl (any_of HT_.out (by kernel_rfl)) (fun _ _ _ h => h) (Or.inl ⟨by rfl, ?_⟩) ?_ ?_
      rotate_left
      · intro w'
        go_simp
        with_reducible rfl
      rotate_left
      · simp only [Act.put, List.setIfInBounds_toArray, List.set_cons_zero, List.set_cons_succ, i64_w, i32_w]
        rfl
      refine pure_ (i := 7) (N := (some 88)) (v := ?_) (a' := ?_) #[true, true, true, true, true, true, true, true, false, false, false, false, false, false, false, false, false, false, false, false, false] rfl rfl (any_of HT_.out (by kernel_rfl)) (fun _ _ _ h => h) (Or.inl ⟨by rfl, ?_⟩) ?_ ?_
      rotate_left
      · intro w'
        go_simp
        with_reducible rfl
      rotate_left
      · simp only [Act.put, List.setIfInBounds_toArray, List.set_cons_zero, List.set_cons_succ, i64_w, i32_w]
        rfl
      refine take_ (i := 8) (N := (some 89)) (v := ?_) (a' := ?_) #[true, true, true, true, true, true, true, true, true, false, false, false, false, false, false, false, false, false, false, false, false] rfl rfl (take_ofW HT_.out HW_.out (by kernel_rfl)) (fun _ _ _ h => h) (Or.inl ⟨by rfl, ?_⟩) hHeld ?_ ?_
      rotate_left
      · intro w' hS
        have hc := (hS.cell (World.block_lt_of_cell? w7 _ HC7.out)).trans HC7.out
        go_simp
        with_reducible rfl
      rotate_left
      · simp only [Act.put, List.setIfInBounds_toArray, List.set_cons_zero, List.set_cons_succ, i64_w, i32_w]
        rfl
      refine pure_ (i := 9) (N := (some 90)) (v := ?_) (a' := ?_) #[true, true, true, true, true, true, true, true, true, true, false, false, false, false, false, false, false, false, false, false, false] rfl rfl (any_of HT_.out (by kernel_rfl)) (fun _ _ _ h => h) (Or.inl ⟨by rfl, ?_⟩) ?_ ?_
      rotate_left
      · intro w'
        go_simp
        with_reducible rfl
      rotate_left
      · simp only [Act.put, List.setIfInBounds_toArray, List.set_cons_zero, List.set_cons_succ, i64_w, i32_w]
        rfl
      refine pure_ (i := 10) (N := (some 91)) (v := ?_) (a' := ?_) #[true, true, true, true, true, true, true, true, true, true, true, false, false, false, false, false, false, false, false, false, false] rfl rfl (any_of HT_.out (by kernel_rfl)) (fun _ _ _ h => h) (Or.inl ⟨by rfl, ?_⟩) ?_ ?_
      rotate_left
      · intro w'
        go_simp
        try simp only [HW1.out]
        with_reducible rfl
      rotate_left
      · simp only [Act.put, List.setIfInBounds_toArray, List.set_cons_zero, List.set_cons_succ, i64_w, i32_w]
        rfl
      refine pure_ (i := 11) (N := (some 92)) (v := ?_) (a' := ?_) #[true, true, true, true, true, true, true, true, true, true, true, true, false, false, false, false, false, false, false, false, false] rfl rfl (any_of HT_.out (by kernel_rfl)) (fun _ _ _ h => h) (Or.inl ⟨by rfl, ?_⟩) ?_ ?_
      rotate_left
      · intro w'
        go_simp
        with_reducible rfl
      rotate_left
      · simp only [Act.put, List.setIfInBounds_toArray, List.set_cons_zero, List.set_cons_succ, i64_w, i32_w]
        rfl
      refine pure_ (i := 12) (N := (some 93)) (v := ?_) (a' := ?_) #[true, true, true, true, true, true, true, true, true, true, true, true, true, false, false, false, false, false, false, false, false] rfl rfl (any_of HT_.out (by kernel_rfl)) (fun _ _ _ h => h) (Or.inl ⟨by rfl, ?_⟩) ?_ ?_
      rotate_left
      · intro w'
        go_simp
        with_reducible rfl
      rotate_left
      · simp only [Act.put, List.setIfInBounds_toArray, List.set_cons_zero, List.set_cons_succ, i64_w, i32_w]
        rfl
      refine take_ (i := 13) (N := (some 94)) (v := ?_) (a' := ?_) #[true, true, true, true, true, true, true, true, true, true, true, true, true, true, false, false, false, false, false, false, false] rfl rfl (take_ofW HT_.out HW_.out (by kernel_rfl)) (fun _ _ _ h => h) (Or.inl ⟨by rfl, ?_⟩) hHeld ?_ ?_
      rotate_left
      · intro w' hS
        have hc := (hS.cell (World.block_lt_of_cell? w7 _ HN0.out)).trans HN0.out
        go_simp
        with_reducible rfl
      rotate_left
      · simp only [Act.put, List.setIfInBounds_toArray, List.set_cons_zero, List.set_cons_succ, i64_w, i32_w]
        rfl
      refine pure_ (i := 14) (N := (some 95)) (v := ?_) (a' := ?_) #[true, true, true, true, true, true, true, true, true, true, true, true, true, true, true, false, false, false, false, false, false] rfl rfl (any_of HT_.out (by kernel_rfl)) (fun _ _ _ h => h) (Or.inl ⟨by rfl, ?_⟩) ?_ ?_
      rotate_left
      · intro w'
        go_simp
        with_reducible rfl
      rotate_left
      · simp only [Act.put, List.setIfInBounds_toArray, List.set_cons_zero, List.set_cons_succ, i64_w, i32_w]
        rfl
      refine pure_ (i := 15) (N := (some 96)) (v := ?_) (a' := ?_) #[true, true, true, true, true, true, true, true, true, true, true, true, true, true, true, true, false, false, false, false, false] rfl rfl (any_of HT_.out (by kernel_rfl)) (fun _ _ _ h => h) (Or.inl ⟨by rfl, ?_⟩) ?_ ?_
      rotate_left
      · intro w'
        go_simp
        with_reducible rfl
      rotate_left
      · simp only [Act.put, List.setIfInBounds_toArray, List.set_cons_zero, List.set_cons_succ, i64_w, i32_w]
        rfl
      refine take_ (i := 16) (N := (some 97)) (v := ?_) (a' := ?_) #[true, true, true, true, true, true, true, true, true, true, true, true, true, true, true, true, true, false, false, false, false] rfl rfl (take_ofW HT_.out HW_.out (by kernel_rfl)) (fun _ _ _ h => h) (Or.inl ⟨by rfl, ?_⟩) hHeld ?_ ?_
      rotate_left
      · intro w' hS
        have hc := (hS.cell (World.block_lt_of_cell? w7 _ HN1.out)).trans HN1.out
        go_simp
        with_reducible rfl
      rotate_left
      · simp only [Act.put, List.setIfInBounds_toArray, List.set_cons_zero, List.set_cons_succ, i64_w, i32_w]
        rfl
      refine pure_ (i := 17) (N := (some 98)) (v := ?_) (a' := ?_) #[true, true, true, true, true, true, true, true, true, true, true, true, true, true, true, true, true, true, false, false, false] rfl rfl (any_of HT_.out (by kernel_rfl)) (fun _ _ _ h => h) (Or.inl ⟨by rfl, ?_⟩) ?_ ?_
      rotate_left
      · intro w'
        go_simp
        try simp only [h1k, add_z]
        with_reducible rfl
      rotate_left
      · simp only [Act.put, List.setIfInBounds_toArray, List.set_cons_zero, List.set_cons_succ, i64_w, i32_w]
        rfl
      have HG8 := Lib.hid (HG7.out.below hHeld)
      have hc8 := (hHeld.cell (World.block_lt_of_cell? w7 _ HC7.out)).trans HC7.out
      obtain ⟨gb2, hA8, hci, hfi, hset⟩ := HG8.out.set hc8 bs.length (by have := HZL.out; omega)
      obtain rfl : gb = gb2 := by injection hA8 with e; injection e
      obtain ⟨hG9, hc9⟩ := hset (m / 256 % 256)
      have HG9 := Lib.hid hG9
      have HC9 := Lib.hid hc9
      clear hset hG9 hc9 hA8 hc8
      refine last_ (i := 18) (N := none) #[true, true, true, true, true, true, true, true, true, true, true, true, true, true, true, true, true, true, true, false, false] rfl rfl (one_of HT_.out (by kernel_rfl)) (by decide) (fun K hK => ?_)
      go_simp
      refine hK.out _ _ ?_
      clear hK K
      obtain ⟨w9, hw9⟩ : ∃ w9, w8.setCell ⟨gb, bs.length, none⟩ (.int .u8 (m / 256 % 256)) = w9 := ⟨_, rfl⟩
      rw [hw9] at HG9 HC9 ⊢
      clear hw9 hci hfi HG8 hHeld
      refine pure_ (i := 19) (N := (some 99)) (v := ?_) (a' := ?_) #[true, true, true, true, true, true, true, true, true, true, true, true, true, true, true, true, true, true, true, true, false] rfl rfl (any_of HT_.out (by kernel_rfl)) (fun _ _ _ h => h) (Or.inl ⟨by rfl, ?_⟩) ?_ ?_
      rotate_left
      · intro w'
        go_simp
        simp only [HW1.out, h1k]
        rw [if_pos ⟨by omega, h1j⟩]
      rotate_left
      · simp only [Act.put, List.setIfInBounds_toArray, List.set_cons_zero, List.set_cons_succ, i64_w, i32_w]
        rfl
      have hl9 : (z.set bs.length (m / 256 % 256)).length = z.length := List.length_set
      have hc9 := HC9.out
      rw [← hl9] at hc9
      obtain ⟨gb2, hA8, hci, hfi, hset⟩ := HG9.out.set hc9 (bs.length + 1) (by rw [hl9]; have := HZL.out; omega)
      obtain rfl : gb = gb2 := by injection hA8 with e; injection e
      obtain ⟨hG9, -⟩ := hset (m % 256)
      have HG10 := Lib.hid hG9
      clear hset hG9 hc9 hA8
      refine last_ (i := 20) (N := none) #[true, true, true, true, true, true, true, true, true, true, true, true, true, true, true, true, true, true, true, true, true] rfl rfl (one_of HT_.out (by kernel_rfl)) (by decide) (fun K hK => ?_)
      go_simp
      refine hK.out _ _ ?_
      clear hK K
      refine done_ (done_of HT_.out (by kernel_rfl)) ?_
      (try go_wp2)
      go_end0
      have e1 : ∀ t, (mayB t (strOfNums D) = true) → datW t (strOfNums D) (b2, f) = (z, fz) → wrD t (strOfNums D) (bs, f) = ((z.set bs.length (m / 256 % 256)).set (bs.length + 1) (m % 256), fz) := fun t h1 h2 => by
        unfold wrD
        rw [if_pos h1]
        simp only [HB2.out, h2]
        rw [show ((z.length : Int) - bs.length - 2) % 65536 = m by rw [HK.out, ← HM.out]; omega]
        have := HM.out
        rw [show m / 256 % 256 = m / 256 by omega]
        rfl
      rw [e1 _ HMB.out HZ.out]
      exact ⟨rfl, HG10.out⟩
end Go.Proofs.Ytnikfeaggppmpaa.Wr
