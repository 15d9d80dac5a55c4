/- part of a proof; what it has no use for was struck out -/
import Derived.Test.YtnikfeaggppmpaaDoorRdn
import Derived.Test.YtnikfeaggppmpaaDoorRdt
import Derived.Test.YtnikfeaggppmpaaDoorPMx7
namespace Go.Proofs.YtnikfeaggppmpaaDoor.Rdr
open Go.RowKit Go.Proofs.YtnikfeaggppmpaaDoor.PM Go.Proofs.YtnikfeaggppmpaaDoorW Go.Proofs.YtnikfeaggppmpaaDoorW.PrintWords Go.Proofs.YtnikfeaggppmpaaDoorW.PrintLast Go.Proofs.YtnikfeaggppmpaaDoorW.PrintMore Go.Proofs.YtnikfeaggppmpaaDoor.Base Go.Proofs.YtnikfeaggppmpaaDoor.Trn Go.Proofs.YtnikfeaggppmpaaDoor.QM Go.Proofs.YtnikfeaggppmpaaDoor.Nam Go.Proofs.YtnikfeaggppmpaaDoor.Rd Go.Proofs.YtnikfeaggppmpaaDoor.Wr
set_option linter.unusedVariables false
set_option linter.unusedSimpArgs false
set_option maxRecDepth 100000
def sub (s : ByteArray) (p n : Int) : ByteArray := s.extract p.toNat (p + n).toNat
noncomputable def dR (s : ByteArray) (p n t : Int) : ByteArray × Bool :=
  if (s.size : Int) - n < p then (⟨#[]⟩, false)
  else if t = 2 ∨ t = 5 then if (nmR s p).2.2 = true ∧ (nmR s p).2.1 = p + n then (strOfNums (nmR s p).1, true) else (⟨#[]⟩, false)
  else if t = 6 then if (nmR s p).2.2 = true ∧ (nmR s (nmR s p).2.1).2.2 = true ∧ (nmR s (nmR s p).2.1).2.1 + 20 = p + n then ((strOfNums (nmR s p).1 ++ ⟨#[0]⟩) ++ (strOfNums (nmR s (nmR s p).2.1).1 ++ ⟨#[0]⟩) ++ sub s (nmR s (nmR s p).2.1).2.1 20, true) else (⟨#[]⟩, false)
  else if mayB t (sub s p n) = true then (sub s p n, true) else (⟨#[]⟩, false)
theorem nmR_len (m : ByteArray) (p : Int) : (nmR m p).1.length ≤ 254 := by
  unfold nmR
  cases rdF m p with
  | none => exact Nat.zero_le _
  | some r =>
    obtain ⟨L, E⟩ := r
    unfold rdV
    simp only
    split
    · rename_i hk
      exact ((mkOk_iff _).1 hk).2
    · exact Nat.zero_le _
def rdd_T16 : Bool × List (List Nat × List Nat) := (true, [([], []), ([0], [0]), ([], []), ([2, 1], [2]), ([1, 3], [1, 3]), ([], []), ([], []), ([], []), ([7], [7]), ([5, 6, 8], [5, 6, 8]), ([4, 9], [4, 9]), ([10, 3, 0, 1, 2, 3, 4, 5, 6, 7, 8, 9, 10], [10]), ([11, 0, 1, 2, 3, 4, 5, 6, 7, 8, 9, 10, 11], [])])
def rdd_B16 : List Nat := [0, 1, 0, 7, 15, 0, 0, 0, 128, 480, 1023, 2047, 4095]
theorem rdd_tab16 : rtab .any (opsOf Tryd.f44 16) = rdd_T16 := by kernel_rfl
theorem rdd_bits16 : waitsOk rdd_T16.2 rdd_B16 = true := by kernel_rfl
set_option maxHeartbeats 8000000 in
theorem dread_ (s : ByteArray) (p n t : Int) (hs : s.size ≤ 1000000000) (hp : 0 ≤ p ∧ p ≤ 1000000000000) (hn : 0 ≤ n ∧ n ≤ 65535) (ht : 0 ≤ t ∧ t < 65536) (w : World) :
    Calls Tryd.prog 44 #[.string s, .int .i64 p, .int .i64 n, .int .u16 t] w fun e w' => e = .returned (.tuple #[.string (dR s p n t).1, .bool (dR s p n t).2]) ∧ Below w.heap.size w w' := by
  obtain ⟨q, rfl⟩ : ∃ q : Nat, p = q := ⟨p.toNat, by omega⟩
  obtain ⟨m, rfl⟩ : ∃ m : Nat, n = m := ⟨n.toNat, by omega⟩
  obtain ⟨r, hr⟩ : ∃ r, dR s q m t = r := ⟨_, rfl⟩
  rw [hr]
  unfold dR at hr
  have HB := Lib.hid (Below.refl w.heap.size w)
  have d1 : decide ((q : Int) < 0) = false := decide_eq_false (by omega)
  have d2 : decide ((m : Int) < 0) = false := decide_eq_false (by omega)
  by_cases c1 : (s.size : Int) - m < (q : Int)
  · rw [if_pos c1] at hr
    subst hr
    have d3 : decide ((s.size : Int) - m < (q : Int)) = true := decide_eq_true c1
    go_enter Tryd.func44, Tryd.ntmps44
    go_wp2
    go_ret2
    exact ⟨rfl, HB.out⟩
  rw [if_neg c1] at hr
  have d3 : decide ((s.size : Int) - m < (q : Int)) = false := decide_eq_false c1
  have hle : q + m ≤ s.size := by omega
  have hO : sub s q m = s.extract q (q + m) := by
    unfold sub
    rw [show ((q : Int) + (m : Int)).toNat = q + m by omega]
    rfl
  have hOs : (s.extract q (q + m)).size ≤ 1000000000 := by simp; omega
  rw [hO] at hr
  have HLE := Lib.hid hle
  have HOS := Lib.hid hOs
  clear hO hOs c1
  by_cases h2 : t = 2 ∨ t = 5
  · rw [if_pos h2] at hr
    have hrng := nmR_rng s q
    have HH := Lib.hid hr
    have HRNG := Lib.hid hrng
    clear hr hrng
    rcases h2 with rfl | rfl
    all_goals
      go_enter Tryd.func44, Tryd.ntmps44
      go_wp2_with fail
      refine (readV_ s q hs (by omega) _).mono ?_
      rintro e w2 ⟨rfl, hb⟩
      have HB2 := Lib.hid (HB.out.trans hb)
      clear hb d1 d2 d3
      have hr := HH.out
      have hE2 := HRNG.out
      clear HH HRNG
      obtain ⟨nv, hnv⟩ : ∃ n, (nmR s q).1 = n := ⟨_, rfl⟩
      obtain ⟨E, hE⟩ : ∃ n, (nmR s q).2.1 = n := ⟨_, rfl⟩
      obtain ⟨ok, hokk⟩ : ∃ b, (nmR s q).2.2 = b := ⟨_, rfl⟩
      rw [hnv, hE, hokk] at hr ⊢
      rw [hE] at hE2
      clear hnv hE hokk
      cases ok with
      | false =>
        rw [if_neg (by simp)] at hr
        subst hr
        go_wp2
        go_ret2
        exact ⟨rfl, HB2.out⟩
      | true =>
        by_cases c : E = (q : Int) + (m : Int)
        · rw [if_pos ⟨rfl, c⟩] at hr
          subst hr
          have q1 : (E == (q : Int) + (m : Int)) = true := beq_iff_eq.2 c
          have q2 : decide (E = (q : Int) + (m : Int)) = true := decide_eq_true c
          clear c hE2
          go_wp2
          go_ret2
          exact ⟨rfl, HB2.out⟩
        · rw [if_neg (fun h => c h.2)] at hr
          subst hr
          have q1 : (E == (q : Int) + (m : Int)) = false := beq_eq_false_iff_ne.2 c
          have q2 : decide (E = (q : Int) + (m : Int)) = false := decide_eq_false c
          clear c hE2
          go_wp2
          go_ret2
          exact ⟨rfl, HB2.out⟩
  rw [if_neg h2] at hr
  have q2 : (t == 2) = false := beq_eq_false_iff_ne.2 (fun e => h2 (.inl e))
  have q5 : (t == 5) = false := beq_eq_false_iff_ne.2 (fun e => h2 (.inr e))
  by_cases h6 : t = 6
  rotate_left
  · rw [if_neg h6] at hr
    have q6 : (t == 6) = false := beq_eq_false_iff_ne.2 h6
    obtain ⟨kM, hkM⟩ := Ev.rounds (mayB_ev t (s.extract q (q + m)) HOS.out)
    have HKM := Lib.hid hkM
    have HH := Lib.hid hr
    clear hkM hr h2 h6
    go_enter Tryd.func44, Tryd.ntmps44
    go_wp2_with fail
    refine (rdata_May.calls kM t (s.extract q (q + m)) _ _ HKM.out).mono ?_
    rintro e w2 ⟨rfl, hb⟩
    have HB2 := Lib.hid (HB.out.trans hb)
    have hr := HH.out
    clear hb HKM HH d1 d2 d3 q2 q5 q6
    cases hm : mayB t (s.extract q (q + m)) with
    | false =>
      rw [hm, if_neg (by simp)] at hr
      subst hr
      clear hm
      go_wp2
      go_ret2
      exact ⟨rfl, HB2.out⟩
    | true =>
      rw [hm, if_pos rfl] at hr
      subst hr
      clear hm
      go_wp2
      go_ret2
      exact ⟨rfl, HB2.out⟩
  subst h6
  rw [if_pos rfl] at hr
  have hrng := nmR_rng s q
  have hrng2 := nmR_rng s (nmR s q).2.1
  have hl1 := nmR_len s q
  have hl2 := nmR_len s (nmR s q).2.1
  have HH := Lib.hid hr
  have HRNG := Lib.hid hrng
  have HRNG2 := Lib.hid hrng2
  have HN1 := Lib.hid hl1
  have HN2 := Lib.hid hl2
  clear hr hrng hrng2 hl1 hl2 h2 q2 q5
  go_enter Tryd.func44, Tryd.ntmps44
  go_wp2_with fail
  refine (readV_ s q hs (by omega) _).mono ?_
  rintro e w1 ⟨rfl, hb⟩
  have HB1 := Lib.hid (HB.out.trans hb)
  have hr := HH.out
  have hE1 := HRNG.out
  have hE2 := HRNG2.out
  have hl1 := HN1.out
  have hl2 := HN2.out
  clear hb d1 d2 d3 HH HRNG HRNG2 HN1 HN2
  obtain ⟨a, ha⟩ : ∃ n, (nmR s q).1 = n := ⟨_, rfl⟩
  obtain ⟨E, hE⟩ : ∃ n, (nmR s q).2.1 = n := ⟨_, rfl⟩
  obtain ⟨ok, hokk⟩ : ∃ b, (nmR s q).2.2 = b := ⟨_, rfl⟩
  rw [ha, hE, hokk] at hr ⊢
  rw [hE] at hE1 hE2 hl2
  rw [ha] at hl1
  clear ha hE hokk
  have HH := Lib.hid hr
  have HRNG := Lib.hid hE1
  have HRNG2 := Lib.hid hE2
  have HNa := Lib.hid hl1
  have HN2 := Lib.hid hl2
  clear hr hE1 hE2 hl1 hl2
  go_wp2_with fail
  refine (readV_ s E hs (by have := HRNG.out; omega) _).mono ?_
  rintro e w2 ⟨rfl, hb⟩
  have HB2 := Lib.hid (HB1.out.trans (hb.mono HB1.out.size))
  have hr := HH.out
  have hE2 := HRNG2.out
  have hl2 := HN2.out
  clear hb HH HRNG2 HN2
  obtain ⟨b, hbb⟩ : ∃ n, (nmR s E).1 = n := ⟨_, rfl⟩
  obtain ⟨E2, hE⟩ : ∃ n, (nmR s E).2.1 = n := ⟨_, rfl⟩
  obtain ⟨ok2, hokk⟩ : ∃ b, (nmR s E).2.2 = b := ⟨_, rfl⟩
  rw [hbb, hE, hokk] at hr ⊢
  rw [hE] at hE2
  rw [hbb] at hl2
  clear hbb hE hokk
  obtain ⟨l, rfl⟩ : ∃ l : Nat, E2 = l := ⟨E2.toNat, by omega⟩
  have HNb := Lib.hid hl2
  have hw3 : wrap64 ((l : Int) + 20) = (l : Int) + 20 := by unfold wrap64; omega
  have HL := Lib.hid hE2
  clear hl2 hE2
  cases ok with
  | false =>
    rw [if_neg (by simp)] at hr
    subst hr
    go_wp2
    go_ret2
    exact ⟨rfl, HB2.out⟩
  | true =>
  cases ok2 with
  | false =>
    rw [if_neg (by simp)] at hr
    subst hr
    go_wp2
    go_ret2
    exact ⟨rfl, HB2.out⟩
  | true =>
  by_cases c : (l : Int) + 20 = (q : Int) + (m : Int)
  rotate_left
  · rw [if_neg (fun h => c h.2.2)] at hr
    subst hr
    have q1 : ((l : Int) + 20 == (q : Int) + (m : Int)) = false := beq_eq_false_iff_ne.2 c
    have q2 : decide ((l : Int) + 20 = (q : Int) + (m : Int)) = false := decide_eq_false c
    clear c
    go_wp2
    go_ret2
    exact ⟨rfl, HB2.out⟩
  rw [if_pos ⟨rfl, rfl, c⟩] at hr
  subst hr
  have q1 : ((l : Int) + 20 == (q : Int) + (m : Int)) = true := beq_iff_eq.2 c
  have q2 : decide ((l : Int) + 20 = (q : Int) + (m : Int)) = true := decide_eq_true c
  have HC := Lib.hid c
  clear c
  go_upto_region 16 with fail
  clear q1 q2
  have hz3 : (s.extract l ((l : Int) + 20).toNat).size ≤ 1000000000 := by simp; omega
  have HAD1 : Hid (¬ 9223372036854775807 < (strOfNums a).size + 1 + ((strOfNums b).size + 1)) := Lib.hid (by rw [str_size, str_size]; have := HNa.out; have := HNb.out; omega)
  have HAD2 : Hid (¬ 9223372036854775807 < (strOfNums a).size + 1 + ((strOfNums b).size + 1) + (s.extract l ((l : Int) + 20).toNat).size) := Lib.hid (by rw [str_size, str_size]; have := HNa.out; have := HNb.out; omega)
  clear hz3
  refine start_ (n := 13) (ds := ([] : List Nat)) (S := fun W => Below w2.heap.size w2 W) #[false, false, false, false, false, false, false, false, false, false, false, false, false] (by kernel_rfl) rfl rfl (below_drew1 (Below.refl w2.heap.size w2)) (fun hHeld => ?_)
  refine with_tabW rdd_tab16 rdd_bits16 (fun HT_ HW_ => ?_)
  refine pure_ (i := 0) (N := (some 91)) (v := ?_) (a' := ?_) #[true, false, false, false, false, false, false, false, false, false, false, false, false] rfl rfl (any_of HT_.out (by kernel_rfl)) (fun _ _ _ h => h) (Or.inl ⟨by rfl, ?_⟩) ?_ ?_
  rotate_left
  · intro w'
    go_simp
    with_reducible rfl
  rotate_left
  · simp only [Act.put, List.setIfInBounds_toArray, List.set_cons_zero, List.set_cons_succ, i64_w, i32_w]
    rfl
  refine pure_ (i := 2) (N := (some 93)) (v := ?_) (a' := ?_) #[true, false, true, false, false, false, false, false, false, false, false, false, false] rfl rfl (any_of HT_.out (by kernel_rfl)) (fun _ _ _ h => h) (Or.inl ⟨by rfl, ?_⟩) ?_ ?_
  rotate_left
  · intro w'
    go_simp
    with_reducible rfl
  rotate_left
  · simp only [Act.put, List.setIfInBounds_toArray, List.set_cons_zero, List.set_cons_succ, i64_w, i32_w]
    rfl
  refine pure_ (i := 5) (N := (some 96)) (v := ?_) (a' := ?_) #[true, false, true, false, false, true, false, false, false, false, false, false, false] rfl rfl (any_of HT_.out (by kernel_rfl)) (fun _ _ _ h => h) (Or.inl ⟨by rfl, ?_⟩) ?_ ?_
  rotate_left
  · intro w'
    go_simp
    with_reducible rfl
  rotate_left
  · simp only [Act.put, List.setIfInBounds_toArray, List.set_cons_zero, List.set_cons_succ, i64_w, i32_w]
    rfl
  refine pure_ (i := 6) (N := (some 97)) (v := ?_) (a' := ?_) #[true, false, true, false, false, true, true, false, false, false, false, false, false] rfl rfl (any_of HT_.out (by kernel_rfl)) (fun _ _ _ h => h) (Or.inl ⟨by rfl, ?_⟩) ?_ ?_
  rotate_left
  · intro w'
    go_simp
    with_reducible rfl
  rotate_left
  · simp only [Act.put, List.setIfInBounds_toArray, List.set_cons_zero, List.set_cons_succ, i64_w, i32_w]
    rfl
  refine pure_ (i := 7) (N := (some 98)) (v := ?_) (a' := ?_) #[true, false, true, false, false, true, true, true, false, false, false, false, false] rfl rfl (any_of HT_.out (by kernel_rfl)) (fun _ _ _ h => h) (Or.inl ⟨by rfl, ?_⟩) ?_ ?_
  rotate_left
  · intro w'
    go_simp
    with_reducible rfl
  rotate_left
  · simp only [Act.put, List.setIfInBounds_toArray, List.set_cons_zero, List.set_cons_succ, i64_w, i32_w]
    rfl
  refine pure_ (i := 8) (N := (some 99)) (v := ?_) (a' := ?_) #[true, false, true, false, false, true, true, true, true, false, false, false, false] rfl rfl (any_of HT_.out (by kernel_rfl)) (fun _ _ _ h => h) (Or.inl ⟨by rfl, ?_⟩) ?_ ?_
  rotate_left
  · intro w'
    go_simp
    with_reducible rfl
  rotate_left
  · simp only [Act.put, List.setIfInBounds_toArray, List.set_cons_zero, List.set_cons_succ, i64_w, i32_w]
    rfl
  refine pure_ (i := 9) (N := (some 100)) (v := ?_) (a' := ?_) #[true, false, true, false, false, true, true, true, true, true, false, false, false] rfl rfl (any_of HT_.out (by kernel_rfl)) (fun _ _ _ h => h) (Or.inl ⟨by rfl, ?_⟩) ?_ ?_
  rotate_left
  · intro w'
    go_simp
    rw [if_pos (by have h1 := HC.out; have h3 := HLE.out; constructor <;> omega), if_pos (by omega)]
  rotate_left
  · simp only [Act.put, List.setIfInBounds_toArray, List.set_cons_zero, List.set_cons_succ, i64_w, i32_w]
    rfl
  refine one_ (i := 1) (N := (some 92)) #[true, true, true, false, false, true, true, true, true, true, false, false, false] rfl rfl (one_of HT_.out (by kernel_rfl)) (by decide) (fun K hK => ?_)
  refine goes_ Tryd.func59 (by kernel_rfl) rfl #[.string (strOfNums a)] (by rfl) rfl rfl (by (try simp only [List.map_toArray, List.map_cons, List.map_nil]); rfl) ?_
  refine (point_Plain.calls (strOfNums a) (strOfNums a ++ ⟨#[0]⟩) _ (by unfold point_Plain.f; exact if_pos (by have := HNa.out; rw [str_size]; omega))).mono ?_
  rintro e w3 ⟨rfl, hb⟩
  refine ⟨_, rfl, ?_⟩
  refine hK.out _ _ (hHeld.trans (hb.below.mono hHeld.size)) (fun hHeld => ?_)
  clear hb
  clear hK K
  refine norm_ (a' := ?_) ?_ ?_
  rotate_left
  · show Act.put _ (some 92) _ = _
    simp only [Act.put, List.setIfInBounds_toArray, List.set_cons_zero, List.set_cons_succ, i64_w, i32_w]
    rfl
  refine one_ (i := 3) (N := (some 94)) #[true, true, true, true, false, true, true, true, true, true, false, false, false] rfl rfl (one_of HT_.out (by kernel_rfl)) (by decide) (fun K hK => ?_)
  refine goes_ Tryd.func59 (by kernel_rfl) rfl #[.string (strOfNums b)] (by rfl) rfl rfl (by (try simp only [List.map_toArray, List.map_cons, List.map_nil]); rfl) ?_
  refine (point_Plain.calls (strOfNums b) (strOfNums b ++ ⟨#[0]⟩) _ (by unfold point_Plain.f; exact if_pos (by have := HNb.out; rw [str_size]; omega))).mono ?_
  rintro e w4 ⟨rfl, hb⟩
  refine ⟨_, rfl, ?_⟩
  refine hK.out _ _ (hHeld.trans (hb.below.mono hHeld.size)) (fun hHeld => ?_)
  clear hb
  clear hK K
  refine norm_ (a' := ?_) ?_ ?_
  rotate_left
  · show Act.put _ (some 94) _ = _
    simp only [Act.put, List.setIfInBounds_toArray, List.set_cons_zero, List.set_cons_succ, i64_w, i32_w]
    rfl
  refine pure_ (i := 4) (N := (some 95)) (v := ?_) (a' := ?_) #[true, true, true, true, true, true, true, true, true, true, false, false, false] rfl rfl (any_of HT_.out (by kernel_rfl)) (fun _ _ _ h => h) (Or.inl ⟨by rfl, ?_⟩) ?_ ?_
  rotate_left
  · intro w'
    go_simp
    rw [if_neg HAD1.out]
  rotate_left
  · simp only [Act.put, List.setIfInBounds_toArray, List.set_cons_zero, List.set_cons_succ, i64_w, i32_w]
    rfl
  refine pure_ (i := 10) (N := (some 101)) (v := ?_) (a' := ?_) #[true, true, true, true, true, true, true, true, true, true, true, false, false] rfl rfl (any_of HT_.out (by kernel_rfl)) (fun _ _ _ h => h) (Or.inl ⟨by rfl, ?_⟩) ?_ ?_
  rotate_left
  · intro w'
    go_simp
    rw [if_neg (by have h1 := HNa.out; have h2 := HNb.out; have h4 := HLE.out; have h5 := HC.out; simp [str_size]; omega)]
  rotate_left
  · simp only [Act.put, List.setIfInBounds_toArray, List.set_cons_zero, List.set_cons_succ, i64_w, i32_w]
    rfl
  refine pure_ (i := 11) (N := (some 8)) (v := ?_) (a' := ?_) #[true, true, true, true, true, true, true, true, true, true, true, true, false] rfl rfl (any_of HT_.out (by kernel_rfl)) (fun _ _ _ h => h) (Or.inl ⟨by rfl, ?_⟩) ?_ ?_
  rotate_left
  · intro w'
    go_simp
    with_reducible rfl
  rotate_left
  · simp only [Act.put, List.setIfInBounds_toArray, List.set_cons_zero, List.set_cons_succ, i64_w, i32_w]
    rfl
  refine pure_ (i := 12) (N := (some 9)) (v := ?_) (a' := ?_) #[true, true, true, true, true, true, true, true, true, true, true, true, true] rfl rfl (any_of HT_.out (by kernel_rfl)) (fun _ _ _ h => h) (Or.inl ⟨by rfl, ?_⟩) ?_ ?_
  rotate_left
  · intro w'
    go_simp
    with_reducible rfl
  rotate_left
  · simp only [Act.put, List.setIfInBounds_toArray, List.set_cons_zero, List.set_cons_succ, i64_w, i32_w]
    rfl
  refine done_ (done_of HT_.out (by kernel_rfl)) ?_
  try go_wp2
  go_ret2
  exact ⟨rfl, HB2.out.trans (hHeld.mono HB2.out.size)⟩
end Go.Proofs.YtnikfeaggppmpaaDoor.Rdr
