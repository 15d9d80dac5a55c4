/-
  The law JournalRecover walked: what is torn off the last segment is what is no frame's; what is left is safe. No macro, syntax, notation, axiom, sorry.
-/
import Derived.Test.YtklliflmdckadaaPJx6
import Derived.Test.YtklliflmdckadaaQJAll
namespace Go.Proofs.Ytklliflmdckadaa.PJ
open Go.RowKit Go.Proofs.YtklliflmdckadaaW.PrintWords Go.Proofs.YtklliflmdckadaaW.PrintLast Go.Proofs.Ytklliflmdckadaa.DevW Go.Proofs.Ytklliflmdckadaa.DevC
open Go.Proofs.Ytklliflmdckadaa.QJ (fr frs frs_snoc frs_len frs_b8 fr_len fr_b8 all_of no_nil Begins cut_any)
open Go.Proofs.Ytklliflmdckadaa.Base (B8)
set_option linter.unusedVariables false
set_option linter.unusedSimpArgs false
set_option maxRecDepth 100000

/-- A device that has these frames, in one segment of which nothing is safe. -/
def jst (cs : List (List Int)) : St := if cs = [] then [] else [(frs cs, 0)]
theorem jst_len (cs : List (List Int)) : (jst cs).length ≤ 1 := by unfold jst; split <;> simp
theorem jst_mem {cs : List (List Int)} {b : List Int} {s : Int} (h : (b, s) ∈ jst cs) : b = frs cs ∧ s = 0 := by
  unfold jst at h
  split at h
  · cases h
  · simpa using h
theorem dappend_jst (cs : List (List Int)) (b : List Int) : dappend (jst cs) b = [(frs cs ++ b, 0)] := by
  by_cases h : cs = []
  · subst h
    simp [jst, dappend, dbegin, dsync, onLast, frs]
  · simp [jst, h, dappend, onLast]
theorem jst_snoc (cs : List (List Int)) (c : List Int) : dappend (jst cs) (fr c) = jst (cs ++ [c]) := by
  rw [dappend_jst, ← frs_snoc]
  simp [jst]
def bolterlaw24_JournalRecover.f (l0 : List (List Int)) (l1 : List Int) : Option Bool := if (∀ b ∈ l0, ∀ y ∈ b, 0 ≤ y ∧ y < 256) ∧ (∀ y ∈ l1, 0 ≤ y ∧ y < 256) ∧ l1.length ≤ 1048576 then some true else none
set_option maxHeartbeats 2000000 in
theorem bolterlaw24_JournalRecover.calls (A0 : Option Addr) (c0 : Nat) (l0 : List (List Int)) (A1 : Option Addr) (c1 : Nat) (l1 : List Int) (r : Bool) (w : World) (hr0 : Kd.C (Kd.slice 5 (Kd.int .u8)) w A0 l0.length l0) (hc0 : l0.length ≤ c0) (hr1 : Kd.C (Kd.int .u8) w A1 l1.length l1) (hc1 : l1.length ≤ c1) (h : bolterlaw24_JournalRecover.f l0 l1 = some r) :
    Calls Try.prog 5 #[.slice A0 l0.length c0, .slice A1 l1.length c1] w fun e w' => e = .returned (.bool r) ∧ Below w.heap.size w w' := by
  unfold bolterlaw24_JournalRecover.f at h
  by_cases hc : (∀ b ∈ l0, ∀ y ∈ b, 0 ≤ y ∧ y < 256) ∧ (∀ y ∈ l1, 0 ≤ y ∧ y < 256) ∧ l1.length ≤ 1048576
  case neg => rw [if_neg hc] at h; cases h
  rw [if_pos hc] at h
  obtain rfl := Option.some.inj h
  clear h
  obtain ⟨hB0, hB1, hlen1⟩ := hc
  obtain ⟨cs, hcs⟩ : ∃ cs, (l0.take 10).map (fun b => b.take 100) = cs := ⟨_, rfl⟩
  have hcsl : cs.length = min 10 l0.length := by rw [← hcs, List.length_map, List.length_take]
  have hcsg : ∀ (i : Nat) (b : List Int), i < 10 → l0[i]? = some b → cs[i]? = some (b.take 100) := by
    intro i b hi hb
    rw [← hcs, List.getElem?_map, List.getElem?_take, if_pos hi, hb]
    rfl
  have hcok : ∀ c ∈ cs, B8 c ∧ c.length ≤ 600 := by
    intro c hc
    rw [← hcs] at hc
    obtain ⟨b, hb, rfl⟩ := List.mem_map.1 hc
    exact ⟨fun y hy => hB0 b (List.mem_of_mem_take hb) y (List.mem_of_mem_take hy), by rw [List.length_take]; omega⟩
  have hl0m : l0.length ≤ 9223372036854775807 := hr0.2.1
  have hcl10 : cs.length ≤ 10 := by omega
  have hfl : ∀ j, (frs (cs.take j)).length ≤ 6060 := by
    intro j
    have h1 := frs_len (cs.take j) (fun c hc => (hcok c (List.mem_of_mem_take hc)).2)
    have h2 : (cs.take j).length ≤ 10 := by rw [List.length_take]; omega
    omega
  have key0 : ∃ (tok : Bool) (tx tm tl : List Int), (∃ k, frame_Cut.f k l1 = some (tx, tm, tok)) ∧ tl = (if tok = true then [] else l1) ∧ ¬ ∃ b r, Begins tl b r := by
    rcases cut_any l1 (by omega) hB1 with ⟨b, r, hbg, he⟩ | ⟨hn, he⟩
    · exact ⟨true, b, r, [], Ev.rounds he, rfl, no_nil⟩
    · exact ⟨false, [], [], l1, Ev.rounds he, rfl, hn⟩
  obtain ⟨tok, tx, tm, tl, ⟨kc, hkc⟩, htl, hnb⟩ := key0
  have htB : B8 tl := by rw [htl]; split; exact (fun y hy => by cases hy); exact hB1
  have htll : tl.length ≤ 1048576 := by rw [htl]; split <;> simp [hlen1]
  obtain ⟨ka, hka⟩ := all_of cs tl (by rw [List.length_append]; have := hfl cs.length; rw [List.take_length] at this; omega) htB hnb hcok (by omega)
  have hfc : (frs cs).length ≤ 6060 := by have := hfl cs.length; rwa [List.take_length] at this
  have HFL := Lib.hid hfl
  have HCL := Lib.hid hcsl
  have HCG := Lib.hid hcsg
  have HCO := Lib.hid hcok
  have HR0 := Lib.hid hr0
  have HR1 := Lib.hid hr1
  have HKC := Lib.hid hkc
  have HKA := Lib.hid hka
  have HTL := Lib.hid htl
  clear hB0 hB1 hcs hcsl hcsg hcok hr0 hr1 hfl hkc hka hnb htB htl
  go_enter Try.func5, Try.ntmps5
  go_wp2_with fail
  refine (awake w).mono ?_
  rintro e w1 ⟨rfl, hB⟩
  have HL0 := Lib.hid (Live.fresh w w1 hB)
  clear hB
  go_wp2_with fail
  obtain ⟨g, hg⟩ : ∃ g, w1.heap.size = g := ⟨_, rfl⟩
  obtain ⟨w2, hw2⟩ : ∃ w2, w1.alloc (.cells #[.slice none 0 0, .int .i64 0] 30) = w2 := ⟨_, rfl⟩
  rw [hg, hw2] at HL0
  (try rw [hg])
  (try rw [hw2])
  clear hg hw2
  go_loopw [6, 24] (fun v6 i wx => ∃ j : Nat, j ≤ l0.length ∧ i = .int .i64 j ∧ v6 = .int .i64 (frs (cs.take j)).length ∧ Aside0 (∃ F, Live w wx g F (jst (cs.take j)) (cs.take j).length))
    (fun _ i _ => l0.length - (intOf i).toNat)
  case atStart => exact ⟨0, Nat.zero_le _, rfl, rfl, ⟨_, HL0.out⟩⟩
  case round =>
    obtain ⟨j, hj, rfl, rfl, hLL⟩ := hrel
    obtain ⟨F, hL⟩ := hLL.out
    have HL := Lib.hid hL
    clear hL hLL
    have hflj := HFL.out j
    obtain ⟨n, hnn⟩ : ∃ n, (frs (cs.take j)).length = n := ⟨_, rfl⟩
    have HN := Lib.hid hnn
    rw [hnn] at hflj ⊢
    clear hnn
    by_cases hlt : j < l0.length
    · have hget := List.getElem?_eq_getElem hlt
      obtain ⟨b, hbb⟩ : ∃ b, l0[j] = b := ⟨_, rfl⟩
      rw [hbb] at hget
      obtain ⟨ad, Ab, cb, ha, hcell0, hcb, hC⟩ := Go.Proofs.YtklliflmdckadaaW.HandM.row_at HR0.out j b hget
      have hcell := pw_cell_below HL.out.base hcell0
      subst ha
      have hblen : b.length ≤ 9223372036854775807 := hC.2.1
      by_cases h10 : j < 10
      · have hc10 : decide ((j : Int) < 10) = true := decide_eq_true (by omega)
        have hcj := HCG.out j b h10 hget
        obtain ⟨n6, hm6⟩ : ∃ n6 : Nat, (if 100 < (b.length : Int) then 100 else (b.length : Int)) = (n6 : Int) := by
          by_cases h6 : 100 < (b.length : Int)
          · exact ⟨100, by rw [if_pos h6]; rfl⟩
          · exact ⟨b.length, by rw [if_neg h6]⟩
        have hmlb : n6 ≤ b.length := by split at hm6 <;> omega
        have hm100 : n6 ≤ 100 := by split at hm6 <;> omega
        have htm : b.take 100 = b.take n6 := by
          split at hm6
          · rw [show n6 = 100 by omega]
          · rw [List.take_of_length_le (by omega), List.take_of_length_le (by omega)]
        have d1 : decide (0 ≤ (n6 : Int)) = true := decide_eq_true (by omega)
        have d2 : decide ((n6 : Int) ≤ (b.length : Int)) = true := decide_eq_true (by omega)
        have hlm : (b.take n6).length = n6 := by rw [List.length_take]; omega
        rw [htm] at hcj
        obtain ⟨hcB, hc6⟩ := HCO.out _ (List.mem_of_getElem? hcj)
        obtain ⟨km, hkm⟩ := Ev.rounds (Go.Proofs.Ytklliflmdckadaa.QJ.make _ hc6 hcB)
        have hts := take_snoc hcj
        have hst : dappend (jst (cs.take j)) (fr (b.take n6)) = jst (cs.take (j + 1)) := by rw [jst_snoc, hts]
        have hln : (frs (cs.take (j + 1))).length = n + (fr (b.take n6)).length := by rw [hts, frs_snoc, List.length_append, HN.out]
        have hcn : (cs.take (j + 1)).length = (cs.take j).length + 1 := by rw [hts]; simp
        have hfrl : (fr (b.take n6)).length = n6 + 6 := by rw [fr_len, hlm]
        have hcl : (cs.take j).length ≤ 10 := by rw [List.length_take]; omega
        obtain ⟨ff, hff⟩ : ∃ ff, fr (b.take n6) = ff := ⟨_, rfl⟩
        rw [hff] at hkm hst hln hfrl
        have hfr6 : ff.length ≤ 106 := by omega
        have HKM := Lib.hid hkm
        have HST := Lib.hid hst
        have HLN := Lib.hid hln
        have HCN := Lib.hid hcn
        have HLM := Lib.hid hlm
        have HC := Lib.hid hC
        clear hget hbb hC hcj htm hlm hkm hts hst hln hcn hff hcell0 hcB hc6 hfrl
        go_wp2_with fail
        have key := frame_Make.calls km Ab cb (b.take n6) ff true wr (Kd.C_take (Kd.C_below HC.out HL.out.base) hmlb) (by rw [HLM.out]; omega) HKM.out
        rw [HLM.out] at key
        refine key.mono ?_
        clear key
        rintro e w3 ⟨v3, rfl, ho, hb⟩
        obtain ⟨Ao, co, eo⟩ := Kd.R_slice ho
        subst eo
        have hco := (Kd.R_reads' ho).2.1
        have hnot : ∀ q, (Value.slice Ao ff.length co).ownBlock = some q → q ∉ F := fun q hq hm => by
          have h1 := Kd.R_base ho q hq
          have := (HL.out.foot q hm).2
          omega
        have HO := Lib.hid (Kd.own_of_R ho)
        have HNT := Lib.hid hnot
        have HL3 := Lib.hid (HL.out.below hb)
        clear ho hb hnot hm6
        go_wp2_with fail
        refine (live_append HL3.out (by have := jst_len (cs.take j); omega) (by omega) (by omega) Ao co ff hco (fun w' ht => own_C (ht.own HO.out HNT.out)) (by intro b s hm; have h1 := (jst_mem hm).1; rw [h1, HN.out]; omega) (by omega)).mono ?_
        rintro e w4 ⟨rfl, F4, hL, ht, hF⟩
        rw [HST.out] at hL
        have HL4 := Lib.hid hL
        clear hL ht hF HL3 HO HNT
        have hcn' : (((cs.take j).length : Nat) : Int) + 1 = ((cs.take (j + 1)).length : Int) := by rw [HCN.out]; rfl
        rw [hcn'] at HL4
        clear hcn'
        have hsum : (n : Int) + (ff.length : Int) = ((frs (cs.take (j + 1))).length : Int) := by rw [HLN.out]; omega
        have HSUM := Lib.hid hsum
        clear hsum
        go_wp2
        go_roundw
        case rel => exact ⟨j + 1, by omega, by go_num, by first | rw [HSUM.out] | (rw [← HSUM.out]; go_num), ⟨F4, HL4.out⟩⟩
        case measure => simp [intOf]; omega
      · have hc10 : decide ((j : Int) < 10) = false := decide_eq_false (by omega)
        have e2 : cs.take (j + 1) = cs.take j := by rw [List.take_of_length_le (by rw [HCL.out]; omega), List.take_of_length_le (by rw [HCL.out]; omega)]
        have HLx := Lib.hid HL.out
        rw [← e2] at HLx
        have hn2 : n = (frs (cs.take (j + 1))).length := by rw [e2, HN.out]
        have HN2 := Lib.hid hn2
        clear hget hbb hC e2 hcell0 hn2
        go_wp2
        go_roundw
        case rel => exact ⟨j + 1, by omega, by go_num, by rw [HN2.out], ⟨F, HLx.out⟩⟩
        case measure => simp [intOf]; omega
    · have hjj : j = l0.length := by omega
      subst hjj
      have e2 : cs.take l0.length = cs := List.take_of_length_le (by rw [HCL.out]; omega)
      rw [e2] at HL HN
      have hcl : cs.length ≤ 10 := hcl10
      clear e2 HL0 HFL HCG HCO hj hlt
      have htk : tok = true ∨ tok = false := by cases tok <;> simp
      have HTK := Lib.hid htk
      clear htk
      go_wp2_with fail
      refine (frame_Cut.calls kc A1 c1 l1 tx tm tok wr (Kd.C_below HR1.out HL.out.base) hc1 HKC.out).mono ?_
      rintro e w3 ⟨vx, vm, rfl, hox, hom, hb⟩
      obtain ⟨Ax, cx, ex⟩ := Kd.R_slice hox
      subst ex
      obtain ⟨Am, cm, em⟩ := Kd.R_slice hom
      subst em
      have HL3 := Lib.hid (HL.out.below hb)
      clear hox hom hb HL
      have key1 : ∃ At mt ct, (if tok = true then (.slice none 0 0 : Value) else .slice A1 l1.length c1) = .slice At mt ct ∧ tl.length = mt ∧ mt ≤ ct ∧ ∀ wx, Below w.heap.size w wx → Kd.C (Kd.int .u8) wx At tl.length tl := by
        rw [HTL.out]
        cases tok
        · exact ⟨A1, l1.length, c1, rfl, rfl, hc1, fun wx hb => Kd.C_below HR1.out hb⟩
        · exact ⟨none, 0, 0, rfl, rfl, Nat.le_refl _, fun wx hb => ⟨rfl, by simp, fun h => absurd h (Nat.lt_irrefl 0)⟩⟩
      obtain ⟨At, mt, ct, hta, htm, hmc, htr⟩ := key1
      have hmt : mt ≤ 1048576 := by omega
      have HTA := Lib.hid hta
      have HTM := Lib.hid htm
      have HTR := Lib.hid htr
      clear hta htm htr
      have hz : tl.length = 0 ∨ 0 < tl.length := by omega
      have HZ := Lib.hid hz
      clear hz
      rcases HTK.out with rfl | rfl
      all_goals
        have hta := HTA.out
        first | rw [if_pos rfl] at hta | rw [if_neg (by decide)] at hta
        injection hta with h1 h2 h3
        subst h1 h2 h3
        go_wp2_with fail
        have key := live_append HL3.out (by have := jst_len cs; omega) (by omega) (by omega) _ _ tl (by rw [HTM.out]; exact hmc) (fun w' ht => HTR.out w' (HL3.out.base.trans (ht.below (fun k hk => (HL3.out.foot k hk).1) HL3.out.base.size))) (by intro b s hm; have h1 := (jst_mem hm).1; rw [h1, HN.out]; omega) (by omega)
        rw [HTM.out] at key
        refine key.mono ?_
        clear key
        rintro e w4 ⟨rfl, F4, hL, ht, hF⟩
        rw [dappend_jst] at hL
        have HL4 := Lib.hid hL
        clear hL ht hF HL3
        have hX : (frs cs ++ tl).length = n + tl.length := by rw [List.length_append, HN.out]
        have HX := Lib.hid hX
        have hwh : jwhole (fun _ => (cs, (n : Int))) (dsegs [(frs cs ++ tl, 0)]) = decide (tl.length = 0) := by
          show (decide ((n : Int) = ((frs cs ++ tl).length : Int)) && true) = _
          rw [Bool.and_true, decide_eq_decide, hX]
          omega
        have hjg : jgone (fun _ => (cs, (n : Int))) [(frs cs ++ tl, 0)] = (tl.length : Int) := by
          show ((frs cs ++ tl).length : Int) - (n : Int) = _
          rw [hX]
          omega
        have hjr : jrec (fun _ => (cs, (n : Int))) [(frs cs ++ tl, 0)] = [(frs cs, (n : Int))] := by
          show dsync [((frs cs ++ tl).take (max 0 (min (n : Int) (frs cs ++ tl).length)).toNat, _)] = _
          rw [hX, show (max 0 (min (n : Int) ((n + tl.length : Nat) : Int))).toNat = (frs cs).length by rw [HN.out]; omega, List.take_left]
          show [(frs cs, ((frs cs).length : Int))] = _
          rw [HN.out]
        have hjt : (jtold (fun _ => (cs, (n : Int))) (dsegs [(frs cs ++ tl, 0)])).length ≤ 5000000000000 := by
          show (cs ++ []).length ≤ _
          rw [List.append_nil]
          omega
        have hka := HKA.out
        rw [HN.out] at hka
        have HK := Lib.hid hka
        rw [HTM.out] at hjg
        have HJG := Lib.hid hjg
        have HJR := Lib.hid hjr
        have HWH := Lib.hid hwh
        have HJT := Lib.hid hjt
        clear hX hwh hjg hjr hjt hka
        go_wp2_with fail
        refine (read_ HL4.out (by show (1 : Nat) ≤ _; decide) (by intro b s hm; simp at hm; rw [hm.1, HX.out]; omega) (fun _ => (cs, (n : Int))) (by intro b hb; simp [dsegs] at hb; subst hb; exact ⟨ka, HK.out⟩) HJT.out).mono ?_
        rintro e w5 ⟨v, rfl, hV, hb⟩
        obtain ⟨A5, c5, hv⟩ := Kd.V_slice hV
        subst hv
        rw [HWH.out]
        have HL5 := Lib.hid (HL4.out.below hb)
        have HJ0 := Lib.hid (JL.fresh HL5.out)
        clear hV hb HL4
        go_wp2_with fail
        refine (of_ _ _).mono ?_
        rintro e w6 ⟨rfl, rfl⟩
        obtain ⟨gj, hgj⟩ : ∃ gj, w5.heap.size = gj := ⟨_, rfl⟩
        obtain ⟨w6, hw6⟩ : ∃ w6, w5.alloc (.cells #[.pointer (some ⟨g, 0, none⟩)] 37) = w6 := ⟨_, rfl⟩
        rw [hgj, hw6] at HJ0
        rw [hgj, hw6]
        clear hgj hw6 HL5
        have c0 := HJ0.out.cell
        go_wp2_with fail
        have key := recover_ HJ0.out (by show (1 : Nat) ≤ _; decide) (by intro b s hm; simp at hm; rw [hm.2]; omega) (by show total ([] ++ [(frs cs ++ tl, 0)]) ≤ _; rw [total_snoc]; show 0 + (frs cs ++ tl).length ≤ _; rw [HX.out]; omega) (fun _ => (cs, (n : Int))) (by intro b s hm; have hm' := Option.some.inj hm; injection hm' with h1 h2; subst h1; exact ⟨⟨ka, HK.out⟩, by show (0 : Int) ≤ n; omega, by show (n : Int) ≤ _; rw [HX.out]; omega⟩)
        rw [HJG.out, HJR.out] at key
        refine key.mono ?_
        clear key
        rintro e w7 ⟨rfl, F7, hJ, ht, hF⟩
        have HL7 := Lib.hid hJ.live
        clear hJ ht hF HJ0 c0
        (try have q1 : decide ((l1.length : Int) = 0) = decide (tl.length = 0) := by rw [decide_eq_decide]; have := HTM.out; omega)
        (try have q2 : ((l1.length : Int) == 0) = decide (tl.length = 0) := by rw [show ((l1.length : Int) == 0) = decide ((l1.length : Int) = 0) from rfl, decide_eq_decide]; have := HTM.out; omega)
        (try have q3 : decide (tl.length = 0) = true := decide_eq_true (by have := HTM.out; exact this))
        go_wp2_with fail
        have key := live_last HL7.out (by show (1 : Nat) ≤ _; decide)
        rw [show dlast [(frs cs, (n : Int))] = (n : Int) by show ((frs cs).length : Int) = _; rw [HN.out]] at key
        refine key.mono ?_
        clear key
        rintro e w8 ⟨rfl, n8, rfl⟩
        have HL8 := Lib.hid (HL7.out.below (pw_below_drewN (Below.refl _ _) n8))
        obtain ⟨w8, hw8⟩ : ∃ w8, w7.drewN n8 = w8 := ⟨_, rfl⟩
        rw [hw8] at HL8 ⊢
        clear hw8 HL7
        go_wp2_with fail
        have key := live_safe HL8.out (by show (1 : Nat) ≤ _; decide) (fine_safeOk (by intro b s hm; simp at hm; rw [hm.1, hm.2, HN.out]; omega) (by show total ([] ++ [(frs cs, (n : Int))]) ≤ _; rw [total_snoc]; show 0 + (frs cs).length ≤ _; rw [HN.out]; omega))
        rw [show dsafe [(frs cs, (n : Int))] = (n : Int) by simp [dsafe]] at key
        refine key.mono ?_
        clear key
        rintro e w9 ⟨rfl, hB⟩
        have HL9 := Lib.hid (HL8.out.below hB)
        clear hB HL8
        go_wp2
        go_ret
        exact ⟨by first | rfl | simp, HL9.out.base⟩
end Go.Proofs.Ytklliflmdckadaa.PJ
