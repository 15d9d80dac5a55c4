/- part of a proof; what it has no use for was struck out -/
import Derived.Test.YtnikfeaggppmpaaAwk
import Derived.Deep.CutRange
namespace Go.Proofs.Ytnikfeaggppmpaa.PM
open Go.RowKit Go.Proofs.YtnikfeaggppmpaaW Go.Proofs.YtnikfeaggppmpaaW.PrintWords Go.Proofs.YtnikfeaggppmpaaW.PrintLast Go.Proofs.YtnikfeaggppmpaaW.PrintMore Go.Proofs.Ytnikfeaggppmpaa.Base Go.Proofs.Ytnikfeaggppmpaa.Nam Go.Proofs.Ytnikfeaggppmpaa.Trn Go.Proofs.Ytnikfeaggppmpaa.MapS Go.Proofs.Ytnikfeaggppmpaa.QM Go.Proofs.Ytnikfeaggppmpaa.Wr
set_option linter.unusedVariables false
set_option linter.unusedSimpArgs false
set_option maxRecDepth 100000
theorem headOk_no {m : Msg} (h : ¬ (0 ≤ m.op ∧ m.op < 16 ∧ 0 ≤ m.co ∧ m.co < 16 ∧ 0 ≤ m.sz ∧ m.sz < 65536)) : headOk m = false := by
  unfold headOk
  rw [decide_eq_false h]
  rfl
theorem whole_short {m : Msg} (h : mayM m = true) : (wholeL m).length ≤ 1048576 := by
  unfold mayM at h
  rw [Bool.and_eq_true] at h
  have h2 := h.2
  simp only [List.all_cons, List.all_nil, Bool.and_true, Bool.and_eq_true, partOk, decide_eq_true_eq] at h2
  have e1 := namW_len (bytesOf m.qn) (headW m, fun _ => none)
  have e0 : (headW m).length = 12 := rfl
  obtain ⟨s, hs⟩ : ∃ s : St, ((namW (bytesOf m.qn) (headW m, fun _ => none)).1 ++ all16 [m.qt, 1], (namW (bytesOf m.qn) (headW m, fun _ => none)).2) = s := ⟨_, rfl⟩
  have es : s.1.length ≤ 272 := by
    rw [← hs]
    simp only [List.length_append, all16_len, List.length_cons, List.length_nil]
    simp only at e1
    omega
  have e2 := recsW_len m.an s
  have e3 := recsW_len m.ns (recsW m.an s)
  have e4 := recsW_len m.ex (recsW m.ns (recsW m.an s))
  have hp : partsW m = recsW m.ex (recsW m.ns (recsW m.an s)) := by unfold partsW; rw [hs]
  unfold wholeL
  rw [hp]
  split
  · simp only [List.length_append, all16_len, all32_len, List.length_cons, List.length_nil]
    omega
  · omega
def WfL (m : Msg) : Prop := ((∀ r ∈ m.an, WfR r) ∧ (∀ r ∈ m.ns, WfR r) ∧ ∀ r ∈ m.ex, WfR r) ∧ m.qn.size ≤ 1000000000 ∧ m.ex.length ≤ 1048576 ∧ m.an.length ≤ 1048576 ∧ m.ns.length ≤ 1048576 ∧ (0 ≤ m.qt ∧ m.qt < 65536) ∧ (0 ≤ m.id ∧ m.id < 65536)
set_option maxHeartbeats 16000000 in
theorem mm_ (m : Msg) (hm : WfL m) (Aa An Ae : Option Addr) (ca cn ce : Nat) (w : World) (hCa : Kd.C k37 w Aa m.an.length m.an) (hca : m.an.length ≤ ca) (hCn : Kd.C k37 w An m.ns.length m.ns) (hcn : m.ns.length ≤ cn) (hCe : Kd.C k37 w Ae m.ex.length m.ex) (hce : m.ex.length ≤ ce) :
    Calls Try.prog 3 #[.agg #[.int .u16 m.id, .bool m.rp, .int .i64 m.op, .bool m.au, .bool m.tr, .bool m.de, .bool m.av, .int .i64 m.co, .string m.qn, .int .u16 m.qt, .slice Aa m.an.length ca, .slice An m.ns.length cn, .slice Ae m.ex.length ce, .int .i64 m.sz]] w fun e w' => e = .returned (.bool true) ∧ Below w.heap.size w w' := by
  obtain ⟨gM, hgM⟩ : ∃ gM, w.heap.size = gM := ⟨_, rfl⟩
  have hbX := below_alloc (Below.refl w.heap.size w) (Obj.cells #[.int .u16 m.id, .bool m.rp, .int .i64 m.op, .bool m.au, .bool m.tr, .bool m.de, .bool m.av, .int .i64 m.co, .string m.qn, .int .u16 m.qt, .slice Aa m.an.length ca, .slice An m.ns.length cn, .slice Ae m.ex.length ce, .int .i64 m.sz] 31)
  have hBK : MVar (w.alloc (Obj.cells #[.int .u16 m.id, .bool m.rp, .int .i64 m.op, .bool m.au, .bool m.tr, .bool m.de, .bool m.av, .int .i64 m.co, .string m.qn, .int .u16 m.qt, .slice Aa m.an.length ca, .slice An m.ns.length cn, .slice Ae m.ex.length ce, .int .i64 m.sz] 31)) gM m (.slice Aa m.an.length ca) (.slice An m.ns.length cn) (.slice Ae m.ex.length ce) := by rw [← hgM]; exact blk_new w _
  obtain ⟨w1, hw1⟩ : ∃ w1, w.alloc (Obj.cells #[.int .u16 m.id, .bool m.rp, .int .i64 m.op, .bool m.au, .bool m.tr, .bool m.de, .bool m.av, .int .i64 m.co, .string m.qn, .int .u16 m.qt, .slice Aa m.an.length ca, .slice An m.ns.length cn, .slice Ae m.ex.length ce, .int .i64 m.sz] 31) = w1 := ⟨_, rfl⟩
  have HCA := Lib.hid hCa
  have HCN := Lib.hid hCn
  have HCE := Lib.hid hCe
  have HM := Lib.hid hm
  clear hCa hCn hCe
  go_enter Try.func3, Try.ntmps3
  go_upto_region 1 with fail
  rw [hw1] at hbX hBK
  (try rw [hw1])
  (try rw [hgM])
  have HBX := Lib.hid hbX
  have HV1 := Lib.hid hBK
  clear hbX hBK hw1 hgM
  go_wp2_with fail
  refine (awake_ w1).mono ?_
  rintro e w2 ⟨rfl, hb⟩
  have HV2 := Lib.hid (HV1.out.below hb)
  have HB2 := Lib.hid (HBX.out.trans (hb.mono HBX.out.size))
  clear hb HV1 HBX
  have c0 := HV2.out.cell 0 _ rfl
  have c1 := HV2.out.cell 1 _ rfl
  have c2 := HV2.out.cell 2 _ rfl
  have c3 := HV2.out.cell 3 _ rfl
  have c4 := HV2.out.cell 4 _ rfl
  have c5 := HV2.out.cell 5 _ rfl
  have c6 := HV2.out.cell 6 _ rfl
  have c7 := HV2.out.cell 7 _ rfl
  go_upto_region 4 with fail
  clear c0 c1 c2 c3 c4 c5 c6 c7
  obtain ⟨gH, hgH⟩ : ∃ gH, w2.heap.size = gH := ⟨_, rfl⟩
  obtain ⟨w3, hw3⟩ : ∃ w3, w2.alloc (Obj.cells #[.int .u16 m.id, .bool m.rp, .int .i64 m.op, .bool m.au, .bool m.tr, .bool m.de, .bool m.av, .int .i64 m.co] 24) = w3 := ⟨_, rfl⟩
  have hb3 : Below w2.heap.size w2 w3 := by rw [← hw3]; exact below_alloc (Below.refl _ _) _
  have hBH : w3.heap[gH]? = some (Obj.cells #[.int .u16 m.id, .bool m.rp, .int .i64 m.op, .bool m.au, .bool m.tr, .bool m.de, .bool m.av, .int .i64 m.co] 24 (0, 0)) := by rw [← hw3, ← hgH]; exact blk_new w2 _
  (try rw [hw3])
  (try rw [hgH])
  have HB3 := Lib.hid (HB2.out.trans (hb3.mono HB2.out.size))
  have HV3 := Lib.hid (HV2.out.below hb3)
  have HBH := Lib.hid hBH
  clear hb3 hBH hw3 hgH HB2 HV2
  go_cut [4] from 16 to 49 (fun v wx => v = .bool (headOk m) ∧ Aside0 (Below w3.heap.size w3 wx))
  case first =>
    have p2 := (blk_cell HBH.out 2).trans rfl
    have p7 := (blk_cell HBH.out 7).trans rfl
    have p8 := HV3.out.cell 8 _ rfl
    have p13 := HV3.out.cell 13 _ rfl
    by_cases c0 : 0 ≤ m.op
    rotate_left
    · have hh : headOk m = false := headOk_no (by omega)
      have d0 : decide (0 ≤ m.op) = false := decide_eq_false c0
      have e0 : decide (m.op ≥ 0) = false := decide_eq_false c0
      go_wp2
      go_meet
      case rel => exact ⟨by rw [hh], ⟨Below.refl _ _⟩⟩
    have d0 : decide (0 ≤ m.op) = true := decide_eq_true c0
    have e0 : decide (m.op ≥ 0) = true := decide_eq_true c0
    by_cases c1 : m.op < 16
    rotate_left
    · have hh : headOk m = false := headOk_no (by omega)
      have d1 : decide (m.op < 16) = false := decide_eq_false c1
      go_wp2
      go_meet
      case rel => exact ⟨by rw [hh], ⟨Below.refl _ _⟩⟩
    have d1 : decide (m.op < 16) = true := decide_eq_true c1
    by_cases c2 : 0 ≤ m.co
    rotate_left
    · have hh : headOk m = false := headOk_no (by omega)
      have d2 : decide (0 ≤ m.co) = false := decide_eq_false c2
      have e2 : decide (m.co ≥ 0) = false := decide_eq_false c2
      go_wp2
      go_meet
      case rel => exact ⟨by rw [hh], ⟨Below.refl _ _⟩⟩
    have d2 : decide (0 ≤ m.co) = true := decide_eq_true c2
    have e2 : decide (m.co ≥ 0) = true := decide_eq_true c2
    by_cases c3 : m.co < 16
    rotate_left
    · have hh : headOk m = false := headOk_no (by omega)
      have d3 : decide (m.co < 16) = false := decide_eq_false c3
      go_wp2
      go_meet
      case rel => exact ⟨by rw [hh], ⟨Below.refl _ _⟩⟩
    have d3 : decide (m.co < 16) = true := decide_eq_true c3
    by_cases c4 : 0 ≤ m.sz
    rotate_left
    · have hh : headOk m = false := headOk_no (by omega)
      have d4 : decide (0 ≤ m.sz) = false := decide_eq_false c4
      have e4 : decide (m.sz ≥ 0) = false := decide_eq_false c4
      go_wp2
      go_meet
      case rel => exact ⟨by rw [hh], ⟨Below.refl _ _⟩⟩
    have d4 : decide (0 ≤ m.sz) = true := decide_eq_true c4
    have e4 : decide (m.sz ≥ 0) = true := decide_eq_true c4
    by_cases c5 : m.sz < 65536
    rotate_left
    · have hh : headOk m = false := headOk_no (by omega)
      have d5 : decide (m.sz < 65536) = false := decide_eq_false c5
      go_wp2
      go_meet
      case rel => exact ⟨by rw [hh], ⟨Below.refl _ _⟩⟩
    have d5 : decide (m.sz < 65536) = true := decide_eq_true c5
    go_wp2_with fail
    refine (may_ m.qn (by have := HM.out.2.1; omega) w3).mono ?_
    rintro e w4 ⟨rfl, hb4⟩
    have hh : headOk m = nm (bytesOf m.qn) := by unfold headOk; rw [decide_eq_true (by omega)]; rfl
    go_wp2
    go_meet
    case rel => exact ⟨by rw [hh], ⟨hb4⟩⟩
  case rest =>
    obtain ⟨rfl, HBc⟩ := hcut
    obtain ⟨bh, hbh⟩ : ∃ b, headOk m = b := ⟨_, rfl⟩
    have HB4 := Lib.hid (HB3.out.trans (HBc.out.mono HB3.out.size))
    have HV4 := Lib.hid (HV3.out.below HBc.out)
    clear hbh bh HBc HB3 HV3 HBH
    have p10 := HV4.out.cell 10 _ rfl
    have p11 := HV4.out.cell 11 _ rfl
    have p12 := HV4.out.cell 12 _ rfl
    go_upto_region 6 with fail
    clear p10 p11 p12
    obtain ⟨gP, hgP⟩ : ∃ gP, wc.heap.size = gP := ⟨_, rfl⟩
    obtain ⟨w5, hw5⟩ : ∃ w5, wc.alloc (.cells #[.slice Aa m.an.length ca, .slice An m.ns.length cn, .slice Ae m.ex.length ce] 29) = w5 := ⟨_, rfl⟩
    have hb5 : Below wc.heap.size wc w5 := by rw [← hw5]; exact below_alloc (Below.refl _ _) _
    have hBKP : w5.heap[gP]? = some (.cells #[.slice Aa m.an.length ca, .slice An m.ns.length cn, .slice Ae m.ex.length ce] 29 (0, 0)) := by rw [← hw5, ← hgP]; exact blk_new wc _
    (try rw [hw5])
    (try rw [hgP])
    have HB5 := Lib.hid (HB4.out.trans (hb5.mono HB4.out.size))
    have HV5 := Lib.hid (HV4.out.below hb5)
    have HBKP := Lib.hid hBKP
    clear hb5 hBKP hw5 hgP HB4 HV4
    go_loopw [4, 58] (fun v i wx => ∃ j : Nat, j ≤ 3 ∧ i = .int .i64 j ∧ v = .bool (headOk m && ([m.an, m.ns, m.ex].take j).all partOk) ∧ Aside0 (Below w5.heap.size w5 wx ∧ ∀ l ∈ [m.an, m.ns, m.ex].take j, l.length ≤ 70))
      (fun _ i _ => 3 - (intOf i).toNat)
    case atStart => exact ⟨0, by omega, rfl, by simp, ⟨Below.refl _ _, fun l hl => (by cases hl)⟩⟩
    case round =>
      obtain ⟨j, hj, rfl, rfl, HG⟩ := hrel
      have HGj := Lib.hid HG.out
      clear HG
      obtain ⟨bj, hbj⟩ : ∃ b, (headOk m && ([m.an, m.ns, m.ex].take j).all partOk) = b := ⟨_, rfl⟩
      rw [hbj]
      have HBJ := Lib.hid hbj
      clear hbj
      by_cases hlt : j < 3
      · obtain ⟨P, A, c, hP, hcell, hC, hc, hwf, hlen⟩ : ∃ (P : List R) (A : Option Addr) (c : Nat), [m.an, m.ns, m.ex][j]? = some P ∧ wr.cell? ⟨gP, j, none⟩ = some (.slice A P.length c) ∧ Kd.C k37 w A P.length P ∧ P.length ≤ c ∧ (∀ r ∈ P, WfR r) ∧ P.length ≤ 1048576 := by
          have hbk := blk_below HBKP.out HGj.out.1
          have hm := HM.out
          rcases (show j = 0 ∨ j = 1 ∨ j = 2 by omega) with rfl | rfl | rfl
          · exact ⟨m.an, Aa, ca, rfl, (blk_cell hbk 0).trans rfl, HCA.out, hca, hm.1.1, hm.2.2.2.1⟩
          · exact ⟨m.ns, An, cn, rfl, (blk_cell hbk 1).trans rfl, HCN.out, hcn, hm.1.2.1, hm.2.2.2.2.1⟩
          · exact ⟨m.ex, Ae, ce, rfl, (blk_cell hbk 2).trans rfl, HCE.out, hce, hm.1.2.2, hm.2.2.1⟩
        have HPJ := Lib.hid hP
        have HCP := Lib.hid hC
        have HWF := Lib.hid hwf
        have HBW : Hid (Below w.heap.size w wr) := Lib.hid (HB5.out.trans (HGj.out.1.mono HB5.out.size))
        clear hP hC hwf
        have hd3 : decide ((j : Int) < 3) = true := decide_eq_true (by omega)
        by_cases h70 : 70 < P.length
        · have d1 : decide ((P.length : Int) > 70) = true := decide_eq_true (by omega)
          have d2 : decide (70 < (P.length : Int)) = true := decide_eq_true (by omega)
          have d3 : decide (70 < P.length) = true := decide_eq_true h70
          go_wp2
          go_ret
          exact ⟨rfl, HBW.out⟩
        · have d1 : decide ((P.length : Int) > 70) = false := decide_eq_false (by omega)
          have d2 : decide (70 < (P.length : Int)) = false := decide_eq_false (by omega)
          have d3 : decide (70 < P.length) = false := decide_eq_false h70
          have H70 : Hid (P.length ≤ 70) := Lib.hid (by omega)
          clear h70
          go_upto_region 10 with fail
          clear hcell d1 d2 d3
          go_cut [4, 58] from 58 to 101 (fun v i wx => v = .bool (bj && decide (P.length ≤ 64)) ∧ i = .int .i64 j ∧ wx = wr)
          case first =>
            by_cases h64 : P.length ≤ 64
            · have d1 : decide ((P.length : Int) ≤ 64) = true := decide_eq_true (by omega)
              have d2 : decide (P.length ≤ 64) = true := decide_eq_true h64
              cases bj
              all_goals
                go_wp2
                go_meet
                case rel => exact ⟨by rw [d2]; rfl, rfl, rfl⟩
            · have d1 : decide ((P.length : Int) ≤ 64) = false := decide_eq_false (by omega)
              have d2 : decide (P.length ≤ 64) = false := decide_eq_false h64
              cases bj
              all_goals
                go_wp2
                go_meet
                case rel => exact ⟨by rw [d2]; rfl, rfl, rfl⟩
          case rest =>
            obtain ⟨rfl, rfl, rfl⟩ := hcut
            obtain ⟨b1, hb1⟩ : ∃ b, (bj && decide (P.length ≤ 64)) = b := ⟨_, rfl⟩
            rw [hb1]
            have HB1 := Lib.hid hb1
            clear hb1
            have HGs := Lib.hid HGj.out.1
            go_wp2_with fail
            go_loopw [4, 73] (fun v i wx => ∃ q : Nat, q ≤ P.length ∧ i = .int .i64 q ∧ v = .bool (b1 && (P.take q).all mayR) ∧ Aside0 (Below w5.heap.size w5 wx))
              (fun _ i _ => P.length - (intOf i).toNat)
            case atStart => exact ⟨0, Nat.zero_le _, rfl, by simp, ⟨HGs.out⟩⟩
            case round =>
              obtain ⟨q, hq, rfl, rfl, HG⟩ := hrel
              have HGq := Lib.hid HG.out
              clear HG
              by_cases hql : q < P.length
              · obtain ⟨r, hr⟩ : ∃ r, P[q]? = some r := ⟨_, List.getElem?_eq_getElem hql⟩
                have hrd := rd_Rm hr
                have hbw : Below w.heap.size w wr := HB5.out.trans (HGq.out.mono HB5.out.size)
                obtain ⟨ad, hA, q0, q1, q2, q3⟩ := at_T37 (Kd.C_below HCP.out hbw) (q : Int) (by omega) (by omega)
                simp only [Int.toNat_natCast, hrd] at q0 q1 q2 q3
                subst hA
                have HR := Lib.hid hr
                have hwr := HWF.out r (List.mem_of_getElem? hr)
                obtain ⟨kR, hkR⟩ := Ev.rounds (mayR_ev r hwr.2.2.1 hwr.2.2.2)
                have HKR := Lib.hid hkR
                obtain ⟨kB, hkB⟩ := Ev.rounds (mayB_ev r.f1 r.f3 hwr.2.2.2)
                have HKB := Lib.hid hkB
                have HWR := Lib.hid hwr
                clear hr hrd hbw hwr hkR hkB
                obtain ⟨bb, hbb⟩ : ∃ b, (b1 && (P.take q).all mayR) = b := ⟨_, rfl⟩
                rw [hbb]
                have HBB := Lib.hid hbb
                clear hbb
                go_wp2_with fail
                clear q0 q1 q2 q3
                obtain ⟨gx, hgx⟩ : ∃ gx, wr.heap.size = gx := ⟨_, rfl⟩
                obtain ⟨wy, hwy⟩ : ∃ wy, wr.alloc (Obj.cells #[.string r.f0, .int .u16 r.f1, .int .u32 r.f2, .string r.f3] 37) = wy := ⟨_, rfl⟩
                have hby : Below wr.heap.size wr wy := by rw [← hwy]; exact below_alloc (Below.refl _ _) _
                have hX : wy.heap[gx]? = some (Obj.cells #[.string r.f0, .int .u16 r.f1, .int .u32 r.f2, .string r.f3] 37 (0, 0)) := by rw [← hwy, ← hgx]; exact blk_new wr _
                (try rw [hwy])
                (try rw [hgx])
                refine (may_ r.f0 (by have := HWR.out.2.2.1; omega) wy).mono ?_
                rintro e wz ⟨rfl, hbz⟩
                have HX := Lib.hid (blk_below hX hbz)
                have HGz := Lib.hid (HGq.out.trans ((hby.trans (hbz.mono hby.size)).mono HGq.out.size))
                clear hby hX hbz hwy hgx HGq
                cases bb
                · skip
                  have q0' := (blk_cell HX.out 0).trans rfl
                  cases hn : nm (bytesOf r.f0) with
                  | false =>
                    clear q0'
                    have HMR : Hid (mayR r = false) := Lib.hid (by unfold mayR; rw [hn]; rfl)
                    have e0 := (blk_cell HX.out 0).trans rfl
                    have e1 := (blk_cell HX.out 1).trans rfl
                    have e2 := (blk_cell HX.out 2).trans rfl
                    have e3 := (blk_cell HX.out 3).trans rfl
                    go_wp2_with fail
                    clear e0 e1 e2 e3
                    refine (message_MayRecord.calls kR r.f0 r.f1 r.f2 r.f3 (mayR r) _ HKR.out).mono ?_
                    rintro e wv ⟨rfl, hbv⟩
                    rw [HMR.out]
                    have HGv := Lib.hid (HGz.out.trans (hbv.mono HGz.out.size))
                    clear hbv
                    have hst : (b1 && (P.take (q + 1)).all mayR) = (false && false) := by rw [List.take_add_one, HR.out, List.all_append, ← Bool.and_assoc, HBB.out]; simp [HMR.out]
                    have HST := Lib.hid hst
                    clear hst
                    go_wp2
                    go_roundw
                    case rel => exact ⟨q + 1, by omega, by go_num, by rw [HST.out]; rfl, ⟨HGv.out⟩⟩
                    case measure => simp [intOf]; omega
                  | true =>
                    clear q0'
                    by_cases h41 : r.f1 = 41
                    · have d1 : (r.f1 != 41) = false := by rw [h41]; rfl
                      have H41 := Lib.hid h41
                      clear h41
                      have HMR : Hid (mayR r = false) := Lib.hid (by unfold mayR; rw [decide_eq_false (by have := H41.out; omega)]; simp)
                      have e0 := (blk_cell HX.out 0).trans rfl
                      have e1 := (blk_cell HX.out 1).trans rfl
                      have e2 := (blk_cell HX.out 2).trans rfl
                      have e3 := (blk_cell HX.out 3).trans rfl
                      go_wp2_with fail
                      clear e0 e1 e2 e3
                      refine (message_MayRecord.calls kR r.f0 r.f1 r.f2 r.f3 (mayR r) _ HKR.out).mono ?_
                      rintro e wv ⟨rfl, hbv⟩
                      rw [HMR.out]
                      have HGv := Lib.hid (HGz.out.trans (hbv.mono HGz.out.size))
                      clear hbv
                      have hst : (b1 && (P.take (q + 1)).all mayR) = (false && false) := by rw [List.take_add_one, HR.out, List.all_append, ← Bool.and_assoc, HBB.out]; simp [HMR.out]
                      have HST := Lib.hid hst
                      clear hst
                      go_wp2
                      go_roundw
                      case rel => exact ⟨q + 1, by omega, by go_num, by rw [HST.out]; rfl, ⟨HGv.out⟩⟩
                      case measure => simp [intOf]; omega
                    · have d1 : (r.f1 != 41) = true := by simp [h41]
                      have H41 := Lib.hid h41
                      clear h41
                      have e1 := (blk_cell HX.out 1).trans rfl
                      have e3 := (blk_cell HX.out 3).trans rfl
                      go_wp2_with fail
                      clear e1 e3
                      refine (rdata_May.calls kB r.f1 r.f3 _ _ HKB.out).mono ?_
                      rintro e wu ⟨rfl, hbu⟩
                      have HX2 := Lib.hid (blk_below HX.out hbu)
                      have HGu := Lib.hid (HGz.out.trans (hbu.mono HGz.out.size))
                      clear hbu HX HGz
                      have HX := HX2
                      have HGz := HGu
                      clear HX2 HGu
                      cases hmb : mayB r.f1 r.f3 with
                      | false =>
                        have HMR : Hid (mayR r = false) := Lib.hid (by unfold mayR; rw [hmb]; simp)
                        have e0 := (blk_cell HX.out 0).trans rfl
                        have e1 := (blk_cell HX.out 1).trans rfl
                        have e2 := (blk_cell HX.out 2).trans rfl
                        have e3 := (blk_cell HX.out 3).trans rfl
                        go_wp2_with fail
                        clear e0 e1 e2 e3
                        refine (message_MayRecord.calls kR r.f0 r.f1 r.f2 r.f3 (mayR r) _ HKR.out).mono ?_
                        rintro e wv ⟨rfl, hbv⟩
                        rw [HMR.out]
                        have HGv := Lib.hid (HGz.out.trans (hbv.mono HGz.out.size))
                        clear hbv
                        have hst : (b1 && (P.take (q + 1)).all mayR) = (false && false) := by rw [List.take_add_one, HR.out, List.all_append, ← Bool.and_assoc, HBB.out]; simp [HMR.out]
                        have HST := Lib.hid hst
                        clear hst
                        go_wp2
                        go_roundw
                        case rel => exact ⟨q + 1, by omega, by go_num, by rw [HST.out]; rfl, ⟨HGv.out⟩⟩
                        case measure => simp [intOf]; omega
                      | true =>
                        have HMR : Hid (mayR r = true) := Lib.hid (by unfold mayR; rw [hn, hmb, decide_eq_true H41.out]; rfl)
                        have e0 := (blk_cell HX.out 0).trans rfl
                        have e1 := (blk_cell HX.out 1).trans rfl
                        have e2 := (blk_cell HX.out 2).trans rfl
                        have e3 := (blk_cell HX.out 3).trans rfl
                        go_wp2_with fail
                        clear e0 e1 e2 e3
                        refine (message_MayRecord.calls kR r.f0 r.f1 r.f2 r.f3 (mayR r) _ HKR.out).mono ?_
                        rintro e wv ⟨rfl, hbv⟩
                        rw [HMR.out]
                        have HGv := Lib.hid (HGz.out.trans (hbv.mono HGz.out.size))
                        clear hbv
                        have hst : (b1 && (P.take (q + 1)).all mayR) = (false && true) := by rw [List.take_add_one, HR.out, List.all_append, ← Bool.and_assoc, HBB.out]; simp [HMR.out]
                        have HST := Lib.hid hst
                        clear hst
                        go_wp2
                        go_roundw
                        case rel => exact ⟨q + 1, by omega, by go_num, by rw [HST.out]; rfl, ⟨HGv.out⟩⟩
                        case measure => simp [intOf]; omega
                · skip
                  have q0' := (blk_cell HX.out 0).trans rfl
                  cases hn : nm (bytesOf r.f0) with
                  | false =>
                    clear q0'
                    have HMR : Hid (mayR r = false) := Lib.hid (by unfold mayR; rw [hn]; rfl)
                    have e0 := (blk_cell HX.out 0).trans rfl
                    have e1 := (blk_cell HX.out 1).trans rfl
                    have e2 := (blk_cell HX.out 2).trans rfl
                    have e3 := (blk_cell HX.out 3).trans rfl
                    go_wp2_with fail
                    clear e0 e1 e2 e3
                    refine (message_MayRecord.calls kR r.f0 r.f1 r.f2 r.f3 (mayR r) _ HKR.out).mono ?_
                    rintro e wv ⟨rfl, hbv⟩
                    rw [HMR.out]
                    have HGv := Lib.hid (HGz.out.trans (hbv.mono HGz.out.size))
                    clear hbv
                    have hst : (b1 && (P.take (q + 1)).all mayR) = (true && false) := by rw [List.take_add_one, HR.out, List.all_append, ← Bool.and_assoc, HBB.out]; simp [HMR.out]
                    have HST := Lib.hid hst
                    clear hst
                    go_wp2
                    go_roundw
                    case rel => exact ⟨q + 1, by omega, by go_num, by rw [HST.out]; rfl, ⟨HGv.out⟩⟩
                    case measure => simp [intOf]; omega
                  | true =>
                    clear q0'
                    by_cases h41 : r.f1 = 41
                    · have d1 : (r.f1 != 41) = false := by rw [h41]; rfl
                      have H41 := Lib.hid h41
                      clear h41
                      have HMR : Hid (mayR r = false) := Lib.hid (by unfold mayR; rw [decide_eq_false (by have := H41.out; omega)]; simp)
                      have e0 := (blk_cell HX.out 0).trans rfl
                      have e1 := (blk_cell HX.out 1).trans rfl
                      have e2 := (blk_cell HX.out 2).trans rfl
                      have e3 := (blk_cell HX.out 3).trans rfl
                      go_wp2_with fail
                      clear e0 e1 e2 e3
                      refine (message_MayRecord.calls kR r.f0 r.f1 r.f2 r.f3 (mayR r) _ HKR.out).mono ?_
                      rintro e wv ⟨rfl, hbv⟩
                      rw [HMR.out]
                      have HGv := Lib.hid (HGz.out.trans (hbv.mono HGz.out.size))
                      clear hbv
                      have hst : (b1 && (P.take (q + 1)).all mayR) = (true && false) := by rw [List.take_add_one, HR.out, List.all_append, ← Bool.and_assoc, HBB.out]; simp [HMR.out]
                      have HST := Lib.hid hst
                      clear hst
                      go_wp2
                      go_roundw
                      case rel => exact ⟨q + 1, by omega, by go_num, by rw [HST.out]; rfl, ⟨HGv.out⟩⟩
                      case measure => simp [intOf]; omega
                    · have d1 : (r.f1 != 41) = true := by simp [h41]
                      have H41 := Lib.hid h41
                      clear h41
                      have e1 := (blk_cell HX.out 1).trans rfl
                      have e3 := (blk_cell HX.out 3).trans rfl
                      go_wp2_with fail
                      clear e1 e3
                      refine (rdata_May.calls kB r.f1 r.f3 _ _ HKB.out).mono ?_
                      rintro e wu ⟨rfl, hbu⟩
                      have HX2 := Lib.hid (blk_below HX.out hbu)
                      have HGu := Lib.hid (HGz.out.trans (hbu.mono HGz.out.size))
                      clear hbu HX HGz
                      have HX := HX2
                      have HGz := HGu
                      clear HX2 HGu
                      cases hmb : mayB r.f1 r.f3 with
                      | false =>
                        have HMR : Hid (mayR r = false) := Lib.hid (by unfold mayR; rw [hmb]; simp)
                        have e0 := (blk_cell HX.out 0).trans rfl
                        have e1 := (blk_cell HX.out 1).trans rfl
                        have e2 := (blk_cell HX.out 2).trans rfl
                        have e3 := (blk_cell HX.out 3).trans rfl
                        go_wp2_with fail
                        clear e0 e1 e2 e3
                        refine (message_MayRecord.calls kR r.f0 r.f1 r.f2 r.f3 (mayR r) _ HKR.out).mono ?_
                        rintro e wv ⟨rfl, hbv⟩
                        rw [HMR.out]
                        have HGv := Lib.hid (HGz.out.trans (hbv.mono HGz.out.size))
                        clear hbv
                        have hst : (b1 && (P.take (q + 1)).all mayR) = (true && false) := by rw [List.take_add_one, HR.out, List.all_append, ← Bool.and_assoc, HBB.out]; simp [HMR.out]
                        have HST := Lib.hid hst
                        clear hst
                        go_wp2
                        go_roundw
                        case rel => exact ⟨q + 1, by omega, by go_num, by rw [HST.out]; rfl, ⟨HGv.out⟩⟩
                        case measure => simp [intOf]; omega
                      | true =>
                        have HMR : Hid (mayR r = true) := Lib.hid (by unfold mayR; rw [hn, hmb, decide_eq_true H41.out]; rfl)
                        have e0 := (blk_cell HX.out 0).trans rfl
                        have e1 := (blk_cell HX.out 1).trans rfl
                        have e2 := (blk_cell HX.out 2).trans rfl
                        have e3 := (blk_cell HX.out 3).trans rfl
                        go_wp2_with fail
                        clear e0 e1 e2 e3
                        refine (message_MayRecord.calls kR r.f0 r.f1 r.f2 r.f3 (mayR r) _ HKR.out).mono ?_
                        rintro e wv ⟨rfl, hbv⟩
                        rw [HMR.out]
                        have HGv := Lib.hid (HGz.out.trans (hbv.mono HGz.out.size))
                        clear hbv
                        have hst : (b1 && (P.take (q + 1)).all mayR) = (true && true) := by rw [List.take_add_one, HR.out, List.all_append, ← Bool.and_assoc, HBB.out]; simp [HMR.out]
                        have HST := Lib.hid hst
                        clear hst
                        go_wp2
                        go_roundw
                        case rel => exact ⟨q + 1, by omega, by go_num, by rw [HST.out]; rfl, ⟨HGv.out⟩⟩
                        case measure => simp [intOf]; omega
              · obtain rfl : q = P.length := by omega
                have HAL : Hid ((headOk m && ([m.an, m.ns, m.ex].take (j + 1)).all partOk) = (b1 && (P.take P.length).all mayR)) := Lib.hid (by
                  rw [List.take_length, ← HB1.out, List.take_add_one, HPJ.out, List.all_append, ← Bool.and_assoc, HBJ.out, Bool.and_assoc]
                  simp [partOk])
                have HLS : Hid (∀ l ∈ [m.an, m.ns, m.ex].take (j + 1), l.length ≤ 70) := Lib.hid (fun l hl => by
                  rw [List.take_add_one, HPJ.out] at hl
                  rcases List.mem_append.1 hl with hl | hl
                  · exact HGj.out.2 l hl
                  · rw [Option.toList_some, List.mem_singleton] at hl
                    rw [hl]
                    exact H70.out)
                go_wp2
                go_roundw
                case rel => exact ⟨j + 1, by omega, by go_num, by rw [HAL.out], ⟨HGq.out, HLS.out⟩⟩
                case measure => simp [intOf]; omega
      · obtain rfl : j = 3 := by omega
        have HMM : Hid (bj = mayM m) := Lib.hid (by rw [← HBJ.out]; rfl)
        have hml : WfM m := by
          have h := HM.out
          have h1 := HGj.out.2 m.an (by simp)
          have h2 := HGj.out.2 m.ns (by simp)
          have h3 := HGj.out.2 m.ex (by simp)
          exact ⟨h.1, h.2.1, by omega, by omega, by omega, h.2.2.2.2.2⟩
        have HML := Lib.hid hml
        have HV6 := Lib.hid (HV5.out.below HGj.out.1)
        have HB6 := Lib.hid (HB5.out.trans (HGj.out.1.mono HB5.out.size))
        clear hml HGj HV5
        go_wp2_with ((with_reducible refine gate_ld (t := 31) rfl ?_); refine ev_load rfl rfl rfl HV6.out.load ?_)
        refine (encode_ m HML.out 1048576 Aa An Ae ca cn ce wr (Kd.C_below HCA.out HB6.out) hca (Kd.C_below HCN.out HB6.out) hcn (Kd.C_below HCE.out HB6.out) hce).mono ?_
        rintro e w7 ⟨v, b, rfl, hb, hr⟩
        have HV7 := Lib.hid (HV6.out.below hb)
        have HB7 := Lib.hid (HB6.out.trans (hb.mono HB6.out.size))
        obtain ⟨Av, nv, cv, hvv, hbm, hnv⟩ : ∃ Av nv cv, v = .slice Av nv cv ∧ b = mayM m ∧ (mayM m = false → nv = 0) := by
          cases hmm : mayM m with
          | false =>
            have he : encL m 1048576 = none := by unfold encL; rw [hmm]; rfl
            rw [he] at hr
            exact ⟨none, 0, 0, hr.2, hr.1, fun _ => rfl⟩
          | true =>
            have he : encL m 1048576 = some (wholeL m) := by unfold encL; rw [hmm, if_pos rfl, if_pos (by have := whole_short hmm; omega)]
            rw [he] at hr
            obtain ⟨Av, cv, hv⟩ := Wr.own_slice hr.2
            exact ⟨Av, _, cv, hv, hr.1, fun h => (by cases h)⟩
        subst hvv
        rw [hbm]
        have HNV := Lib.hid hnv
        clear hb hr hbm hnv HV6 HB6
        go_wp2_with ((with_reducible refine gate_ld (t := 31) rfl ?_); refine ev_load rfl rfl rfl HV7.out.load ?_)
        refine (mayM_ m HML.out Aa An Ae ca cn ce w7 (Kd.C_below HCA.out HB7.out) hca (Kd.C_below HCN.out HB7.out) hcn (Kd.C_below HCE.out HB7.out) hce).mono ?_
        rintro e w8 ⟨rfl, hb8⟩
        have HB8 := Lib.hid (HB7.out.trans (hb8.mono HB7.out.size))
        clear hb8 HV7 HB7
        rw [HMM.out]
        cases hmm : mayM m with
        | false =>
          have hz := HNV.out hmm
          subst hz
          go_wp2
          go_ret
          exact ⟨by first | rfl | simp, HB8.out⟩
        | true =>
          go_wp2
          go_ret
          exact ⟨by first | rfl | simp, HB8.out⟩
open Classical in
noncomputable def bolterlaw05_MessageMay.f (a0_0 : Int) (a0_1 : Bool) (a0_2 : Int) (a0_3 : Bool) (a0_4 : Bool) (a0_5 : Bool) (a0_6 : Bool) (a0_7 : Int) (a0_8 : ByteArray) (a0_9 : Int) (l0_10 : List (S37)) (l0_11 : List (S37)) (l0_12 : List (S37)) (a0_13 : Int) : Option Bool :=
  if WfL ⟨a0_0, a0_1, a0_2, a0_3, a0_4, a0_5, a0_6, a0_7, a0_8, a0_9, l0_10, l0_11, l0_12, a0_13⟩ then some true else none
theorem bolterlaw05_MessageMay.calls (a0_0 : Int) (a0_1 : Bool) (a0_2 : Int) (a0_3 : Bool) (a0_4 : Bool) (a0_5 : Bool) (a0_6 : Bool) (a0_7 : Int) (a0_8 : ByteArray) (a0_9 : Int) (A0_10 : Option Addr) (c0_10 : Nat) (l0_10 : List (S37)) (A0_11 : Option Addr) (c0_11 : Nat) (l0_11 : List (S37)) (A0_12 : Option Addr) (c0_12 : Nat) (l0_12 : List (S37)) (a0_13 : Int) (r : Bool) (w : World) (hr0_10 : Kd.C k37 w A0_10 l0_10.length l0_10) (hc0_10 : l0_10.length ≤ c0_10) (hr0_11 : Kd.C k37 w A0_11 l0_11.length l0_11) (hc0_11 : l0_11.length ≤ c0_11) (hr0_12 : Kd.C k37 w A0_12 l0_12.length l0_12) (hc0_12 : l0_12.length ≤ c0_12) (h : bolterlaw05_MessageMay.f a0_0 a0_1 a0_2 a0_3 a0_4 a0_5 a0_6 a0_7 a0_8 a0_9 l0_10 l0_11 l0_12 a0_13 = some r) :
    Calls Try.prog 3 #[.agg #[.int .u16 a0_0, .bool a0_1, .int .i64 a0_2, .bool a0_3, .bool a0_4, .bool a0_5, .bool a0_6, .int .i64 a0_7, .string a0_8, .int .u16 a0_9, .slice A0_10 l0_10.length c0_10, .slice A0_11 l0_11.length c0_11, .slice A0_12 l0_12.length c0_12, .int .i64 a0_13]] w fun e w' => e = .returned (.bool r) ∧ Below w.heap.size w w' := by
  unfold bolterlaw05_MessageMay.f at h
  by_cases hc : WfL ⟨a0_0, a0_1, a0_2, a0_3, a0_4, a0_5, a0_6, a0_7, a0_8, a0_9, l0_10, l0_11, l0_12, a0_13⟩
  · rw [if_pos hc] at h
    obtain rfl := Option.some.inj h
    exact mm_ ⟨a0_0, a0_1, a0_2, a0_3, a0_4, a0_5, a0_6, a0_7, a0_8, a0_9, l0_10, l0_11, l0_12, a0_13⟩ hc A0_10 A0_11 A0_12 c0_10 c0_11 c0_12 w hr0_10 hc0_10 hr0_11 hc0_11 hr0_12 hc0_12
  · rw [if_neg hc] at h
    cases h
end Go.Proofs.Ytnikfeaggppmpaa.PM
