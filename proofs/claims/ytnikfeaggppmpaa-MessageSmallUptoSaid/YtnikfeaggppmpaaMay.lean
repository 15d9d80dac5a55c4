/- part of a proof; what it has no use for was struck out -/
import Derived.Test.YtnikfeaggppmpaaWhl
namespace Go.Proofs.Ytnikfeaggppmpaa.Wr
open Go.RowKit Go.Proofs.Ytnikfeaggppmpaa.PM Go.Proofs.YtnikfeaggppmpaaW Go.Proofs.YtnikfeaggppmpaaW.PrintWords Go.Proofs.YtnikfeaggppmpaaW.PrintLast Go.Proofs.YtnikfeaggppmpaaW.PrintMore Go.Proofs.Ytnikfeaggppmpaa.Base Go.Proofs.Ytnikfeaggppmpaa.Nam Go.Proofs.Ytnikfeaggppmpaa.Trn Go.Proofs.Ytnikfeaggppmpaa.MapS Go.Proofs.Ytnikfeaggppmpaa.QM
set_option linter.unusedVariables false
set_option linter.unusedSimpArgs false
set_option maxRecDepth 100000
noncomputable def mayR (r : R) : Bool := nm (bytesOf r.f0) && (decide (r.f1 ≠ 41) && mayB r.f1 r.f3)
theorem mayR_ev (r : R) (h0 : r.f0.size ≤ 1000000000) (h3 : r.f3.size ≤ 1000000000) : Ev (fun k => message_MayRecord.f k r.f0 r.f1 r.f2 r.f3) (mayR r) := by
  obtain ⟨K1, g1⟩ := May_ev r.f0 (by omega)
  obtain ⟨K2, g2⟩ := mayB_ev r.f1 r.f3 h3
  refine ⟨max K1 K2, fun k hk => ?_⟩
  have e1 := g1 k (by omega)
  have e2 := g2 k (by omega)
  simp only at e1 e2
  show message_MayRecord.f k r.f0 r.f1 r.f2 r.f3 = _
  unfold message_MayRecord.f mayR
  rw [e1, Option.bind_some]
  cases nm (bytesOf r.f0) with
  | false => rfl
  | true =>
    rw [if_pos rfl, Bool.true_and]
    by_cases h : r.f1 = 41
    · rw [if_pos h, decide_eq_false (by omega)]
      rfl
    · rw [if_neg h, e2, decide_eq_true h]
      rfl
noncomputable def partOk (l : List R) : Bool := decide (l.length ≤ 64) && l.all mayR
noncomputable def headOk (m : Msg) : Bool := decide (0 ≤ m.op ∧ m.op < 16 ∧ 0 ≤ m.co ∧ m.co < 16 ∧ 0 ≤ m.sz ∧ m.sz < 65536) && nm (bytesOf m.qn)
noncomputable def mayM (m : Msg) : Bool := headOk m && [m.an, m.ns, m.ex].all partOk
theorem mayM_head {m : Msg} (h : ¬ (0 ≤ m.op ∧ m.op < 16 ∧ 0 ≤ m.co ∧ m.co < 16 ∧ 0 ≤ m.sz ∧ m.sz < 65536)) : mayM m = false := by
  unfold mayM headOk
  rw [decide_eq_false h]
  rfl
theorem mayM_part {m : Msg} {j : Nat} {P : List R} (hP : [m.an, m.ns, m.ex][j]? = some P) (h : partOk P = false) : mayM m = false := by
  unfold mayM
  rw [Bool.and_eq_false_iff]
  right
  rw [List.all_eq_false]
  exact ⟨P, List.mem_of_getElem? hP, by rw [h]; decide⟩
set_option maxHeartbeats 8000000 in
theorem mayM_ (m : Msg) (hm : WfM m) (Aa An Ae : Option Addr) (ca cn ce : Nat) (w : World) (hCa : Kd.C k37 w Aa m.an.length m.an) (hca : m.an.length ≤ ca) (hCn : Kd.C k37 w An m.ns.length m.ns) (hcn : m.ns.length ≤ cn) (hCe : Kd.C k37 w Ae m.ex.length m.ex) (hce : m.ex.length ≤ ce) :
    Calls Try.prog 11 #[.agg #[.int .u16 m.id, .bool m.rp, .int .i64 m.op, .bool m.au, .bool m.tr, .bool m.de, .bool m.av, .int .i64 m.co, .string m.qn, .int .u16 m.qt, .slice Aa m.an.length ca, .slice An m.ns.length cn, .slice Ae m.ex.length ce, .int .i64 m.sz]] w fun e w' => e = .returned (.bool (mayM m)) ∧ Below w.heap.size w w' := by
  obtain ⟨gM, hgM⟩ : ∃ gM, w.heap.size = gM := ⟨_, rfl⟩
  have hbX := below_alloc (Below.refl w.heap.size w) (Obj.cells #[.int .u16 m.id, .bool m.rp, .int .i64 m.op, .bool m.au, .bool m.tr, .bool m.de, .bool m.av, .int .i64 m.co, .string m.qn, .int .u16 m.qt, .slice Aa m.an.length ca, .slice An m.ns.length cn, .slice Ae m.ex.length ce, .int .i64 m.sz] 31)
  have hBK : (w.alloc (Obj.cells #[.int .u16 m.id, .bool m.rp, .int .i64 m.op, .bool m.au, .bool m.tr, .bool m.de, .bool m.av, .int .i64 m.co, .string m.qn, .int .u16 m.qt, .slice Aa m.an.length ca, .slice An m.ns.length cn, .slice Ae m.ex.length ce, .int .i64 m.sz] 31)).heap[gM]? = some (Obj.cells #[.int .u16 m.id, .bool m.rp, .int .i64 m.op, .bool m.au, .bool m.tr, .bool m.de, .bool m.av, .int .i64 m.co, .string m.qn, .int .u16 m.qt, .slice Aa m.an.length ca, .slice An m.ns.length cn, .slice Ae m.ex.length ce, .int .i64 m.sz] 31 (0, 0)) := by rw [← hgM]; exact blk_new w _
  obtain ⟨w1, hw1⟩ : ∃ w1, w.alloc (Obj.cells #[.int .u16 m.id, .bool m.rp, .int .i64 m.op, .bool m.au, .bool m.tr, .bool m.de, .bool m.av, .int .i64 m.co, .string m.qn, .int .u16 m.qt, .slice Aa m.an.length ca, .slice An m.ns.length cn, .slice Ae m.ex.length ce, .int .i64 m.sz] 31) = w1 := ⟨_, rfl⟩
  have HCA := Lib.hid hCa
  have HCN := Lib.hid hCn
  have HCE := Lib.hid hCe
  have HM := Lib.hid hm
  clear hCa hCn hCe
  go_enter Try.func11, Try.ntmps11
  go_upto_region 1 with fail
  rw [hw1] at hbX hBK
  (try rw [hw1])
  (try rw [hgM])
  have HBX := Lib.hid hbX
  have HBK1 := Lib.hid hBK
  clear hbX hBK hw1 hgM
  have p0 := (blk_cell HBK1.out 0).trans rfl
  have p1 := (blk_cell HBK1.out 1).trans rfl
  have p2 := (blk_cell HBK1.out 2).trans rfl
  have p3 := (blk_cell HBK1.out 3).trans rfl
  have p4 := (blk_cell HBK1.out 4).trans rfl
  have p5 := (blk_cell HBK1.out 5).trans rfl
  have p6 := (blk_cell HBK1.out 6).trans rfl
  have p7 := (blk_cell HBK1.out 7).trans rfl
  go_upto_region 2 with fail
  clear p0 p1 p2 p3 p4 p5 p6 p7
  obtain ⟨gH, hgH⟩ : ∃ gH, w1.heap.size = gH := ⟨_, rfl⟩
  obtain ⟨w2, hw2⟩ : ∃ w2, w1.alloc (Obj.cells #[.int .u16 m.id, .bool m.rp, .int .i64 m.op, .bool m.au, .bool m.tr, .bool m.de, .bool m.av, .int .i64 m.co] 24) = w2 := ⟨_, rfl⟩
  have hb2 : Below w1.heap.size w1 w2 := by rw [← hw2]; exact below_alloc (Below.refl _ _) _
  have hBH : w2.heap[gH]? = some (Obj.cells #[.int .u16 m.id, .bool m.rp, .int .i64 m.op, .bool m.au, .bool m.tr, .bool m.de, .bool m.av, .int .i64 m.co] 24 (0, 0)) := by rw [← hw2, ← hgH]; exact blk_new w1 _
  (try rw [hw2])
  (try rw [hgH])
  have HB2 := Lib.hid (HBX.out.trans (hb2.mono HBX.out.size))
  have HBK2 := Lib.hid (blk_below HBK1.out hb2)
  have HBH := Lib.hid hBH
  clear hb2 hBH hw2 hgH HBX HBK1
  have p2 := (blk_cell HBH.out 2).trans rfl
  have p7 := (blk_cell HBH.out 7).trans rfl
  have p8 := (blk_cell HBK2.out 8).trans rfl
  have p13 := (blk_cell HBK2.out 13).trans rfl
  by_cases c0 : m.op < 0
  · have hmf : mayM m = false := mayM_head (by omega)
    have d0 : decide (m.op < 0) = true := decide_eq_true c0
    go_wp2
    go_ret
    (try rw [hmf])
    exact ⟨rfl, HB2.out⟩
  have d0 : decide (m.op < 0) = false := decide_eq_false c0
  by_cases c1 : 15 < m.op
  · have hmf : mayM m = false := mayM_head (by omega)
    have d1 : decide (15 < m.op) = true := decide_eq_true c1
    have e1 : decide (m.op > 15) = true := decide_eq_true c1
    go_wp2
    go_ret
    (try rw [hmf])
    exact ⟨rfl, HB2.out⟩
  have d1 : decide (15 < m.op) = false := decide_eq_false c1
  have e1 : decide (m.op > 15) = false := decide_eq_false c1
  by_cases c2 : m.co < 0
  · have hmf : mayM m = false := mayM_head (by omega)
    have d2 : decide (m.co < 0) = true := decide_eq_true c2
    go_wp2
    go_ret
    (try rw [hmf])
    exact ⟨rfl, HB2.out⟩
  have d2 : decide (m.co < 0) = false := decide_eq_false c2
  by_cases c3 : 15 < m.co
  · have hmf : mayM m = false := mayM_head (by omega)
    have d3 : decide (15 < m.co) = true := decide_eq_true c3
    have e3 : decide (m.co > 15) = true := decide_eq_true c3
    go_wp2
    go_ret
    (try rw [hmf])
    exact ⟨rfl, HB2.out⟩
  have d3 : decide (15 < m.co) = false := decide_eq_false c3
  have e3 : decide (m.co > 15) = false := decide_eq_false c3
  by_cases c4 : m.sz < 0
  · have hmf : mayM m = false := mayM_head (by omega)
    have d4 : decide (m.sz < 0) = true := decide_eq_true c4
    go_wp2
    go_ret
    (try rw [hmf])
    exact ⟨rfl, HB2.out⟩
  have d4 : decide (m.sz < 0) = false := decide_eq_false c4
  by_cases c5 : 65535 < m.sz
  · have hmf : mayM m = false := mayM_head (by omega)
    have d5 : decide (65535 < m.sz) = true := decide_eq_true c5
    have e5 : decide (m.sz > 65535) = true := decide_eq_true c5
    go_wp2
    go_ret
    (try rw [hmf])
    exact ⟨rfl, HB2.out⟩
  have d5 : decide (65535 < m.sz) = false := decide_eq_false c5
  have e5 : decide (m.sz > 65535) = false := decide_eq_false c5
  go_wp2_with fail
  refine (may_ m.qn (by have := HM.out.2.1; omega) w2).mono ?_
  rintro e w3 ⟨rfl, hb3⟩
  have HB3 := Lib.hid (HB2.out.trans (hb3.mono HB2.out.size))
  have HBK3 := Lib.hid (blk_below HBK2.out hb3)
  clear hb3 p2 p7 p8 p13 HBH HB2 HBK2
  cases hnq : nm (bytesOf m.qn) with
  | false =>
    have hmf : mayM m = false := by unfold mayM headOk; rw [hnq]; simp
    go_wp2
    go_ret
    (try rw [hmf])
    exact ⟨rfl, HB3.out⟩
  | true =>
    have HHD : Hid (headOk m = true) := Lib.hid (by unfold headOk; rw [hnq, Bool.and_true]; exact decide_eq_true (by omega))
    clear hnq c0 d0 c1 d1 e1 c2 d2 c3 d3 e3 c4 d4 c5 d5 e5
    have p10 := (blk_cell HBK3.out 10).trans rfl
    have p11 := (blk_cell HBK3.out 11).trans rfl
    have p12 := (blk_cell HBK3.out 12).trans rfl
    go_upto_region 5 with fail
    clear p10 p11 p12 HBK3
    obtain ⟨gP, hgP⟩ : ∃ gP, w3.heap.size = gP := ⟨_, rfl⟩
    obtain ⟨w4, hw4⟩ : ∃ w4, w3.alloc (.cells #[.slice Aa m.an.length ca, .slice An m.ns.length cn, .slice Ae m.ex.length ce] 29) = w4 := ⟨_, rfl⟩
    have hb4 : Below w3.heap.size w3 w4 := by rw [← hw4]; exact below_alloc (Below.refl _ _) _
    have hBKP : w4.heap[gP]? = some (.cells #[.slice Aa m.an.length ca, .slice An m.ns.length cn, .slice Ae m.ex.length ce] 29 (0, 0)) := by rw [← hw4, ← hgP]; exact blk_new w3 _
    (try rw [hw4])
    (try rw [hgP])
    have HB4 := Lib.hid (HB3.out.trans (hb4.mono HB3.out.size))
    have HBKP := Lib.hid hBKP
    clear hb4 hBKP hw4 hgP HB3
    go_loopw [53] (fun i wx => ∃ j : Nat, j ≤ 3 ∧ i = .int .i64 j ∧ Aside0 (Below w4.heap.size w4 wx ∧ ([m.an, m.ns, m.ex].take j).all partOk = true))
      (fun i _ => 3 - (intOf i).toNat)
    case atStart => exact ⟨0, by omega, rfl, ⟨Below.refl _ _, rfl⟩⟩
    case round =>
      obtain ⟨j, hj, rfl, HG⟩ := hrel
      have HGj := Lib.hid HG.out
      clear HG
      obtain ⟨x2, hx2⟩ : ∃ x, x = u2 := ⟨_, rfl⟩
      subst hx2
      by_cases hlt : j < 3
      · obtain ⟨P, A, c, hP, hcell, hC, hc, hwf, hlen⟩ : ∃ (P : List R) (A : Option Addr) (c : Nat), [m.an, m.ns, m.ex][j]? = some P ∧ wr.cell? ⟨gP, j, none⟩ = some (.slice A P.length c) ∧ Kd.C k37 w A P.length P ∧ P.length ≤ c ∧ (∀ r ∈ P, WfR r) ∧ P.length ≤ 100000 := by
          have hbk := blk_below HBKP.out HGj.out.1
          have hm := HM.out
          rcases (show j = 0 ∨ j = 1 ∨ j = 2 by omega) with rfl | rfl | rfl
          · exact ⟨m.an, Aa, ca, rfl, (blk_cell hbk 0).trans rfl, HCA.out, hca, hm.1.1, hm.2.2.2.1⟩
          · exact ⟨m.ns, An, cn, rfl, (blk_cell hbk 1).trans rfl, HCN.out, hcn, hm.1.2.1, hm.2.2.2.2.1⟩
          · exact ⟨m.ex, Ae, ce, rfl, (blk_cell hbk 2).trans rfl, HCE.out, hce, hm.1.2.2, hm.2.2.1⟩
        have HPJ := Lib.hid hP
        have HCP := Lib.hid hC
        have HWF := Lib.hid hwf
        have HBW : Hid (Below w.heap.size w wr) := Lib.hid (HB4.out.trans (HGj.out.1.mono HB4.out.size))
        clear hP hC hwf
        have hd3 : decide ((j : Int) < 3) = true := decide_eq_true (by omega)
        by_cases h64 : 64 < P.length
        · have d1 : decide ((P.length : Int) > 64) = true := decide_eq_true (by omega)
          have d2 : decide (64 < (P.length : Int)) = true := decide_eq_true (by omega)
          have d3 : decide (64 < P.length) = true := decide_eq_true h64
          have hmf : mayM m = false := mayM_part HPJ.out (by unfold partOk; rw [decide_eq_false (by omega)]; rfl)
          go_wp2
          go_ret
          (try rw [hmf])
          exact ⟨rfl, HBW.out⟩
        · have d1 : decide ((P.length : Int) > 64) = false := decide_eq_false (by omega)
          have d2 : decide (64 < (P.length : Int)) = false := decide_eq_false (by omega)
          have d3 : decide (64 < P.length) = false := decide_eq_false h64
          have H64 : Hid (P.length ≤ 64) := Lib.hid (by omega)
          clear h64
          go_wp2_with fail
          clear hcell d1 d2 d3
          have HGs := Lib.hid HGj.out.1
          go_loopw [62] (fun i wx => ∃ q : Nat, q ≤ P.length ∧ i = .int .i64 q ∧ Aside0 (Below w4.heap.size w4 wx ∧ (P.take q).all mayR = true))
            (fun i _ => P.length - (intOf i).toNat)
          case atStart => exact ⟨0, Nat.zero_le _, rfl, ⟨HGs.out, rfl⟩⟩
          case round =>
            obtain ⟨q, hq, rfl, HG⟩ := hrel
            have HGq := Lib.hid HG.out
            clear HG
            by_cases hql : q < P.length
            · obtain ⟨r, hr⟩ : ∃ r, P[q]? = some r := ⟨_, List.getElem?_eq_getElem hql⟩
              have hrd := rd_Rm hr
              have hbw : Below w.heap.size w wr := HB4.out.trans (HGq.out.1.mono HB4.out.size)
              obtain ⟨ad, hA, q0, q1, q2, q3⟩ := at_T37 (Kd.C_below HCP.out hbw) (q : Int) (by omega) (by omega)
              simp only [Int.toNat_natCast, hrd] at q0 q1 q2 q3
              subst hA
              have HR := Lib.hid hr
              have hwr := HWF.out r (List.mem_of_getElem? hr)
              obtain ⟨kR, hkR⟩ := Ev.rounds (mayR_ev r hwr.2.2.1 hwr.2.2.2)
              have HKR := Lib.hid hkR
              clear hr hrd hbw hwr hkR
              go_wp2_with fail
              clear q0 q1 q2 q3
              have hby := below_alloc (Below.refl wr.heap.size wr) (Obj.cells #[.string r.f0, .int .u16 r.f1, .int .u32 r.f2, .string r.f3] 37)
              refine (message_MayRecord.calls kR r.f0 r.f1 r.f2 r.f3 (mayR r) _ HKR.out).mono ?_
              rintro e wz ⟨rfl, hbz⟩
              have HGz := Lib.hid (HGq.out.1.trans ((hby.trans (hbz.mono hby.size)).mono HGq.out.1.size))
              clear hby hbz
              cases hmr : mayR r with
              | false =>
                have hmf : mayM m = false := mayM_part HPJ.out (by
                  unfold partOk
                  rw [Bool.and_eq_false_iff]
                  right
                  rw [List.all_eq_false]
                  exact ⟨r, List.mem_of_getElem? HR.out, by rw [hmr]; decide⟩)
                go_wp2
                go_ret
                (try rw [hmf])
                exact ⟨rfl, HB4.out.trans (HGz.out.mono HB4.out.size)⟩
              | true =>
                have HAL : Hid ((P.take (q + 1)).all mayR = true) := Lib.hid (by rw [List.take_add_one, HR.out, List.all_append, HGq.out.2]; simp [hmr])
                clear hmr
                go_wp2
                go_roundw
                case rel => exact ⟨q + 1, by omega, by go_num, ⟨HGz.out, HAL.out⟩⟩
                case measure => simp [intOf]; omega
            · obtain rfl : q = P.length := by omega
              have HAL : Hid (([m.an, m.ns, m.ex].take (j + 1)).all partOk = true) := Lib.hid (by
                have h := HGq.out.2
                rw [List.take_length] at h
                rw [List.take_add_one, HPJ.out, List.all_append, HGj.out.2]
                simp only [Option.toList_some, List.all_cons, List.all_nil, Bool.and_true, Bool.true_and]
                unfold partOk
                rw [h, decide_eq_true H64.out]
                rfl)
              clear HGs
              go_wp2
              go_roundw
              case rel => exact ⟨j + 1, by omega, by go_num, ⟨HGq.out.1, HAL.out⟩⟩
              case measure => simp [intOf]; omega
      · obtain rfl : j = 3 := by omega
        have hmf : mayM m = true := by
          unfold mayM
          rw [HHD.out, Bool.true_and]
          exact HGj.out.2
        go_wp2
        go_ret
        (try rw [hmf])
        exact ⟨rfl, HB4.out.trans (HGj.out.1.mono HB4.out.size)⟩
end Go.Proofs.Ytnikfeaggppmpaa.Wr
