/- part of a proof; what it has no use for was struck out -/
import Derived.Test.YtnikfeaggppmpaaAwk
import Derived.Test.YtnikfeaggppmpaaMk
import Derived.Test.YtnikfeaggppmpaaLwh
namespace Go.Proofs.Ytnikfeaggppmpaa.PM
open Go.RowKit Go.Proofs.YtnikfeaggppmpaaW Go.Proofs.YtnikfeaggppmpaaW.PrintWords Go.Proofs.YtnikfeaggppmpaaW.PrintLast Go.Proofs.YtnikfeaggppmpaaW.PrintMore Go.Proofs.Ytnikfeaggppmpaa.Base Go.Proofs.Ytnikfeaggppmpaa.Nam Go.Proofs.Ytnikfeaggppmpaa.Trn Go.Proofs.Ytnikfeaggppmpaa.MapS Go.Proofs.Ytnikfeaggppmpaa.QM Go.Proofs.Ytnikfeaggppmpaa.Wr
set_option linter.unusedVariables false
set_option linter.unusedSimpArgs false
set_option maxRecDepth 100000
theorem EncR_below {o : Option (List Int)} {w w1 : World} {base : Nat} {v : Value} {b : Bool} (h : EncR o w base v b) (hb : Below w.heap.size w w1) : EncR o w1 base v b := by
  cases o with
  | none => exact h
  | some l => exact ⟨h.1, pw_own_below h.2 hb⟩
theorem EncR_set {o : Option (List Int)} {w : World} {base g i : Nat} {u v : Value} {b : Bool} (h : EncR o w base v b) (hg : g < base) : EncR o (w.setCell ⟨g, i, none⟩ u) base v b := by
  cases o with
  | none => exact h
  | some l => exact ⟨h.1, ownsRow_setCell_below h.2 hg u⟩
theorem sizeD : (Try.prog.info? 46).map (·.size) = some 14 := by kernel_rfl
theorem draft_load {w : World} {g : Nat} {cells : Array Value} (h : w.heap[g]? = some (.cells cells 46 (0, 0))) (hc : cells.size = 14 := by rfl) : (loadVar 46 ⟨g, 0, none⟩).run Try.prog w = .ok (.agg cells) w := by
  have h2 := run_loadAt (P := Try.prog) 46 ⟨g, 0, none⟩ cells.toList _ w (fun j v hj => by rw [Addr.add_lit, Nat.zero_add, blk_cell h]; simpa using hj) Try.underlying46 rfl (by rw [sizeD, ← hc]; simp)
  have e1 : (Instr.loadAt 46 (.pointer (some ⟨g, 0, none⟩))) = loadVar 46 ⟨g, 0, none⟩ := by
    show (do loadVar 46 (← Instr.sureAddr (.pointer (some ⟨g, 0, none⟩)))) = _
    simp [Instr.sureAddr]
  rw [e1] at h2
  simpa using h2
open Classical in
noncomputable def bolterlaw05_MessageBytes.f (a0_0 : Int) (a0_1 : Bool) (a0_2 : Int) (a0_3 : Bool) (a0_4 : Bool) (a0_5 : Bool) (a0_6 : Bool) (a0_7 : Int) (l0_8 : List Int) (a0_9 : Int) (l0_10 : List (S94)) (l0_11 : List (S94)) (l0_12 : List (S94)) (a0_13 : Int) (a1 : Int) : Option Bool :=
  if (0 ≤ a0_0 ∧ a0_0 < 65536) ∧ (0 ≤ a0_9 ∧ a0_9 < 65536) ∧ (0 ≤ a0_13 ∧ a0_13 < 65536) ∧ (0 ≤ a1 ∧ a1 < 65536) ∧ (B8 l0_8 ∧ l0_8.length ≤ 1000000000) ∧ ((∀ a ∈ l0_10, WfA a) ∧ l0_10.length ≤ 10000000) ∧ ((∀ a ∈ l0_11, WfA a) ∧ l0_11.length ≤ 10000000) ∧ ((∀ a ∈ l0_12, WfA a) ∧ l0_12.length ≤ 10000000) then some true else none
set_option maxHeartbeats 16000000 in
theorem bolterlaw05_MessageBytes.calls (a0_0 : Int) (a0_1 : Bool) (a0_2 : Int) (a0_3 : Bool) (a0_4 : Bool) (a0_5 : Bool) (a0_6 : Bool) (a0_7 : Int) (A0_8 : Option Addr) (c0_8 : Nat) (l0_8 : List Int) (a0_9 : Int) (A0_10 : Option Addr) (c0_10 : Nat) (l0_10 : List (S94)) (A0_11 : Option Addr) (c0_11 : Nat) (l0_11 : List (S94)) (A0_12 : Option Addr) (c0_12 : Nat) (l0_12 : List (S94)) (a0_13 : Int) (a1 : Int) (r : Bool) (w : World) (hr0_8 : Kd.C (Kd.int .u8) w A0_8 l0_8.length l0_8) (hc0_8 : l0_8.length ≤ c0_8) (hr0_10 : Kd.C k94 w A0_10 l0_10.length l0_10) (hc0_10 : l0_10.length ≤ c0_10) (hr0_11 : Kd.C k94 w A0_11 l0_11.length l0_11) (hc0_11 : l0_11.length ≤ c0_11) (hr0_12 : Kd.C k94 w A0_12 l0_12.length l0_12) (hc0_12 : l0_12.length ≤ c0_12) (h : bolterlaw05_MessageBytes.f a0_0 a0_1 a0_2 a0_3 a0_4 a0_5 a0_6 a0_7 l0_8 a0_9 l0_10 l0_11 l0_12 a0_13 a1 = some r) :
    Calls Try.prog 4 #[.agg #[.int .u16 a0_0, .bool a0_1, .int .i64 a0_2, .bool a0_3, .bool a0_4, .bool a0_5, .bool a0_6, .int .i64 a0_7, .slice A0_8 l0_8.length c0_8, .int .u16 a0_9, .slice A0_10 l0_10.length c0_10, .slice A0_11 l0_11.length c0_11, .slice A0_12 l0_12.length c0_12, .int .u16 a0_13], .int .u16 a1] w fun e w' => e = .returned (.bool r) ∧ Below w.heap.size w w' := by
  unfold bolterlaw05_MessageBytes.f at h
  by_cases hcn : (0 ≤ a0_0 ∧ a0_0 < 65536) ∧ (0 ≤ a0_9 ∧ a0_9 < 65536) ∧ (0 ≤ a0_13 ∧ a0_13 < 65536) ∧ (0 ≤ a1 ∧ a1 < 65536) ∧ (B8 l0_8 ∧ l0_8.length ≤ 1000000000) ∧ ((∀ a ∈ l0_10, WfA a) ∧ l0_10.length ≤ 10000000) ∧ ((∀ a ∈ l0_11, WfA a) ∧ l0_11.length ≤ 10000000) ∧ ((∀ a ∈ l0_12, WfA a) ∧ l0_12.length ≤ 10000000)
  case neg => rw [if_neg hcn] at h; cases h
  rw [if_pos hcn] at h
  obtain rfl := Option.some.inj h
  clear h
  obtain ⟨hid, hqt, hsz, hlim, ⟨h8, h8l⟩, ⟨w10, n10⟩, ⟨w11, n11⟩, ⟨w12, n12⟩⟩ := hcn
  obtain ⟨kM, hkM⟩ := Ev.rounds (Make_ev a0_0 a0_1 a0_2 a0_3 a0_4 a0_5 a0_6 a0_7 l0_8 a0_9 l0_10 l0_11 l0_12 a0_13 h8 h8l hsz ⟨w10, n10⟩ ⟨w11, n11⟩ ⟨w12, n12⟩)
  have hok := make_ok a0_0 a0_1 a0_2 a0_3 a0_4 a0_5 a0_6 a0_7 l0_8 a0_9 l0_10 l0_11 l0_12 a0_13 hid hqt hsz w10 w11 w12
  obtain ⟨m, hm⟩ : ∃ m, makeM a0_0 a0_1 a0_2 a0_3 a0_4 a0_5 a0_6 a0_7 l0_8 a0_9 l0_10 l0_11 l0_12 a0_13 = m := ⟨_, rfl⟩
  have hop : 0 ≤ m.op ∧ m.op < 16 := by rw [← hm]; exact codeV_rng a0_2
  have hco : 0 ≤ m.co ∧ m.co < 16 := by rw [← hm]; exact codeV_rng a0_7
  rw [hm] at hok
  have hkM2 : bolterlaw05_Make.f kM a0_0 a0_1 a0_2 a0_3 a0_4 a0_5 a0_6 a0_7 l0_8 a0_9 l0_10 l0_11 l0_12 a0_13 = some (m.id, m.rp, m.op, m.au, m.tr, m.de, m.av, m.co, m.qn, m.qt, m.an, m.ns, m.ex, m.sz) := by rw [← hm]; exact hkM
  have HKM := Lib.hid hkM2
  have HOP := Lib.hid hop
  have HCO := Lib.hid hco
  have HMAY := Lib.hid hok.1
  have HWF := Lib.hid hok.2
  have HM := Lib.hid hm
  have HR8 := Lib.hid hr0_8
  have HR10 := Lib.hid hr0_10
  have HR11 := Lib.hid hr0_11
  have HR12 := Lib.hid hr0_12
  obtain ⟨gD, hgD⟩ : ∃ g, w.heap.size = g := ⟨_, rfl⟩
  obtain ⟨w1, hw1⟩ : ∃ x, w.alloc (Obj.cells #[.int .u16 a0_0, .bool a0_1, .int .i64 a0_2, .bool a0_3, .bool a0_4, .bool a0_5, .bool a0_6, .int .i64 a0_7, .slice A0_8 l0_8.length c0_8, .int .u16 a0_9, .slice A0_10 l0_10.length c0_10, .slice A0_11 l0_11.length c0_11, .slice A0_12 l0_12.length c0_12, .int .u16 a0_13] 46) = x := ⟨_, rfl⟩
  have hbX : Below w.heap.size w w1 := by rw [← hw1]; exact below_alloc (Below.refl _ _) _
  have hBK : w1.heap[gD]? = some (Obj.cells #[.int .u16 a0_0, .bool a0_1, .int .i64 a0_2, .bool a0_3, .bool a0_4, .bool a0_5, .bool a0_6, .int .i64 a0_7, .slice A0_8 l0_8.length c0_8, .int .u16 a0_9, .slice A0_10 l0_10.length c0_10, .slice A0_11 l0_11.length c0_11, .slice A0_12 l0_12.length c0_12, .int .u16 a0_13] 46 (0, 0)) := by rw [← hw1, ← hgD]; exact blk_new w _
  clear hkM hkM2 hok hm hr0_8 hr0_10 hr0_11 hr0_12 w10 w11 w12 h8 hop hco
  go_enter Try.func4, Try.ntmps4
  go_upto_region 1 with fail
  (try rw [hw1])
  (try rw [hgD])
  have HBX := Lib.hid hbX
  have HBK1 := Lib.hid hBK
  clear hbX hBK hw1 hgD
  go_wp2_with fail
  refine (awake_ w1).mono ?_
  rintro e w2 ⟨rfl, hb⟩
  have HD := Lib.hid (draft_load (blk_below HBK1.out hb))
  have HB2 := Lib.hid (HBX.out.trans (hb.mono HBX.out.size))
  clear hb HBX HBK1
  go_wp2_with ((with_reducible refine gate_ld (t := 46) rfl ?_); refine ev_load rfl rfl rfl HD.out ?_)
  refine (bolterlaw05_Make.calls kM a0_0 a0_1 a0_2 a0_3 a0_4 a0_5 a0_6 a0_7 A0_8 c0_8 l0_8 a0_9 A0_10 c0_10 l0_10 A0_11 c0_11 l0_11 A0_12 c0_12 l0_12 a0_13 m.id m.rp m.op m.au m.tr m.de m.av m.co m.qn m.qt m.an m.ns m.ex m.sz w2 (Kd.C_below HR8.out HB2.out) hc0_8 (Kd.C_below HR10.out HB2.out) hc0_10 (Kd.C_below HR11.out HB2.out) hc0_11 (Kd.C_below HR12.out HB2.out) hc0_12 HKM.out).mono ?_
  rintro e w3 ⟨v10, v11, v12, rfl, h10, h11, h12, hb⟩
  obtain ⟨Aa, ca, rfl, hca, hCa⟩ := Kd.R_reads h10
  obtain ⟨An, cn, rfl, hcn, hCn⟩ := Kd.R_reads h11
  obtain ⟨Ae, ce, rfl, hce, hCe⟩ := Kd.R_reads h12
  have HB3 := Lib.hid (HB2.out.trans (hb.mono HB2.out.size))
  have HCA : Hid (Kd.C k37 w3 Aa m.an.length m.an ∧ m.an.length ≤ ca) := Lib.hid ⟨hCa, hca⟩
  have HCN : Hid (Kd.C k37 w3 An m.ns.length m.ns ∧ m.ns.length ≤ cn) := Lib.hid ⟨hCn, hcn⟩
  have HCE : Hid (Kd.C k37 w3 Ae m.ex.length m.ex ∧ m.ex.length ≤ ce) := Lib.hid ⟨hCe, hce⟩
  clear h10 h11 h12 hb hCa hCn hCe hca hcn hce HD HB2
  go_upto_region 4 with fail
  obtain ⟨gM, hgM⟩ : ∃ g, w3.heap.size = g := ⟨_, rfl⟩
  have hbM := below_alloc (Below.refl w3.heap.size w3) (Obj.cells #[.int .u16 m.id, .bool m.rp, .int .i64 m.op, .bool m.au, .bool m.tr, .bool m.de, .bool m.av, .int .i64 m.co, .string m.qn, .int .u16 m.qt, .slice Aa m.an.length ca, .slice An m.ns.length cn, .slice Ae m.ex.length ce, .int .i64 m.sz] 31)
  have hVM : MVar (w3.alloc (Obj.cells #[.int .u16 m.id, .bool m.rp, .int .i64 m.op, .bool m.au, .bool m.tr, .bool m.de, .bool m.av, .int .i64 m.co, .string m.qn, .int .u16 m.qt, .slice Aa m.an.length ca, .slice An m.ns.length cn, .slice Ae m.ex.length ce, .int .i64 m.sz] 31)) gM m (.slice Aa m.an.length ca) (.slice An m.ns.length cn) (.slice Ae m.ex.length ce) := by rw [← hgM]; exact blk_new w3 _
  obtain ⟨w4, hw4⟩ : ∃ x, w3.alloc (Obj.cells #[.int .u16 m.id, .bool m.rp, .int .i64 m.op, .bool m.au, .bool m.tr, .bool m.de, .bool m.av, .int .i64 m.co, .string m.qn, .int .u16 m.qt, .slice Aa m.an.length ca, .slice An m.ns.length cn, .slice Ae m.ex.length ce, .int .i64 m.sz] 31) = x := ⟨_, rfl⟩
  rw [hw4] at hbM hVM
  (try rw [hw4])
  (try rw [hgM])
  have HGM : Hid (w.heap.size ≤ gM) := Lib.hid (by have h := HB3.out.size; omega)
  have HB4 := Lib.hid (HB3.out.trans (hbM.mono HB3.out.size))
  have HV4 := Lib.hid hVM
  have HGL : Hid (gM < w4.heap.size) := Lib.hid (blk_lt HV4.out)
  have HA4 := Lib.hid (And.intro (Kd.C_below HCA.out.1 hbM) HCA.out.2)
  have HN4 := Lib.hid (And.intro (Kd.C_below HCN.out.1 hbM) HCN.out.2)
  have HE4 := Lib.hid (And.intro (Kd.C_below HCE.out.1 hbM) HCE.out.2)
  have hwl2 : wrap64 a1 = a1 := by unfold wrap64; omega
  clear hbM hVM hw4 hgM HB3 HCA HCN HCE
  go_wp2_with ((with_reducible refine gate_ld (t := 31) rfl ?_); refine ev_load rfl rfl rfl HV4.out.load ?_)
  refine (encode_ m HWF.out a1 Aa An Ae ca cn ce w4 HA4.out.1 HA4.out.2 HN4.out.1 HN4.out.2 HE4.out.1 HE4.out.2).mono ?_
  rintro e w5 ⟨v, b, rfl, hb, hr⟩
  have HV5 := Lib.hid (HV4.out.below hb)
  have HB5 := Lib.hid (HB4.out.trans (hb.mono HB4.out.size))
  have HR5 := Lib.hid hr
  have HA5 := Lib.hid (And.intro (Kd.C_below HA4.out.1 hb) HA4.out.2)
  have HN5 := Lib.hid (And.intro (Kd.C_below HN4.out.1 hb) HN4.out.2)
  have HE5 := Lib.hid (And.intro (Kd.C_below HE4.out.1 hb) HE4.out.2)
  clear hb hr HV4 HB4 HA4 HN4 HE4
  go_wp2_with ((with_reducible refine gate_ld (t := 31) rfl ?_); refine ev_load rfl rfl rfl HV5.out.load ?_)
  refine (lwhole_ m HWF.out HOP.out HCO.out Aa An Ae ca cn ce w5 HA5.out.1 HA5.out.2 HN5.out.1 HN5.out.2 HE5.out.1 HE5.out.2).mono ?_
  rintro e w6 ⟨rfl, hb⟩
  obtain ⟨L1, hL1⟩ : ∃ L, wholeL m = L := ⟨_, rfl⟩
  obtain ⟨s1, hs1⟩ : ∃ s, strOfNums L1 = s := ⟨_, rfl⟩
  rw [hL1, hs1]
  have hz1 : s1.size = L1.length := by rw [← hs1, str_size]
  have HL1 := Lib.hid hL1
  have HS1 := Lib.hid hs1
  have HZ1 := Lib.hid hz1
  have HV6 := Lib.hid (HV5.out.below hb)
  have HB6 := Lib.hid (HB5.out.trans (hb.mono HB5.out.size))
  have HA6 := Lib.hid (And.intro (Kd.C_below HA5.out.1 hb) HA5.out.2)
  have HN6 := Lib.hid (And.intro (Kd.C_below HN5.out.1 hb) HN5.out.2)
  have HE6 := Lib.hid (And.intro (Kd.C_below HE5.out.1 hb) HE5.out.2)
  have HR6 : Hid (EncR (encL m a1) w6 w4.heap.size v b) := Lib.hid (EncR_below HR5.out hb)
  clear hb hL1 hs1 HV5 HB5 HA5 HN5 HE5 HR5
  by_cases hc1 : (L1.length : Int) ≤ a1
  · have d1 : decide ((s1.size : Int) > a1) = false := decide_eq_false (by omega)
    have d2 : decide (a1 < (s1.size : Int)) = false := decide_eq_false (by omega)
    have he : encL m a1 = some L1 := by unfold encL; rw [HMAY.out, if_pos rfl, HL1.out, if_pos hc1]
    have hr := HR6.out
    rw [he] at hr
    obtain ⟨rfl, ho⟩ := hr
    obtain ⟨Av, cv, hv⟩ := Wr.own_slice ho
    subst hv
    have hst := own_string (P := Try.prog) Try.underlying40 Try.underlying5 Try.underlying9 ho
    rw [HS1.out] at hst
    clear ho he hc1 hz1 HR6
    go_wp2_with ((with_reducible refine gate_ld (t := 31) rfl ?_); (refine gate_guard (by rfl) ?_; dsimp only); refine ev_load rfl rfl rfl HV6.out.load ?_)
    refine (mayM_ m HWF.out Aa An Ae ca cn ce w6 HA6.out.1 HA6.out.2 HN6.out.1 HN6.out.2 HE6.out.1 HE6.out.2).mono ?_
    rintro e w7 ⟨rfl, hb⟩
    rw [HMAY.out]
    go_wp2
    go_ret
    exact ⟨by first | rfl | simp, HB6.out.trans (hb.mono HB6.out.size)⟩
  · have d1 : decide ((s1.size : Int) > a1) = true := decide_eq_true (by omega)
    have d2 : decide (a1 < (s1.size : Int)) = true := decide_eq_true (by omega)
    have HC1 := Lib.hid hc1
    have c10 := HV6.out.cell 10 _ rfl
    have c11 := HV6.out.cell 11 _ rfl
    have c12 := HV6.out.cell 12 _ rfl
    have z10 := HV6.out.froz 10
    have z11 := HV6.out.froz 11
    have z12 := HV6.out.froz 12
    have z4 := HV6.out.froz 4
    have c4 := HV6.out.cell 4 _ rfl
    clear hz1 hc1
    go_upto_region 8 with fail
    clear d1 d2 c10 c11 c12 z10 z11 z12 z4 c4
    obtain ⟨m2, hm2⟩ : ∃ m2 : Msg, ({ m with an := [], ns := [], ex := [], tr := true } : Msg) = m2 := ⟨_, rfl⟩
    obtain ⟨w7, hw7⟩ : ∃ x, (((w6.setCell ⟨gM, 10, none⟩ (.slice none 0 0)).setCell ⟨gM, 11, none⟩ (.slice none 0 0)).setCell ⟨gM, 12, none⟩ (.slice none 0 0)).setCell ⟨gM, 4, none⟩ (.bool true) = x := ⟨_, rfl⟩
    have hV7 : MVar w7 gM m2 (.slice none 0 0) (.slice none 0 0) (.slice none 0 0) := by
      rw [← hw7, ← hm2]
      exact blk_set (blk_set (blk_set (blk_set HV6.out _ _) _ _) _ _) _ _
    have hgw : w.heap.size ≤ gM := HGM.out
    have hb7 : Below w.heap.size w w7 := by rw [← hw7]; exact below_set (below_set (below_set (below_set HB6.out hgw) hgw) hgw) hgw
    have hr7 : EncR (encL m a1) w7 w4.heap.size v b := by rw [← hw7]; exact EncR_set (EncR_set (EncR_set (EncR_set HR6.out HGL.out) HGL.out) HGL.out) HGL.out
    rw [hw7]
    have HV7 := Lib.hid hV7
    have HB7 := Lib.hid hb7
    have HR7 := Lib.hid hr7
    have hm2w : WfM m2 := by
      have h := HWF.out
      rw [← hm2]
      exact ⟨⟨fun r hr => (by cases hr), fun r hr => (by cases hr), fun r hr => (by cases hr)⟩, h.2.1, Nat.zero_le _, Nat.zero_le _, Nat.zero_le _, h.2.2.2.2.2⟩
    have hm2m : mayM m2 = true := by
      have h := HMAY.out
      rw [← hm2]
      unfold mayM at h ⊢
      rw [Bool.and_eq_true] at h
      rw [show headOk { m with an := [], ns := [], ex := [], tr := true } = headOk m from rfl, h.1]
      simp [partOk]
    have HM2 := Lib.hid hm2w
    have HY2 := Lib.hid hm2m
    have HE2 := Lib.hid hm2
    have ha2 : m2.an = [] := by rw [← hm2]
    have hn2 : m2.ns = [] := by rw [← hm2]
    have he2 : m2.ex = [] := by rw [← hm2]
    have HO2 : Hid ((0 ≤ m2.op ∧ m2.op < 16) ∧ (0 ≤ m2.co ∧ m2.co < 16)) := Lib.hid (by rw [← hm2]; exact ⟨HOP.out, HCO.out⟩)
    have HN2 := Lib.hid (And.intro ha2 (And.intro hn2 he2))
    clear hV7 hb7 hr7 hw7 hm2w hm2m hm2 ha2 hn2 he2 HV6 HB6 HR6 HA6 HN6 HE6
    go_wp2_with ((with_reducible refine gate_ld (t := 31) rfl ?_); refine ev_load rfl rfl rfl HV7.out.load ?_)
    have key := lwhole_ m2 HM2.out HO2.out.1 HO2.out.2 none none none 0 0 0 w7 (by rw [HN2.out.1]; exact Kd.C_nil _ _) (by rw [HN2.out.1]; exact Nat.zero_le _) (by rw [HN2.out.2.1]; exact Kd.C_nil _ _) (by rw [HN2.out.2.1]; exact Nat.zero_le _) (by rw [HN2.out.2.2]; exact Kd.C_nil _ _) (by rw [HN2.out.2.2]; exact Nat.zero_le _)
    rw [show m2.an.length = 0 by rw [HN2.out.1]; rfl, show m2.ns.length = 0 by rw [HN2.out.2.1]; rfl, show m2.ex.length = 0 by rw [HN2.out.2.2]; rfl] at key
    refine key.mono ?_
    clear key
    rintro e w8 ⟨rfl, hb⟩
    obtain ⟨L2, hL2⟩ : ∃ L, wholeL m2 = L := ⟨_, rfl⟩
    obtain ⟨s2, hs2⟩ : ∃ s, strOfNums L2 = s := ⟨_, rfl⟩
    rw [hL2, hs2]
    have hz2 : s2.size = L2.length := by rw [← hs2, str_size]
    have HL2 := Lib.hid hL2
    have HS2 := Lib.hid hs2
    have HV8 := Lib.hid (HV7.out.below hb)
    have HB8 := Lib.hid (HB7.out.trans (hb.mono HB7.out.size))
    have HR8b : Hid (EncR (encL m a1) w8 w4.heap.size v b) := Lib.hid (EncR_below HR7.out hb)
    clear hb hL2 hs2 HV7 HB7 HR7
    by_cases hc2 : (L2.length : Int) ≤ a1
    · have d1 : decide ((s2.size : Int) > a1) = false := decide_eq_false (by omega)
      have d2 : decide (a1 < (s2.size : Int)) = false := decide_eq_false (by omega)
      have he : encL m a1 = some L2 := by unfold encL; rw [HMAY.out, if_pos rfl, HL1.out, if_neg (by have h := HC1.out; omega), HE2.out, HL2.out, if_pos hc2]
      have hr := HR8b.out
      rw [he] at hr
      obtain ⟨rfl, ho⟩ := hr
      obtain ⟨Av, cv, hv⟩ := Wr.own_slice ho
      subst hv
      have hst := own_string (P := Try.prog) Try.underlying40 Try.underlying5 Try.underlying9 ho
      rw [HS2.out] at hst
      clear ho he hc2 hz2 HR8b
      go_wp2_with ((with_reducible refine gate_ld (t := 31) rfl ?_); (refine gate_guard (by rfl) ?_; dsimp only); refine ev_load rfl rfl rfl HV8.out.load ?_)
      have key := mayM_ m2 HM2.out none none none 0 0 0 w8 (by rw [HN2.out.1]; exact Kd.C_nil _ _) (by rw [HN2.out.1]; exact Nat.zero_le _) (by rw [HN2.out.2.1]; exact Kd.C_nil _ _) (by rw [HN2.out.2.1]; exact Nat.zero_le _) (by rw [HN2.out.2.2]; exact Kd.C_nil _ _) (by rw [HN2.out.2.2]; exact Nat.zero_le _)
      rw [show m2.an.length = 0 by rw [HN2.out.1]; rfl, show m2.ns.length = 0 by rw [HN2.out.2.1]; rfl, show m2.ex.length = 0 by rw [HN2.out.2.2]; rfl] at key
      refine key.mono ?_
      clear key
      rintro e w9 ⟨rfl, hb⟩
      rw [HY2.out]
      go_wp2
      go_ret
      exact ⟨by first | rfl | simp, HB8.out.trans (hb.mono HB8.out.size)⟩
    · have d1 : decide ((s2.size : Int) > a1) = true := decide_eq_true (by omega)
      have d2 : decide (a1 < (s2.size : Int)) = true := decide_eq_true (by omega)
      have he : encL m a1 = none := by unfold encL; rw [HMAY.out, if_pos rfl, HL1.out, if_neg (by have h := HC1.out; omega), HE2.out, HL2.out, if_neg (by omega)]
      have hr := HR8b.out
      rw [he] at hr
      obtain ⟨rfl, rfl⟩ := hr
      clear he hc2 hz2 HR8b
      go_wp2
      go_ret
      exact ⟨by first | rfl | simp, HB8.out⟩
end Go.Proofs.Ytnikfeaggppmpaa.PM
