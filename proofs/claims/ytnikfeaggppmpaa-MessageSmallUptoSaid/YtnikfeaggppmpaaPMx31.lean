/- part of a proof; what it has no use for was struck out -/
import Derived.Test.YtnikfeaggppmpaaAwk
import Derived.Test.YtnikfeaggppmpaaLwT
namespace Go.Proofs.Ytnikfeaggppmpaa.PM
open Go.RowKit Go.Proofs.YtnikfeaggppmpaaW Go.Proofs.YtnikfeaggppmpaaW.PrintWords Go.Proofs.YtnikfeaggppmpaaW.PrintLast Go.Proofs.YtnikfeaggppmpaaW.PrintMore Go.Proofs.Ytnikfeaggppmpaa.Base Go.Proofs.Ytnikfeaggppmpaa.Nam Go.Proofs.Ytnikfeaggppmpaa.Trn Go.Proofs.Ytnikfeaggppmpaa.MapS Go.Proofs.Ytnikfeaggppmpaa.QM Go.Proofs.Ytnikfeaggppmpaa.Wr Go.Proofs.Ytnikfeaggppmpaa.Rdr
set_option linter.unusedVariables false
set_option linter.unusedSimpArgs false
set_option maxRecDepth 100000
attribute [local go_sem high] eqA28
theorem sizeD : (Try.prog.info? 46).map (·.size) = some 14 := by kernel_rfl
theorem draft_load {w : World} {g : Nat} {cells : Array Value} (h : w.heap[g]? = some (.cells cells 46 (0, 0))) (hc : cells.size = 14 := by rfl) : (loadVar 46 ⟨g, 0, none⟩).run Try.prog w = .ok (.agg cells) w := by
  have h2 := run_loadAt (P := Try.prog) 46 ⟨g, 0, none⟩ cells.toList _ w (fun j v hj => by rw [Addr.add_lit, Nat.zero_add, blk_cell h]; simpa using hj) Try.underlying46 rfl (by rw [sizeD, ← hc]; simp)
  have e1 : (Instr.loadAt 46 (.pointer (some ⟨g, 0, none⟩))) = loadVar 46 ⟨g, 0, none⟩ := by
    show (do loadVar 46 (← Instr.sureAddr (.pointer (some ⟨g, 0, none⟩)))) = _
    simp [Instr.sureAddr]
  rw [e1] at h2
  simpa using h2
def cutM (m : Msg) : Msg := { m with an := [], ns := [], ex := [], tr := true }
theorem cut_small {m : Msg} (hq : m.qn.size ≤ 84) : (wholeL (cutM m)).length ≤ 512 := by
  have h0 := namW_len2 (bytesOf m.qn) (headW (cutM m), fun _ => none)
  rw [of_size] at h0
  have hH := headW_len (cutM m)
  simp only at h0
  have e0 : (qS (cutM m) (headW (cutM m))).1.length = (namW (bytesOf m.qn) (headW (cutM m), fun _ => none)).1.length + 4 := by unfold qS; simp [all16_len]; rfl
  have eo : (optL (cutM m).sz).length ≤ 11 := by
    unfold optL
    split
    · simp [all16_len, all32_len]
    · exact Nat.zero_le _
  have e : (wholeL (cutM m)).length = (qS (cutM m) (headW (cutM m))).1.length + (optL (cutM m).sz).length := by rw [whole_body]; unfold bodyL bodyS; rw [List.length_append]; rfl
  omega
theorem cut_ok {m : Msg} (hm : mayM m = true) (hw : WfM m) : mayM (cutM m) = true ∧ WfM (cutM m) := by
  obtain ⟨h1, h2, h3, h4, h5⟩ := may_all hm
  obtain ⟨⟨w1, w2, w3⟩, w4, w5, w6, w7, w8, w9⟩ := hw
  refine ⟨?_, ⟨fun r hr => (by cases hr), fun r hr => (by cases hr), fun r hr => (by cases hr)⟩, w4, Nat.zero_le _, Nat.zero_le _, Nat.zero_le _, w8, w9⟩
  unfold mayM headOk cutM
  simp only
  rw [h2, decide_eq_true h1]
  rfl
theorem DecR_cut {m : Msg} {w : World} {base : Nat} {v : Value} (h : DecR (some (cutM m)) w base v) : ∃ va vn ve, v = .tuple #[.agg #[.int .u16 m.id, .bool m.rp, .int .i64 m.op, .bool m.au, .bool true, .bool m.de, .bool m.av, .int .i64 m.co, .string m.qn, .int .u16 m.qt, va, vn, ve, .int .i64 m.sz], .nilIface] ∧
    Kd.R k37 37 w base (fun _ => True) va [] ∧ Kd.R k37 37 w base (fun _ => True) vn [] ∧ Kd.R k37 37 w base (fun _ => True) ve [] := h
theorem sizeQ : (Try.prog.info? 28).map (·.size) = some 2 := by kernel_rfl
theorem quest_load {w : World} {g : Nat} {m : Msg} {va vn ve : Value} (h : MVar w g m va vn ve) : (loadVar 28 ⟨g, 8, none⟩).run Try.prog w = .ok (.agg #[.string m.qn, .int .u16 m.qt]) w := by
  have h2 := run_loadAt (P := Try.prog) 28 ⟨g, 8, none⟩ [.string m.qn, .int .u16 m.qt] _ w (fun j v hj => by
    rw [Addr.add_lit, blk_cell h]
    match j, hj with
    | 0, hj => exact hj
    | 1, hj => exact hj
    | n + 2, hj => simp at hj) Try.underlying28 rfl sizeQ
  have e1 : (Instr.loadAt 28 (.pointer (some ⟨g, 8, none⟩))) = loadVar 28 ⟨g, 8, none⟩ := by
    show (do loadVar 28 (← Instr.sureAddr (.pointer (some ⟨g, 8, none⟩)))) = _
    simp [Instr.sureAddr]
  rw [e1] at h2
  exact h2
open Classical in
noncomputable def bolterlaw05_MessageSmall.f (a0_0 : Int) (a0_1 : Bool) (a0_2 : Int) (a0_3 : Bool) (a0_4 : Bool) (a0_5 : Bool) (a0_6 : Bool) (a0_7 : Int) (l0_8 : List Int) (a0_9 : Int) (l0_10 : List (S94)) (l0_11 : List (S94)) (l0_12 : List (S94)) (a0_13 : Int) : Option Bool :=
  if (0 ≤ a0_0 ∧ a0_0 < 65536) ∧ (0 ≤ a0_9 ∧ a0_9 < 65536) ∧ (0 ≤ a0_13 ∧ a0_13 < 65536) ∧ (B8 l0_8 ∧ l0_8.length ≤ 1000000000) ∧ ((∀ a ∈ l0_10, WfA a) ∧ l0_10.length ≤ 10000000) ∧ ((∀ a ∈ l0_11, WfA a) ∧ l0_11.length ≤ 10000000) ∧ ((∀ a ∈ l0_12, WfA a) ∧ l0_12.length ≤ 10000000) then some true else none
set_option maxHeartbeats 16000000 in
theorem bolterlaw05_MessageSmall.calls (a0_0 : Int) (a0_1 : Bool) (a0_2 : Int) (a0_3 : Bool) (a0_4 : Bool) (a0_5 : Bool) (a0_6 : Bool) (a0_7 : Int) (A0_8 : Option Addr) (c0_8 : Nat) (l0_8 : List Int) (a0_9 : Int) (A0_10 : Option Addr) (c0_10 : Nat) (l0_10 : List (S94)) (A0_11 : Option Addr) (c0_11 : Nat) (l0_11 : List (S94)) (A0_12 : Option Addr) (c0_12 : Nat) (l0_12 : List (S94)) (a0_13 : Int) (r : Bool) (w : World) (hr0_8 : Kd.C (Kd.int .u8) w A0_8 l0_8.length l0_8) (hc0_8 : l0_8.length ≤ c0_8) (hr0_10 : Kd.C k94 w A0_10 l0_10.length l0_10) (hc0_10 : l0_10.length ≤ c0_10) (hr0_11 : Kd.C k94 w A0_11 l0_11.length l0_11) (hc0_11 : l0_11.length ≤ c0_11) (hr0_12 : Kd.C k94 w A0_12 l0_12.length l0_12) (hc0_12 : l0_12.length ≤ c0_12) (h : bolterlaw05_MessageSmall.f a0_0 a0_1 a0_2 a0_3 a0_4 a0_5 a0_6 a0_7 l0_8 a0_9 l0_10 l0_11 l0_12 a0_13 = some r) :
    Calls Try.prog 5 #[.agg #[.int .u16 a0_0, .bool a0_1, .int .i64 a0_2, .bool a0_3, .bool a0_4, .bool a0_5, .bool a0_6, .int .i64 a0_7, .slice A0_8 l0_8.length c0_8, .int .u16 a0_9, .slice A0_10 l0_10.length c0_10, .slice A0_11 l0_11.length c0_11, .slice A0_12 l0_12.length c0_12, .int .u16 a0_13]] w fun e w' => e = .returned (.bool r) ∧ Below w.heap.size w w' := by
  unfold bolterlaw05_MessageSmall.f at h
  by_cases hcn : (0 ≤ a0_0 ∧ a0_0 < 65536) ∧ (0 ≤ a0_9 ∧ a0_9 < 65536) ∧ (0 ≤ a0_13 ∧ a0_13 < 65536) ∧ (B8 l0_8 ∧ l0_8.length ≤ 1000000000) ∧ ((∀ a ∈ l0_10, WfA a) ∧ l0_10.length ≤ 10000000) ∧ ((∀ a ∈ l0_11, WfA a) ∧ l0_11.length ≤ 10000000) ∧ ((∀ a ∈ l0_12, WfA a) ∧ l0_12.length ≤ 10000000)
  case neg => rw [if_neg hcn] at h; cases h
  rw [if_pos hcn] at h
  obtain rfl := Option.some.inj h
  clear h
  obtain ⟨hid, hqt, hsz, ⟨h8, h8l⟩, ⟨w10, n10⟩, ⟨w11, n11⟩, ⟨w12, n12⟩⟩ := hcn
  obtain ⟨kM, hkM⟩ := Ev.rounds (Make_ev a0_0 a0_1 a0_2 a0_3 a0_4 a0_5 a0_6 a0_7 l0_8 a0_9 l0_10 l0_11 l0_12 a0_13 h8 h8l hsz ⟨w10, n10⟩ ⟨w11, n11⟩ ⟨w12, n12⟩)
  have hok := make_ok a0_0 a0_1 a0_2 a0_3 a0_4 a0_5 a0_6 a0_7 l0_8 a0_9 l0_10 l0_11 l0_12 a0_13 hid hqt hsz w10 w11 w12
  have hmid : (makeM a0_0 a0_1 a0_2 a0_3 a0_4 a0_5 a0_6 a0_7 l0_8 a0_9 l0_10 l0_11 l0_12 a0_13).id = a0_0 := rfl
  have hmq : (makeM a0_0 a0_1 a0_2 a0_3 a0_4 a0_5 a0_6 a0_7 l0_8 a0_9 l0_10 l0_11 l0_12 a0_13).qn.size ≤ 84 := by
    show (strOfNums (nameL l0_8)).size ≤ 84
    rw [str_size]
    exact nameL_len l0_8
  obtain ⟨m, hm⟩ : ∃ m, makeM a0_0 a0_1 a0_2 a0_3 a0_4 a0_5 a0_6 a0_7 l0_8 a0_9 l0_10 l0_11 l0_12 a0_13 = m := ⟨_, rfl⟩
  rw [hm] at hok hmid hmq
  have hkM2 : bolterlaw05_Make.f kM a0_0 a0_1 a0_2 a0_3 a0_4 a0_5 a0_6 a0_7 l0_8 a0_9 l0_10 l0_11 l0_12 a0_13 = some (m.id, m.rp, m.op, m.au, m.tr, m.de, m.av, m.co, m.qn, m.qt, m.an, m.ns, m.ex, m.sz) := by rw [← hm]; exact hkM
  have HKM := Lib.hid hkM2
  have HMAY := Lib.hid hok.1
  have HWF := Lib.hid hok.2
  have HMQ := Lib.hid hmq
  have HID := Lib.hid hmid
  have HE := Lib.hid True.intro
  have HR8 := Lib.hid hr0_8
  have HR10 := Lib.hid hr0_10
  have HR11 := Lib.hid hr0_11
  have HR12 := Lib.hid hr0_12
  obtain ⟨gD, hgD⟩ : ∃ g, w.heap.size = g := ⟨_, rfl⟩
  obtain ⟨w1, hw1⟩ : ∃ x, w.alloc (Obj.cells #[.int .u16 a0_0, .bool a0_1, .int .i64 a0_2, .bool a0_3, .bool a0_4, .bool a0_5, .bool a0_6, .int .i64 a0_7, .slice A0_8 l0_8.length c0_8, .int .u16 a0_9, .slice A0_10 l0_10.length c0_10, .slice A0_11 l0_11.length c0_11, .slice A0_12 l0_12.length c0_12, .int .u16 a0_13] 46) = x := ⟨_, rfl⟩
  have hbX : Below w.heap.size w w1 := by rw [← hw1]; exact below_alloc (Below.refl _ _) _
  have hBK : w1.heap[gD]? = some (Obj.cells #[.int .u16 a0_0, .bool a0_1, .int .i64 a0_2, .bool a0_3, .bool a0_4, .bool a0_5, .bool a0_6, .int .i64 a0_7, .slice A0_8 l0_8.length c0_8, .int .u16 a0_9, .slice A0_10 l0_10.length c0_10, .slice A0_11 l0_11.length c0_11, .slice A0_12 l0_12.length c0_12, .int .u16 a0_13] 46 (0, 0)) := by rw [← hw1, ← hgD]; exact blk_new w _
  clear hkM hkM2 hok hm hr0_8 hr0_10 hr0_11 hr0_12 w10 w11 w12 h8 hmid hmq
  go_enter Try.func5, Try.ntmps5
  go_upto_region 1 with fail
  (try rw [hw1])
  (try rw [hgD])
  have HBX := Lib.hid hbX
  have HBK1 := Lib.hid hBK
  clear hbX hBK hw1 hgD
  go_wp2_with fail
  refine (awake_ w1).mono ?_
  rintro e w2 ⟨rfl, hb⟩
  have HBK2 := Lib.hid (blk_below HBK1.out hb)
  have HD := Lib.hid (draft_load (blk_below HBK1.out hb))
  have HB2 := Lib.hid (HBX.out.trans (hb.mono HBX.out.size))
  clear hb HBX HBK1
  go_wp2_with ((with_reducible refine gate_ld (t := 46) rfl ?_); refine ev_load rfl rfl rfl HD.out ?_)
  refine (bolterlaw05_Make.calls kM a0_0 a0_1 a0_2 a0_3 a0_4 a0_5 a0_6 a0_7 A0_8 c0_8 l0_8 a0_9 A0_10 c0_10 l0_10 A0_11 c0_11 l0_11 A0_12 c0_12 l0_12 a0_13 m.id m.rp m.op m.au m.tr m.de m.av m.co m.qn m.qt m.an m.ns m.ex m.sz w2 (Kd.C_below HR8.out HB2.out) hc0_8 (Kd.C_below HR10.out HB2.out) hc0_10 (Kd.C_below HR11.out HB2.out) hc0_11 (Kd.C_below HR12.out HB2.out) hc0_12 HKM.out).mono ?_
  rintro e w3 ⟨v10, v11, v12, rfl, h10, h11, h12, hb⟩
  obtain ⟨Aa, ca, rfl, hca, hCa⟩ := Kd.R_reads h10
  obtain ⟨An, cn, rfl, hcn, hCn⟩ := Kd.R_reads h11
  obtain ⟨Ae, ce, rfl, hce, hCe⟩ := Kd.R_reads h12
  have HBK3 := Lib.hid (blk_below HBK2.out hb)
  have HB3 := Lib.hid (HB2.out.trans (hb.mono HB2.out.size))
  have HCA : Hid (Kd.C k37 w3 Aa m.an.length m.an ∧ m.an.length ≤ ca) := Lib.hid ⟨hCa, hca⟩
  have HCN : Hid (Kd.C k37 w3 An m.ns.length m.ns ∧ m.ns.length ≤ cn) := Lib.hid ⟨hCn, hcn⟩
  have HCE : Hid (Kd.C k37 w3 Ae m.ex.length m.ex ∧ m.ex.length ≤ ce) := Lib.hid ⟨hCe, hce⟩
  clear h10 h11 h12 hb hCa hCn hCe hca hcn hce HD HB2 HBK2
  go_upto_region 4 with fail
  obtain ⟨gM, hgM⟩ : ∃ g, w3.heap.size = g := ⟨_, rfl⟩
  have hbM := below_alloc (Below.refl w3.heap.size w3) (Obj.cells #[.int .u16 m.id, .bool m.rp, .int .i64 m.op, .bool m.au, .bool m.tr, .bool m.de, .bool m.av, .int .i64 m.co, .string m.qn, .int .u16 m.qt, .slice Aa m.an.length ca, .slice An m.ns.length cn, .slice Ae m.ex.length ce, .int .i64 m.sz] 31)
  have hVM : MVar (w3.alloc (Obj.cells #[.int .u16 m.id, .bool m.rp, .int .i64 m.op, .bool m.au, .bool m.tr, .bool m.de, .bool m.av, .int .i64 m.co, .string m.qn, .int .u16 m.qt, .slice Aa m.an.length ca, .slice An m.ns.length cn, .slice Ae m.ex.length ce, .int .i64 m.sz] 31)) gM m (.slice Aa m.an.length ca) (.slice An m.ns.length cn) (.slice Ae m.ex.length ce) := by rw [← hgM]; exact blk_new w3 _
  obtain ⟨w4, hw4⟩ : ∃ x, w3.alloc (Obj.cells #[.int .u16 m.id, .bool m.rp, .int .i64 m.op, .bool m.au, .bool m.tr, .bool m.de, .bool m.av, .int .i64 m.co, .string m.qn, .int .u16 m.qt, .slice Aa m.an.length ca, .slice An m.ns.length cn, .slice Ae m.ex.length ce, .int .i64 m.sz] 31) = x := ⟨_, rfl⟩
  rw [hw4] at hbM hVM
  (try rw [hw4])
  (try rw [hgM])
  have HGM : Hid (w.heap.size ≤ gM) := Lib.hid (by have h := HB3.out.size; omega)
  have HBK4 := Lib.hid (blk_below HBK3.out hbM)
  have HB4 := Lib.hid (HB3.out.trans (hbM.mono HB3.out.size))
  have HV4 := Lib.hid hVM
  have HGL : Hid (gM < w4.heap.size) := Lib.hid (blk_lt HV4.out)
  have HA4 := Lib.hid (And.intro (Kd.C_below HCA.out.1 hbM) HCA.out.2)
  have HN4 := Lib.hid (And.intro (Kd.C_below HCN.out.1 hbM) HCN.out.2)
  have HE4 := Lib.hid (And.intro (Kd.C_below HCE.out.1 hbM) HCE.out.2)
  have HBM := Lib.hid (And.intro hbM hgM)
  clear hbM hVM hw4 hgM HB3 HCN HCE HBK3
  have HSM := Lib.hid (cut_small HMQ.out)
  have HCO := Lib.hid (cut_ok HMAY.out HWF.out)
  go_wp2_with ((with_reducible refine gate_ld (t := 31) rfl ?_); (try (refine gate_guard (by rfl) ?_; dsimp only)); refine ev_load rfl rfl rfl HV4.out.load ?_)
  refine (encode_ m HWF.out 512 Aa An Ae ca cn ce w4 HA4.out.1 HA4.out.2 HN4.out.1 HN4.out.2 HE4.out.1 HE4.out.2).mono ?_
  rintro e w5 ⟨v, b, rfl, hb, hr⟩
  by_cases hsz5 : (wholeL m).length ≤ 512
  · have henc : encL m 512 = some (wholeL m) := by
      unfold encL
      rw [if_pos HMAY.out, if_pos (by omega)]
      done
    rw [henc] at hr
    obtain ⟨rfl, ho⟩ := hr
    obtain ⟨L, hL⟩ : ∃ L, wholeL m = L := ⟨_, rfl⟩
    rw [hL] at ho
    have hLl : L.length ≤ 512 := by rw [← hL]; omega
    have hdl : decR (strOfNums L) = some m := by rw [← hL]; exact dec_whole HMAY.out HWF.out (by omega)
    have HDL := Lib.hid hdl
    have HLl := Lib.hid hLl
    have HSZ := Lib.hid hsz5
    obtain ⟨Av, cv, hv⟩ := Wr.own_slice ho
    subst hv
    have hCL := own_C ho
    have HV5 := Lib.hid (HV4.out.below hb)
    have HB5 := Lib.hid (HB4.out.trans (hb.mono HB4.out.size))
    have HA5 := Lib.hid (And.intro (Kd.C_below HA4.out.1 hb) HA4.out.2)
    have HN5 := Lib.hid (And.intro (Kd.C_below HN4.out.1 hb) HN4.out.2)
    have HE5 := Lib.hid (And.intro (Kd.C_below HE4.out.1 hb) HE4.out.2)
    have HCL5 := Lib.hid hCL
    clear hb ho hCL HV4 HB4 HA4 HN4 HE4 henc hL hdl hLl hsz5
    go_wp2_with fail
    refine (decode_ Av cv L w5 HCL5.out.1 HCL5.out.2 (by have := HLl.out; omega)).mono ?_
    rintro e w6 ⟨v5, rfl, hD, hb⟩
    have HV6 := Lib.hid (HV5.out.below hb)
    have HB6 := Lib.hid (HB5.out.trans (hb.mono HB5.out.size))
    have HA6 := Lib.hid (And.intro (Kd.C_below HA5.out.1 hb) HA5.out.2)
    have HN6 := Lib.hid (And.intro (Kd.C_below HN5.out.1 hb) HN5.out.2)
    have HE6 := Lib.hid (And.intro (Kd.C_below HE5.out.1 hb) HE5.out.2)
    clear hb HV5 HB5 HA5 HN5 HE5 HCL5
    rw [HDL.out] at hD
    obtain ⟨va, vn, ve, rfl, hRa, hRn, hRe⟩ := hD
    obtain ⟨Ba, da, rfl, hda, hDa⟩ := Kd.R_reads hRa
    obtain ⟨Bn, dn, rfl, hdn, hDn⟩ := Kd.R_reads hRn
    obtain ⟨Be, de, rfl, hde, hDe⟩ := Kd.R_reads hRe
    have HDA6 : Hid (Kd.C k37 w6 Ba m.an.length m.an ∧ m.an.length ≤ da) := Lib.hid ⟨hDa, hda⟩
    have HDN6 : Hid (Kd.C k37 w6 Bn m.ns.length m.ns ∧ m.ns.length ≤ dn) := Lib.hid ⟨hDn, hdn⟩
    have HDE6 : Hid (Kd.C k37 w6 Be m.ex.length m.ex ∧ m.ex.length ≤ de) := Lib.hid ⟨hDe, hde⟩
    clear hRa hRn hRe hDa hDn hDe hda hdn hde
    go_upto_region 6 with fail
    have hbX := below_alloc (Below.refl w6.heap.size w6) (Obj.cells #[.int .u16 m.id, .bool m.rp, .int .i64 m.op, .bool m.au, .bool m.tr, .bool m.de, .bool m.av, .int .i64 m.co, .string m.qn, .int .u16 m.qt, .slice Ba m.an.length da, .slice Bn m.ns.length dn, .slice Be m.ex.length de, .int .i64 m.sz] 31)
    obtain ⟨gX, hgX⟩ : ∃ g, w6.heap.size = g := ⟨_, rfl⟩
    have hVX : MVar (w6.alloc (Obj.cells #[.int .u16 m.id, .bool m.rp, .int .i64 m.op, .bool m.au, .bool m.tr, .bool m.de, .bool m.av, .int .i64 m.co, .string m.qn, .int .u16 m.qt, .slice Ba m.an.length da, .slice Bn m.ns.length dn, .slice Be m.ex.length de, .int .i64 m.sz] 31)) gX m (.slice Ba m.an.length da) (.slice Bn m.ns.length dn) (.slice Be m.ex.length de) := by rw [← hgX]; exact blk_new w6 _
    obtain ⟨w7, hw7⟩ : ∃ z, w6.alloc (Obj.cells #[.int .u16 m.id, .bool m.rp, .int .i64 m.op, .bool m.au, .bool m.tr, .bool m.de, .bool m.av, .int .i64 m.co, .string m.qn, .int .u16 m.qt, .slice Ba m.an.length da, .slice Bn m.ns.length dn, .slice Be m.ex.length de, .int .i64 m.sz] 31) = z := ⟨_, rfl⟩
    rw [hw7] at hbX hVX
    (try rw [hw7])
    (try rw [hgX])
    have HX7 := Lib.hid hVX
    have HV7 := Lib.hid (HV6.out.below hbX)
    have HB7 := Lib.hid (HB6.out.trans (hbX.mono HB6.out.size))
    have HA7 := Lib.hid (And.intro (Kd.C_below HA6.out.1 hbX) HA6.out.2)
    have HN7 := Lib.hid (And.intro (Kd.C_below HN6.out.1 hbX) HN6.out.2)
    have HE7 := Lib.hid (And.intro (Kd.C_below HE6.out.1 hbX) HE6.out.2)
    have HDA7 := Lib.hid (And.intro (Kd.C_below HDA6.out.1 hbX) HDA6.out.2)
    have HDN7 := Lib.hid (And.intro (Kd.C_below HDN6.out.1 hbX) HDN6.out.2)
    have HDE7 := Lib.hid (And.intro (Kd.C_below HDE6.out.1 hbX) HDE6.out.2)
    clear hbX hVX hw7 hgX HV6 HB6 HA6 HN6 HE6 HDA6 HDN6 HDE6
    have d1 : decide ((L.length : Int) > 512) = false := decide_eq_false (by have := HLl.out; omega)
    have d2 : decide (512 < L.length) = false := decide_eq_false (by have := HLl.out; omega)
    have x0 := HX7.out.cell 0 _ rfl
    have x13 := HX7.out.cell 13 _ rfl
    have HQX : Hid ((loadVar 28 ⟨gX, 8, none⟩).run Try.prog w7 = .ok (.agg #[.string m.qn, .int .u16 m.qt]) w7) := Lib.hid (by have h := quest_load HX7.out; exact h)
    have HQV : Hid ((loadVar 28 ⟨gM, 8, none⟩).run Try.prog w7 = .ok (.agg #[.string m.qn, .int .u16 m.qt]) w7) := Lib.hid (quest_load HV7.out)
    have v0 := HV7.out.cell 0 _ rfl
    have v13 := HV7.out.cell 13 _ rfl
    go_cut [57] from 24 to 57 (fun v wx => v = .bool false ∧ wx = w7)
    case first =>
      go_wp2_with ((with_reducible refine gate_ld (t := 28) rfl ?_); (try (refine gate_guard (by rfl) ?_; dsimp only)); first | (refine ev_load rfl rfl rfl HQX.out ?_) | (refine ev_load rfl rfl rfl HQV.out ?_))
      go_meet
      case rel => exact ⟨rfl, rfl⟩
    case rest =>
      obtain ⟨hv57, hwc⟩ := hcut
      rw [hv57, hwc]
      clear hv57 hwc d1 d2 x0 x13 v0 v13 HQX HQV
      go_wp2_with ((with_reducible refine gate_ld (t := 31) rfl ?_); (try (refine gate_guard (by rfl) ?_; dsimp only)); refine ev_load rfl rfl rfl HV7.out.load ?_)
      refine (encode_ m HWF.out 1048576 Aa An Ae ca cn ce w7 HA7.out.1 HA7.out.2 HN7.out.1 HN7.out.2 HE7.out.1 HE7.out.2).mono ?_
      rintro e w8 ⟨v8, b8, rfl, hb, hr⟩
      rw [enc_all HMAY.out] at hr
      obtain ⟨rfl, ho⟩ := hr
      obtain ⟨Lw, hLw⟩ : ∃ L, wholeL m = L := ⟨_, rfl⟩
      have hsz8 := HSZ.out
      rw [hLw] at ho hsz8
      obtain ⟨A8, c8, hv⟩ := Wr.own_slice ho
      subst hv
      have HV8 := Lib.hid (HV7.out.below hb)
      have HX8 := Lib.hid (HX7.out.below hb)
      have HB8 := Lib.hid (HB7.out.trans (hb.mono HB7.out.size))
      have HA8 := Lib.hid (And.intro (Kd.C_below HA7.out.1 hb) HA7.out.2)
      have HN8 := Lib.hid (And.intro (Kd.C_below HN7.out.1 hb) HN7.out.2)
      have HE8 := Lib.hid (And.intro (Kd.C_below HE7.out.1 hb) HE7.out.2)
      have HDA8 := Lib.hid (And.intro (Kd.C_below HDA7.out.1 hb) HDA7.out.2)
      have HDN8 := Lib.hid (And.intro (Kd.C_below HDN7.out.1 hb) HDN7.out.2)
      have HDE8 := Lib.hid (And.intro (Kd.C_below HDE7.out.1 hb) HDE7.out.2)
      clear hb ho HV7 HX7 HB7 HA7 HN7 HE7 hLw HDA7 HDN7 HDE7
      have d1 : decide ((Lw.length : Int) ≤ 512) = true := decide_eq_true (by omega)
      have d2 : decide (Lw.length ≤ 512) = true := decide_eq_true (by omega)
      clear hsz8
      go_wp2_with ((with_reducible refine gate_ld (t := 31) rfl ?_); (try (refine gate_guard (by rfl) ?_; dsimp only)); first | (refine ev_load rfl rfl rfl HX8.out.load ?_) | (refine ev_load rfl rfl rfl HV8.out.load ?_))
      refine (same_ m HWF.out Ba Bn Be Aa An Ae da dn de ca cn ce w8 HDA8.out.1 HDA8.out.2 HDN8.out.1 HDN8.out.2 HDE8.out.1 HDE8.out.2 HA8.out.1 HA8.out.2 HN8.out.1 HN8.out.2 HE8.out.1 HE8.out.2).mono ?_
      rintro e w9 ⟨rfl, hb⟩
      go_wp2
      go_ret
      exact ⟨by first | rfl | simp, HB8.out.trans (hb.mono HB8.out.size)⟩
  · have henc : encL m 512 = some (wholeL (cutM m)) := by
      unfold encL
      rw [if_pos HMAY.out, if_neg (by omega), if_pos (by have := HSM.out; exact (by unfold cutM at this; omega))]
      rfl
    rw [henc] at hr
    obtain ⟨rfl, ho⟩ := hr
    obtain ⟨L, hL⟩ : ∃ L, wholeL (cutM m) = L := ⟨_, rfl⟩
    rw [hL] at ho
    have hLl : L.length ≤ 512 := by rw [← hL]; exact HSM.out
    have hdl : decR (strOfNums L) = some (cutM m) := by rw [← hL]; exact dec_whole HCO.out.1 HCO.out.2 (by have := HSM.out; omega)
    have HDL := Lib.hid hdl
    have HLl := Lib.hid hLl
    have HSZ := Lib.hid hsz5
    obtain ⟨Av, cv, hv⟩ := Wr.own_slice ho
    subst hv
    have hCL := own_C ho
    have HV5 := Lib.hid (HV4.out.below hb)
    have HB5 := Lib.hid (HB4.out.trans (hb.mono HB4.out.size))
    have HA5 := Lib.hid (And.intro (Kd.C_below HA4.out.1 hb) HA4.out.2)
    have HN5 := Lib.hid (And.intro (Kd.C_below HN4.out.1 hb) HN4.out.2)
    have HE5 := Lib.hid (And.intro (Kd.C_below HE4.out.1 hb) HE4.out.2)
    have HCL5 := Lib.hid hCL
    clear hb ho hCL HV4 HB4 HA4 HN4 HE4 henc hL hdl hLl hsz5
    go_wp2_with fail
    refine (decode_ Av cv L w5 HCL5.out.1 HCL5.out.2 (by have := HLl.out; omega)).mono ?_
    rintro e w6 ⟨v5, rfl, hD, hb⟩
    have HV6 := Lib.hid (HV5.out.below hb)
    have HB6 := Lib.hid (HB5.out.trans (hb.mono HB5.out.size))
    have HA6 := Lib.hid (And.intro (Kd.C_below HA5.out.1 hb) HA5.out.2)
    have HN6 := Lib.hid (And.intro (Kd.C_below HN5.out.1 hb) HN5.out.2)
    have HE6 := Lib.hid (And.intro (Kd.C_below HE5.out.1 hb) HE5.out.2)
    clear hb HV5 HB5 HA5 HN5 HE5 HCL5
    rw [HDL.out] at hD
    obtain ⟨va, vn, ve, rfl, hRa, hRn, hRe⟩ := DecR_cut hD
    obtain ⟨Ba, da, rfl, hda, hDa⟩ := Kd.R_reads hRa
    obtain ⟨Bn, dn, rfl, hdn, hDn⟩ := Kd.R_reads hRn
    obtain ⟨Be, de, rfl, hde, hDe⟩ := Kd.R_reads hRe
    clear hRa hRn hRe hDa hDn hDe hda hdn hde hD
    simp only [List.length_nil]
    go_upto_region 6 with fail
    have hbX := below_alloc (Below.refl w6.heap.size w6) (Obj.cells #[.int .u16 m.id, .bool m.rp, .int .i64 m.op, .bool m.au, .bool true, .bool m.de, .bool m.av, .int .i64 m.co, .string m.qn, .int .u16 m.qt, .slice Ba 0 da, .slice Bn 0 dn, .slice Be 0 de, .int .i64 m.sz] 31)
    obtain ⟨gX, hgX⟩ : ∃ g, w6.heap.size = g := ⟨_, rfl⟩
    have hVX : MVar (w6.alloc (Obj.cells #[.int .u16 m.id, .bool m.rp, .int .i64 m.op, .bool m.au, .bool true, .bool m.de, .bool m.av, .int .i64 m.co, .string m.qn, .int .u16 m.qt, .slice Ba 0 da, .slice Bn 0 dn, .slice Be 0 de, .int .i64 m.sz] 31)) gX (cutM m) (.slice Ba 0 da) (.slice Bn 0 dn) (.slice Be 0 de) := by rw [← hgX]; exact blk_new w6 _
    obtain ⟨w7, hw7⟩ : ∃ z, w6.alloc (Obj.cells #[.int .u16 m.id, .bool m.rp, .int .i64 m.op, .bool m.au, .bool true, .bool m.de, .bool m.av, .int .i64 m.co, .string m.qn, .int .u16 m.qt, .slice Ba 0 da, .slice Bn 0 dn, .slice Be 0 de, .int .i64 m.sz] 31) = z := ⟨_, rfl⟩
    rw [hw7] at hbX hVX
    (try rw [hw7])
    (try rw [hgX])
    have HX7 := Lib.hid hVX
    have HV7 := Lib.hid (HV6.out.below hbX)
    have HB7 := Lib.hid (HB6.out.trans (hbX.mono HB6.out.size))
    have HA7 := Lib.hid (And.intro (Kd.C_below HA6.out.1 hbX) HA6.out.2)
    have HN7 := Lib.hid (And.intro (Kd.C_below HN6.out.1 hbX) HN6.out.2)
    have HE7 := Lib.hid (And.intro (Kd.C_below HE6.out.1 hbX) HE6.out.2)
    clear hbX hVX hw7 hgX HV6 HB6 HA6 HN6 HE6
    have d1 : decide ((L.length : Int) > 512) = false := decide_eq_false (by have := HLl.out; omega)
    have d2 : decide (512 < L.length) = false := decide_eq_false (by have := HLl.out; omega)
    have x0 : w7.cell? ⟨gX, 0, none⟩ = some (.int .u16 m.id) := HX7.out.cell 0 _ rfl
    have x13 : w7.cell? ⟨gX, 13, none⟩ = some (.int .i64 m.sz) := HX7.out.cell 13 _ rfl
    have HQX : Hid ((loadVar 28 ⟨gX, 8, none⟩).run Try.prog w7 = .ok (.agg #[.string m.qn, .int .u16 m.qt]) w7) := Lib.hid (by have h := quest_load HX7.out; exact h)
    have HQV : Hid ((loadVar 28 ⟨gM, 8, none⟩).run Try.prog w7 = .ok (.agg #[.string m.qn, .int .u16 m.qt]) w7) := Lib.hid (quest_load HV7.out)
    have v0 := HV7.out.cell 0 _ rfl
    have v13 := HV7.out.cell 13 _ rfl
    go_cut [57] from 24 to 57 (fun v wx => v = .bool false ∧ wx = w7)
    case first =>
      go_wp2_with ((with_reducible refine gate_ld (t := 28) rfl ?_); (try (refine gate_guard (by rfl) ?_; dsimp only)); first | (refine ev_load rfl rfl rfl HQX.out ?_) | (refine ev_load rfl rfl rfl HQV.out ?_))
      go_meet
      case rel => exact ⟨rfl, rfl⟩
    case rest =>
      obtain ⟨hv57, hwc⟩ := hcut
      rw [hv57, hwc]
      clear hv57 hwc d1 d2 x0 x13 v0 v13 HQX HQV
      go_wp2_with ((with_reducible refine gate_ld (t := 31) rfl ?_); (try (refine gate_guard (by rfl) ?_; dsimp only)); refine ev_load rfl rfl rfl HV7.out.load ?_)
      refine (encode_ m HWF.out 1048576 Aa An Ae ca cn ce w7 HA7.out.1 HA7.out.2 HN7.out.1 HN7.out.2 HE7.out.1 HE7.out.2).mono ?_
      rintro e w8 ⟨v8, b8, rfl, hb, hr⟩
      rw [enc_all HMAY.out] at hr
      obtain ⟨rfl, ho⟩ := hr
      obtain ⟨Lw, hLw⟩ : ∃ L, wholeL m = L := ⟨_, rfl⟩
      have hsz8 := HSZ.out
      rw [hLw] at ho hsz8
      obtain ⟨A8, c8, hv⟩ := Wr.own_slice ho
      subst hv
      have HV8 := Lib.hid (HV7.out.below hb)
      have HX8 := Lib.hid (HX7.out.below hb)
      have HB8 := Lib.hid (HB7.out.trans (hb.mono HB7.out.size))
      have HA8 := Lib.hid (And.intro (Kd.C_below HA7.out.1 hb) HA7.out.2)
      have HN8 := Lib.hid (And.intro (Kd.C_below HN7.out.1 hb) HN7.out.2)
      have HE8 := Lib.hid (And.intro (Kd.C_below HE7.out.1 hb) HE7.out.2)
      clear hb ho HV7 HX7 HB7 HA7 HN7 HE7 hLw
      have d1 : decide ((Lw.length : Int) ≤ 512) = false := decide_eq_false (by omega)
      have d2 : decide (Lw.length ≤ 512) = false := decide_eq_false (by omega)
      clear hsz8
      have x4 := HX8.out.cell 4 _ rfl
      have x10 := HX8.out.cell 10 _ rfl
      have x4 : w8.cell? ⟨gX, 4, none⟩ = some (.bool true) := x4
      go_wp2
      go_ret
      exact ⟨by first | rfl | simp, HB8.out⟩
end Go.Proofs.Ytnikfeaggppmpaa.PM
