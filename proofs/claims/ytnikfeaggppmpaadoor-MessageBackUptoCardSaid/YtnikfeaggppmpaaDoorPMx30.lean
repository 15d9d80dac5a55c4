/- part of a proof; what it has no use for was struck out -/
import Derived.Test.YtnikfeaggppmpaaDoorAwk
import Derived.Test.YtnikfeaggppmpaaDoorLwS
import Derived.Test.YtnikfeaggppmpaaDoorNum
import Derived.Test.YtnikfeaggppmpaaDoorMk
namespace Go.Proofs.YtnikfeaggppmpaaDoor.PM
open Go.RowKit Go.Proofs.YtnikfeaggppmpaaDoorW Go.Proofs.YtnikfeaggppmpaaDoorW.PrintWords Go.Proofs.YtnikfeaggppmpaaDoorW.PrintLast Go.Proofs.YtnikfeaggppmpaaDoorW.PrintMore Go.Proofs.YtnikfeaggppmpaaDoor.Base Go.Proofs.YtnikfeaggppmpaaDoor.Nam Go.Proofs.YtnikfeaggppmpaaDoor.Trn Go.Proofs.YtnikfeaggppmpaaDoor.MapS Go.Proofs.YtnikfeaggppmpaaDoor.QM Go.Proofs.YtnikfeaggppmpaaDoor.Wr Go.Proofs.YtnikfeaggppmpaaDoor.Rdr
set_option linter.unusedVariables false
set_option linter.unusedSimpArgs false
set_option maxRecDepth 100000
theorem sizeD : (Tryd.prog.info? 47).map (·.size) = some 14 := by kernel_rfl
theorem draft_load {w : World} {g : Nat} {cells : Array Value} (h : w.heap[g]? = some (.cells cells 47 (0, 0))) (hc : cells.size = 14 := by rfl) : (loadVar 47 ⟨g, 0, none⟩).run Tryd.prog w = .ok (.agg cells) w := by
  have h2 := run_loadAt (P := Tryd.prog) 47 ⟨g, 0, none⟩ cells.toList _ w (fun j v hj => by rw [Addr.add_lit, Nat.zero_add, blk_cell h]; simpa using hj) Tryd.underlying47 rfl (by rw [sizeD, ← hc]; simp)
  have e1 : (Instr.loadAt 47 (.pointer (some ⟨g, 0, none⟩))) = loadVar 47 ⟨g, 0, none⟩ := by
    show (do loadVar 47 (← Instr.sureAddr (.pointer (some ⟨g, 0, none⟩)))) = _
    simp [Instr.sureAddr]
  rw [e1] at h2
  simpa using h2
theorem id_ev {m : Msg} (hm : mayM m = true) (hw : WfM m) : message_ID.f (wholeL m) = some (m.id, true) := by
  obtain ⟨x, hx⟩ := body_ext m
  obtain ⟨g0, -⟩ := head_at hm hw (M := strOfNums (wholeL m)) (x := x) (by rw [whole_bytes, whole_body, hx _ (headW_len m)])
  have hl := (whole_len hm).1
  unfold message_ID.f
  rw [g16_f _ 0 (by rw [str_size]; omega) (by decide), g0]
  rfl
open Classical in
noncomputable def bolterlaw05_MessageBack.f (a0_0 : Int) (a0_1 : Bool) (a0_2 : Int) (a0_3 : Bool) (a0_4 : Bool) (a0_5 : Bool) (a0_6 : Bool) (a0_7 : Int) (l0_8 : List Int) (a0_9 : Int) (l0_10 : List (S110)) (l0_11 : List (S110)) (l0_12 : List (S110)) (a0_13 : Int) : Option Bool :=
  if (0 ≤ a0_0 ∧ a0_0 < 65536) ∧ (0 ≤ a0_9 ∧ a0_9 < 65536) ∧ (0 ≤ a0_13 ∧ a0_13 < 65536) ∧ (B8 l0_8 ∧ l0_8.length ≤ 1000000000) ∧ ((∀ a ∈ l0_10, WfA a) ∧ l0_10.length ≤ 10000000) ∧ ((∀ a ∈ l0_11, WfA a) ∧ l0_11.length ≤ 10000000) ∧ ((∀ a ∈ l0_12, WfA a) ∧ l0_12.length ≤ 10000000) then some true else none
set_option maxHeartbeats 16000000 in
theorem bolterlaw05_MessageBack.calls (a0_0 : Int) (a0_1 : Bool) (a0_2 : Int) (a0_3 : Bool) (a0_4 : Bool) (a0_5 : Bool) (a0_6 : Bool) (a0_7 : Int) (A0_8 : Option Addr) (c0_8 : Nat) (l0_8 : List Int) (a0_9 : Int) (A0_10 : Option Addr) (c0_10 : Nat) (l0_10 : List (S110)) (A0_11 : Option Addr) (c0_11 : Nat) (l0_11 : List (S110)) (A0_12 : Option Addr) (c0_12 : Nat) (l0_12 : List (S110)) (a0_13 : Int) (r : Bool) (w : World) (hr0_8 : Kd.C (Kd.int .u8) w A0_8 l0_8.length l0_8) (hc0_8 : l0_8.length ≤ c0_8) (hr0_10 : Kd.C k110 w A0_10 l0_10.length l0_10) (hc0_10 : l0_10.length ≤ c0_10) (hr0_11 : Kd.C k110 w A0_11 l0_11.length l0_11) (hc0_11 : l0_11.length ≤ c0_11) (hr0_12 : Kd.C k110 w A0_12 l0_12.length l0_12) (hc0_12 : l0_12.length ≤ c0_12) (hE : Num.ErrT w) (h : bolterlaw05_MessageBack.f a0_0 a0_1 a0_2 a0_3 a0_4 a0_5 a0_6 a0_7 l0_8 a0_9 l0_10 l0_11 l0_12 a0_13 = some r) :
    Calls Tryd.prog 5 #[.agg #[.int .u16 a0_0, .bool a0_1, .int .i64 a0_2, .bool a0_3, .bool a0_4, .bool a0_5, .bool a0_6, .int .i64 a0_7, .slice A0_8 l0_8.length c0_8, .int .u16 a0_9, .slice A0_10 l0_10.length c0_10, .slice A0_11 l0_11.length c0_11, .slice A0_12 l0_12.length c0_12, .int .u16 a0_13]] w fun e w' => e = .returned (.bool r) ∧ Below w.heap.size w w' := by
  unfold bolterlaw05_MessageBack.f at h
  by_cases hcn : (0 ≤ a0_0 ∧ a0_0 < 65536) ∧ (0 ≤ a0_9 ∧ a0_9 < 65536) ∧ (0 ≤ a0_13 ∧ a0_13 < 65536) ∧ (B8 l0_8 ∧ l0_8.length ≤ 1000000000) ∧ ((∀ a ∈ l0_10, WfA a) ∧ l0_10.length ≤ 10000000) ∧ ((∀ a ∈ l0_11, WfA a) ∧ l0_11.length ≤ 10000000) ∧ ((∀ a ∈ l0_12, WfA a) ∧ l0_12.length ≤ 10000000)
  case neg => rw [if_neg hcn] at h; cases h
  rw [if_pos hcn] at h
  obtain rfl := Option.some.inj h
  clear h
  obtain ⟨hid, hqt, hsz, ⟨h8, h8l⟩, ⟨w10, n10⟩, ⟨w11, n11⟩, ⟨w12, n12⟩⟩ := hcn
  obtain ⟨kM, hkM⟩ := Ev.rounds (Make_ev a0_0 a0_1 a0_2 a0_3 a0_4 a0_5 a0_6 a0_7 l0_8 a0_9 l0_10 l0_11 l0_12 a0_13 h8 h8l hsz ⟨w10, n10⟩ ⟨w11, n11⟩ ⟨w12, n12⟩)
  have hok := make_ok a0_0 a0_1 a0_2 a0_3 a0_4 a0_5 a0_6 a0_7 l0_8 a0_9 l0_10 l0_11 l0_12 a0_13 hid hqt hsz w10 w11 w12
  have hmid : (makeM a0_0 a0_1 a0_2 a0_3 a0_4 a0_5 a0_6 a0_7 l0_8 a0_9 l0_10 l0_11 l0_12 a0_13).id = a0_0 := rfl
  have hmq : (makeM a0_0 a0_1 a0_2 a0_3 a0_4 a0_5 a0_6 a0_7 l0_8 a0_9 l0_10 l0_11 l0_12 a0_13).qn.size ≤ 84 := by
    show (strOfNums (nameL l0_8)).size ≤ 84
    rw [str_size]
    exact nameL_len l0_8
  obtain ⟨m, hm⟩ : ∃ m, makeM a0_0 a0_1 a0_2 a0_3 a0_4 a0_5 a0_6 a0_7 l0_8 a0_9 l0_10 l0_11 l0_12 a0_13 = m := ⟨_, rfl⟩
  rw [hm] at hok hmid hmq
  have hkM2 : bolterlaw05_Make.f kM a0_0 a0_1 a0_2 a0_3 a0_4 a0_5 a0_6 a0_7 l0_8 a0_9 l0_10 l0_11 l0_12 a0_13 = some (m.id, m.rp, m.op, m.au, m.tr, m.de, m.av, m.co, m.qn, m.qt, m.an, m.ns, m.ex, m.sz) := by rw [← hm]; exact hkM
  have HKM := Lib.hid hkM2
  have HMAY := Lib.hid hok.1
  have HWF := Lib.hid hok.2
  have HMQ := Lib.hid hmq
  have HID := Lib.hid hmid
  have HE := Lib.hid hE
  have HR8 := Lib.hid hr0_8
  have HR10 := Lib.hid hr0_10
  have HR11 := Lib.hid hr0_11
  have HR12 := Lib.hid hr0_12
  obtain ⟨gD, hgD⟩ : ∃ g, w.heap.size = g := ⟨_, rfl⟩
  obtain ⟨w1, hw1⟩ : ∃ x, w.alloc (Obj.cells #[.int .u16 a0_0, .bool a0_1, .int .i64 a0_2, .bool a0_3, .bool a0_4, .bool a0_5, .bool a0_6, .int .i64 a0_7, .slice A0_8 l0_8.length c0_8, .int .u16 a0_9, .slice A0_10 l0_10.length c0_10, .slice A0_11 l0_11.length c0_11, .slice A0_12 l0_12.length c0_12, .int .u16 a0_13] 47) = x := ⟨_, rfl⟩
  have hbX : Below w.heap.size w w1 := by rw [← hw1]; exact below_alloc (Below.refl _ _) _
  have hBK : w1.heap[gD]? = some (Obj.cells #[.int .u16 a0_0, .bool a0_1, .int .i64 a0_2, .bool a0_3, .bool a0_4, .bool a0_5, .bool a0_6, .int .i64 a0_7, .slice A0_8 l0_8.length c0_8, .int .u16 a0_9, .slice A0_10 l0_10.length c0_10, .slice A0_11 l0_11.length c0_11, .slice A0_12 l0_12.length c0_12, .int .u16 a0_13] 47 (0, 0)) := by rw [← hw1, ← hgD]; exact blk_new w _
  clear hkM hkM2 hok hm hr0_8 hr0_10 hr0_11 hr0_12 w10 w11 w12 h8 hmid hmq hE
  go_enter Tryd.func5, Tryd.ntmps5
  go_upto_region 1 with fail
  (try rw [hw1])
  (try rw [hgD])
  have HBX := Lib.hid hbX
  have HBK1 := Lib.hid hBK
  clear hbX hBK hw1 hgD
  go_wp2_with fail
  refine (awake_ w1).mono ?_
  rintro e w2 ⟨rfl, hb⟩
  have HBK2 := Lib.hid (blk_below HBK1.out hb)
  have HD := Lib.hid (draft_load (blk_below HBK1.out hb))
  have HB2 := Lib.hid (HBX.out.trans (hb.mono HBX.out.size))
  clear hb HBX HBK1
  go_wp2_with ((with_reducible refine gate_ld (t := 47) rfl ?_); refine ev_load rfl rfl rfl HD.out ?_)
  refine (bolterlaw05_Make.calls kM a0_0 a0_1 a0_2 a0_3 a0_4 a0_5 a0_6 a0_7 A0_8 c0_8 l0_8 a0_9 A0_10 c0_10 l0_10 A0_11 c0_11 l0_11 A0_12 c0_12 l0_12 a0_13 m.id m.rp m.op m.au m.tr m.de m.av m.co m.qn m.qt m.an m.ns m.ex m.sz w2 (Kd.C_below HR8.out HB2.out) hc0_8 (Kd.C_below HR10.out HB2.out) hc0_10 (Kd.C_below HR11.out HB2.out) hc0_11 (Kd.C_below HR12.out HB2.out) hc0_12 HKM.out).mono ?_
  rintro e w3 ⟨v10, v11, v12, rfl, h10, h11, h12, hb⟩
  obtain ⟨Aa, ca, rfl, hca, hCa⟩ := Kd.R_reads h10
  obtain ⟨An, cn, rfl, hcn, hCn⟩ := Kd.R_reads h11
  obtain ⟨Ae, ce, rfl, hce, hCe⟩ := Kd.R_reads h12
  have HBK3 := Lib.hid (blk_below HBK2.out hb)
  have HB3 := Lib.hid (HB2.out.trans (hb.mono HB2.out.size))
  have HCA : Hid (Kd.C k70 w3 Aa m.an.length m.an ∧ m.an.length ≤ ca) := Lib.hid ⟨hCa, hca⟩
  have HCN : Hid (Kd.C k70 w3 An m.ns.length m.ns ∧ m.ns.length ≤ cn) := Lib.hid ⟨hCn, hcn⟩
  have HCE : Hid (Kd.C k70 w3 Ae m.ex.length m.ex ∧ m.ex.length ≤ ce) := Lib.hid ⟨hCe, hce⟩
  clear h10 h11 h12 hb hCa hCn hCe hca hcn hce HD HB2 HBK2
  go_upto_region 4 with fail
  obtain ⟨gM, hgM⟩ : ∃ g, w3.heap.size = g := ⟨_, rfl⟩
  have hbM := below_alloc (Below.refl w3.heap.size w3) (Obj.cells #[.int .u16 m.id, .bool m.rp, .int .i64 m.op, .bool m.au, .bool m.tr, .bool m.de, .bool m.av, .int .i64 m.co, .string m.qn, .int .u16 m.qt, .slice Aa m.an.length ca, .slice An m.ns.length cn, .slice Ae m.ex.length ce, .int .i64 m.sz] 33)
  have hVM : MVar (w3.alloc (Obj.cells #[.int .u16 m.id, .bool m.rp, .int .i64 m.op, .bool m.au, .bool m.tr, .bool m.de, .bool m.av, .int .i64 m.co, .string m.qn, .int .u16 m.qt, .slice Aa m.an.length ca, .slice An m.ns.length cn, .slice Ae m.ex.length ce, .int .i64 m.sz] 33)) gM m (.slice Aa m.an.length ca) (.slice An m.ns.length cn) (.slice Ae m.ex.length ce) := by rw [← hgM]; exact blk_new w3 _
  obtain ⟨w4, hw4⟩ : ∃ x, w3.alloc (Obj.cells #[.int .u16 m.id, .bool m.rp, .int .i64 m.op, .bool m.au, .bool m.tr, .bool m.de, .bool m.av, .int .i64 m.co, .string m.qn, .int .u16 m.qt, .slice Aa m.an.length ca, .slice An m.ns.length cn, .slice Ae m.ex.length ce, .int .i64 m.sz] 33) = x := ⟨_, rfl⟩
  rw [hw4] at hbM hVM
  (try rw [hw4])
  (try rw [hgM])
  have HGM : Hid (w.heap.size ≤ gM) := Lib.hid (by have h := HB3.out.size; omega)
  have HBK4 := Lib.hid (blk_below HBK3.out hbM)
  have HB4 := Lib.hid (HB3.out.trans (hbM.mono HB3.out.size))
  have HV4 := Lib.hid hVM
  have HGL : Hid (gM < w4.heap.size) := Lib.hid (blk_lt HV4.out)
  have HA4 := Lib.hid (And.intro (Kd.C_below HCA.out.1 hbM) HCA.out.2)
  have HN4 := Lib.hid (And.intro (Kd.C_below HCN.out.1 hbM) HCN.out.2)
  have HE4 := Lib.hid (And.intro (Kd.C_below HCE.out.1 hbM) HCE.out.2)
  have HBM := Lib.hid (And.intro hbM hgM)
  clear hbM hVM hw4 hgM HB3 HCN HCE HBK3
  go_wp2_with ((with_reducible refine gate_ld (t := 33) rfl ?_); (try (refine gate_guard (by rfl) ?_; dsimp only)); refine ev_load rfl rfl rfl HV4.out.load ?_)
  refine (encode_ m HWF.out 1048576 Aa An Ae ca cn ce w4 HA4.out.1 HA4.out.2 HN4.out.1 HN4.out.2 HE4.out.1 HE4.out.2).mono ?_
  rintro e w5 ⟨v, b, rfl, hb, hr⟩
  rw [enc_all HMAY.out] at hr
  obtain ⟨rfl, ho⟩ := hr
  have HLL := Lib.hid (whole_len HMAY.out).1
  have HIE := Lib.hid (id_ev HMAY.out HWF.out)
  obtain ⟨L, hL⟩ : ∃ L, wholeL m = L := ⟨_, rfl⟩
  rw [hL] at ho HLL HIE
  have HLD := Lib.hid hL
  clear hL
  obtain ⟨Av, cv, hv⟩ := Wr.own_slice ho
  subst hv
  have hCL := own_C ho
  have HBK5 := Lib.hid (blk_below HBK4.out hb)
  have HV5 := Lib.hid (HV4.out.below hb)
  have HB5 := Lib.hid (HB4.out.trans (hb.mono HB4.out.size))
  have HA5 := Lib.hid (And.intro (Kd.C_below HA4.out.1 hb) HA4.out.2)
  have HN5 := Lib.hid (And.intro (Kd.C_below HN4.out.1 hb) HN4.out.2)
  have HE5 := Lib.hid (And.intro (Kd.C_below HE4.out.1 hb) HE4.out.2)
  have HCL5 := Lib.hid hCL
  clear hb ho hCL HV4 HB4 HA4 HN4 HE4 HBK4
  go_wp2_with fail
  refine (decode_ Av cv L w5 HCL5.out.1 HCL5.out.2 (by have := HLL.out; omega)).mono ?_
  rintro e w6 ⟨v5, rfl, hD, hb⟩
  have HBK6 := Lib.hid (blk_below HBK5.out hb)
  have HV6 := Lib.hid (HV5.out.below hb)
  have HB6 := Lib.hid (HB5.out.trans (hb.mono HB5.out.size))
  have HA6 := Lib.hid (And.intro (Kd.C_below HA5.out.1 hb) HA5.out.2)
  have HN6 := Lib.hid (And.intro (Kd.C_below HN5.out.1 hb) HN5.out.2)
  have HE6 := Lib.hid (And.intro (Kd.C_below HE5.out.1 hb) HE5.out.2)
  have HCL6 := Lib.hid (And.intro (Kd.C_below HCL5.out.1 hb) HCL5.out.2)
  clear hb HV5 HB5 HA5 HN5 HE5 HCL5 HBK5
  by_cases hbig : 4096 < L.length
  · have d1 : decide ((L.length : Int) > 4096) = true := decide_eq_true (by omega)
    have d2 : decide (4096 < L.length) = true := decide_eq_true hbig
    have hn : decR (strOfNums L) = none := by rw [← HLD.out]; exact dec_many (by rw [HLD.out]; exact hbig)
    rw [hn] at hD
    have hD : v5 = _ := hD
    subst hD
    go_upto_region 6 with fail
    have hbX := below_alloc (Below.refl w6.heap.size w6) (Obj.cells #[.int .u16 0, .bool false, .int .i64 0, .bool false, .bool false, .bool false, .bool false, .int .i64 0, .string { data := #[] }, .int .u16 0, .slice none 0 0, .slice none 0 0, .slice none 0 0, .int .i64 0] 33)
    obtain ⟨w7, hw7⟩ : ∃ x, w6.alloc (Obj.cells #[.int .u16 0, .bool false, .int .i64 0, .bool false, .bool false, .bool false, .bool false, .int .i64 0, .string { data := #[] }, .int .u16 0, .slice none 0 0, .slice none 0 0, .slice none 0 0, .int .i64 0] 33) = x := ⟨_, rfl⟩
    rw [hw7] at hbX
    (try rw [hw7])
    have HB7 := Lib.hid (HB6.out.trans (hbX.mono HB6.out.size))
    clear hbX hw7 HB6
    go_wp2_with fail
    refine (Num.number_ 1 w7 (HE.out.below HB7.out)).mono ?_
    rintro e w8 ⟨rfl, hb⟩
    go_wp2
    go_ret
    exact ⟨by first | rfl | simp, HB7.out.trans (hb.mono HB7.out.size)⟩
  have d1 : decide ((L.length : Int) > 4096) = false := decide_eq_false (by omega)
  have d2 : decide (4096 < L.length) = false := decide_eq_false hbig
  have hn : decR (strOfNums L) = some m := by rw [← HLD.out]; exact dec_whole HMAY.out HWF.out (by rw [HLD.out]; omega)
  rw [hn] at hD
  obtain ⟨va, vn, ve, rfl, hRa, hRn, hRe⟩ := hD
  obtain ⟨Ba, da, rfl, hda, hDa⟩ := Kd.R_reads hRa
  obtain ⟨Bn, dn, rfl, hdn, hDn⟩ := Kd.R_reads hRn
  obtain ⟨Be, de, rfl, hde, hDe⟩ := Kd.R_reads hRe
  have HDA : Hid (Kd.C k70 w6 Ba m.an.length m.an ∧ m.an.length ≤ da) := Lib.hid ⟨hDa, hda⟩
  have HDN : Hid (Kd.C k70 w6 Bn m.ns.length m.ns ∧ m.ns.length ≤ dn) := Lib.hid ⟨hDn, hdn⟩
  have HDE : Hid (Kd.C k70 w6 Be m.ex.length m.ex ∧ m.ex.length ≤ de) := Lib.hid ⟨hDe, hde⟩
  clear hRa hRn hRe hDa hDn hDe hda hdn hde hn
  go_upto_region 6 with fail
  have hbX := below_alloc (Below.refl w6.heap.size w6) (Obj.cells #[.int .u16 m.id, .bool m.rp, .int .i64 m.op, .bool m.au, .bool m.tr, .bool m.de, .bool m.av, .int .i64 m.co, .string m.qn, .int .u16 m.qt, .slice Ba m.an.length da, .slice Bn m.ns.length dn, .slice Be m.ex.length de, .int .i64 m.sz] 33)
  obtain ⟨gX, hgX⟩ : ∃ g, w6.heap.size = g := ⟨_, rfl⟩
  have hVX : MVar (w6.alloc (Obj.cells #[.int .u16 m.id, .bool m.rp, .int .i64 m.op, .bool m.au, .bool m.tr, .bool m.de, .bool m.av, .int .i64 m.co, .string m.qn, .int .u16 m.qt, .slice Ba m.an.length da, .slice Bn m.ns.length dn, .slice Be m.ex.length de, .int .i64 m.sz] 33)) gX m (.slice Ba m.an.length da) (.slice Bn m.ns.length dn) (.slice Be m.ex.length de) := by rw [← hgX]; exact blk_new w6 _
  obtain ⟨w7, hw7⟩ : ∃ x, w6.alloc (Obj.cells #[.int .u16 m.id, .bool m.rp, .int .i64 m.op, .bool m.au, .bool m.tr, .bool m.de, .bool m.av, .int .i64 m.co, .string m.qn, .int .u16 m.qt, .slice Ba m.an.length da, .slice Bn m.ns.length dn, .slice Be m.ex.length de, .int .i64 m.sz] 33) = x := ⟨_, rfl⟩
  rw [hw7] at hbX hVX
  (try rw [hw7])
  (try rw [hgX])
  have HX7 := Lib.hid hVX
  have HBK7 := Lib.hid (blk_below HBK6.out hbX)
  have HV7 := Lib.hid (HV6.out.below hbX)
  have HB7 := Lib.hid (HB6.out.trans (hbX.mono HB6.out.size))
  have HA7 := Lib.hid (And.intro (Kd.C_below HA6.out.1 hbX) HA6.out.2)
  have HN7 := Lib.hid (And.intro (Kd.C_below HN6.out.1 hbX) HN6.out.2)
  have HE7 := Lib.hid (And.intro (Kd.C_below HE6.out.1 hbX) HE6.out.2)
  have HDA7 := Lib.hid (And.intro (Kd.C_below HDA.out.1 hbX) HDA.out.2)
  have HDN7 := Lib.hid (And.intro (Kd.C_below HDN.out.1 hbX) HDN.out.2)
  have HDE7 := Lib.hid (And.intro (Kd.C_below HDE.out.1 hbX) HDE.out.2)
  have HCL7 := Lib.hid (And.intro (Kd.C_below HCL6.out.1 hbX) HCL6.out.2)
  clear hbX hVX hw7 hgX HV6 HB6 HA6 HN6 HE6 HDA HDN HDE HCL6 HBK6
  go_wp2_with fail
  refine (message_ID.calls Av cv L m.id true w7 HCL7.out.1 HCL7.out.2 HIE.out).mono ?_
  rintro e w8 ⟨rfl, hb0⟩
  have hb := hb0.below
  have HBK8 := Lib.hid (blk_below HBK7.out hb)
  have HV8 := Lib.hid (HV7.out.below hb)
  have HX8 := Lib.hid (HX7.out.below hb)
  have HB8 := Lib.hid (HB7.out.trans (hb.mono HB7.out.size))
  have HA8 := Lib.hid (And.intro (Kd.C_below HA7.out.1 hb) HA7.out.2)
  have HN8 := Lib.hid (And.intro (Kd.C_below HN7.out.1 hb) HN7.out.2)
  have HE8 := Lib.hid (And.intro (Kd.C_below HE7.out.1 hb) HE7.out.2)
  have HDA8 := Lib.hid (And.intro (Kd.C_below HDA7.out.1 hb) HDA7.out.2)
  have HDN8 := Lib.hid (And.intro (Kd.C_below HDN7.out.1 hb) HDN7.out.2)
  have HDE8 := Lib.hid (And.intro (Kd.C_below HDE7.out.1 hb) HDE7.out.2)
  clear hb hb0 HV7 HX7 HB7 HA7 HN7 HE7 HDA7 HDN7 HDE7 HCL7 HBK7
  go_wp2_with ((with_reducible refine gate_ld (t := 33) rfl ?_); (try (refine gate_guard (by rfl) ?_; dsimp only)); first | (refine ev_load rfl rfl rfl HX8.out.load ?_) | (refine ev_load rfl rfl rfl HV8.out.load ?_))
  refine (same_ m HWF.out Ba Bn Be Aa An Ae da dn de ca cn ce w8 HDA8.out.1 HDA8.out.2 HDN8.out.1 HDN8.out.2 HDE8.out.1 HDE8.out.2 HA8.out.1 HA8.out.2 HN8.out.1 HN8.out.2 HE8.out.1 HE8.out.2).mono ?_
  rintro e w9 ⟨rfl, hb⟩
  have hcD := (blk_cell (blk_below HBK8.out hb) 0).trans rfl
  rw [HID.out]
  go_wp2
  go_ret
  exact ⟨by first | rfl | simp, HB8.out.trans (hb.mono HB8.out.size)⟩
end Go.Proofs.YtnikfeaggppmpaaDoor.PM
