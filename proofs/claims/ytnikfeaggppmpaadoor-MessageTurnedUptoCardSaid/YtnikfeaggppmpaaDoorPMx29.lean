/- part of a proof; what it has no use for was struck out -/
import Derived.Test.YtnikfeaggppmpaaDoorAwk
import Derived.Test.YtnikfeaggppmpaaDoorLwT
import Derived.Test.YtnikfeaggppmpaaDoorNum
namespace Go.Proofs.YtnikfeaggppmpaaDoor.PM
open Go.RowKit Go.Proofs.YtnikfeaggppmpaaDoorW Go.Proofs.YtnikfeaggppmpaaDoorW.PrintWords Go.Proofs.YtnikfeaggppmpaaDoorW.PrintLast Go.Proofs.YtnikfeaggppmpaaDoorW.PrintMore Go.Proofs.YtnikfeaggppmpaaDoor.Base Go.Proofs.YtnikfeaggppmpaaDoor.Nam Go.Proofs.YtnikfeaggppmpaaDoor.Trn Go.Proofs.YtnikfeaggppmpaaDoor.MapS Go.Proofs.YtnikfeaggppmpaaDoor.QM Go.Proofs.YtnikfeaggppmpaaDoor.Wr Go.Proofs.YtnikfeaggppmpaaDoor.Rdr
set_option linter.unusedVariables false
set_option linter.unusedSimpArgs false
set_option maxRecDepth 100000
attribute [local go_sem high] eqA26
theorem sizeD : (Tryd.prog.info? 47).map (·.size) = some 14 := by kernel_rfl
theorem draft_load {w : World} {g : Nat} {cells : Array Value} (h : w.heap[g]? = some (.cells cells 47 (0, 0))) (hc : cells.size = 14 := by rfl) : (loadVar 47 ⟨g, 0, none⟩).run Tryd.prog w = .ok (.agg cells) w := by
  have h2 := run_loadAt (P := Tryd.prog) 47 ⟨g, 0, none⟩ cells.toList _ w (fun j v hj => by rw [Addr.add_lit, Nat.zero_add, blk_cell h]; simpa using hj) Tryd.underlying47 rfl (by rw [sizeD, ← hc]; simp)
  have e1 : (Instr.loadAt 47 (.pointer (some ⟨g, 0, none⟩))) = loadVar 47 ⟨g, 0, none⟩ := by
    show (do loadVar 47 (← Instr.sureAddr (.pointer (some ⟨g, 0, none⟩)))) = _
    simp [Instr.sureAddr]
  rw [e1] at h2
  simpa using h2
open Classical in
noncomputable def bolterlaw05_MessageTurned.f (a0_0 : Int) (a0_1 : Bool) (a0_2 : Int) (a0_3 : Bool) (a0_4 : Bool) (a0_5 : Bool) (a0_6 : Bool) (a0_7 : Int) (l0_8 : List Int) (a0_9 : Int) (l0_10 : List (S110)) (l0_11 : List (S110)) (l0_12 : List (S110)) (a0_13 : Int) (a1 : Int) (a2 : Int) (a3 : Int) : Option Bool :=
  if (0 ≤ a0_0 ∧ a0_0 < 65536) ∧ (0 ≤ a0_9 ∧ a0_9 < 65536) ∧ (0 ≤ a0_13 ∧ a0_13 < 65536) ∧ (B8 l0_8 ∧ l0_8.length ≤ 1000000000) ∧ ((∀ a ∈ l0_10, WfA a) ∧ l0_10.length ≤ 10000000) ∧ ((∀ a ∈ l0_11, WfA a) ∧ l0_11.length ≤ 10000000) ∧ ((∀ a ∈ l0_12, WfA a) ∧ l0_12.length ≤ 10000000) ∧ (0 ≤ a1 ∧ a1 < 65536) ∧ (0 ≤ a2 ∧ a2 < 256) ∧ (0 ≤ a3 ∧ a3 < 65536) then some true else none
set_option maxHeartbeats 16000000 in
theorem bolterlaw05_MessageTurned.calls (a0_0 : Int) (a0_1 : Bool) (a0_2 : Int) (a0_3 : Bool) (a0_4 : Bool) (a0_5 : Bool) (a0_6 : Bool) (a0_7 : Int) (A0_8 : Option Addr) (c0_8 : Nat) (l0_8 : List Int) (a0_9 : Int) (A0_10 : Option Addr) (c0_10 : Nat) (l0_10 : List (S110)) (A0_11 : Option Addr) (c0_11 : Nat) (l0_11 : List (S110)) (A0_12 : Option Addr) (c0_12 : Nat) (l0_12 : List (S110)) (a0_13 : Int) (a1 : Int) (a2 : Int) (a3 : Int) (r : Bool) (w : World) (hr0_8 : Kd.C (Kd.int .u8) w A0_8 l0_8.length l0_8) (hc0_8 : l0_8.length ≤ c0_8) (hr0_10 : Kd.C k110 w A0_10 l0_10.length l0_10) (hc0_10 : l0_10.length ≤ c0_10) (hr0_11 : Kd.C k110 w A0_11 l0_11.length l0_11) (hc0_11 : l0_11.length ≤ c0_11) (hr0_12 : Kd.C k110 w A0_12 l0_12.length l0_12) (hc0_12 : l0_12.length ≤ c0_12) (hE : Num.ErrT w) (h : bolterlaw05_MessageTurned.f a0_0 a0_1 a0_2 a0_3 a0_4 a0_5 a0_6 a0_7 l0_8 a0_9 l0_10 l0_11 l0_12 a0_13 a1 a2 a3 = some r) :
    Calls Tryd.prog 4 #[.agg #[.int .u16 a0_0, .bool a0_1, .int .i64 a0_2, .bool a0_3, .bool a0_4, .bool a0_5, .bool a0_6, .int .i64 a0_7, .slice A0_8 l0_8.length c0_8, .int .u16 a0_9, .slice A0_10 l0_10.length c0_10, .slice A0_11 l0_11.length c0_11, .slice A0_12 l0_12.length c0_12, .int .u16 a0_13], .int .u16 a1, .int .u8 a2, .int .u16 a3] w fun e w' => e = .returned (.bool r) ∧ Below w.heap.size w w' := by
  unfold bolterlaw05_MessageTurned.f at h
  by_cases hcn : (0 ≤ a0_0 ∧ a0_0 < 65536) ∧ (0 ≤ a0_9 ∧ a0_9 < 65536) ∧ (0 ≤ a0_13 ∧ a0_13 < 65536) ∧ (B8 l0_8 ∧ l0_8.length ≤ 1000000000) ∧ ((∀ a ∈ l0_10, WfA a) ∧ l0_10.length ≤ 10000000) ∧ ((∀ a ∈ l0_11, WfA a) ∧ l0_11.length ≤ 10000000) ∧ ((∀ a ∈ l0_12, WfA a) ∧ l0_12.length ≤ 10000000) ∧ (0 ≤ a1 ∧ a1 < 65536) ∧ (0 ≤ a2 ∧ a2 < 256) ∧ (0 ≤ a3 ∧ a3 < 65536)
  case neg => rw [if_neg hcn] at h; cases h
  rw [if_pos hcn] at h
  obtain rfl := Option.some.inj h
  clear h
  obtain ⟨hid, hqt, hsz, ⟨h8, h8l⟩, ⟨w10, n10⟩, ⟨w11, n11⟩, ⟨w12, n12⟩, hat, hwith, hcut⟩ := hcn
  obtain ⟨kM, hkM⟩ := Ev.rounds (Make_ev a0_0 a0_1 a0_2 a0_3 a0_4 a0_5 a0_6 a0_7 l0_8 a0_9 l0_10 l0_11 l0_12 a0_13 h8 h8l hsz ⟨w10, n10⟩ ⟨w11, n11⟩ ⟨w12, n12⟩)
  have hok := make_ok a0_0 a0_1 a0_2 a0_3 a0_4 a0_5 a0_6 a0_7 l0_8 a0_9 l0_10 l0_11 l0_12 a0_13 hid hqt hsz w10 w11 w12
  have hmid : (makeM a0_0 a0_1 a0_2 a0_3 a0_4 a0_5 a0_6 a0_7 l0_8 a0_9 l0_10 l0_11 l0_12 a0_13).id = a0_0 := rfl
  have hmq : (makeM a0_0 a0_1 a0_2 a0_3 a0_4 a0_5 a0_6 a0_7 l0_8 a0_9 l0_10 l0_11 l0_12 a0_13).qn.size ≤ 84 := by
    show (strOfNums (nameL l0_8)).size ≤ 84
    rw [str_size]
    exact nameL_len l0_8
  have hsm := ans_small (m := makeM a0_0 a0_1 a0_2 a0_3 a0_4 a0_5 a0_6 a0_7 l0_8 a0_9 l0_10 l0_11 l0_12 a0_13) (l := l0_10) rfl hmq
  obtain ⟨m, hm⟩ : ∃ m, makeM a0_0 a0_1 a0_2 a0_3 a0_4 a0_5 a0_6 a0_7 l0_8 a0_9 l0_10 l0_11 l0_12 a0_13 = m := ⟨_, rfl⟩
  rw [hm] at hok hmid hmq hsm
  have HSM := Lib.hid hsm
  have HANS := Lib.hid (ans_ok hok.1 hok.2)
  clear hsm
  have hkM2 : bolterlaw05_Make.f kM a0_0 a0_1 a0_2 a0_3 a0_4 a0_5 a0_6 a0_7 l0_8 a0_9 l0_10 l0_11 l0_12 a0_13 = some (m.id, m.rp, m.op, m.au, m.tr, m.de, m.av, m.co, m.qn, m.qt, m.an, m.ns, m.ex, m.sz) := by rw [← hm]; exact hkM
  have HKM := Lib.hid hkM2
  have HMAY := Lib.hid hok.1
  have HWF := Lib.hid hok.2
  have HMQ := Lib.hid hmq
  have HID := Lib.hid hmid
  have HE := Lib.hid hE
  have HR8 := Lib.hid hr0_8
  have HR10 := Lib.hid hr0_10
  have HR11 := Lib.hid hr0_11
  have HR12 := Lib.hid hr0_12
  obtain ⟨gD, hgD⟩ : ∃ g, w.heap.size = g := ⟨_, rfl⟩
  obtain ⟨w1, hw1⟩ : ∃ x, w.alloc (Obj.cells #[.int .u16 a0_0, .bool a0_1, .int .i64 a0_2, .bool a0_3, .bool a0_4, .bool a0_5, .bool a0_6, .int .i64 a0_7, .slice A0_8 l0_8.length c0_8, .int .u16 a0_9, .slice A0_10 l0_10.length c0_10, .slice A0_11 l0_11.length c0_11, .slice A0_12 l0_12.length c0_12, .int .u16 a0_13] 47) = x := ⟨_, rfl⟩
  have hbX : Below w.heap.size w w1 := by rw [← hw1]; exact below_alloc (Below.refl _ _) _
  have hBK : w1.heap[gD]? = some (Obj.cells #[.int .u16 a0_0, .bool a0_1, .int .i64 a0_2, .bool a0_3, .bool a0_4, .bool a0_5, .bool a0_6, .int .i64 a0_7, .slice A0_8 l0_8.length c0_8, .int .u16 a0_9, .slice A0_10 l0_10.length c0_10, .slice A0_11 l0_11.length c0_11, .slice A0_12 l0_12.length c0_12, .int .u16 a0_13] 47 (0, 0)) := by rw [← hw1, ← hgD]; exact blk_new w _
  clear hkM hkM2 hok hm hr0_8 hr0_10 hr0_11 hr0_12 w10 w11 w12 h8 hmid hmq hE
  go_enter Tryd.func4, Tryd.ntmps4
  go_upto_region 1 with fail
  (try rw [hw1])
  (try rw [hgD])
  have HBX := Lib.hid hbX
  have HBK1 := Lib.hid hBK
  clear hbX hBK hw1 hgD
  go_wp2_with fail
  refine (awake_ w1).mono ?_
  rintro e w2 ⟨rfl, hb⟩
  have HBK2 := Lib.hid (blk_below HBK1.out hb)
  have HD := Lib.hid (draft_load (blk_below HBK1.out hb))
  have HB2 := Lib.hid (HBX.out.trans (hb.mono HBX.out.size))
  clear hb HBX HBK1
  go_wp2_with ((with_reducible refine gate_ld (t := 47) rfl ?_); refine ev_load rfl rfl rfl HD.out ?_)
  refine (bolterlaw05_Make.calls kM a0_0 a0_1 a0_2 a0_3 a0_4 a0_5 a0_6 a0_7 A0_8 c0_8 l0_8 a0_9 A0_10 c0_10 l0_10 A0_11 c0_11 l0_11 A0_12 c0_12 l0_12 a0_13 m.id m.rp m.op m.au m.tr m.de m.av m.co m.qn m.qt m.an m.ns m.ex m.sz w2 (Kd.C_below HR8.out HB2.out) hc0_8 (Kd.C_below HR10.out HB2.out) hc0_10 (Kd.C_below HR11.out HB2.out) hc0_11 (Kd.C_below HR12.out HB2.out) hc0_12 HKM.out).mono ?_
  rintro e w3 ⟨v10, v11, v12, rfl, h10, h11, h12, hb⟩
  obtain ⟨Aa, ca, rfl, hca, hCa⟩ := Kd.R_reads h10
  obtain ⟨An, cn, rfl, hcn, hCn⟩ := Kd.R_reads h11
  obtain ⟨Ae, ce, rfl, hce, hCe⟩ := Kd.R_reads h12
  have HBK3 := Lib.hid (blk_below HBK2.out hb)
  have HB3 := Lib.hid (HB2.out.trans (hb.mono HB2.out.size))
  have HCA : Hid (Kd.C k70 w3 Aa m.an.length m.an ∧ m.an.length ≤ ca) := Lib.hid ⟨hCa, hca⟩
  have HCN : Hid (Kd.C k70 w3 An m.ns.length m.ns ∧ m.ns.length ≤ cn) := Lib.hid ⟨hCn, hcn⟩
  have HCE : Hid (Kd.C k70 w3 Ae m.ex.length m.ex ∧ m.ex.length ≤ ce) := Lib.hid ⟨hCe, hce⟩
  clear h10 h11 h12 hb hCa hCn hCe hca hcn hce HD HB2 HBK2
  go_upto_region 4 with fail
  obtain ⟨gM, hgM⟩ : ∃ g, w3.heap.size = g := ⟨_, rfl⟩
  have hbM := below_alloc (Below.refl w3.heap.size w3) (Obj.cells #[.int .u16 m.id, .bool m.rp, .int .i64 m.op, .bool m.au, .bool m.tr, .bool m.de, .bool m.av, .int .i64 m.co, .string m.qn, .int .u16 m.qt, .slice Aa m.an.length ca, .slice An m.ns.length cn, .slice Ae m.ex.length ce, .int .i64 m.sz] 33)
  have hVM : MVar (w3.alloc (Obj.cells #[.int .u16 m.id, .bool m.rp, .int .i64 m.op, .bool m.au, .bool m.tr, .bool m.de, .bool m.av, .int .i64 m.co, .string m.qn, .int .u16 m.qt, .slice Aa m.an.length ca, .slice An m.ns.length cn, .slice Ae m.ex.length ce, .int .i64 m.sz] 33)) gM m (.slice Aa m.an.length ca) (.slice An m.ns.length cn) (.slice Ae m.ex.length ce) := by rw [← hgM]; exact blk_new w3 _
  obtain ⟨w4, hw4⟩ : ∃ x, w3.alloc (Obj.cells #[.int .u16 m.id, .bool m.rp, .int .i64 m.op, .bool m.au, .bool m.tr, .bool m.de, .bool m.av, .int .i64 m.co, .string m.qn, .int .u16 m.qt, .slice Aa m.an.length ca, .slice An m.ns.length cn, .slice Ae m.ex.length ce, .int .i64 m.sz] 33) = x := ⟨_, rfl⟩
  rw [hw4] at hbM hVM
  (try rw [hw4])
  (try rw [hgM])
  have HGM : Hid (w.heap.size ≤ gM) := Lib.hid (by have h := HB3.out.size; omega)
  have HBK4 := Lib.hid (blk_below HBK3.out hbM)
  have HB4 := Lib.hid (HB3.out.trans (hbM.mono HB3.out.size))
  have HV4 := Lib.hid hVM
  have HGL : Hid (gM < w4.heap.size) := Lib.hid (blk_lt HV4.out)
  have HA4 := Lib.hid (And.intro (Kd.C_below HCA.out.1 hbM) HCA.out.2)
  have HN4 := Lib.hid (And.intro (Kd.C_below HCN.out.1 hbM) HCN.out.2)
  have HE4 := Lib.hid (And.intro (Kd.C_below HCE.out.1 hbM) HCE.out.2)
  have HBM := Lib.hid (And.intro hbM hgM)
  clear hbM hVM hw4 hgM HB3 HCN HCE HBK3
  have c11 := HV4.out.cell 11 _ rfl
  have c12 := HV4.out.cell 12 _ rfl
  have z11 := HV4.out.froz 11
  have z12 := HV4.out.froz 12
  go_upto_region 5 with fail
  clear c11 c12 z11 z12
  obtain ⟨m2, hm2⟩ : ∃ x, ans m = x := ⟨_, rfl⟩
  obtain ⟨w5, hw5⟩ : ∃ x, (w4.setCell ⟨gM, 11, none⟩ (.slice none 0 0)).setCell ⟨gM, 12, none⟩ (.slice none 0 0) = x := ⟨_, rfl⟩
  have hV5 : MVar w5 gM m2 (.slice Aa m.an.length ca) (.slice none 0 0) (.slice none 0 0) := by
    rw [← hw5, ← hm2]
    exact blk_set (blk_set HV4.out _ _) _ _
  have hgw : w.heap.size ≤ gM := HGM.out
  have hb5 : Below w.heap.size w w5 := by rw [← hw5]; exact below_set (below_set HB4.out hgw) hgw
  have hA5 : Kd.C k70 w5 Aa m.an.length m.an := by
    refine Kd.C_below HCA.out.1 ?_
    rw [← hw5]
    exact below_set (below_set HBM.out.1 (Nat.le_of_eq HBM.out.2)) (Nat.le_of_eq HBM.out.2)
  rw [hw5]
  have HV5 := Lib.hid hV5
  have HB5 := Lib.hid hb5
  have HSM2 : Hid ((wholeL m2).length ≤ 4096) := Lib.hid (by rw [← hm2]; exact HSM.out)
  have HM2 : Hid (mayM m2 = true ∧ WfM m2) := Lib.hid (by rw [← hm2]; exact HANS.out)
  have HN2 : Hid (m2.an = m.an ∧ m2.ns = [] ∧ m2.ex = []) := Lib.hid (by rw [← hm2]; exact ⟨rfl, rfl, rfl⟩)
  have HA5 := Lib.hid (And.intro hA5 HA4.out.2)
  clear hV5 hb5 hA5 hw5 hm2 HV4 HB4 HA4 HN4 HE4 HBK4
  go_wp2_with ((with_reducible refine gate_ld (t := 33) rfl ?_); (try (refine gate_guard (by rfl) ?_; dsimp only)); refine ev_load rfl rfl rfl HV5.out.load ?_)
  have key := encode_ m2 HM2.out.2 4096 Aa none none ca 0 0 w5 (by rw [HN2.out.1]; exact HA5.out.1) (by rw [HN2.out.1]; exact HA5.out.2) (by rw [HN2.out.2.1]; exact Kd.C_nil _ _) (by rw [HN2.out.2.1]; exact Nat.zero_le _) (by rw [HN2.out.2.2]; exact Kd.C_nil _ _) (by rw [HN2.out.2.2]; exact Nat.zero_le _)
  rw [show m2.an.length = m.an.length by rw [HN2.out.1], show m2.ns.length = 0 by rw [HN2.out.2.1]; rfl, show m2.ex.length = 0 by rw [HN2.out.2.2]; rfl] at key
  refine key.mono ?_
  clear key
  rintro e w6 ⟨v, b, rfl, hb, hr⟩
  have henc : encL m2 4096 = some (wholeL m2) := by
    unfold encL
    rw [if_pos HM2.out.1, if_pos (by have := HSM2.out; omega)]
  rw [henc] at hr
  obtain ⟨rfl, ho⟩ := hr
  have HL12 := Lib.hid (whole_len HM2.out.1).2
  obtain ⟨L, hL⟩ : ∃ L, wholeL m2 = L := ⟨_, rfl⟩
  rw [hL] at ho HSM2 HL12
  have HLD := Lib.hid hL
  clear hL henc
  obtain ⟨Av, cv, hv⟩ := Wr.own_slice ho
  subst hv
  have HO6 := Lib.hid ho
  have HCL6 := Lib.hid (own_C ho)
  have HV6 := Lib.hid (HV5.out.below hb)
  have HB6 := Lib.hid (HB5.out.trans (hb.mono HB5.out.size))
  clear hb ho HV5 HB5 HA5
  obtain ⟨k, hk⟩ : ∃ k, a1.toNat % L.length = k := ⟨_, rfl⟩
  obtain ⟨c, hc⟩ : ∃ c, a3.toNat % L.length = c := ⟨_, rfl⟩
  have hL0 : 0 < L.length := by have := HL12.out; omega
  have hkl : k < L.length := by rw [← hk]; exact Nat.mod_lt _ hL0
  have hcl : c < L.length := by rw [← hc]; exact Nat.mod_lt _ hL0
  have hk2 : a1.tmod (L.length : Int) = (k : Int) := by
    rw [← hk, Int.tmod_eq_emod_of_nonneg hat.1, Int.natCast_emod, Int.toNat_of_nonneg hat.1]
  have hc2 : a3.tmod (L.length : Int) = (c : Int) := by
    rw [← hc, Int.tmod_eq_emod_of_nonneg hcut.1, Int.natCast_emod, Int.toNat_of_nonneg hcut.1]
  have hw1 : wrap64 a1 = a1 := by unfold wrap64; omega
  have hw3 : wrap64 a3 = a3 := by unfold wrap64; omega
  have HKL := Lib.hid hkl
  have HCUT := Lib.hid hcl
  have HK2 := Lib.hid hk2
  have HC2 := Lib.hid (And.intro hc2 hw3)
  have HW1 := Lib.hid hw1
  clear hk hc hkl hcl hk2 hc2 hw1 hw3
  have hk2 := HK2.out
  have hw1 := HW1.out
  go_upto_region 9 with fail
  clear hk2 hw1
  go_wp2_with ((with_reducible refine gate_builtin (b := .append) (xs := #[.const (.slice none 0 0), .tmp 38]) rfl ?_); at_builtin; refine print_append_row w6.heap.size rfl (.const (.slice none 0 0)) (.tmp 38) 22 5 .u8 1 rfl Tryd.underlying22 infoB8 (by decide) (.slice none 0 0) [] L Av L.length cv rfl rfl (World.ownsRow_nil _ _ _ _) ?hr (Below.refl _ _) ?hb ?hl ?_)
  case hr => exact C_reads HCL6.out.1
  case hb => exact Nat.le_refl _
  case hl => have := HSM2.out; simp only [List.length_nil]; omega
  intro v7 w7 hown hB hg hat7
  have hown : w7.ownsRow w6.heap.size 5 1 v7 L.length (nums .u8 L) := hown
  obtain ⟨A7, c7, hv7⟩ := Wr.own_slice hown
  subst hv7
  have hb7 : Below w6.heap.size w6 w7 := ⟨hg.os, hg.tape, hg.output, hg.size, fun q hq => hg.block q hq (by simp [Value.ownBlock])⟩
  obtain ⟨gb, hA7, hgb0, hgb1, hcell, hfroz, hset⟩ := own_put hown k HKL.out
  subst hA7
  have HCL7 := Lib.hid (And.intro (Kd.C_below HCL6.out.1 hb7) HCL6.out.2)
  have HV7 := Lib.hid (HV6.out.below hb7)
  have HB7 := Lib.hid (HB6.out.trans (hb7.mono HB6.out.size))
  have HGB := Lib.hid (And.intro hgb0 hgb1)
  have HSET := Lib.hid hset
  have HW67 := Lib.hid (And.intro hb7 HCL6.out)
  have HW6V := HV6
  have HB6b := HB6
  clear hown hB hg hat7 hb7 hgb0 hgb1 hset HCL6 HV6 HB6
  have hkl := HKL.out
  go_upto_region 11 with fail
  clear hkl hcell hfroz
  obtain ⟨w8, hw8⟩ : ∃ x, w7.setCell ⟨gb, k, none⟩ (.int .u8 a2) = x := ⟨_, rfl⟩
  have ho8 := HSET.out a2
  rw [hw8] at ho8 ⊢
  have hbs : Below w6.heap.size w6 w8 := by rw [← hw8]; exact below_set HW67.out.1 HGB.out.1
  have hV8 : MVar w8 gM m2 (.slice Aa m.an.length ca) (.slice none 0 0) (.slice none 0 0) := by
    rw [← hw8]
    exact blk_far HV7.out (p := ⟨gb, k, none⟩) (by
      have h1 := blk_lt HW6V.out
      have h2 := HGB.out.1
      simp
      omega) _
  have HCL8 := Lib.hid (And.intro (Kd.C_below HW67.out.2.1 hbs) HW67.out.2.2)
  have HV8 := Lib.hid hV8
  have HB8 := Lib.hid (HB6b.out.trans (hbs.mono HB6b.out.size))
  have hCT := own_C ho8
  have hTl : (L.set k a2).length = L.length := List.length_set
  have HCT8 := Lib.hid hCT
  clear ho8 hbs hV8 hw8 HSET HGB HW67 HV7 HB7 HCL7 hCT
  go_wp2_with fail
  have key := decode_ (some ⟨gb, 0, none⟩) c7 (L.set k a2) w8 HCT8.out.1 HCT8.out.2 (by rw [hTl]; have := HSM2.out; omega)
  rw [hTl] at key
  refine key.mono ?_
  clear key
  rintro e w9 ⟨v9, rfl, hD, hb⟩
  have HV9 := Lib.hid (HV8.out.below hb)
  have HB9 := Lib.hid (HB8.out.trans (hb.mono HB8.out.size))
  have HCL9 := Lib.hid (And.intro (Kd.C_below HCL8.out.1 hb) HCL8.out.2)
  clear hb HV8 HB8 HCL8 HCT8 hTl
  have h8L : B8 L := by rw [← HLD.out]; exact whole_b8 m2
  have hTb : bytesOf (strOfNums (L.set k a2)) = L.set k a2 := bytes_str (fun y hy => by
    rcases List.mem_or_eq_of_mem_set hy with h | rfl
    · exact h8L y h
    · exact hwith)
  obtain ⟨sT, hsT⟩ : ∃ s, strOfNums (L.set k a2) = s := ⟨_, rfl⟩
  rw [hsT] at hD hTb
  have HTB := Lib.hid hTb
  have H8L := Lib.hid h8L
  clear hsT hTb h8L
  -- what is short, what is long
  have hwd : decR (strOfNums L) = some m2 := by rw [← HLD.out]; exact dec_whole HM2.out.1 HM2.out.2 (by rw [HLD.out]; exact HSM2.out)
  have hLb : bytesOf (strOfNums L) = L := bytes_str H8L.out
  have hshort : decR (strOfNums (L.take c)) = none := by
    have hb1 : bytesOf (strOfNums (L.take c)) = L.take c := bytes_str (H8L.out.take c)
    refine dec_short (t := L.drop c) (by rw [hb1, hLb, List.take_append_drop]) ?_ hwd
    intro he
    have := congrArg List.length he
    have h2 := HCUT.out
    rw [List.length_drop, List.length_nil] at this
    omega
  have hlong : decR (strOfNums (L ++ [a2])) = none := by
    have hb1 : bytesOf (strOfNums (L ++ [a2])) = L ++ [a2] := bytes_str (H8L.out.append (B8.cons hwith.1 hwith.2 B8.nil))
    exact dec_long (t := [a2]) (by rw [hb1, hLb]) (by simp) hwd
  have HSH := Lib.hid (And.intro hshort hlong)
  clear hwd hLb hshort hlong
  cases hdec : decR sT with
  | none =>
    rw [hdec] at hD
    have hD : v9 = _ := hD
    subst hD
    go_upto_region 12 with fail
    have hbX := below_alloc (Below.refl w9.heap.size w9) (Obj.cells #[.int .u16 0, .bool false, .int .i64 0, .bool false, .bool false, .bool false, .bool false, .int .i64 0, .string { data := #[] }, .int .u16 0, .slice none 0 0, .slice none 0 0, .slice none 0 0, .int .i64 0] 33)
    obtain ⟨gX, hgX⟩ : ∃ g, w9.heap.size = g := ⟨_, rfl⟩
    have hVX : MVar (w9.alloc (Obj.cells #[.int .u16 0, .bool false, .int .i64 0, .bool false, .bool false, .bool false, .bool false, .int .i64 0, .string { data := #[] }, .int .u16 0, .slice none 0 0, .slice none 0 0, .slice none 0 0, .int .i64 0] 33)) gX m00 (.slice none 0 0) (.slice none 0 0) (.slice none 0 0) := by rw [← hgX]; exact blk_new w9 _
    obtain ⟨w10, hw10⟩ : ∃ z, w9.alloc (Obj.cells #[.int .u16 0, .bool false, .int .i64 0, .bool false, .bool false, .bool false, .bool false, .int .i64 0, .string { data := #[] }, .int .u16 0, .slice none 0 0, .slice none 0 0, .slice none 0 0, .int .i64 0] 33) = z := ⟨_, rfl⟩
    rw [hw10] at hbX hVX
    (try rw [hw10])
    (try rw [hgX])
    have HX10 := Lib.hid hVX
    have HV10 := Lib.hid (HV9.out.below hbX)
    have HB10 := Lib.hid (HB9.out.trans (hbX.mono HB9.out.size))
    have HCL10 := Lib.hid (And.intro (Kd.C_below HCL9.out.1 hbX) HCL9.out.2)
    clear hbX hVX hw10 hgX HV9 HB9 HCL9
    have hkl := HKL.out
    have hcell : w10.cell? ((⟨Av.get!.block, k, none⟩ : Addr)) = none ∨ True := .inr trivial
    clear hcell
    obtain ⟨adv, hav, hrd⟩ := C_at HCL10.out.1 HKL.out
    subst hav
    go_cut [69] from 49 to 69 (fun v wx => v = .bool false ∧ wx = w10)
    case first =>
      by_cases e1 : a2 = L[k]
      · have e1' : (a2 == L[k]) = true := beq_iff_eq.2 e1
        have e1n : (a2 != L[k]) = false := by simp [bne, e1']
        clear e1
        go_wp2
        go_meet
        case rel => exact ⟨rfl, rfl⟩
      have e1' : (a2 == L[k]) = false := beq_eq_false_iff_ne.2 e1
      have e1n : (a2 != L[k]) = true := by simp [bne, e1']
      have E1 := Lib.hid e1
      clear e1
      by_cases e2 : k < 12
      rotate_left
      · have e2' : decide ((k : Int) < 12) = false := decide_eq_false (by omega)
        have e2n : decide (k < 12) = false := decide_eq_false e2
        clear e2
        go_wp2
        go_meet
        case rel => exact ⟨rfl, rfl⟩
      have e2' : decide ((k : Int) < 12) = true := decide_eq_true (by omega)
      have e2n : decide (k < 12) = true := decide_eq_true e2
      have E2 := Lib.hid e2
      clear e2
      go_wp2
      go_meet
      case rel => exact ⟨rfl, rfl⟩
    case rest =>
      obtain ⟨hv69, hwc⟩ := hcut
      rw [hv69, hwc]
      clear hv69 hwc hrd
      have hc2 := HC2.out.1
      have hw3 := HC2.out.2
      have hccv : c ≤ cv := by have h1 := HCUT.out; have h2 := HCL10.out.2; omega
      have hctl : (L.take c).length = c := by rw [List.length_take]; have := HCUT.out; omega
      go_wp2_with fail
      clear hc2 hw3
      have key := decode_ (some adv) cv (L.take c) w10 (Kd.C_take HCL10.out.1 (Nat.le_of_lt HCUT.out)) (by rw [hctl]; exact hccv) (by rw [hctl]; have := HCUT.out; have := HSM2.out; omega)
      rw [hctl] at key
      refine key.mono ?_
      clear key hctl hccv
      rintro e w11 ⟨v11, rfl, hD, hb⟩
      rw [HSH.out.1] at hD
      have hD : v11 = _ := hD
      subst hD
      have HX11 := Lib.hid (HX10.out.below hb)
      have HB11 := Lib.hid (HB10.out.trans (hb.mono HB10.out.size))
      have HCL11 := Lib.hid (And.intro (Kd.C_below HCL10.out.1 hb) HCL10.out.2)
      clear hb HX10 HB10 HCL10
      go_upto_region 15 with fail
      have hbX := below_alloc (Below.refl w11.heap.size w11) (Obj.cells #[.int .u16 0, .bool false, .int .i64 0, .bool false, .bool false, .bool false, .bool false, .int .i64 0, .string { data := #[] }, .int .u16 0, .slice none 0 0, .slice none 0 0, .slice none 0 0, .int .i64 0] 33)
      obtain ⟨w12, hw12⟩ : ∃ x, w11.alloc (Obj.cells #[.int .u16 0, .bool false, .int .i64 0, .bool false, .bool false, .bool false, .bool false, .int .i64 0, .string { data := #[] }, .int .u16 0, .slice none 0 0, .slice none 0 0, .slice none 0 0, .int .i64 0] 33) = x := ⟨_, rfl⟩
      rw [hw12] at hbX
      (try rw [hw12])
      have HX12 := Lib.hid (HX11.out.below hbX)
      have HB12 := Lib.hid (HB11.out.trans (hbX.mono HB11.out.size))
      have HCL12 := Lib.hid (And.intro (Kd.C_below HCL11.out.1 hbX) HCL11.out.2)
      clear hbX hw12 HX11 HB11 HCL11
      go_wp2_with ((with_reducible refine gate_builtin (b := .append) (xs := #[.const (.slice none 0 0), .tmp 82]) rfl ?_); at_builtin; refine print_append_row w12.heap.size rfl (.const (.slice none 0 0)) (.tmp 82) 22 5 .u8 1 rfl Tryd.underlying22 infoB8 (by decide) (.slice none 0 0) [] L (some adv) L.length cv rfl rfl (World.ownsRow_nil _ _ _ _) ?hr (Below.refl _ _) ?hb ?hl ?_)
      case hr => exact C_reads HCL12.out.1
      case hb => exact Nat.le_refl _
      case hl => have := HSM2.out; simp only [List.length_nil]; omega
      intro v13 w13 hown hB hg hat13
      have hown : w13.ownsRow w12.heap.size 5 1 v13 L.length (nums .u8 L) := hown
      have hb13 : Below w12.heap.size w12 w13 := ⟨hg.os, hg.tape, hg.output, hg.size, fun q hq => hg.block q hq (by simp [Value.ownBlock])⟩
      have HO13 := Lib.hid hown
      have HB13 := Lib.hid hb13
      clear hown hB hg hat13 hb13 HCL12
      go_wp2_with ((with_reducible refine gate_builtin (b := .append) (xs := #[.tmp 83, .tmp 85]) rfl ?_); at_builtin; refine print_append_row (w0 := w13) w12.heap.size rfl (.tmp 83) (.tmp 85) 22 5 .u8 1 rfl Tryd.underlying22 infoB8 (by decide) v13 L [a2] _ 1 _ rfl rfl ?aO ?aR ((below_alloc (Below.refl _ _) _).mono HB13.out.size) ?aB ?aL ?_)
      case aO => exact pw_own_below HO13.out (below_alloc (Below.refl _ _) _)
      case aR => exact C_reads (C_one _ _ _ _)
      case aB => have := HB13.out.size; simp; omega
      case aL => have := HSM2.out; omega
      intro v14 w14 hown hB hg hat14
      obtain ⟨A14, c14, hv14⟩ := Wr.own_slice hown
      subst hv14
      have hb14 : Below w12.heap.size w12 w14 := pw_below_grown (below_alloc HB13.out _) _ (by have := HB13.out.size; simp; omega) hg (fun q hq => by
        obtain ⟨b, h1, h2⟩ := own_at HO13.out (by have := HL12.out; omega)
        rw [h1] at hq
        injection hq with hq
        omega)
      have HX14 := Lib.hid (HX12.out.below hb14)
      have HB14 := Lib.hid (HB12.out.trans (hb14.mono HB12.out.size))
      have hll : (L ++ [a2]).length = L.length + 1 := by rw [List.length_append, List.length_singleton]
      have hCL : Kd.C (Kd.int .u8) w14 A14 (L ++ [a2]).length (L ++ [a2]) ∧ (L ++ [a2]).length ≤ c14 := own_C (by rw [hll]; exact hown)
      have HCL14 := Lib.hid hCL
      clear hown hB hg hat14 hb14 HX12 HB12 HB13 hCL HO13
      have HLL14 := Lib.hid hll
      clear hll
      go_wp2_with fail
      have key := decode_ A14 c14 (L ++ [a2]) w14 HCL14.out.1 HCL14.out.2 (by rw [HLL14.out]; have := HSM2.out; omega)
      rw [HLL14.out] at key
      refine key.mono ?_
      clear key
      rintro e w15 ⟨v15, rfl, hD, hb⟩
      rw [HSH.out.2] at hD
      have hD : v15 = _ := hD
      subst hD
      have HX15 := Lib.hid (HX14.out.below hb)
      have HB15 := Lib.hid (HB14.out.trans (hb.mono HB14.out.size))
      clear hb HX14 HB14 HCL14
      go_upto_region 16 with fail
      have hbX := below_alloc (Below.refl w15.heap.size w15) (Obj.cells #[.int .u16 0, .bool false, .int .i64 0, .bool false, .bool false, .bool false, .bool false, .int .i64 0, .string { data := #[] }, .int .u16 0, .slice none 0 0, .slice none 0 0, .slice none 0 0, .int .i64 0] 33)
      obtain ⟨w16, hw16⟩ : ∃ x, w15.alloc (Obj.cells #[.int .u16 0, .bool false, .int .i64 0, .bool false, .bool false, .bool false, .bool false, .int .i64 0, .string { data := #[] }, .int .u16 0, .slice none 0 0, .slice none 0 0, .slice none 0 0, .int .i64 0] 33) = x := ⟨_, rfl⟩
      rw [hw16] at hbX
      (try rw [hw16])
      have HX16 := Lib.hid (HX15.out.below hbX)
      have HB16 := Lib.hid (HB15.out.trans (hbX.mono HB15.out.size))
      clear hbX hw16 HX15 HB15
      go_wp2_with fail
      refine (Num.number_ 1 w16 (HE.out.below HB16.out)).mono ?_
      rintro e w17 ⟨rfl, hb⟩
      have HX17 := Lib.hid (HX16.out.below hb)
      have HB17 := Lib.hid (HB16.out.trans (hb.mono HB16.out.size))
      clear hb HX16 HB16
      go_wp2_with ((refine gate_guard (by rfl) ?_; dsimp only); fail)
      refine (Num.number_ 1 w17 (HE.out.below HB17.out)).mono ?_
      rintro e w18 ⟨rfl, hb⟩
      have HX18 := Lib.hid (HX17.out.below hb)
      have HB18 := Lib.hid (HB17.out.trans (hb.mono HB17.out.size))
      clear hb HX17 HB17
      go_wp2_with ((with_reducible refine gate_ld (t := 33) rfl ?_); (try (refine gate_guard (by rfl) ?_; dsimp only)); refine ev_load rfl rfl rfl HX18.out.load ?_)
      refine (same_ m00 wf00 none none none none none none 0 0 0 0 0 0 w18 (Kd.C_nil _ _) (Nat.zero_le _) (Kd.C_nil _ _) (Nat.zero_le _) (Kd.C_nil _ _) (Nat.zero_le _) (Kd.C_nil _ _) (Nat.zero_le _) (Kd.C_nil _ _) (Nat.zero_le _) (Kd.C_nil _ _) (Nat.zero_le _)).mono ?_
      rintro e w19 ⟨rfl, hb⟩
      go_wp2
      go_ret
      exact ⟨by first | rfl | simp, HB18.out.trans (hb.mono HB18.out.size)⟩
  | some x =>
    rw [hdec] at hD
    obtain ⟨va, vn, ve, rfl, hRa, hRn, hRe⟩ := hD
    obtain ⟨Ba, da, rfl, hda, hDa⟩ := Kd.R_reads hRa
    obtain ⟨Bn, dn, rfl, hdn, hDn⟩ := Kd.R_reads hRn
    obtain ⟨Be, de, rfl, hde, hDe⟩ := Kd.R_reads hRe
    have HDC := Lib.hid hdec
    clear hdec hRa hRn hRe hDa hDn hDe hda hdn hde
    go_upto_region 12 with fail
    have hbX := below_alloc (Below.refl w9.heap.size w9) (Obj.cells #[.int .u16 x.id, .bool x.rp, .int .i64 x.op, .bool x.au, .bool x.tr, .bool x.de, .bool x.av, .int .i64 x.co, .string x.qn, .int .u16 x.qt, .slice Ba x.an.length da, .slice Bn x.ns.length dn, .slice Be x.ex.length de, .int .i64 x.sz] 33)
    obtain ⟨gX, hgX⟩ : ∃ g, w9.heap.size = g := ⟨_, rfl⟩
    have hVX : MVar (w9.alloc (Obj.cells #[.int .u16 x.id, .bool x.rp, .int .i64 x.op, .bool x.au, .bool x.tr, .bool x.de, .bool x.av, .int .i64 x.co, .string x.qn, .int .u16 x.qt, .slice Ba x.an.length da, .slice Bn x.ns.length dn, .slice Be x.ex.length de, .int .i64 x.sz] 33)) gX x (.slice Ba x.an.length da) (.slice Bn x.ns.length dn) (.slice Be x.ex.length de) := by rw [← hgX]; exact blk_new w9 _
    obtain ⟨w10, hw10⟩ : ∃ z, w9.alloc (Obj.cells #[.int .u16 x.id, .bool x.rp, .int .i64 x.op, .bool x.au, .bool x.tr, .bool x.de, .bool x.av, .int .i64 x.co, .string x.qn, .int .u16 x.qt, .slice Ba x.an.length da, .slice Bn x.ns.length dn, .slice Be x.ex.length de, .int .i64 x.sz] 33) = z := ⟨_, rfl⟩
    rw [hw10] at hbX hVX
    (try rw [hw10])
    (try rw [hgX])
    have HX10 := Lib.hid hVX
    have HV10 := Lib.hid (HV9.out.below hbX)
    have HB10 := Lib.hid (HB9.out.trans (hbX.mono HB9.out.size))
    have HCL10 := Lib.hid (And.intro (Kd.C_below HCL9.out.1 hbX) HCL9.out.2)
    clear hbX hVX hw10 hgX HV9 HB9 HCL9
    have hkl := HKL.out
    have hcell : w10.cell? ((⟨Av.get!.block, k, none⟩ : Addr)) = none ∨ True := .inr trivial
    clear hcell
    obtain ⟨adv, hav, hrd⟩ := C_at HCL10.out.1 HKL.out
    subst hav
    go_cut [69] from 49 to 69 (fun v wx => v = .bool false ∧ wx = w10)
    case first =>
      by_cases e1 : a2 = L[k]
      · have e1' : (a2 == L[k]) = true := beq_iff_eq.2 e1
        have e1n : (a2 != L[k]) = false := by simp [bne, e1']
        clear e1
        go_wp2
        go_meet
        case rel => exact ⟨rfl, rfl⟩
      have e1' : (a2 == L[k]) = false := beq_eq_false_iff_ne.2 e1
      have e1n : (a2 != L[k]) = true := by simp [bne, e1']
      have E1 := Lib.hid e1
      clear e1
      by_cases e2 : k < 12
      rotate_left
      · have e2' : decide ((k : Int) < 12) = false := decide_eq_false (by omega)
        have e2n : decide (k < 12) = false := decide_eq_false e2
        clear e2
        go_wp2
        go_meet
        case rel => exact ⟨rfl, rfl⟩
      have e2' : decide ((k : Int) < 12) = true := decide_eq_true (by omega)
      have e2n : decide (k < 12) = true := decide_eq_true e2
      have E2 := Lib.hid e2
      clear e2
      have hne : (x.id == m2.id && (x.rp == m2.rp && (x.op == m2.op && (x.au == m2.au && (x.tr == m2.tr && (x.de == m2.de && (x.av == m2.av && (x.co == m2.co)))))))) = false := by
        cases hq : (x.id == m2.id && (x.rp == m2.rp && (x.op == m2.op && (x.au == m2.au && (x.tr == m2.tr && (x.de == m2.de && (x.av == m2.av && (x.co == m2.co)))))))) with
        | false => rfl
        | true =>
          exfalso
          simp only [Bool.and_eq_true, beq_iff_eq] at hq
          have ht := head_turned HM2.out.1 HM2.out.2 E2.out (by rw [HLD.out]; exact HTB.out) HDC.out ⟨hq.1, hq.2.1, hq.2.2.1, hq.2.2.2.1, hq.2.2.2.2.1, hq.2.2.2.2.2.1, hq.2.2.2.2.2.2.1, hq.2.2.2.2.2.2.2⟩
          rw [HLD.out, List.getElem?_eq_getElem HKL.out] at ht
          exact E1.out (Option.some.inj ht).symm
      go_wp2_with ((with_reducible refine gate_ld (t := 26) rfl ?_); (try (refine gate_guard (by rfl) ?_; dsimp only)); first | (refine ev_load rfl rfl rfl (head_load HX10.out) ?_) | (refine ev_load rfl rfl rfl (head_load HV10.out) ?_))
      go_meet
      case rel => exact ⟨rfl, rfl⟩
    case rest =>
      obtain ⟨hv69, hwc⟩ := hcut
      rw [hv69, hwc]
      clear hv69 hwc hrd
      have hc2 := HC2.out.1
      have hw3 := HC2.out.2
      have hccv : c ≤ cv := by have h1 := HCUT.out; have h2 := HCL10.out.2; omega
      have hctl : (L.take c).length = c := by rw [List.length_take]; have := HCUT.out; omega
      go_wp2_with fail
      clear hc2 hw3
      have key := decode_ (some adv) cv (L.take c) w10 (Kd.C_take HCL10.out.1 (Nat.le_of_lt HCUT.out)) (by rw [hctl]; exact hccv) (by rw [hctl]; have := HCUT.out; have := HSM2.out; omega)
      rw [hctl] at key
      refine key.mono ?_
      clear key hctl hccv
      rintro e w11 ⟨v11, rfl, hD, hb⟩
      rw [HSH.out.1] at hD
      have hD : v11 = _ := hD
      subst hD
      have HX11 := Lib.hid (HX10.out.below hb)
      have HB11 := Lib.hid (HB10.out.trans (hb.mono HB10.out.size))
      have HCL11 := Lib.hid (And.intro (Kd.C_below HCL10.out.1 hb) HCL10.out.2)
      clear hb HX10 HB10 HCL10
      go_upto_region 15 with fail
      have hbX := below_alloc (Below.refl w11.heap.size w11) (Obj.cells #[.int .u16 0, .bool false, .int .i64 0, .bool false, .bool false, .bool false, .bool false, .int .i64 0, .string { data := #[] }, .int .u16 0, .slice none 0 0, .slice none 0 0, .slice none 0 0, .int .i64 0] 33)
      obtain ⟨w12, hw12⟩ : ∃ x, w11.alloc (Obj.cells #[.int .u16 0, .bool false, .int .i64 0, .bool false, .bool false, .bool false, .bool false, .int .i64 0, .string { data := #[] }, .int .u16 0, .slice none 0 0, .slice none 0 0, .slice none 0 0, .int .i64 0] 33) = x := ⟨_, rfl⟩
      rw [hw12] at hbX
      (try rw [hw12])
      have HX12 := Lib.hid (HX11.out.below hbX)
      have HB12 := Lib.hid (HB11.out.trans (hbX.mono HB11.out.size))
      have HCL12 := Lib.hid (And.intro (Kd.C_below HCL11.out.1 hbX) HCL11.out.2)
      clear hbX hw12 HX11 HB11 HCL11
      go_wp2_with ((with_reducible refine gate_builtin (b := .append) (xs := #[.const (.slice none 0 0), .tmp 82]) rfl ?_); at_builtin; refine print_append_row w12.heap.size rfl (.const (.slice none 0 0)) (.tmp 82) 22 5 .u8 1 rfl Tryd.underlying22 infoB8 (by decide) (.slice none 0 0) [] L (some adv) L.length cv rfl rfl (World.ownsRow_nil _ _ _ _) ?hr (Below.refl _ _) ?hb ?hl ?_)
      case hr => exact C_reads HCL12.out.1
      case hb => exact Nat.le_refl _
      case hl => have := HSM2.out; simp only [List.length_nil]; omega
      intro v13 w13 hown hB hg hat13
      have hown : w13.ownsRow w12.heap.size 5 1 v13 L.length (nums .u8 L) := hown
      have hb13 : Below w12.heap.size w12 w13 := ⟨hg.os, hg.tape, hg.output, hg.size, fun q hq => hg.block q hq (by simp [Value.ownBlock])⟩
      have HO13 := Lib.hid hown
      have HB13 := Lib.hid hb13
      clear hown hB hg hat13 hb13 HCL12
      go_wp2_with ((with_reducible refine gate_builtin (b := .append) (xs := #[.tmp 83, .tmp 85]) rfl ?_); at_builtin; refine print_append_row (w0 := w13) w12.heap.size rfl (.tmp 83) (.tmp 85) 22 5 .u8 1 rfl Tryd.underlying22 infoB8 (by decide) v13 L [a2] _ 1 _ rfl rfl ?aO ?aR ((below_alloc (Below.refl _ _) _).mono HB13.out.size) ?aB ?aL ?_)
      case aO => exact pw_own_below HO13.out (below_alloc (Below.refl _ _) _)
      case aR => exact C_reads (C_one _ _ _ _)
      case aB => have := HB13.out.size; simp; omega
      case aL => have := HSM2.out; omega
      intro v14 w14 hown hB hg hat14
      obtain ⟨A14, c14, hv14⟩ := Wr.own_slice hown
      subst hv14
      have hb14 : Below w12.heap.size w12 w14 := pw_below_grown (below_alloc HB13.out _) _ (by have := HB13.out.size; simp; omega) hg (fun q hq => by
        obtain ⟨b, h1, h2⟩ := own_at HO13.out (by have := HL12.out; omega)
        rw [h1] at hq
        injection hq with hq
        omega)
      have HX14 := Lib.hid (HX12.out.below hb14)
      have HB14 := Lib.hid (HB12.out.trans (hb14.mono HB12.out.size))
      have hll : (L ++ [a2]).length = L.length + 1 := by rw [List.length_append, List.length_singleton]
      have hCL : Kd.C (Kd.int .u8) w14 A14 (L ++ [a2]).length (L ++ [a2]) ∧ (L ++ [a2]).length ≤ c14 := own_C (by rw [hll]; exact hown)
      have HCL14 := Lib.hid hCL
      clear hown hB hg hat14 hb14 HX12 HB12 HB13 hCL HO13
      have HLL14 := Lib.hid hll
      clear hll
      go_wp2_with fail
      have key := decode_ A14 c14 (L ++ [a2]) w14 HCL14.out.1 HCL14.out.2 (by rw [HLL14.out]; have := HSM2.out; omega)
      rw [HLL14.out] at key
      refine key.mono ?_
      clear key
      rintro e w15 ⟨v15, rfl, hD, hb⟩
      rw [HSH.out.2] at hD
      have hD : v15 = _ := hD
      subst hD
      have HX15 := Lib.hid (HX14.out.below hb)
      have HB15 := Lib.hid (HB14.out.trans (hb.mono HB14.out.size))
      clear hb HX14 HB14 HCL14
      go_upto_region 16 with fail
      have hbX := below_alloc (Below.refl w15.heap.size w15) (Obj.cells #[.int .u16 0, .bool false, .int .i64 0, .bool false, .bool false, .bool false, .bool false, .int .i64 0, .string { data := #[] }, .int .u16 0, .slice none 0 0, .slice none 0 0, .slice none 0 0, .int .i64 0] 33)
      obtain ⟨w16, hw16⟩ : ∃ x, w15.alloc (Obj.cells #[.int .u16 0, .bool false, .int .i64 0, .bool false, .bool false, .bool false, .bool false, .int .i64 0, .string { data := #[] }, .int .u16 0, .slice none 0 0, .slice none 0 0, .slice none 0 0, .int .i64 0] 33) = x := ⟨_, rfl⟩
      rw [hw16] at hbX
      (try rw [hw16])
      have HX16 := Lib.hid (HX15.out.below hbX)
      have HB16 := Lib.hid (HB15.out.trans (hbX.mono HB15.out.size))
      clear hbX hw16 HX15 HB15
      go_wp2_with fail
      refine (Num.number_ 1 w16 (HE.out.below HB16.out)).mono ?_
      rintro e w17 ⟨rfl, hb⟩
      have HX17 := Lib.hid (HX16.out.below hb)
      have HB17 := Lib.hid (HB16.out.trans (hb.mono HB16.out.size))
      clear hb HX16 HB16
      go_wp2_with ((refine gate_guard (by rfl) ?_; dsimp only); fail)
      refine (Num.number_ 1 w17 (HE.out.below HB17.out)).mono ?_
      rintro e w18 ⟨rfl, hb⟩
      have HX18 := Lib.hid (HX17.out.below hb)
      have HB18 := Lib.hid (HB17.out.trans (hb.mono HB17.out.size))
      clear hb HX17 HB17
      go_wp2
      go_ret
      exact ⟨by first | rfl | simp, HB18.out⟩
end Go.Proofs.YtnikfeaggppmpaaDoor.PM
