/- part of a proof; what it has no use for was struck out -/
import Derived.Test.YtnikfeaggppmpaaDoorAwk
import Derived.Test.YtnikfeaggppmpaaDoorLwS
import Derived.Test.YtnikfeaggppmpaaDoorNum
namespace Go.Proofs.YtnikfeaggppmpaaDoor.PM
open Go.RowKit Go.Proofs.YtnikfeaggppmpaaDoorW Go.Proofs.YtnikfeaggppmpaaDoorW.PrintWords Go.Proofs.YtnikfeaggppmpaaDoorW.PrintLast Go.Proofs.YtnikfeaggppmpaaDoorW.PrintMore Go.Proofs.YtnikfeaggppmpaaDoor.Base Go.Proofs.YtnikfeaggppmpaaDoor.Nam Go.Proofs.YtnikfeaggppmpaaDoor.Trn Go.Proofs.YtnikfeaggppmpaaDoor.MapS Go.Proofs.YtnikfeaggppmpaaDoor.QM Go.Proofs.YtnikfeaggppmpaaDoor.Wr Go.Proofs.YtnikfeaggppmpaaDoor.Rdr
set_option linter.unusedVariables false
set_option linter.unusedSimpArgs false
set_option maxRecDepth 100000
open Classical in
noncomputable def bolterlaw05_MessageRead.f (l0 : List Int) : Option Bool := if B8 l0 ∧ l0.length ≤ 2000000 then some true else none
set_option maxHeartbeats 16000000 in
theorem bolterlaw05_MessageRead.calls (A0 : Option Addr) (c0 : Nat) (l0 : List Int) (r : Bool) (w : World) (hr0 : Kd.C (Kd.int .u8) w A0 l0.length l0) (hc0 : l0.length ≤ c0) (hE : Num.ErrT w) (h : bolterlaw05_MessageRead.f l0 = some r) :
    Calls Tryd.prog 3 #[.slice A0 l0.length c0] w fun e w' => e = .returned (.bool r) ∧ Below w.heap.size w w' := by
  unfold bolterlaw05_MessageRead.f at h
  by_cases hcn : B8 l0 ∧ l0.length ≤ 2000000
  case neg => rw [if_neg hcn] at h; cases h
  rw [if_pos hcn] at h
  obtain rfl := Option.some.inj h
  clear h
  obtain ⟨h8, hl⟩ := hcn
  have HR0 := Lib.hid hr0
  have HE := Lib.hid hE
  have HHL := Lib.hid hl
  clear hr0 hE h8 hl
  go_enter Tryd.func3, Tryd.ntmps3
  go_wp2_with fail
  refine (awake_ w).mono ?_
  rintro e w1 ⟨rfl, hb⟩
  have HB1 := Lib.hid hb
  clear hb
  go_wp2_with fail
  refine (decode_ A0 c0 l0 w1 (Kd.C_below HR0.out HB1.out) hc0 HHL.out).mono ?_
  rintro e w2 ⟨v, rfl, hD, hb⟩
  have HB2 := Lib.hid (HB1.out.trans (hb.mono HB1.out.size))
  clear hb
  obtain ⟨s, hs⟩ : ∃ s, strOfNums l0 = s := ⟨_, rfl⟩
  rw [hs] at hD
  have hsz : s.size = l0.length := by rw [← hs, str_size]
  clear hs
  have HSZ := Lib.hid hsz
  clear hsz
  cases hdec : decR s with
  | none =>
    rw [hdec] at hD
    have hD : v = _ := hD
    subst hD
    go_upto_region 4 with fail
    have hbM := below_alloc (Below.refl w2.heap.size w2) (Obj.cells #[.int .u16 0, .bool false, .int .i64 0, .bool false, .bool false, .bool false, .bool false, .int .i64 0, .string { data := #[] }, .int .u16 0, .slice none 0 0, .slice none 0 0, .slice none 0 0, .int .i64 0] 33)
    obtain ⟨gM, hgM⟩ : ∃ g, w2.heap.size = g := ⟨_, rfl⟩
    have hVM : MVar (w2.alloc (Obj.cells #[.int .u16 0, .bool false, .int .i64 0, .bool false, .bool false, .bool false, .bool false, .int .i64 0, .string { data := #[] }, .int .u16 0, .slice none 0 0, .slice none 0 0, .slice none 0 0, .int .i64 0] 33)) gM m00 (.slice none 0 0) (.slice none 0 0) (.slice none 0 0) := by rw [← hgM]; exact blk_new w2 _
    obtain ⟨w3, hw3⟩ : ∃ x, w2.alloc (Obj.cells #[.int .u16 0, .bool false, .int .i64 0, .bool false, .bool false, .bool false, .bool false, .int .i64 0, .string { data := #[] }, .int .u16 0, .slice none 0 0, .slice none 0 0, .slice none 0 0, .int .i64 0] 33) = x := ⟨_, rfl⟩
    rw [hw3] at hbM hVM
    (try rw [hw3])
    (try rw [hgM])
    have HB3 := Lib.hid (HB2.out.trans (hbM.mono HB2.out.size))
    have HV3 := Lib.hid hVM
    clear hbM hVM hw3 hgM HB2
    go_wp2_with fail
    refine (Num.number_ 1 w3 (HE.out.below HB3.out)).mono ?_
    rintro e w4 ⟨rfl, hb⟩
    have HV4 := Lib.hid (HV3.out.below hb)
    have HB4 := Lib.hid (HB3.out.trans (hb.mono HB3.out.size))
    clear hb HV3 HB3
    go_wp2_with ((with_reducible refine gate_ld (t := 33) rfl ?_); (refine gate_guard (by rfl) ?_; dsimp only); refine ev_load rfl rfl rfl HV4.out.load ?_)
    refine (same_ m00 wf00 none none none none none none 0 0 0 0 0 0 w4 (Kd.C_nil _ _) (Nat.zero_le _) (Kd.C_nil _ _) (Nat.zero_le _) (Kd.C_nil _ _) (Nat.zero_le _) (Kd.C_nil _ _) (Nat.zero_le _) (Kd.C_nil _ _) (Nat.zero_le _) (Kd.C_nil _ _) (Nat.zero_le _)).mono ?_
    rintro e w5 ⟨rfl, hb⟩
    go_wp2
    go_ret
    exact ⟨by first | rfl | simp, HB4.out.trans (hb.mono HB4.out.size)⟩
  | some m =>
    rw [hdec] at hD
    obtain ⟨va, vn, ve, rfl, hRa, hRn, hRe⟩ := hD
    obtain ⟨hmay, hwf⟩ := dec_may hdec
    obtain ⟨Aa, ca, rfl, hca, hCa⟩ := Kd.R_reads hRa
    obtain ⟨An, cn, rfl, hcn, hCn⟩ := Kd.R_reads hRn
    obtain ⟨Ae, ce, rfl, hce, hCe⟩ := Kd.R_reads hRe
    have HMAY := Lib.hid hmay
    have HWF := Lib.hid hwf
    have HCA : Hid (Kd.C k70 w2 Aa m.an.length m.an ∧ m.an.length ≤ ca) := Lib.hid ⟨hCa, hca⟩
    have HCN : Hid (Kd.C k70 w2 An m.ns.length m.ns ∧ m.ns.length ≤ cn) := Lib.hid ⟨hCn, hcn⟩
    have HCE : Hid (Kd.C k70 w2 Ae m.ex.length m.ex ∧ m.ex.length ≤ ce) := Lib.hid ⟨hCe, hce⟩
    have hs4 := (dec_ok hdec).1
    have HS4 : Hid (l0.length ≤ 4096) := Lib.hid (by rw [← HSZ.out]; exact hs4)
    clear hdec hmay hwf hRa hRn hRe hCa hCn hCe hca hcn hce hs4
    go_upto_region 4 with fail
    have hbM := below_alloc (Below.refl w2.heap.size w2) (Obj.cells #[.int .u16 m.id, .bool m.rp, .int .i64 m.op, .bool m.au, .bool m.tr, .bool m.de, .bool m.av, .int .i64 m.co, .string m.qn, .int .u16 m.qt, .slice Aa m.an.length ca, .slice An m.ns.length cn, .slice Ae m.ex.length ce, .int .i64 m.sz] 33)
    obtain ⟨gM, hgM⟩ : ∃ g, w2.heap.size = g := ⟨_, rfl⟩
    have hVM : MVar (w2.alloc (Obj.cells #[.int .u16 m.id, .bool m.rp, .int .i64 m.op, .bool m.au, .bool m.tr, .bool m.de, .bool m.av, .int .i64 m.co, .string m.qn, .int .u16 m.qt, .slice Aa m.an.length ca, .slice An m.ns.length cn, .slice Ae m.ex.length ce, .int .i64 m.sz] 33)) gM m (.slice Aa m.an.length ca) (.slice An m.ns.length cn) (.slice Ae m.ex.length ce) := by rw [← hgM]; exact blk_new w2 _
    obtain ⟨w3, hw3⟩ : ∃ x, w2.alloc (Obj.cells #[.int .u16 m.id, .bool m.rp, .int .i64 m.op, .bool m.au, .bool m.tr, .bool m.de, .bool m.av, .int .i64 m.co, .string m.qn, .int .u16 m.qt, .slice Aa m.an.length ca, .slice An m.ns.length cn, .slice Ae m.ex.length ce, .int .i64 m.sz] 33) = x := ⟨_, rfl⟩
    rw [hw3] at hbM hVM
    (try rw [hw3])
    (try rw [hgM])
    have HB3 := Lib.hid (HB2.out.trans (hbM.mono HB2.out.size))
    have HV3 := Lib.hid hVM
    have HA3 := Lib.hid (And.intro (Kd.C_below HCA.out.1 hbM) HCA.out.2)
    have HN3 := Lib.hid (And.intro (Kd.C_below HCN.out.1 hbM) HCN.out.2)
    have HE3 := Lib.hid (And.intro (Kd.C_below HCE.out.1 hbM) HCE.out.2)
    clear hbM hVM hw3 hgM HB2 HCA HCN HCE
    go_wp2_with ((with_reducible refine gate_ld (t := 33) rfl ?_); refine ev_load rfl rfl rfl HV3.out.load ?_)
    refine (encode_ m HWF.out 1048576 Aa An Ae ca cn ce w3 HA3.out.1 HA3.out.2 HN3.out.1 HN3.out.2 HE3.out.1 HE3.out.2).mono ?_
    rintro e w4 ⟨v, b, rfl, hb, hr⟩
    rw [enc_all HMAY.out] at hr
    obtain ⟨rfl, ho⟩ := hr
    have HLL := Lib.hid (whole_len HMAY.out).1
    obtain ⟨L, hL⟩ : ∃ L, wholeL m = L := ⟨_, rfl⟩
    rw [hL] at ho
    have HLD := Lib.hid hL
    clear hL
    obtain ⟨Av, cv, hv⟩ := Wr.own_slice ho
    subst hv
    have hCL := own_C ho
    have HV4 := Lib.hid (HV3.out.below hb)
    have HB4 := Lib.hid (HB3.out.trans (hb.mono HB3.out.size))
    have HA4 := Lib.hid (And.intro (Kd.C_below HA3.out.1 hb) HA3.out.2)
    have HN4 := Lib.hid (And.intro (Kd.C_below HN3.out.1 hb) HN3.out.2)
    have HE4 := Lib.hid (And.intro (Kd.C_below HE3.out.1 hb) HE3.out.2)
    have HCL := Lib.hid hCL
    clear hb ho hCL HV3 HB3 HA3 HN3 HE3
    go_wp2_with fail
    refine (decode_ Av cv L w4 HCL.out.1 HCL.out.2 (by have := HLL.out; rw [HLD.out] at this; omega)).mono ?_
    rintro e w5 ⟨v5, rfl, hD, hb⟩
    have HV5 := Lib.hid (HV4.out.below hb)
    have HB5 := Lib.hid (HB4.out.trans (hb.mono HB4.out.size))
    have HA5 := Lib.hid (And.intro (Kd.C_below HA4.out.1 hb) HA4.out.2)
    have HN5 := Lib.hid (And.intro (Kd.C_below HN4.out.1 hb) HN4.out.2)
    have HE5 := Lib.hid (And.intro (Kd.C_below HE4.out.1 hb) HE4.out.2)
    clear hb HV4 HB4 HA4 HN4 HE4
    have hsl : decide ((l0.length : Int) ≤ 4096) = true := decide_eq_true (by have := HS4.out; omega)
    have hsl2 : decide (l0.length ≤ 4096) = true := decide_eq_true HS4.out
    by_cases hbig : 4096 < L.length
    · have d1 : decide ((L.length : Int) > 4096) = true := decide_eq_true (by omega)
      have d2 : decide (4096 < L.length) = true := decide_eq_true hbig
      have hn : decR (strOfNums L) = none := by rw [← HLD.out]; exact dec_many (by rw [HLD.out]; exact hbig)
      rw [hn] at hD
      have hD : v5 = _ := hD
      subst hD
      go_upto_region 8 with fail
      have hbX := below_alloc (Below.refl w5.heap.size w5) (Obj.cells #[.int .u16 0, .bool false, .int .i64 0, .bool false, .bool false, .bool false, .bool false, .int .i64 0, .string { data := #[] }, .int .u16 0, .slice none 0 0, .slice none 0 0, .slice none 0 0, .int .i64 0] 33)
      obtain ⟨w6, hw6⟩ : ∃ x, w5.alloc (Obj.cells #[.int .u16 0, .bool false, .int .i64 0, .bool false, .bool false, .bool false, .bool false, .int .i64 0, .string { data := #[] }, .int .u16 0, .slice none 0 0, .slice none 0 0, .slice none 0 0, .int .i64 0] 33) = x := ⟨_, rfl⟩
      rw [hw6] at hbX
      (try rw [hw6])
      have HV6 := Lib.hid (HV5.out.below hbX)
      have HB6 := Lib.hid (HB5.out.trans (hbX.mono HB5.out.size))
      have HA6 := Lib.hid (And.intro (Kd.C_below HA5.out.1 hbX) HA5.out.2)
      have HN6 := Lib.hid (And.intro (Kd.C_below HN5.out.1 hbX) HN5.out.2)
      have HE6 := Lib.hid (And.intro (Kd.C_below HE5.out.1 hbX) HE5.out.2)
      clear hbX hw6 HV5 HB5 HA5 HN5 HE5
      go_wp2_with ((with_reducible refine gate_ld (t := 33) rfl ?_); (try (refine gate_guard (by rfl) ?_; dsimp only)); refine ev_load rfl rfl rfl HV6.out.load ?_)
      refine (mayM_ m HWF.out Aa An Ae ca cn ce w6 HA6.out.1 HA6.out.2 HN6.out.1 HN6.out.2 HE6.out.1 HE6.out.2).mono ?_
      rintro e w7 ⟨rfl, hb⟩
      rw [HMAY.out]
      go_wp2
      go_ret
      exact ⟨by first | rfl | simp, HB6.out.trans (hb.mono HB6.out.size)⟩
    · have d1 : decide ((L.length : Int) > 4096) = false := decide_eq_false (by omega)
      have d2 : decide (4096 < L.length) = false := decide_eq_false hbig
      have hn : decR (strOfNums L) = some m := by rw [← HLD.out]; exact dec_whole HMAY.out HWF.out (by rw [HLD.out]; omega)
      rw [hn] at hD
      obtain ⟨va, vn, ve, rfl, hRa, hRn, hRe⟩ := hD
      obtain ⟨Ba, da, rfl, hda, hDa⟩ := Kd.R_reads hRa
      obtain ⟨Bn, dn, rfl, hdn, hDn⟩ := Kd.R_reads hRn
      obtain ⟨Be, de, rfl, hde, hDe⟩ := Kd.R_reads hRe
      have HDA : Hid (Kd.C k70 w5 Ba m.an.length m.an ∧ m.an.length ≤ da) := Lib.hid ⟨hDa, hda⟩
      have HDN : Hid (Kd.C k70 w5 Bn m.ns.length m.ns ∧ m.ns.length ≤ dn) := Lib.hid ⟨hDn, hdn⟩
      have HDE : Hid (Kd.C k70 w5 Be m.ex.length m.ex ∧ m.ex.length ≤ de) := Lib.hid ⟨hDe, hde⟩
      clear hRa hRn hRe hDa hDn hDe hda hdn hde hn
      go_upto_region 8 with fail
      have hbX := below_alloc (Below.refl w5.heap.size w5) (Obj.cells #[.int .u16 m.id, .bool m.rp, .int .i64 m.op, .bool m.au, .bool m.tr, .bool m.de, .bool m.av, .int .i64 m.co, .string m.qn, .int .u16 m.qt, .slice Ba m.an.length da, .slice Bn m.ns.length dn, .slice Be m.ex.length de, .int .i64 m.sz] 33)
      obtain ⟨gX, hgX⟩ : ∃ g, w5.heap.size = g := ⟨_, rfl⟩
      have hVX : MVar (w5.alloc (Obj.cells #[.int .u16 m.id, .bool m.rp, .int .i64 m.op, .bool m.au, .bool m.tr, .bool m.de, .bool m.av, .int .i64 m.co, .string m.qn, .int .u16 m.qt, .slice Ba m.an.length da, .slice Bn m.ns.length dn, .slice Be m.ex.length de, .int .i64 m.sz] 33)) gX m (.slice Ba m.an.length da) (.slice Bn m.ns.length dn) (.slice Be m.ex.length de) := by rw [← hgX]; exact blk_new w5 _
      obtain ⟨w6, hw6⟩ : ∃ x, w5.alloc (Obj.cells #[.int .u16 m.id, .bool m.rp, .int .i64 m.op, .bool m.au, .bool m.tr, .bool m.de, .bool m.av, .int .i64 m.co, .string m.qn, .int .u16 m.qt, .slice Ba m.an.length da, .slice Bn m.ns.length dn, .slice Be m.ex.length de, .int .i64 m.sz] 33) = x := ⟨_, rfl⟩
      rw [hw6] at hbX hVX
      (try rw [hw6])
      (try rw [hgX])
      have HX6 := Lib.hid hVX
      have HV6 := Lib.hid (HV5.out.below hbX)
      have HB6 := Lib.hid (HB5.out.trans (hbX.mono HB5.out.size))
      have HA6 := Lib.hid (And.intro (Kd.C_below HA5.out.1 hbX) HA5.out.2)
      have HN6 := Lib.hid (And.intro (Kd.C_below HN5.out.1 hbX) HN5.out.2)
      have HE6 := Lib.hid (And.intro (Kd.C_below HE5.out.1 hbX) HE5.out.2)
      have HDA6 := Lib.hid (And.intro (Kd.C_below HDA.out.1 hbX) HDA.out.2)
      have HDN6 := Lib.hid (And.intro (Kd.C_below HDN.out.1 hbX) HDN.out.2)
      have HDE6 := Lib.hid (And.intro (Kd.C_below HDE.out.1 hbX) HDE.out.2)
      clear hbX hVX hw6 hgX HV5 HB5 HA5 HN5 HE5 HDA HDN HDE
      go_wp2_with ((with_reducible refine gate_ld (t := 33) rfl ?_); (try (refine gate_guard (by rfl) ?_; dsimp only)); refine ev_load rfl rfl rfl HV6.out.load ?_)
      refine (mayM_ m HWF.out Aa An Ae ca cn ce w6 HA6.out.1 HA6.out.2 HN6.out.1 HN6.out.2 HE6.out.1 HE6.out.2).mono ?_
      rintro e w7 ⟨rfl, hb⟩
      rw [HMAY.out]
      have HV7 := Lib.hid (HV6.out.below hb)
      have HX7 := Lib.hid (HX6.out.below hb)
      have HB7 := Lib.hid (HB6.out.trans (hb.mono HB6.out.size))
      have HA7 := Lib.hid (And.intro (Kd.C_below HA6.out.1 hb) HA6.out.2)
      have HN7 := Lib.hid (And.intro (Kd.C_below HN6.out.1 hb) HN6.out.2)
      have HE7 := Lib.hid (And.intro (Kd.C_below HE6.out.1 hb) HE6.out.2)
      have HDA7 := Lib.hid (And.intro (Kd.C_below HDA6.out.1 hb) HDA6.out.2)
      have HDN7 := Lib.hid (And.intro (Kd.C_below HDN6.out.1 hb) HDN6.out.2)
      have HDE7 := Lib.hid (And.intro (Kd.C_below HDE6.out.1 hb) HDE6.out.2)
      clear hb HV6 HX6 HB6 HA6 HN6 HE6 HDA6 HDN6 HDE6
      go_wp2_with ((with_reducible refine gate_ld (t := 33) rfl ?_); (try (refine gate_guard (by rfl) ?_; dsimp only)); first | (refine ev_load rfl rfl rfl HX7.out.load ?_) | (refine ev_load rfl rfl rfl HV7.out.load ?_))
      refine (same_ m HWF.out Ba Bn Be Aa An Ae da dn de ca cn ce w7 HDA7.out.1 HDA7.out.2 HDN7.out.1 HDN7.out.2 HDE7.out.1 HDE7.out.2 HA7.out.1 HA7.out.2 HN7.out.1 HN7.out.2 HE7.out.1 HE7.out.2).mono ?_
      rintro e w8 ⟨rfl, hb⟩
      go_wp2
      go_ret
      exact ⟨by first | rfl | simp, HB7.out.trans (hb.mono HB7.out.size)⟩
end Go.Proofs.YtnikfeaggppmpaaDoor.PM
