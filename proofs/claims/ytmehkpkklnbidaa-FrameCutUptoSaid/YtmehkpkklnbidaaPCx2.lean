-- written by a program of this session out of the loaded program (its tools: wip/tools)
import Derived.Test.YtmehkpkklnbidaaPCx0
import Derived.Test.YtmehkpkklnbidaaPCx1
namespace Go.Proofs.Ytmehkpkklnbidaa.PC
open Go.RowKit Go.Proofs.YtmehkpkklnbidaaW.PrintWords Go.Proofs.YtmehkpkklnbidaaW.PrintLast Go.Proofs.YtmehkpkklnbidaaW.PrintMore
attribute [local go_sem] max2_int min2_int max_two min_two max_three min_three max_four min_four   -- for this text's walks alone
set_option linter.unusedVariables false
set_option linter.unusedSimpArgs false


/-! ### bolterlaw22_FrameCut: function 4 (by hand) -/
def bolterlaw22_FrameCut.g (k : Nat) (s : List Int) : Option Bool := (frame_Cut.f k s).bind fun t => if t.2.2 = true then (bolterlaw22_made.f k t.1).bind (fun m => if m.toList ++ (strOfNums t.2.1).toList = (strOfNums s).toList ∧ t.1.length ≤ 600 ∧ m.size + t.2.1.length < 1099511627776 then some true else none) else (if t.1 = [] ∧ t.2.1 = [] then some true else none)
theorem bolterlaw22_FrameCut.gmono : ∀ s k, LeO (bolterlaw22_FrameCut.g k s) (bolterlaw22_FrameCut.g (k + 1) s) := by
  intro s k
  unfold bolterlaw22_FrameCut.g
  refine LeO.bind (frame_Cut.mono _ _) (fun _ => LeO.ite (LeO.bind (bolterlaw22_made.mono _ _) (fun _ => LeO.refl _)) (LeO.refl _))
def bolterlaw22_FrameCut.f (k : Nat) (l0 : List Int) (l1 : List Int) (a2 : Int) (a3 : Int) : Option Bool := (bolterlaw22_awake.f k).bind fun t1 => if t1 = true then (bolterlaw22_made.f k (l0.take 600)).bind (fun m => (frame_Cut.f k (bytesOf m ++ l1)).bind (fun t => if (t.2.2 = true ∧ t.1 = l0.take 600 ∧ t.2.1 = l1) ∧ (0 < m.size ∧ m.size + l1.length < 1099511627776 ∧ 0 ≤ a2 ∧ a2 < 65536) then (bolterlaw22_FrameCut.g k l0).bind (fun _ => bolterlaw22_FrameCut.g k ((bytesOf m ++ l1).set (a2.toNat % (m.size + l1.length)) a3)) else none)) else none
theorem bolterlaw22_FrameCut.mono : ∀ a0 a1 a2 a3 k, LeO (bolterlaw22_FrameCut.f k a0 a1 a2 a3) (bolterlaw22_FrameCut.f (k + 1) a0 a1 a2 a3) := by
  intro a0 a1 a2 a3 k
  unfold bolterlaw22_FrameCut.f
  refine LeO.bind (bolterlaw22_awake.mono _) (fun _ => LeO.ite (LeO.bind (bolterlaw22_made.mono _ _) (fun _ => LeO.bind (frame_Cut.mono _ _) (fun _ => LeO.ite (LeO.bind (bolterlaw22_FrameCut.gmono _ _) (fun _ => bolterlaw22_FrameCut.gmono _ _)) (LeO.refl _)))) (LeO.refl _))
open Go.Proofs.YtmehkpkklnbidaaW.HandM in
set_option maxHeartbeats 4000000 in
set_option maxRecDepth 100000 in
theorem bolterlaw22_FrameCut.calls (k : Nat) (A0 : Option Addr) (c0 : Nat) (l0 : List Int) (A1 : Option Addr) (c1 : Nat) (l1 : List Int) (a2 : Int) (a3 : Int) (r : Bool) (w : World) (hr0 : Kd.C (Kd.int .u8) w A0 l0.length l0) (hc0 : l0.length ≤ c0) (hr1 : Kd.C (Kd.int .u8) w A1 l1.length l1) (hc1 : l1.length ≤ c1) (h : bolterlaw22_FrameCut.f k l0 l1 a2 a3 = some r) :
    Calls Try.prog 4 #[.slice A0 l0.length c0, .slice A1 l1.length c1, .int .u16 a2, .int .u8 a3] w fun e w' => e = .returned (.bool r) ∧ Below w.heap.size w w' := by
  obtain ⟨t1, A10, H⟩ := Option.bind_eq_some_iff.mp h
  clear h
  by_cases ht1 : t1 = true
  case neg => rw [if_neg ht1] at H; cases H
  subst ht1
  rw [if_pos rfl] at H
  obtain ⟨m, A20, H2⟩ := Option.bind_eq_some_iff.mp H
  obtain ⟨⟨x, more, ok⟩, A30, H3⟩ := Option.bind_eq_some_iff.mp H2
  clear H H2
  by_cases hc : (ok = true ∧ x = l0.take 600 ∧ more = l1) ∧ (0 < m.size ∧ m.size + l1.length < 1099511627776 ∧ 0 ≤ a2 ∧ a2 < 65536)
  case neg => rw [if_neg hc] at H3; cases H3
  rw [if_pos hc] at H3
  obtain ⟨⟨rfl, rfl, rfl⟩, hpos, hbig, ha0, ha1⟩ := hc
  obtain ⟨g1, A40, A50⟩ := Option.bind_eq_some_iff.mp H3
  clear H3
  have hr : r = true := by
    unfold bolterlaw22_FrameCut.g at A50
    obtain ⟨⟨y1, y2, y3⟩, _, H⟩ := Option.bind_eq_some_iff.mp A50
    dsimp only at H
    split at H
    · obtain ⟨m5, _, H⟩ := Option.bind_eq_some_iff.mp H
      split at H
      · exact (Option.some.inj H).symm
      · cases H
    · split at H
      · exact (Option.some.inj H).symm
      · cases H
  subst hr
  have E1 := Aside0.mk A10
  have E2 := Aside0.mk A20
  have E3 := Aside0.mk A30
  have E4 := Aside0.mk (⟨g1, A40⟩ : ∃ b, bolterlaw22_FrameCut.g k l0 = some b)
  have E5 := Aside0.mk (⟨true, A50⟩ : ∃ b, bolterlaw22_FrameCut.g k ((bytesOf m ++ more).set (a2.toNat % (m.size + more.length)) a3) = some b)
  clear A10 A20 A30 A40 A50
  obtain ⟨n6, hm6⟩ : ∃ n6 : Nat, (if 600 < (l0.length : Int) then 600 else (l0.length : Int)) = (n6 : Int) := by
    by_cases h6 : 600 < (l0.length : Int)
    · exact ⟨600, by rw [if_pos h6]; rfl⟩
    · exact ⟨l0.length, by rw [if_neg h6]⟩
  have hml : n6 ≤ l0.length := by split at hm6 <;> omega
  have htm : l0.take 600 = l0.take n6 := by
    split at hm6
    · rw [show n6 = 600 by omega]
    · rw [List.take_of_length_le (by omega), List.take_of_length_le (by omega)]
  have d1 : decide (0 ≤ (n6 : Int)) = true := decide_eq_true (by omega)
  have d2 : decide ((n6 : Int) ≤ (l0.length : Int)) = true := decide_eq_true (by omega)
  have hlm : (l0.take n6).length = n6 := by rw [List.length_take]; omega
  rw [htm] at E2 E3
  have HR0 := Aside0.mk hr0
  have HR1 := Aside0.mk hr1
  have HLM := Aside0.mk hlm
  clear hr0 hr1 htm hlm
  go_enter Try.func4, Try.ntmps4
  go_wp2_with fail
  refine (bolterlaw22_awake.calls k true _ E1.out).mono ?_
  rintro e w1 ⟨rfl, hb⟩
  have HB := Aside0.mk hb
  clear hb
  go_wp2_with fail
  have key := bolterlaw22_made.calls k A0 c0 (l0.take n6) m w1 (Kd.C_take (Kd.C_below HR0.out HB.out) hml) (by rw [HLM.out]; omega) E2.out
  rw [HLM.out] at key
  refine key.mono ?_
  clear key
  rintro e w2 ⟨rfl, hb⟩
  have HB2 := Aside0.mk (HB.out.trans (hb.mono HB.out.size))
  clear hb
  obtain ⟨W3, cm, hcvM, hcm, hb3, hsz3, hown3⟩ := bytes_M w2 5 m (by omega)
  have hcv := hcvM Try.prog 9 22 _ Try.underlying9 Try.underlying22 Try.underlying5
  have HB3 := Aside0.mk (HB2.out.trans (hb3.mono HB2.out.size))
  have HO3 := Aside0.mk hown3
  have hbl : (bytesOf m).length = m.size := bytesOf_length m
  rw [hbl] at HO3
  have HBL := Aside0.mk hbl
  have hsz3' : w2.heap.size ≤ W3.heap.size := by omega
  have HZ3 := Aside0.mk hsz3
  clear hcvM hb3 hown3 hbl hsz3
  go_wp2_with ((with_reducible refine gate_builtin (b := .append) (xs := #[.tmp 28, .tmp 29]) rfl ?_); at_builtin; refine wpList_append_M W3 rfl (.tmp 28) (.tmp 29) 22 rfl w2.heap.size 5 Try.underlying22 info5 (.slice (some ⟨w2.heap.size, 0, none⟩) m.size cm) (bytesOf m) more rfl ?ho A1 more.length c1 rfl rfl (Kd.C_below HR1.out HB3.out) (by rw [HBL.out]; omega) hsz3' ?_)
  case ho => rw [HBL.out]; exact HO3.out
  intro v4 v4w hown0 hg
  have hown : ownsM v4w w2.heap.size 5 1 v4 (bytesOf m ++ more).length (nums .u8 (bytesOf m ++ more)) := by rw [List.length_append]; exact hown0
  clear hown0
  obtain ⟨gf, cf, hvf, hcf, hgf, hgfl⟩ := ownsM_form hown (by rw [List.length_append, HBL.out]; omega)
  have hlf : (bytesOf m ++ more).length = m.size + more.length := by rw [List.length_append, HBL.out]
  rw [hlf] at hvf hcf
  subst hvf
  have HLF := Aside0.mk hlf
  have hgw : w.heap.size ≤ gf := by have := HB2.out.size; omega
  have hB4 : Below w.heap.size w v4w := HB3.out.grown hg (by have := HB2.out.size; have := HZ3.out; omega) (fun q hq => by
    have h' : w2.heap.size = q := (by simpa [Value.ownBlock] using hq)
    have := HB2.out.size
    omega)
  have HB4 := Aside0.mk hB4
  have HO4 := Aside0.mk hown
  obtain ⟨Af, cf', hvf', _, hCf⟩ := ownsM_C hown
  injection hvf' with hvf1 hvf2 hvf3
  subst hvf1
  have HC4 := Aside0.mk hCf
  clear hown hg hlf hB4 hvf2 hvf3 hCf HO3 HZ3 hcv
  go_wp2_with fail
  have key := frame_Cut.calls k (some ⟨gf, 0, none⟩) cf (bytesOf m ++ more) (l0.take n6) more true v4w HC4.out (by rw [HLF.out]; exact hcf) E3.out
  rw [HLF.out] at key
  refine key.mono ?_
  clear key
  rintro e w5 ⟨vx, vm, rfl, hox, hom, hb⟩
  obtain ⟨Ax, cx, ex⟩ := Kd.R_slice hox
  rw [HLM.out] at ex
  subst ex
  obtain ⟨Am, cm5, em⟩ := Kd.R_slice hom
  subst em
  have HO5 := Aside0.mk (ownsM_below HO4.out hb)
  have HB5 := Aside0.mk (HB4.out.trans (hb.mono HB4.out.size))
  have hcx := own_string (P := Try.prog) Try.underlying22 Try.underlying5 Try.underlying9 (Kd.own_of_R hox)
  have hcm := own_string (P := Try.prog) Try.underlying22 Try.underlying5 Try.underlying9 (Kd.own_of_R hom)
  have hcc := Kd.C_string (P := Try.prog) (c := c0) Try.underlying22 Try.underlying5 Try.underlying9 (Kd.C_take (Kd.C_below HR0.out HB5.out) hml)
  have hcr := Kd.C_string (P := Try.prog) (c := c1) Try.underlying22 Try.underlying5 Try.underlying9 (Kd.C_below HR1.out HB5.out)
  rw [HLM.out] at hcc
  clear hox hom hb HO4 HC4
  obtain ⟨z, rfl⟩ := Int.eq_ofNat_of_zero_le ha0
  obtain ⟨y, hy⟩ : ∃ y, z % (m.size + more.length) = y := ⟨_, rfl⟩
  have hyl : y < m.size + more.length := by rw [← hy]; exact Nat.mod_lt _ (by omega)
  have hn : Int.tmod (z : Int) ((m.size : Int) + (more.length : Int)) = (y : Int) := by rw [← hy]; rfl
  have hn2 : Int.tmod (z : Int) (((m.size + more.length : Nat)) : Int) = (y : Int) := by rw [← hy]; rfl
  have hn3 : (z : Int) % ((m.size : Int) + (more.length : Int)) = (y : Int) := by rw [← hy]; rfl
  have hw1 : IntKind.i64.wrap (z : Int) = (z : Int) := by rw [i64_w]; unfold wrap64; omega
  have hw2 : wrap64 (z : Int) = (z : Int) := by unfold wrap64; omega
  have hz : (((m.size + more.length : Nat) : Int) == 0) = false := beq_eq_false_iff_ne.mpr (by omega)
  have hz' : decide (((m.size + more.length : Nat) : Int) = 0) = false := decide_eq_false (by omega)
  have hz1 : ¬ (m.size = 0 ∧ more.length = 0) := by omega
  have hO5 := HO5.out
  rw [← HLF.out] at hyl hcf
  have hat := ownsM_at (g := gf) (cap := cf) (l := bytesOf m ++ more) (by have := HO5.out; rw [HLF.out]; rw [HLF.out] at this; exact this) y hyl
  obtain ⟨hcy, hfy⟩ := hat
  have hset := ownsM_set (g := gf) (cap := cf) (l := bytesOf m ++ more) (by have := HO5.out; rw [HLF.out]; rw [HLF.out] at this; exact this) y a3
  rw [HLF.out] at hyl hcf
  have HY := Aside0.mk hy
  have HS := Aside0.mk hset
  clear hO5 hy hset HO5
  have hS := HS.out
  have hll : ((bytesOf m ++ more).set y a3).length = m.size + more.length := by rw [List.length_set, HLF.out]
  obtain ⟨Af6, cf6, hvf6, _, hC6⟩ := ownsM_C hS
  injection hvf6 with hv61 hv62 hv63
  subst hv61
  have hB6 : Below w.heap.size w (w5.setCell ⟨gf, y, none⟩ (.int .u8 a3)) := HB5.out.setCell (p := ⟨gf, y, none⟩) hgw _
  have FACT : Aside0 (∀ wx, Below (w5.heap.size + 1) ((w5.setCell ⟨gf, y, none⟩ (.int .u8 a3)).alloc (.cells #[.slice A0 l0.length c0, .slice (some ⟨gf, 0, none⟩) (m.size + more.length) cf] 22)) wx →
      ∀ j : Nat, j < 2 → ∃ As cs s, wx.cell? ⟨w5.heap.size, j, none⟩ = some (.slice As s.length cs) ∧ Kd.C (Kd.int .u8) wx As s.length s ∧ s.length ≤ cs ∧ ∃ b, bolterlaw22_FrameCut.g k s = some b) := by
    refine ⟨fun wx hbx j hj => ?_⟩
    have hzz : (w5.setCell ⟨gf, y, none⟩ (.int .u8 a3)).heap.size = w5.heap.size := World.size_setCell _ _ _
    have hnew : ((w5.setCell ⟨gf, y, none⟩ (.int .u8 a3)).alloc (.cells #[.slice A0 l0.length c0, .slice (some ⟨gf, 0, none⟩) (m.size + more.length) cf] 22)).heap[w5.heap.size]? = some (.cells #[.slice A0 l0.length c0, .slice (some ⟨gf, 0, none⟩) (m.size + more.length) cf] 22) := by
      have := heap_alloc_new (w5.setCell ⟨gf, y, none⟩ (.int .u8 a3)) (.cells #[.slice A0 l0.length c0, .slice (some ⟨gf, 0, none⟩) (m.size + more.length) cf] 22)
      rw [hzz] at this
      exact this
    have hx : wx.heap[w5.heap.size]? = some (.cells #[.slice A0 l0.length c0, .slice (some ⟨gf, 0, none⟩) (m.size + more.length) cf] 22) := (hbx.block _ (by omega)).trans hnew
    have hal : Below (w5.setCell ⟨gf, y, none⟩ (.int .u8 a3)).heap.size (w5.setCell ⟨gf, y, none⟩ (.int .u8 a3)) wx := (below_alloc (Below.refl _ _) _).trans (hbx.mono (by omega))
    match j, hj with
    | 0, _ => exact ⟨A0, c0, l0, by rw [blk_cell hx]; rfl, Kd.C_below HR0.out (hB6.trans (hal.mono hB6.size)), hc0, E4.out⟩
    | 1, _ =>
      refine ⟨some ⟨gf, 0, none⟩, cf, (bytesOf m ++ more).set y a3, by rw [blk_cell hx, hll]; rfl, Kd.C_below hC6 hal, by rw [hll]; exact hcf, ?_⟩
      have h5 := E5.out
      rw [show ((z : Int)).toNat = z from rfl, HY.out] at h5
      exact h5
  have HB6 := Aside0.mk hB6
  clear hS hll hv62 hv63 hC6 hB6 HS
  go_wp2_with fail
  obtain ⟨ww, hww⟩ : ∃ ww, (w5.setCell ⟨gf, y, none⟩ (.int .u8 a3)).alloc (.cells #[.slice A0 l0.length c0, .slice (some ⟨gf, 0, none⟩) (m.size + more.length) cf] 22) = ww := ⟨_, rfl⟩
  have HBW : Aside0 (Below w.heap.size w ww ∧ ww.heap.size = w5.heap.size + 1) := by
    rw [← hww]
    exact ⟨HB6.out.alloc HB6.out.size _, by simp⟩
  rw [hww] at FACT ⊢
  clear hww HB6 hn hn2 hn3 hw1 hw2 hz hz' hz1 hcy hfy hcx hcm hcc hcr
  go_loopw [65] (fun i wx => ∃ j : Nat, j ≤ 2 ∧ i = .int .i64 j ∧ Aside0 (Below ww.heap.size ww wx))
    (fun i _ => 2 - (intOf i).toNat)
  case atStart => exact ⟨0, by omega, rfl, ⟨Below.refl _ _⟩⟩
  case round =>
    obtain ⟨j, hj, rfl, HX⟩ := hrel
    by_cases hlt : j < 2
    · obtain ⟨As, cs, s, hcell, hCs, hcs, b, hg⟩ := FACT.out wr (by rw [← HBW.out.2]; exact HX.out) j hlt
      obtain ⟨⟨y1, y2, y3⟩, G1, G2⟩ := Option.bind_eq_some_iff.mp hg
      dsimp only at G2
      have HCS := Aside0.mk hCs
      have hd : decide ((j : Int) < 2) = true := decide_eq_true (by omega)
      have HJ := Aside0.mk hlt
      clear hCs hg hm6 d1 d2 ha0 ha1 hj
      go_wp2_with fail
      refine (frame_Cut.calls k As cs s y1 y2 y3 wr HCS.out hcs G1).mono ?_
      clear G1
      rintro e w6 ⟨vx, vm, rfl, hox, hom, hb⟩
      obtain ⟨Ax6, cx6, ex⟩ := Kd.R_slice hox
      subst ex
      obtain ⟨Am6, cm6, em⟩ := Kd.R_slice hom
      subst em
      have HX6 := Aside0.mk (HX.out.trans (hb.mono HX.out.size))
      have HC6 := Aside0.mk (Kd.C_below HCS.out hb)
      have hx6 := Kd.R_reads' hox
      have hm6 := Kd.R_reads' hom
      have HXX := Aside0.mk hx6.2.2
      have HMM := Aside0.mk hm6.2.2
      have hxc := hx6.2.1
      clear hox hom hb HCS hx6 hm6
      cases y3 with
      | true =>
        rw [if_pos rfl] at G2
        obtain ⟨m4, G3, G4⟩ := Option.bind_eq_some_iff.mp G2
        by_cases hcond : m4.toList ++ (strOfNums y2).toList = (strOfNums s).toList ∧ y1.length ≤ 600 ∧ m4.size + y2.length < 1099511627776
        case neg => rw [if_neg hcond] at G4; cases G4
        obtain ⟨hq1, hq2, hq3⟩ := hcond
        have hjoin := ba_join hq1
        have hsz4 : (strOfNums y2).size = y2.length := str_size y2
        have hov : ¬ 9223372036854775807 < m4.size + y2.length := by omega
        have hgt : decide ((y1.length : Int) > 600) = false := decide_eq_false (by omega)
        have cM : ∀ d os, Calls Try.prog 10 #[.slice Ax6 y1.length cx6] (Go.Sort.grow (redrawn w6 d) os) fun e w'' => e = .returned (.string m4) ∧ ∃ p : Regrown, w'' = Go.Sort.grow (redrawn w6 p.d) p.os := fun d os =>
          Calls.regrown_of (bolterlaw22_made.calls k Ax6 cx6 y1 m4 _ (Kd.C_below HXX.out (below_regrown w6 d os)) hxc G3)
        have cv2 : ∀ d os, (convert 22 9 (.slice Am6 y2.length cm6)).run Try.prog (Go.Sort.grow (redrawn w6 d) os) = .ok (.string (strOfNums y2)) (Go.Sort.grow (redrawn w6 d) os) := fun d os =>
          Kd.C_string (P := Try.prog) Try.underlying22 Try.underlying5 Try.underlying9 (Kd.C_below HMM.out (below_regrown w6 d os))
        have cvs : ∀ d os, (convert 22 9 (.slice As s.length cs)).run Try.prog (Go.Sort.grow (redrawn w6 d) os) = .ok (.string (strOfNums s)) (Go.Sort.grow (redrawn w6 d) os) := fun d os =>
          Kd.C_string (P := Try.prog) Try.underlying22 Try.underlying5 Try.underlying9 (Kd.C_below HC6.out (below_regrown w6 d os))
        clear G2 G3 G4 hq1
        go_wp2
        refine wp_region_quiet_below (by kernel_rfl) (by kernel_rfl) ?_
        repeat (first | go_big_quiet_step (exact cM _ _) | quiet_step (exact cM _ _))
        refine wpQuiet_nil ?_
        intro _ hw'
        obtain ⟨⟨dq, osq⟩, hw''⟩ := hw'
        subst hw''
        go_wp2
        go_roundw
        case rel => exact ⟨j + 1, (by have := HJ.out; omega), by go_num, ⟨HX6.out.trans ((below_regrown w6 dq osq).mono HX6.out.size)⟩⟩
        case measure => have := HJ.out; simp [intOf]; omega
      | false =>
        rw [if_neg (by simp)] at G2
        by_cases hcond : y1 = [] ∧ y2 = []
        case neg => rw [if_neg hcond] at G2; cases G2
        obtain ⟨rfl, rfl⟩ := hcond
        clear G2
        go_wp2
        refine wp_region_quiet_below (by kernel_rfl) (by kernel_rfl) ?_
        repeat (first | go_big_quiet_step (fail) | quiet_step (fail))
        refine wpQuiet_nil ?_
        intro _ hw'
        obtain ⟨⟨dq, osq⟩, hw''⟩ := hw'
        subst hw''
        go_wp2
        go_roundw
        case rel => exact ⟨j + 1, (by have := HJ.out; omega), by go_num, ⟨HX6.out.trans ((below_regrown w6 dq osq).mono HX6.out.size)⟩⟩
        case measure => have := HJ.out; simp [intOf]; omega
    · have hd : decide ((j : Int) < 2) = false := decide_eq_false (by omega)
      clear hm6 hlt hj d1 d2 ha0 ha1
      go_wp2
      go_ret
      exact ⟨by first | rfl | simp, HBW.out.1.trans (HX.out.mono HBW.out.1.size)⟩

/-! ### frame_All: function 14 -/
def frame_All.l0 : Nat → List Int → List (List Int) → List Int → Option ((List (List Int)) × Int)
  | 0, _, _, _ => none
  | k + 1, x0, x4, x5 => (frame_Cut.f k x5).bind fun bt160 => (if bt160.2.2 = true then (if x4.length < 5864062014805 then (frame_All.l0 k x0 (x4 ++ [bt160.1]) bt160.2.1) else (none)) else (some (x4, wrap64 ((x0.length : Int) - (x5.length : Int)))))
def frame_All.f (k : Nat) (l0 : List Int) : Option ((List (List Int)) × Int) := frame_All.l0 k l0 ([] : List (List Int)) l0
theorem frame_All.mono_l : ∀ k, (∀ y0 y1 y2, LeO (frame_All.l0 k y0 y1 y2) (frame_All.l0 (k + 1) y0 y1 y2))
  | 0 => fun _ _ _ r h => by simp [frame_All.l0] at h
  | k + 1 => by
    have ih0 := frame_All.mono_l k
    · intro y0 y1 y2
      unfold frame_All.l0
      repeat' first
      | (with_reducible exact ih0 _ _ _)
      | (with_reducible exact frame_Cut.mono _ _)
      | (with_reducible exact LeO.refl _)
      | (with_reducible exact LeO.none _)
      | (with_reducible refine LeO.ite ?_ ?_)
      | (with_reducible refine LeO.bind ?_ (fun _ => ?_))
      | exact ih0 _ _ _
      | exact frame_Cut.mono _ _
      | exact LeO.none _
      | refine LeO.ite ?_ ?_
      | refine LeO.bind ?_ (fun _ => ?_)
theorem frame_All.mono : ∀ a0 k, LeO (frame_All.f k a0) (frame_All.f (k + 1) a0) := by
  intro a0 k
  have ih0 := frame_All.mono_l k
  unfold frame_All.f
  repeat' first
      | (with_reducible exact ih0 _ _ _)
      | (with_reducible exact frame_Cut.mono _ _)
      | (with_reducible exact LeO.refl _)
      | (with_reducible exact LeO.none _)
      | (with_reducible refine LeO.ite ?_ ?_)
      | (with_reducible refine LeO.bind ?_ (fun _ => ?_))
      | exact ih0 _ _ _
      | exact frame_Cut.mono _ _
      | exact LeO.none _
      | refine LeO.ite ?_ ?_
      | refine LeO.bind ?_ (fun _ => ?_)
set_option maxHeartbeats 8000000 in
set_option maxRecDepth 100000 in
theorem frame_All.calls (k : Nat) (P0_ : Nat → Prop) (A0 : Option Addr) (c0 : Nat) (l0 : List Int) (r1 : List (List Int)) (r2 : Int) (w : World) (hs0 : Kd.V (Kd.int .u8) 5 w w.heap.size (fun k_ => P0_ k_) (.slice A0 l0.length c0) l0) (h : frame_All.f k l0 = some (r1, r2)) :
    Calls Try.prog 14 #[.slice A0 l0.length c0] w fun e w' => ∃ v0_ : Value, e = .returned (.tuple #[v0_, .int .i64 r2]) ∧ Kd.S (Kd.slice 5 (Kd.int .u8)) 22 w' w.heap.size (fun k_ => (w.heap.size ≤ k_)) v0_ r1 ∧ Below w.heap.size w w' := by
  have HO0 := Aside0.mk (show Kd.V (Kd.int .u8) 5 w w.heap.size (fun k_ => (P0_ k_ ∨ w.heap.size ≤ k_)) (.slice A0 l0.length c0) l0 from Kd.V_mono hs0 (fun k_ hk => .inl hk))
  have HB := Aside0.mk (Below.refl w.heap.size w)
  have H : (frame_All.l0 k l0 ([] : List (List Int)) l0) = some (r1, r2) := h
  clear h
  have H' := Aside0.mk H
  clear H
  go_enter Try.func14, Try.ntmps14
  go_wp2
  go_loopg [4, 5] k (fun kq v4 v5 w' => ∃ (x4_1 : List (List Int)) (x5_1 : List Int), Aside0 (frame_All.l0 kq l0 x4_1 x5_1 = some (r1, r2)) ∧ Aside0 (kq ≤ k) ∧ Aside0 (Kd.V (Kd.int .u8) 5 w' w.heap.size (fun k_ => (P0_ k_ ∨ w.heap.size ≤ k_) ∧ some k_ ≠ (v4 : Value).ownBlock) (.slice A0 l0.length c0) l0) ∧ Aside0 (Kd.S (Kd.slice 5 (Kd.int .u8)) 22 w' w.heap.size (fun k_ => (w.heap.size ≤ k_)) v4 x4_1) ∧ Aside0 (Kd.V (Kd.int .u8) 5 w' w.heap.size (fun k_ => (P0_ k_ ∨ w.heap.size ≤ k_) ∧ some k_ ≠ (v4 : Value).ownBlock) v5 x5_1) ∧ Aside0 (Below w.heap.size w w'))
  case atStart => exact ⟨(([] : List (List Int))), (l0), H', ⟨Nat.le_refl _⟩, ⟨by (with_reducible repeat (first | apply Kd.V_alloc | apply Kd.V_drewN | apply Kd.V_drew)); exact Kd.V_mono HO0.out (fun _ hk => ⟨hk, (by simp [Value.ownBlock])⟩)⟩, ⟨by first | exact Kd.S_nil _ _ _ _ _ | exact Kd.N_nil _ _ _ _ _ | exact Kd.V_nil _ _ _ _ _ | exact Kd.Q_nil _ _ _ _ _ | exact Kd.R_nil _ _ _ _ _⟩, ⟨by (with_reducible repeat (first | apply Kd.V_alloc | apply Kd.V_drewN | apply Kd.V_drew)); exact Kd.V_mono HO0.out (fun _ hk => ⟨hk, (by simp [Value.ownBlock])⟩)⟩, ⟨by repeat (first | (with_reducible first | exact HB.out | apply below_alloc | apply pw_below_drewN | apply below_drew1) | exact HB.out)⟩⟩
  case round =>
    clear H'
    try clear c1
    obtain ⟨x4_1, x5_1, HA, HK1, HO_0, HO_4, HO_5, HB⟩ := hrel
    cases gk with
    | zero => exact absurd HA.out (by simp [frame_All.l0])
    | succ k1 =>
      have H := HA.out
      clear HA
      simp only [frame_All.l0] at H
      replace H := Option.bind_eq_some_iff.mp H
      obtain ⟨⟨t160, t161, t162⟩, A20, H⟩ := H
      replace H : (if t162 = true then (if x4_1.length < 5864062014805 then (frame_All.l0 k1 l0 (x4_1 ++ [t160]) t161) else (none)) else (some (x4_1, wrap64 ((l0.length : Int) - (x5_1.length : Int))))) = some (r1, r2) := H
      have A2 := Aside0.mk A20
      clear A20
      by_cases c3 : t162 = true
      · subst c3
        have H1 : (if x4_1.length < 5864062014805 then (frame_All.l0 k1 l0 (x4_1 ++ [t160]) t161) else (none)) = some (r1, r2) := by rw [if_pos rfl] at H; exact H
        clear H
        have H := H1
        clear H1
        by_cases c4 : x4_1.length < 5864062014805
        · rw [if_pos c4] at H
          have LMc4 := Aside0.mk c4
          clear c4
          obtain ⟨y167, hy167⟩ : ∃ y_ : List (List Int), y_ = (x4_1 ++ [t160]) := ⟨_, rfl⟩
          replace H : (frame_All.l0 k1 l0 y167 t161) = some (r1, r2) := by first | (rw [hy167]; with_reducible exact H) | (have H2_ := (Option.bind_some _ _).symm.trans H; rw [hy167]; with_reducible exact H2_) | (have H2_ := (Option.bind_some _ _).symm.trans H; with_reducible exact H2_) | with_reducible exact H | (rw [hy167]; exact H) | exact H
          have Ny167 := Aside0.mk hy167
          clear hy167
          have H' := Aside0.mk H
          clear H
          obtain ⟨Ao5, co5, eo5⟩ := Kd.V_slice HO_5.out
          subst eo5
          go_wp2_with (first | ((with_reducible refine gate_callee (f := 13) rfl ?_); refine goesL_ (some 12) rfl rfl Try.func13 (by kernel_rfl) rfl #[.slice Ao5 x5_1.length co5] rfl (by (try simp only [List.map_toArray, List.map_cons, List.map_nil]); first | done | rfl | (simp only [List.length_drop, List.length_take]; rfl)) ?_; (with_reducible refine (frame_Cut.calls k1 _ _ x5_1 t160 t161 true _ ?side1 ?side2 A2.out).mono ?_); (case side1 => repeat (first | exact (Kd.V_reads' HO_5.out).2.2 | (with_reducible refine Kd.C_alloc ?_ _) | (with_reducible refine Kd.C_drewN ?_ _) | (with_reducible refine Kd.C_drew ?_))); (case side2 => exact (Kd.V_reads' HO_5.out).2.1); rintro e w6 ⟨v163, v165, rfl, ho0, ho1, hb⟩; refine ⟨_, rfl, ?_⟩; have n0_ := Aside0.mk (Kd.V_mono (Kd.V_told (Kd.V_told (Kd.V_old (by (with_reducible repeat (first | apply Kd.V_alloc | apply Kd.V_drewN | apply Kd.V_drew)); exact HO_0.out) hb) (Kd.R_base ho0)) (Kd.R_base ho1)) (fun _ h_ => h_.1)); have n1_ := Aside0.mk (Kd.S_mono (Kd.S_told (Kd.S_told (Kd.S_old (by (with_reducible repeat (first | apply Kd.S_alloc | apply Kd.S_drewN | apply Kd.S_drew)); exact HO_4.out) hb) (Kd.R_base ho0)) (Kd.R_base ho1)) (fun _ h_ => h_.1)); have n2_ := Aside0.mk (Kd.V_mono (Kd.V_told (Kd.V_told (Kd.V_old (by (with_reducible repeat (first | apply Kd.V_alloc | apply Kd.V_drewN | apply Kd.V_drew)); exact HO_5.out) hb) (Kd.R_base ho0)) (Kd.R_base ho1)) (fun _ h_ => h_.1)); have n3_ := Aside0.mk (Kd.R_lower (Kd.R_newM (M := fun k_ => (w.heap.size ≤ k_)) ho0 (below_size (by repeat (first | (with_reducible first | exact HB.out | apply below_alloc | apply pw_below_drewN | apply below_drew1) | exact HB.out))) (fun k_ h_ => h_)) (below_size (by repeat (first | (with_reducible first | exact HB.out | apply below_alloc | apply pw_below_drewN | apply below_drew1) | exact HB.out)))); have n4_ := Aside0.mk (Kd.R_lower (Kd.R_newM (M := fun k_ => (w.heap.size ≤ k_)) ho1 (below_size (by repeat (first | (with_reducible first | exact HB.out | apply below_alloc | apply pw_below_drewN | apply below_drew1) | exact HB.out))) (fun k_ h_ => h_)) (below_size (by repeat (first | (with_reducible first | exact HB.out | apply below_alloc | apply pw_below_drewN | apply below_drew1) | exact HB.out)))); have n5_ := Aside0.mk (below_step (by repeat (first | (with_reducible first | exact HB.out | apply below_alloc | apply pw_below_drewN | apply below_drew1) | exact HB.out)) hb); clear HO_0; clear HO_4; clear HO_5; clear HB; have HO_0 := n0_; have HO_4 := n1_; have HO_5 := n2_; have HO164 := n3_; have HO166 := n4_; have HB := n5_; clear n0_ n1_ n2_ n3_ n4_ n5_; (try clear hb); (try clear hb2); (try clear hk); (try clear hi); (try clear ho0); (try clear ho1); obtain ⟨Ao8, co8, eo8⟩ := Kd.R_slice HO164.out; subst eo8) | ((with_reducible refine gate_builtin (b := .append) (xs := #[.tmp 24, .tmp 26]) rfl ?_); at_builtin; refine Kd.S_append (Kd.slice 5 (Kd.int .u8)) (w0 := w) w.heap.size rfl (.tmp 24) (.tmp 26) 32 22 (.slice none 0 0) 24 rfl Try.underlying32 info22 rfl (by decide) (by omega) u4 x4_1 t160 [.slice Ao8 t160.length co8] (fun k_ => (w.heap.size ≤ k_) ∧ some k_ ≠ (v165 : Value).ownBlock) (fun k_ => some k_ = (.slice Ao8 t160.length co8 : Value).ownBlock) rfl rfl ?aP (fun k_ hk_ => ((Kd.R_mono (ok' := fun k_ => ((fun k_ => (w.heap.size ≤ k_) ∧ some k_ ≠ (v165 : Value).ownBlock)) k_ ∧ some k_ ≠ (u4 : Value).ownBlock) (Kd.R_apart' (HO164.out) (Kd.S_typed HO_4.out) (by decide)) (fun k_ hk => ⟨⟨hk.1.1, hk.1.2⟩, hk.2⟩))).1 k_ hk_.symm) ?aF ?aO ?aB ?aS ?aL ?_; (case aP => exact Kd.M_row (Kd.R_mono (Kd.R_tight rfl (Kd.R_mono (ok' := fun k_ => ((fun k_ => (w.heap.size ≤ k_) ∧ some k_ ≠ (v165 : Value).ownBlock)) k_ ∧ some k_ ≠ (u4 : Value).ownBlock) (Kd.R_apart' (HO164.out) (Kd.S_typed HO_4.out) (by decide)) (fun k_ hk => ⟨⟨hk.1.1, hk.1.2⟩, hk.2⟩))) (fun _ h_ => h_))); (case aB => exact (by repeat (first | (with_reducible first | exact HB.out | apply below_alloc | apply pw_below_drewN | apply below_drew1) | exact HB.out))); (case aF => exact (fun k_ hk => ⟨(Nat.le_trans (below_size (by repeat (first | (with_reducible first | exact HB.out | apply below_alloc | apply pw_below_drewN | apply below_drew1) | exact HB.out))) hk), Kd.fresh' (Kd.R_lt (by (with_reducible repeat (first | apply Kd.R_alloc | apply Kd.R_drewN | apply Kd.R_drew)); exact HO166.out)) k_ hk⟩)); (case aO => exact (by (with_reducible repeat (first | apply Kd.S_alloc | apply Kd.S_drewN | apply Kd.S_drew)); exact Kd.S_mono HO_4.out (fun k_ hk => ⟨⟨hk.1.1, hk.2⟩, fun e_ => hk.1.2 e_⟩))); (case aS => exact (below_size (by repeat (first | (with_reducible first | exact HB.out | apply below_alloc | apply pw_below_drewN | apply below_drew1) | exact HB.out)))); (case aL => have := LMc4.out; omega); intro v168 w7 ho hb hg hat; rw [← Ny167.out] at ho; have n0_ := Aside0.mk (Kd.V_afterv (ok := (fun k_ => (P0_ k_ ∨ w.heap.size ≤ k_) ∧ some k_ ≠ (.slice Ao8 t160.length co8 : Value).ownBlock ∧ some k_ ≠ (v165 : Value).ownBlock)) (by (with_reducible repeat (first | apply Kd.V_alloc | apply Kd.V_drewN | apply Kd.V_drew)); exact Kd.V_mono HO_0.out (fun _ hk => ⟨⟨hk.1.1.1, ⟨hk.1.2, hk.2⟩⟩, hk.1.1.2⟩)) hg hat); have n1_ := Aside0.mk (Kd.V_afterv (ok := (fun k_ => (P0_ k_ ∨ w.heap.size ≤ k_) ∧ some k_ ≠ (.slice Ao8 t160.length co8 : Value).ownBlock ∧ some k_ ≠ (v165 : Value).ownBlock)) (by (with_reducible repeat (first | apply Kd.V_alloc | apply Kd.V_drewN | apply Kd.V_drew)); exact Kd.V_mono HO_5.out (fun _ hk => ⟨⟨hk.1.1.1, ⟨hk.1.2, hk.2⟩⟩, hk.1.1.2⟩)) hg hat); have n2_ := Aside0.mk (Kd.R_over' (by (with_reducible repeat (first | apply Kd.R_alloc | apply Kd.R_drewN | apply Kd.R_drew)); exact HO166.out) (Kd.S_typed (by (with_reducible repeat (first | apply Kd.S_alloc | apply Kd.S_drewN | apply Kd.S_drew)); exact HO_4.out)) (by decide) hg); have n3_ := Aside0.mk (hb); have n4_ := Aside0.mk (ho); clear HO_0; clear HO_5; clear HO166; clear HB; clear HO_4; clear HO164; have HO_0 := n0_; have HO_5 := n1_; have HO166 := n2_; have HB := n3_; have HO169 := n4_; clear n0_ n1_ n2_ n3_ n4_; clear ho hb hg hat))
          go_roundg k1
          case measure => have := HK1.out; omega
          case rel => exact ⟨(y167), (t161), H', ⟨by have := HK1.out; omega⟩, ⟨by (with_reducible repeat (first | apply Kd.V_alloc | apply Kd.V_drewN | apply Kd.V_drew)); exact Kd.V_mono HO_0.out (fun _ hk => ⟨hk.1.1, hk.2⟩)⟩, ⟨by (with_reducible repeat (first | apply Kd.S_alloc | apply Kd.S_drewN | apply Kd.S_drew)); exact Kd.S_mono HO169.out (fun _ hk => hk.1)⟩, ⟨Kd.V_mono (Kd.R_V (Kd.R_apart' HO166.out (Kd.S_typed HO169.out) (by decide))) (fun k_ hk => by first | exact ⟨(.inr (hk)), hk.2⟩ | exact ⟨(.inr (hk)), hk.1.2⟩ | exact ⟨(.inr (hk)), hk.1.1.2⟩ | exact ⟨(.inr (hk.1)), hk.2⟩ | exact ⟨(.inr (hk.1)), hk.1.2⟩ | exact ⟨(.inr (hk.1)), hk.1.1.2⟩ | exact ⟨(.inr (hk.1.1)), hk.2⟩ | exact ⟨(.inr (hk.1.1)), hk.1.2⟩ | exact ⟨(.inr (hk.1.1)), hk.1.1.2⟩ | exact ⟨(.inr (hk.1.1.1)), hk.2⟩ | exact ⟨(.inr (hk.1.1.1)), hk.1.2⟩ | exact ⟨(.inr (hk.1.1.1)), hk.1.1.2⟩ | exact (.inr (hk)) | exact (.inr (hk.1)) | exact (.inr (hk.1.1)) | exact (.inr (hk.1.1.1)))⟩, ⟨by repeat (first | (with_reducible first | exact HB.out | apply below_alloc | apply pw_below_drewN | apply below_drew1) | exact HB.out)⟩⟩
        · rw [if_neg c4] at H
          exact absurd H (by simp)
      · replace c3 := Bool.eq_false_iff.mpr c3
        subst c3
        have H1 : (some (x4_1, wrap64 ((l0.length : Int) - (x5_1.length : Int)))) = some (r1, r2) := by rw [if_neg (show ¬ (false = true) by decide)] at H; exact H
        clear H
        have H := H1
        clear H1
        simp only [Option.some.injEq, Prod.mk.injEq] at H
        obtain ⟨rfl, rfl⟩ := H
        obtain ⟨Ao9, co9, eo9⟩ := Kd.V_slice HO_5.out
        subst eo9
        go_wp2_with (first | ((with_reducible refine gate_callee (f := 13) rfl ?_); refine goesL_ (some 12) rfl rfl Try.func13 (by kernel_rfl) rfl #[.slice Ao9 x5_1.length co9] rfl (by (try simp only [List.map_toArray, List.map_cons, List.map_nil]); first | done | rfl | (simp only [List.length_drop, List.length_take]; rfl)) ?_; (with_reducible refine (frame_Cut.calls k1 _ _ x5_1 t160 t161 false _ ?side1 ?side2 A2.out).mono ?_); (case side1 => repeat (first | exact (Kd.V_reads' HO_5.out).2.2 | (with_reducible refine Kd.C_alloc ?_ _) | (with_reducible refine Kd.C_drewN ?_ _) | (with_reducible refine Kd.C_drew ?_))); (case side2 => exact (Kd.V_reads' HO_5.out).2.1); rintro e w10 ⟨v163, v165, rfl, ho0, ho1, hb⟩; refine ⟨_, rfl, ?_⟩; have n0_ := Aside0.mk (Kd.V_mono (Kd.V_told (Kd.V_told (Kd.V_old (by (with_reducible repeat (first | apply Kd.V_alloc | apply Kd.V_drewN | apply Kd.V_drew)); exact HO_0.out) hb) (Kd.R_base ho0)) (Kd.R_base ho1)) (fun _ h_ => h_.1)); have n1_ := Aside0.mk (Kd.S_mono (Kd.S_told (Kd.S_told (Kd.S_old (by (with_reducible repeat (first | apply Kd.S_alloc | apply Kd.S_drewN | apply Kd.S_drew)); exact HO_4.out) hb) (Kd.R_base ho0)) (Kd.R_base ho1)) (fun _ h_ => h_.1)); have n2_ := Aside0.mk (Kd.V_mono (Kd.V_told (Kd.V_told (Kd.V_old (by (with_reducible repeat (first | apply Kd.V_alloc | apply Kd.V_drewN | apply Kd.V_drew)); exact HO_5.out) hb) (Kd.R_base ho0)) (Kd.R_base ho1)) (fun _ h_ => h_.1)); have n3_ := Aside0.mk (Kd.R_lower (Kd.R_newM (M := fun k_ => (w.heap.size ≤ k_)) ho0 (below_size (by repeat (first | (with_reducible first | exact HB.out | apply below_alloc | apply pw_below_drewN | apply below_drew1) | exact HB.out))) (fun k_ h_ => h_)) (below_size (by repeat (first | (with_reducible first | exact HB.out | apply below_alloc | apply pw_below_drewN | apply below_drew1) | exact HB.out)))); have n4_ := Aside0.mk (Kd.R_lower (Kd.R_newM (M := fun k_ => (w.heap.size ≤ k_)) ho1 (below_size (by repeat (first | (with_reducible first | exact HB.out | apply below_alloc | apply pw_below_drewN | apply below_drew1) | exact HB.out))) (fun k_ h_ => h_)) (below_size (by repeat (first | (with_reducible first | exact HB.out | apply below_alloc | apply pw_below_drewN | apply below_drew1) | exact HB.out)))); have n5_ := Aside0.mk (below_step (by repeat (first | (with_reducible first | exact HB.out | apply below_alloc | apply pw_below_drewN | apply below_drew1) | exact HB.out)) hb); clear HO_0; clear HO_4; clear HO_5; clear HB; have HO_0 := n0_; have HO_4 := n1_; have HO_5 := n2_; have HO164 := n3_; have HO166 := n4_; have HB := n5_; clear n0_ n1_ n2_ n3_ n4_ n5_; (try clear hb); (try clear hb2); (try clear hk); (try clear hi); (try clear ho0); (try clear ho1)))
        go_ret2
        exact ⟨_, by first | rfl | (simp [errW_none, errW_some] <;> rfl) | (simp [*, errW_none, errW_some] <;> rfl), by (with_reducible repeat (first | apply Kd.S_alloc | apply Kd.S_drewN | apply Kd.S_drew)); exact Kd.S_mono HO_4.out (fun _ hk => hk.1.1), by repeat (first | (with_reducible first | exact HB.out | apply below_alloc | apply pw_below_drewN | apply below_drew1) | exact HB.out)⟩


/-! ### bolterlaw22_FrameAll: function 7 (by hand) -/
def bolterlaw22_FrameAll.mk (k : Nat) : List (List Int) → Option (List ByteArray)
  | [] => some []
  | c :: r => (bolterlaw22_made.f k c).bind fun m => (bolterlaw22_FrameAll.mk k r).bind fun ms => some (m :: ms)
theorem bolterlaw22_FrameAll.mkmono : ∀ cs k, LeO (bolterlaw22_FrameAll.mk k cs) (bolterlaw22_FrameAll.mk (k + 1) cs) := by
  intro cs k
  induction cs with
  | nil => exact LeO.refl _
  | cons c r ih =>
    unfold bolterlaw22_FrameAll.mk
    exact LeO.bind (bolterlaw22_made.mono _ _) (fun _ => LeO.bind ih (fun _ => LeO.refl _))
def bolterlaw22_FrameAll.f (k : Nat) (l0 : List (List Int)) (l1 : List Int) : Option Bool := (bolterlaw22_awake.f k).bind fun t1 => if t1 = true then (bolterlaw22_FrameAll.mk k ((l0.take 20).map fun b => b.take 600)).bind (fun ms => (frame_Cut.f k l1).bind fun t => (frame_All.f k (ms.flatMap bytesOf ++ (if t.2.2 = true then ([] : List Int) else l1))).bind fun u => if u.2 = ((ms.flatMap bytesOf).length : Int) ∧ u.1 = (l0.take 20).map (fun b => b.take 600) ∧ ((l0.take 20).map (fun b => b.take 600)).length ≤ 20 ∧ (ms.flatMap bytesOf).length + l1.length < 1099511627776 then some true else none) else none
theorem bolterlaw22_FrameAll.mono : ∀ a0 a1 k, LeO (bolterlaw22_FrameAll.f k a0 a1) (bolterlaw22_FrameAll.f (k + 1) a0 a1) := by
  intro a0 a1 k
  unfold bolterlaw22_FrameAll.f
  refine LeO.bind (bolterlaw22_awake.mono _) (fun _ => LeO.ite (LeO.bind (bolterlaw22_FrameAll.mkmono _ _) (fun _ => LeO.bind (frame_Cut.mono _ _) (fun _ => LeO.bind (frame_All.mono _ _) (fun _ => LeO.refl _)))) (LeO.refl _))
/-- The frames of all, one behind the other, told. -/
theorem bolterlaw22_FrameAll.mk_get : ∀ (k : Nat) (cs : List (List Int)) (ms : List ByteArray), bolterlaw22_FrameAll.mk k cs = some ms → ms.length = cs.length ∧ ∀ (i : Nat) (c : List Int), cs[i]? = some c → ∃ m : ByteArray, ms[i]? = some m ∧ bolterlaw22_made.f k c = some m := by
  intro k cs
  induction cs with
  | nil =>
    intro ms h
    have : ms = [] := (Option.some.inj h).symm
    subst this
    exact ⟨rfl, fun i c hc => by simp at hc⟩
  | cons c r ih =>
    intro ms h
    unfold bolterlaw22_FrameAll.mk at h
    obtain ⟨m, h1, h⟩ := Option.bind_eq_some_iff.mp h
    obtain ⟨rs, h2, h⟩ := Option.bind_eq_some_iff.mp h
    have : ms = m :: rs := (Option.some.inj h).symm
    subst this
    obtain ⟨h3, h4⟩ := ih rs h2
    refine ⟨by simp [h3], fun i c' hc => ?_⟩
    cases i with
    | zero =>
      have : c = c' := by simpa using hc
      subst this
      exact ⟨m, rfl, h1⟩
    | succ i => simpa using h4 i c' (by simpa using hc)
theorem bolterlaw22_FrameAll.flat_le (ms : List ByteArray) (i : Nat) : ((ms.take i).flatMap bytesOf).length ≤ (ms.flatMap bytesOf).length := by
  conv => rhs; rw [← List.take_append_drop i ms]
  rw [List.flatMap_append, List.length_append]
  omega
theorem bolterlaw22_FrameAll.row_own {w : World} {e e' : Nat} {base : Nat} {ok : Nat → Prop} {v : Value} {xs : List (List Int)} (h : Kd.R (Kd.slice e (Kd.int .u8)) e' w base ok v xs) (i : Nat) (x : List Int) (hx : xs[i]? = some x) :
    ∃ b cap A0 c0, v = .slice (some ⟨b, 0, none⟩) xs.length cap ∧ xs.length ≤ cap ∧ w.cell? ⟨b, i, none⟩ = some (.slice A0 x.length c0) ∧ x.length ≤ c0 ∧ Kd.C (Kd.int .u8) w A0 x.length x := by
  have hi := (List.getElem?_eq_some_iff.1 hx).1
  obtain ⟨b, cap, rfl, _⟩ := Kd.R_form h (by omega)
  obtain ⟨_, hc, hC⟩ := Kd.R_reads' h
  obtain ⟨ad, A0, c0, ha, hcell, h1, h2⟩ := Go.Proofs.YtmehkpkklnbidaaW.HandM.row_at hC i x hx
  injection ha with ha
  subst ha
  rw [show (⟨b, 0, none⟩ : Addr).add i = ⟨b, i, none⟩ by unfold Addr.add; split <;> simp_all] at hcell
  exact ⟨b, cap, A0, c0, rfl, hc, hcell, h1, h2⟩
theorem bolterlaw22_FrameAll.str_at {w : World} {base : Nat} {e : TypeId} {A : Option Addr} {n c : Nat} {xs : List ByteArray} (h : w.ownsRow base e 1 (.slice A n c) n (encs Value.string xs)) (i : Nat) (x : ByteArray) (hx : xs[i]? = some x) :
    ∃ g, A = some ⟨g, 0, none⟩ ∧ w.cell? ⟨g, i, none⟩ = some (.string x) := by
  have hi := (List.getElem?_eq_some_iff.1 hx).1
  have hl : xs.length = n := by have := h.1; rw [encs_length] at this; omega
  rcases h.2 with ⟨hn, h0⟩ | ⟨g, cap, cur, hv, _⟩
  · omega
  · injection hv with hv
    subst hv
    have := h.cells (g := g) rfl i (.string x) (by simp [encs, hx])
    rw [show (⟨g, 0, none⟩ : Addr).add i = ⟨g, i, none⟩ by unfold Addr.add; split <;> simp_all] at this
    exact ⟨g, rfl, this⟩
open Go.Proofs.YtmehkpkklnbidaaW.HandM in
set_option maxHeartbeats 4000000 in
set_option maxRecDepth 100000 in
theorem bolterlaw22_FrameAll.calls (k : Nat) (A0 : Option Addr) (c0 : Nat) (l0 : List (List Int)) (A1 : Option Addr) (c1 : Nat) (l1 : List Int) (r : Bool) (w : World) (hr0 : Kd.C (Kd.slice 5 (Kd.int .u8)) w A0 l0.length l0) (hc0 : l0.length ≤ c0) (hr1 : Kd.C (Kd.int .u8) w A1 l1.length l1) (hc1 : l1.length ≤ c1) (h : bolterlaw22_FrameAll.f k l0 l1 = some r) :
    Calls Try.prog 7 #[.slice A0 l0.length c0, .slice A1 l1.length c1] w fun e w' => e = .returned (.bool r) ∧ Below w.heap.size w w' := by
  obtain ⟨t1, A10, H⟩ := Option.bind_eq_some_iff.mp h
  clear h
  by_cases ht1 : t1 = true
  case neg => rw [if_neg ht1] at H; cases H
  subst ht1
  rw [if_pos rfl] at H
  obtain ⟨ms, A20, H2⟩ := Option.bind_eq_some_iff.mp H
  obtain ⟨⟨tx, tm, tok⟩, A30, H3⟩ := Option.bind_eq_some_iff.mp H2
  obtain ⟨⟨u1, u2⟩, A40, H4⟩ := Option.bind_eq_some_iff.mp H3
  clear H H2 H3
  by_cases hc : u2 = ((ms.flatMap bytesOf).length : Int) ∧ u1 = (l0.take 20).map (fun b => b.take 600) ∧ ((l0.take 20).map (fun b => b.take 600)).length ≤ 20 ∧ (ms.flatMap bytesOf).length + l1.length < 1099511627776
  case neg => rw [if_neg hc] at H4; cases H4
  rw [if_pos hc] at H4
  obtain ⟨hu2, hu1, hcs20, hbig⟩ := hc
  obtain rfl := Option.some.inj H4
  clear H4
  obtain ⟨hml, hmg⟩ := bolterlaw22_FrameAll.mk_get k _ ms A20
  obtain ⟨cs, hcs⟩ : ∃ cs, (l0.take 20).map (fun b => b.take 600) = cs := ⟨_, rfl⟩
  rw [hcs] at hu1 hcs20 hml hmg
  have hcsl : cs.length = min 20 l0.length := by rw [← hcs, List.length_map, List.length_take]
  have hcsg : ∀ (i : Nat) (b : List Int), i < 20 → l0[i]? = some b → cs[i]? = some (b.take 600) := by
    intro i b hi hb
    rw [← hcs, List.getElem?_map, List.getElem?_take, if_pos hi, hb]
    rfl
  have hl0m : l0.length ≤ 9223372036854775807 := hr0.2.1
  have HCS := Aside0.mk hcsl
  have HCG := Aside0.mk hcsg
  have HML := Aside0.mk hml
  have HMG := Aside0.mk hmg
  have E1 := Aside0.mk A10
  have E3 := Aside0.mk A30
  have E4 := Aside0.mk A40
  have HU1 := Aside0.mk hu1
  have HU2 := Aside0.mk hu2
  have HR0 := Aside0.mk hr0
  have HR1 := Aside0.mk hr1
  clear A10 A20 A30 A40 hr0 hr1 hcs hcsl hcsg hml hmg hu1 hu2
  obtain ⟨i8, hi8, hz80, hz81, hz82⟩ := info_parts info5
  have infoS : (Try.prog.info? 9).map (fun i => (i.zero, i.size, i.bytes)) = some (some (.string ByteArray.empty), 1, 16) := by kernel_rfl
  have HIS := Aside0.mk infoS
  clear infoS
  go_enter Try.func7, Try.ntmps7
  go_wp2_with fail
  refine (bolterlaw22_awake.calls k true _ E1.out).mono ?_
  rintro e w1 ⟨rfl, hb⟩
  have HB := Aside0.mk hb
  clear hb
  go_wp2_with fail
  go_loopw [5, 6, 21] (fun v5 v6 i wx => ∃ j : Nat, j ≤ l0.length ∧ i = .int .i64 j ∧ Aside0 (wx.ownsRow w.heap.size 5 1 v5 ((ms.take j).flatMap bytesOf).length (nums .u8 ((ms.take j).flatMap bytesOf))) ∧ Aside0 (wx.ownsRow w.heap.size 9 1 v6 (cs.take j).length (encs Value.string ((cs.take j).map strOfNums))) ∧ Aside0 (Below w.heap.size w wx))
    (fun _ _ i _ => l0.length - (intOf i).toNat)
  case atStart => exact ⟨0, Nat.zero_le _, rfl, ⟨World.ownsRow_nil _ _ _ _⟩, ⟨World.ownsRow_nil _ _ _ _⟩, HB⟩
  case round =>
    obtain ⟨j, hj, rfl, H5, H6, HX⟩ := hrel
    by_cases hlt : j < l0.length
    · have hget := List.getElem?_eq_getElem hlt
      obtain ⟨b, hbb⟩ : ∃ b, l0[j] = b := ⟨_, rfl⟩
      rw [hbb] at hget
      obtain ⟨ad, Ab, cb, ha, hcell0, hcb, hC⟩ := row_at HR0.out j b hget
      have hcell := pw_cell_below HX.out hcell0
      subst ha
      have hblen : b.length ≤ 9223372036854775807 := hC.2.1
      obtain ⟨x5, hx5⟩ : ∃ x5, (ms.take j).flatMap bytesOf = x5 := ⟨_, rfl⟩
      obtain ⟨y6, hy6⟩ : ∃ y6, cs.take j = y6 := ⟨_, rfl⟩
      rw [hx5] at H5
      rw [hy6] at H6
      by_cases h20 : j < 20
      · have hc20 : decide ((j : Int) < 20) = true := decide_eq_true (by omega)
        have hcj := HCG.out j b h20 hget
        obtain ⟨m, hmj, hmade⟩ := HMG.out j _ hcj
        obtain ⟨n6, hm6⟩ : ∃ n6 : Nat, (if 600 < (b.length : Int) then 600 else (b.length : Int)) = (n6 : Int) := by
          by_cases h6 : 600 < (b.length : Int)
          · exact ⟨600, by rw [if_pos h6]; rfl⟩
          · exact ⟨b.length, by rw [if_neg h6]⟩
        have hmlb : n6 ≤ b.length := by split at hm6 <;> omega
        have htm : b.take 600 = b.take n6 := by
          split at hm6
          · rw [show n6 = 600 by omega]
          · rw [List.take_of_length_le (by omega), List.take_of_length_le (by omega)]
        have d1 : decide (0 ≤ (n6 : Int)) = true := decide_eq_true (by omega)
        have d2 : decide ((n6 : Int) ≤ (b.length : Int)) = true := decide_eq_true (by omega)
        have hlm : (b.take n6).length = n6 := by rw [List.length_take]; omega
        rw [htm] at hcj hmade
        have hcat : (ms.take (j + 1)).flatMap bytesOf = x5 ++ bytesOf m := by
          rw [← hx5]
          have hjm := (List.getElem?_eq_some_iff.1 hmj).1
          rw [List.take_succ_eq_append_getElem hjm, List.flatMap_append]
          rw [List.getElem?_eq_getElem hjm] at hmj
          injection hmj with hmj
          rw [hmj]
          simp
        have hwant : (cs.take (j + 1)).map strOfNums = y6.map strOfNums ++ [strOfNums (b.take n6)] := by
          rw [← hy6]
          have hjm := (List.getElem?_eq_some_iff.1 hcj).1
          rw [List.take_succ_eq_append_getElem hjm, List.map_append]
          rw [List.getElem?_eq_getElem hjm] at hcj
          injection hcj with hcj
          rw [hcj]
          rfl
        have hfl := bolterlaw22_FrameAll.flat_le ms (j + 1)
        rw [hcat, List.length_append, bytesOf_length] at hfl
        have hcl : y6.length ≤ 20 := by rw [← hy6, List.length_take]; omega
        have hbc : (bytesOf m).length = m.size := bytesOf_length m
        have HCAT := Aside0.mk hcat
        have HWANT := Aside0.mk hwant
        have HLM := Aside0.mk hlm
        have HMADE := Aside0.mk hmade
        have HC := Aside0.mk hC
        have HBC := Aside0.mk hbc
        have hnc1 : y6.length + 1 = (cs.take (j + 1)).length := by
          have := congrArg List.length hwant
          rw [List.length_map, List.length_append, List.length_map] at this
          exact this.symm
        have HNC := Aside0.mk hnc1
        clear hget hbb hC hcj hmj hmade htm hcat hwant hlm hbc hnc1 hcell0 hx5 hy6
        go_wp2_with fail
        have key := bolterlaw22_made.calls k Ab cb (b.take n6) m wr (Kd.C_take (Kd.C_below HC.out HX.out) hmlb) (by rw [HLM.out]; omega) HMADE.out
        rw [HLM.out] at key
        refine key.mono ?_
        clear key
        rintro e w2 ⟨rfl, hb⟩
        have HX2 := Aside0.mk (HX.out.trans (hb.mono HX.out.size))
        have HO5 := Aside0.mk (pw_own_below H5.out hb)
        have HO6 := Aside0.mk (pw_own_below H6.out hb)
        clear hb
        go_wp2_with ((with_reducible refine gate_builtin (b := .append) (xs := #[.tmp 33, .tmp 35]) rfl ?_); at_builtin; refine Go.Lib.wpList_append_own_string w2 rfl (.tmp 33) (.tmp 35) 22 9 rfl w.heap.size 5 i8 Try.underlying22 Try.underlying9 hi8 hz80 hz81 hz82 _ _ _ rfl HO5.out m rfl ?c3 ?c4 HX2.out.size ?_)
        case c3 => simp only [maxLen]; omega
        case c4 => omega
        intro v3 w3 hown hg _
        have hown' : w3.ownsRow w.heap.size 5 1 v3 ((ms.take (j + 1)).flatMap bytesOf).length (nums .u8 ((ms.take (j + 1)).flatMap bytesOf)) := by
          rw [HCAT.out, List.length_append, HBC.out, nums_append, ← strCells_eq]
          exact hown
        have HX3 := Aside0.mk (HX2.out.grown hg HX2.out.size (fun q hq => (HO5.out.lt q hq).1))
        have HP6 := Aside0.mk (own_other HO6.out hg (own_type_ne HO6.out HO5.out (by decide)))
        have HP5 := Aside0.mk hown'
        have hcv := Kd.C_string (P := Try.prog) (c := cb) Try.underlying22 Try.underlying5 Try.underlying9 (Kd.C_take (Kd.C_below HC.out HX3.out) hmlb)
        rw [HLM.out] at hcv
        clear hown hown' hg HO5 HO6 H5 H6
        go_wp2_with ((with_reducible refine gate_builtin (b := .append) (xs := #[.tmp 37, .tmp 40]) rfl ?_); at_builtin; refine print_append_of (w0 := w3) Value.string w.heap.size rfl (.tmp 37) (.tmp 40) 37 9 (.string ByteArray.empty) 16 rfl Try.underlying37 HIS.out rfl (by decide) u6 (y6.map strOfNums) (strOfNums (b.take n6)) rfl rfl rfl ?ho (Below.refl _ _) HX3.out.size ?hl ?_)
        case ho => rw [List.length_map]; exact HP6.out
        case hl => rw [List.length_map]; omega
        intro v7 w7 hown7 hB hg7 hat
        have hown' : w7.ownsRow w.heap.size 9 1 v7 (cs.take (j + 1)).length (encs Value.string ((cs.take (j + 1)).map strOfNums)) := by
          rw [HWANT.out, ← HNC.out]
          simpa using hown7
        have HX7 := Aside0.mk (HX3.out.trans hB)
        have HQ5 := Aside0.mk (own_other HP5.out hg7 (own_type_ne HP5.out HP6.out (by decide)))
        have HQ6 := Aside0.mk hown'
        have HJ := Aside0.mk hlt
        clear hown7 hown' hB hg7 hat HP5 HP6 hcv hm6
        go_wp2
        go_roundw
        case rel => exact ⟨j + 1, by omega, by go_num, HQ5, HQ6, HX7⟩
        case measure => simp [intOf]; omega
      · have hc20 : decide ((j : Int) < 20) = false := decide_eq_false (by omega)
        have e1 : ms.take (j + 1) = ms.take j := by rw [List.take_of_length_le (by rw [HML.out, HCS.out]; omega), List.take_of_length_le (by rw [HML.out, HCS.out]; omega)]
        have e2 : cs.take (j + 1) = cs.take j := by rw [List.take_of_length_le (by rw [HCS.out]; omega), List.take_of_length_le (by rw [HCS.out]; omega)]
        have H5' := Aside0.mk H5.out
        have H6' := Aside0.mk H6.out
        rw [← hx5, ← e1] at H5'
        rw [← hy6, ← e2] at H6'
        clear hget hbb hC e1 e2 H5 H6 hx5 hy6 hcell0
        go_wp2
        go_roundw
        case rel => exact ⟨j + 1, by omega, by go_num, H5', H6', HX⟩
        case measure => simp [intOf]; omega
    · have hjj : j = l0.length := by omega
      subst hjj
      obtain ⟨s, hs⟩ : ∃ s, ms.flatMap bytesOf = s := ⟨_, rfl⟩
      have e1 : (ms.take l0.length).flatMap bytesOf = s := by rw [List.take_of_length_le (by rw [HML.out, HCS.out]; omega), hs]
      have e2 : cs.take l0.length = cs := List.take_of_length_le (by rw [HCS.out]; omega)
      have hu2 := HU2.out
      have hu1 := HU1.out
      have h4 := E4.out
      rw [hu1, hu2] at h4
      rw [hs] at h4 hbig
      rw [e1] at H5
      rw [e2] at H6
      obtain ⟨A5, q5, hv5, hq5⟩ := own_slice_le H5.out
      obtain ⟨A6, q6, hv6, hq6⟩ := own_slice_le H6.out
      subst hv5 hv6
      have key0 : ∃ At mt ct tl, (if tok = true then (.slice none 0 0 : Value) else .slice A1 l1.length c1) = .slice At mt ct ∧ s ++ (if tok = true then ([] : List Int) else l1) = s ++ tl ∧ tl.length = mt ∧ mt ≤ l1.length ∧ ∀ wx, Below w.heap.size w wx → ReadsInt wx .u8 At mt tl := by
        cases tok
        · exact ⟨A1, l1.length, c1, l1, rfl, rfl, rfl, Nat.le_refl _, fun wx hb => C_reads (Kd.C_below HR1.out hb)⟩
        · exact ⟨none, 0, 0, [], rfl, rfl, rfl, Nat.zero_le _, fun wx hb => ⟨rfl, by simp, fun h => absurd h (Nat.lt_irrefl 0)⟩⟩
      obtain ⟨At, mt, ct, tl, hta, htl, htm, hml, htr⟩ := key0
      rw [htl] at h4
      have E5 := Aside0.mk h4
      have HTA := Aside0.mk hta
      have HTM := Aside0.mk htm
      have HTR := Aside0.mk htr
      clear hu1 hu2 h4 e1 e2 hs hta htl htm htr E4 HU1 HU2 HMG HCG hj
      go_wp2_with fail
      have key := frame_Cut.calls k A1 c1 l1 tx tm tok wr (Kd.C_below HR1.out HX.out) hc1 E3.out
      refine key.mono ?_
      clear key
      rintro e w2 ⟨vx, vm, rfl, hox, hom, hb⟩
      obtain ⟨Ax, cx, ex⟩ := Kd.R_slice hox
      subst ex
      obtain ⟨Am, cm, em⟩ := Kd.R_slice hom
      subst em
      have G5 := Aside0.mk (pw_own_below H5.out hb)
      have G6 := Aside0.mk (pw_own_below H6.out hb)
      have HX2 := Aside0.mk (HX.out.trans (hb.mono HX.out.size))
      clear hox hom hb H5 H6
      have htk : tok = true ∨ tok = false := by cases tok <;> simp
      have HTK := Aside0.mk htk
      clear htk
      rcases HTK.out with rfl | rfl
      all_goals
        have hta := HTA.out
        first | rw [if_pos rfl] at hta | rw [if_neg (by decide)] at hta
        injection hta with h1 h2 h3
        subst h1 h2 h3
        go_wp2_with ((with_reducible refine gate_builtin (b := .append) (xs := #[.const (.slice none 0 0), .tmp 53]) rfl ?_); at_builtin; refine print_append_row (w0 := w2) w.heap.size rfl (.const (.slice none 0 0)) (.tmp 53) 22 5 .u8 1 rfl Try.underlying22 info5 (by decide) (.slice none 0 0) [] s A5 s.length q5 rfl rfl (World.ownsRow_nil _ _ _ _) (C_reads (own_C G5.out)) (Below.refl _ _) HX2.out.size (by simp only [List.length_nil]; omega) ?_)
        intro v8 w8 hown hB hg _
        have G7 := Aside0.mk (own_other G6.out hg (by cases A6 <;> simp [Value.ownBlock]))
        have H8 : Aside0 (w8.ownsRow w.heap.size 5 1 v8 s.length (nums .u8 s)) := ⟨by simpa using hown⟩
        have HX8 := Aside0.mk (HX2.out.trans hB)
        clear hown hB hg G5 G6
        have htr := HTR.out _ HX8.out
        have hml2 : s.length + l1.length < 1099511627776 := hbig
        go_wp2_with ((with_reducible refine gate_builtin (b := .append) (xs := #[.tmp 54, .tmp 55]) rfl ?_); at_builtin; refine print_append_row (w0 := w8) w.heap.size rfl (.tmp 54) (.tmp 55) 22 5 .u8 1 rfl Try.underlying22 info5 (by decide) v8 s tl _ _ _ rfl rfl H8.out htr (Below.refl _ _) HX8.out.size (by omega) ?_)
        intro v9 w9 hown hB hg _
        have G9 := Aside0.mk (own_other G7.out hg (own_type_ne G7.out H8.out (by decide)))
        have HX9 := Aside0.mk (HX8.out.trans hB)
        have hE := E5.out
        obtain ⟨st, hst⟩ : ∃ st, s ++ tl = st := ⟨_, rfl⟩
        rw [hst] at hown hE
        rw [show s.length + tl.length = st.length by rw [← hst, List.length_append]] at hown
        obtain ⟨A9, q9, hv9, hq9⟩ := own_slice_le hown
        subst hv9
        have hV : Kd.V (Kd.int .u8) 5 w9 w9.heap.size (fun _ => True) (.slice A9 st.length q9) st := Kd.R_V (Kd.R_of_own (enc := Value.int .u8) (h1 := fun _ => rfl) (ok := fun _ => True) (by exact hown) (fun _ _ => trivial))
        have HV := Aside0.mk hV
        have HE := Aside0.mk hE
        clear hown hB hg htr hst hE hV H8 G7
        go_wp2_with fail
        refine (frame_All.calls k (fun _ => True) A9 q9 st cs (s.length : Int) w9 HV.out HE.out).mono ?_
        rintro e w10 ⟨va, rfl, hS, hb⟩
        obtain ⟨Aa, ca, ea⟩ := Kd.V_slice (Kd.S_V (base' := 0) hS)
        subst ea
        have HS := Aside0.mk (Kd.S_R hS)
        have G10 := Aside0.mk (pw_own_below G9.out hb)
        have HX10 := Aside0.mk (HX9.out.trans (hb.mono HX9.out.size))
        clear hS hb G9
        have b1 : decide ((s.length : Int) ≠ (s.length : Int)) = false := decide_eq_false (fun h => h rfl)
        have b2 : ((s.length : Int) != (s.length : Int)) = false := bne_self_eq_false' _
        have b3 : ((cs.length : Int) != (cs.length : Int)) = false := bne_self_eq_false' _
        obtain ⟨wp, hwp⟩ : ∃ wp, wr = wp := ⟨_, rfl⟩
        clear hwp
        go_wp2_with fail
        go_loopw [16, 72] (fun v16 i wx => ∃ k : Nat, k ≤ cs.length ∧ i = .int .i64 k ∧ Aside0 (Drawn0 w10 wx))
          (fun _ i _ => cs.length - (intOf i).toNat)
        case atStart => exact ⟨0, Nat.zero_le _, rfl, ⟨Drawn0.refl _⟩⟩
        case round =>
          obtain ⟨j, hj, rfl, HD⟩ := hrel
          by_cases hlt : j < cs.length
          · have hget := List.getElem?_eq_getElem hlt
            obtain ⟨x, hx⟩ : ∃ x, cs[j] = x := ⟨_, rfl⟩
            rw [hx] at hget
            have hR := Kd.R_below HS.out HD.out.below
            have hW := pw_own_below G10.out HD.out.below
            obtain ⟨gb, cb, A3, c3, hv, hcb, hcell, hc3, hC⟩ := bolterlaw22_FrameAll.row_own hR j x hget
            injection hv with hv hvl hvc
            subst hv
            obtain ⟨g6, hv6, hcell6⟩ := bolterlaw22_FrameAll.str_at hW j (strOfNums x) (by rw [List.getElem?_map, hget]; rfl)
            subst hv6
            have hcq := fun n => Kd.C_string (P := Try.prog) (c := c3) Try.underlying22 Try.underlying5 Try.underlying9 (Kd.C_drewN hC n)
            clear hR hW hC hget hx hvl hvc
            go_wp2_with fail
            go_quiet (fail)
            go_wp2
            go_roundw
            case rel => exact ⟨j + 1, by omega, by go_num, ⟨HD.out.step nq⟩⟩
            case measure => simp [intOf]; omega
          · have hjj : j = cs.length := by omega
            have HBB := Aside0.mk (HX10.out.trans (HD.out.below.mono HX10.out.size))
            go_wp2
            go_ret
            exact ⟨by first | rfl | simp, HBB.out⟩

end Go.Proofs.Ytmehkpkklnbidaa.PC
