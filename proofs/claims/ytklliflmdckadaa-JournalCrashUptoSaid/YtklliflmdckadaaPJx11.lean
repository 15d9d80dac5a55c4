/-
  The law JournalCrash walked. No macro, syntax, notation, axiom, sorry.
-/
import Derived.Test.YtklliflmdckadaaPJx10
import Derived.Test.YtklliflmdckadaaPJx6
namespace Go.Proofs.Ytklliflmdckadaa.PJ
open Go.RowKit Go.Proofs.YtklliflmdckadaaW.PrintWords Go.Proofs.YtklliflmdckadaaW.PrintLast Go.Proofs.Ytklliflmdckadaa.DevW Go.Proofs.Ytklliflmdckadaa.DevC
open Go.Proofs.Ytklliflmdckadaa.QJ (fr frs frs_snoc frs_len frs_b8 fr_len fr_b8 make make_long)
open Go.Proofs.Ytklliflmdckadaa.Base (B8)
set_option linter.unusedVariables false
set_option linter.unusedSimpArgs false
set_option maxRecDepth 100000
attribute [local irreducible] fr

theorem dappend_len (st : St) (b : List Int) : (dappend st b).length ≤ st.length + 1 := by
  unfold dappend
  rw [onLast_len]
  split
  · rw [dbegin_len]; omega
  · omega
theorem jwrite_len (st : St) (b : List Int) : (jwrite st b).length ≤ st.length + 1 := by
  rcases snoc_cases st with rfl | ⟨r, x, rfl⟩
  · unfold jwrite
    rw [if_neg (by simp [dlast])]
    exact dappend_len _ _
  · unfold jwrite
    split
    · unfold dbegin
      rw [dappend_snoc]
      simp [dsync_len]
    · rw [dappend_snoc]
      simp
theorem abytes_b8 {bs : List Int} (h : B8 bs) (z : Nat) : B8 (abytes bs z) := by
  unfold abytes
  split
  · intro y hy
    have := List.eq_of_mem_replicate hy
    omega
  · exact h
theorem infoStr : (Try.prog.info? 9).map (fun i => (i.zero, i.size, i.bytes)) = some (some (.string ByteArray.empty), 1, 16) := by kernel_rfl
theorem recs_bytes {st : St} {all : List (List Int)} {safe : Nat} (h : Jn st all safe) (n : Nat) (hn : all.length ≤ n) : (frs all).length ≤ 606 * n := by
  have := frs_len all (fun c hc => (h.1 c hc).2)
  have h2 : 606 * all.length ≤ 606 * n := Nat.mul_le_mul_left _ hn
  omega
def bolterlaw24_JournalCrash.f (l0 : List JAct) (a1 : Int) : Option Bool := if (∀ a ∈ l0, (∀ y ∈ a.f1, 0 ≤ y ∧ y < 256) ∧ 0 ≤ a.f0 ∧ a.f0 < 256 ∧ 0 ≤ a.f2 ∧ a.f2 < 256) ∧ l0.length ≤ 1048576 ∧ 0 ≤ a1 ∧ a1 < 65536 then some true else none
set_option maxHeartbeats 2000000 in
theorem bolterlaw24_JournalCrash.calls (A0 : Option Addr) (c0 : Nat) (l0 : List JAct) (a1 : Int) (r : Bool) (w : World) (hr0 : Kd.C k35 w A0 l0.length l0) (hc0 : l0.length ≤ c0) (h : bolterlaw24_JournalCrash.f l0 a1 = some r) :
    Calls Try.prog 3 #[.slice A0 l0.length c0, .int .u16 a1] w fun e w' => e = .returned (.bool r) ∧ Below w.heap.size w w' := by
  unfold bolterlaw24_JournalCrash.f at h
  by_cases hc : (∀ a ∈ l0, (∀ y ∈ a.f1, 0 ≤ y ∧ y < 256) ∧ 0 ≤ a.f0 ∧ a.f0 < 256 ∧ 0 ≤ a.f2 ∧ a.f2 < 256) ∧ l0.length ≤ 1048576 ∧ 0 ≤ a1 ∧ a1 < 65536
  case neg => rw [if_neg hc] at h; cases h
  rw [if_pos hc] at h
  obtain rfl := Option.some.inj h
  clear h
  obtain ⟨hal, hlen, ha0, ha1⟩ := hc
  have HR0 := Lib.hid hr0
  have HAL := Lib.hid hal
  clear hr0 hal
  go_enter Try.func3, Try.ntmps3
  go_wp2_with fail
  refine (awake w).mono ?_
  rintro e w1 ⟨rfl, hB⟩
  have HJ0 := Lib.hid (JL.fresh (Live.fresh w w1 hB))
  clear hB
  go_wp2_with fail
  refine (of_ _ _).mono ?_
  rintro e w2 ⟨rfl, rfl⟩
  obtain ⟨gj, hgj⟩ : ∃ gj, (w1.alloc (.cells #[.slice none 0 0, .int .i64 0] 30)).heap.size = gj := ⟨_, rfl⟩
  rw [hgj] at HJ0 ⊢
  obtain ⟨w2, hw2⟩ : ∃ w2, (w1.alloc (.cells #[.slice none 0 0, .int .i64 0] 30)).alloc (.cells #[.pointer (some ⟨w1.heap.size, 0, none⟩)] 37) = w2 := ⟨_, rfl⟩
  rw [hw2] at HJ0 ⊢
  clear hgj hw2
  obtain ⟨g, hg⟩ : ∃ g, w1.heap.size = g := ⟨_, rfl⟩
  rw [hg] at HJ0 ⊢
  obtain ⟨F0, hF0⟩ : ∃ F0, [g] = F0 := ⟨_, rfl⟩
  rw [hF0] at HJ0
  clear hg hF0
  go_wp2_with fail
  go_loopw [6, 7, 26] (fun v6 v7 i wx => ∃ (j : Nat) (all : List (List Int)) (safe : Nat) (st : St) (nw : Nat), j ≤ l0.length ∧ i = .int .i64 j ∧ v7 = .int .i64 safe ∧ Aside0 (Jn st all safe) ∧ all.length ≤ j ∧ st.length ≤ j ∧ safe ≤ all.length ∧ nw ≤ j ∧
      Aside0 (∃ F, JL w wx gj g F st nw ∧ Row 9 Value.string w wx (gj :: F) v6 (all.map strOfNums)))
    (fun _ _ i _ => l0.length - (intOf i).toNat)
  case atStart => exact ⟨0, [], 0, [], 0, Nat.zero_le _, rfl, rfl, ⟨Jn.nil⟩, Nat.le_refl _, Nat.le_refl _, Nat.le_refl _, Nat.le_refl _, ⟨F0, HJ0.out, ⟨World.ownsRow_nil _ _ _ _, fun k hk => by simp [Value.ownBlock] at hk⟩⟩⟩
  case round =>
    obtain ⟨j, all, safe, st, nw, hj, rfl, rfl, HJN, hal, hsl, hsf, hnw, hrel⟩ := hrel
    obtain ⟨F, hJ, hS⟩ := hrel.out
    clear hrel
    obtain ⟨A6, c6, hv6, hc6⟩ := hS.slice
    subst hv6
    rw [List.length_map] at hc6 hS ⊢
    have HJ := Lib.hid hJ
    have HS := Lib.hid hS
    clear hJ hS HJ0
    have hbytes := recs_bytes HJN.out j hal
    have htot := HJN.out.total
    by_cases hlt : j < l0.length
    · have hget := List.getElem?_eq_getElem hlt
      obtain ⟨x, hx⟩ : ∃ x, l0[j] = x := ⟨_, rfl⟩
      rw [hx] at hget
      obtain ⟨hB, ho0, ho1, hz0, hz1⟩ := HAL.out x (List.mem_of_getElem? hget)
      obtain ⟨ad, Ax, cx, ha, q0, q1, q2, q3, hcx, hC⟩ := act_at HR0.out j x hget
      obtain ⟨o, hoo⟩ := Int.eq_ofNat_of_zero_le ho0
      obtain ⟨z, hzz⟩ := Int.eq_ofNat_of_zero_le hz0
      rw [hoo] at q0
      rw [hzz] at q2
      have hz6 : z < 256 := by omega
      have p0 := pw_cell_below HJ.out.live.base q0
      have p1 := pw_cell_below HJ.out.live.base q1
      have p2 := pw_cell_below HJ.out.live.base q2
      have p3 := pw_cell_below HJ.out.live.base q3
      subst ha
      rw [add_field _ _ _ (by omega)] at p1 p2 p3
      have hxl : x.f1.length ≤ 9223372036854775807 := hC.2.1
      obtain ⟨y, hy⟩ : ∃ y, o % 4 = y := ⟨_, rfl⟩
      have hn : Int.tmod (o : Int) 4 = (y : Int) := by rw [← hy]; rfl
      have hn3 : (o : Int) % 4 = (y : Int) := by omega
      have HC := Lib.hid hC
      have HB8 := Lib.hid hB
      have HTOT := Lib.hid htot
      clear hget hx hoo hzz q0 q1 q2 q3 hC hB ho0 ho1 hz0 hz1 hy htot
      have cJ := (HJ.out.below (below_alloc (Below.refl _ _) (Obj.cells #[Value.int IntKind.u8 o, Value.slice Ax x.f1.length cx, Value.int IntKind.u8 z, Value.int IntKind.i8 x.f3] 35))).cell
      have HJb := Lib.hid (HJ.out.below (below_alloc (Below.refl _ _) (Obj.cells #[Value.int IntKind.u8 o, Value.slice Ax x.f1.length cx, Value.int IntKind.u8 z, Value.int IntKind.i8 x.f3] 35)))
      have HSb := Lib.hid (HS.out.below (below_alloc (Below.refl _ _) (Obj.cells #[Value.int IntKind.u8 o, Value.slice Ax x.f1.length cx, Value.int IntKind.u8 z, Value.int IntKind.i8 x.f3] 35)))
      by_cases h3 : y = 3
      · subst h3
        go_wp2_with fail
        refine (live_sync HJb.out.live (by omega)).mono ?_
        rintro e w4 ⟨rfl, F4, hL, ht, hF⟩
        have HJ4 := Lib.hid (HJb.out.next hL ht hF)
        have HS4 := Lib.hid (HSb.out.nextJ ht hF)
        clear hL ht hF HJb HSb HJ HS p0 p1 p2 p3 cJ
        go_wp2
        go_roundw
        case rel => exact ⟨j + 1, all, all.length, dsync st, nw, by omega, by go_num, rfl, ⟨HJN.out.sync⟩, by omega, by rw [dsync_len]; omega, Nat.le_refl _, by omega, ⟨F4, HJ4.out, by have h := HS4.out; exact h⟩⟩
        case measure => simp [intOf]; omega
      · have e3 : ((y : Int) == 3) = false := beq_eq_false_iff_ne.mpr (by omega)
        have H3 := Lib.hid h3
        clear h3
        go_wp2_with fail
        obtain ⟨g8, hg8⟩ : ∃ g8, wr.heap.size = g8 := ⟨_, rfl⟩
        obtain ⟨wb, hwb⟩ : ∃ wb, wr.alloc (Obj.cells #[Value.int IntKind.u8 o, Value.slice Ax x.f1.length cx, Value.int IntKind.u8 z, Value.int IntKind.i8 x.f3] 35) = wb := ⟨_, rfl⟩
        have hblk : wb.heap[g8]? = some (Obj.cells #[Value.int IntKind.u8 o, Value.slice Ax x.f1.length cx, Value.int IntKind.u8 z, Value.int IntKind.i8 x.f3] 35) := by rw [← hwb, ← hg8]; exact heap_alloc_new wr _
        have hg8l : g8 < wb.heap.size := (Array.getElem?_eq_some_iff.1 hblk).1
        have hg8F : g8 ∉ F := fun hm => by have := (HJ.out.live.foot _ hm).2; omega
        rw [hg8]
        rw [hwb] at HJb HSb ⊢
        clear hg8 hwb HJ HS p0 p1 p2 p3 cJ
        refine (bytes_ wb (o : Int) Ax cx x.f1 z x.f3 hz6 hcx (Kd.C_below HC.out HJb.out.live.base)).mono ?_
        rintro e w3 ⟨Ab, cb, rfl, hcb, hCb, hb⟩
        obtain ⟨bb, hbb⟩ : ∃ bb, abytes x.f1 z = bb := ⟨_, rfl⟩
        have hbB : B8 bb := by rw [← hbb]; exact abytes_b8 HB8.out z
        rw [hbb] at hcb hCb ⊢
        have HBB := Lib.hid hbb
        have HJ3 := Lib.hid (HJb.out.below hb)
        have HS3 := Lib.hid (HSb.out.below hb)
        have c3 := HJ3.out.cell
        have hblk3 := (hb.block g8 hg8l).trans hblk
        have hg8l3 : g8 < w3.heap.size := Nat.lt_of_lt_of_le hg8l hb.size
        have HCb := Lib.hid hCb
        have HBK3 := Lib.hid hblk3
        clear hCb hbb hb hblk hblk3 HJb HSb
        by_cases h6 : bb.length ≤ 600
        · obtain ⟨km, hkm⟩ := Ev.rounds (make bb h6 hbB)
          have HKM := Lib.hid hkm
          have hfl : (fr bb).length ≤ 606 := by rw [fr_len]; omega
          clear hkm
          go_wp2_with fail
          refine (write_ HJ3.out (by omega) (by omega) (by omega) Ab cb bb (fr bb) hcb HCb.out km HKM.out (by rw [HTOT.out]; omega)).mono ?_
          rintro e w4 ⟨rfl, F4, hJ4, ht4, hF4⟩
          have hblk4 := (ht4.block g8 hg8l3 hg8F).trans HBK3.out
          have f0 : w4.cell? ⟨g8, 0, none⟩ = some (.int .u8 o) := by rw [blk_cell hblk4]; rfl
          have f1 : w4.cell? ⟨g8, 1, none⟩ = some (.slice Ax x.f1.length cx) := by rw [blk_cell hblk4]; rfl
          have f2 : w4.cell? ⟨g8, 2, none⟩ = some (.int .u8 z) := by rw [blk_cell hblk4]; rfl
          have f3 : w4.cell? ⟨g8, 3, none⟩ = some (.int .i8 x.f3) := by rw [blk_cell hblk4]; rfl
          have HJ4 := Lib.hid hJ4
          have HS4 := Lib.hid (HS3.out.nextJ ht4 hF4)
          clear hJ4 ht4 hF4 HJ3 HS3 c3 HBK3 HCb hblk4
          go_wp2_with fail
          refine (bytes_ w4 (o : Int) Ax cx x.f1 z x.f3 hz6 hcx (Kd.C_below HC.out HJ4.out.live.base)).mono ?_
          rintro e w5 ⟨Ac, cc, rfl, hcc, hCc, hb5⟩
          rw [HBB.out] at hcc hCc ⊢
          have HJ5 := Lib.hid (HJ4.out.below hb5)
          have HS5 := Lib.hid (HS4.out.below hb5)
          have hcv := Kd.C_string (P := Try.prog) (c := cc) Try.underlying32 Try.underlying5 Try.underlying9 hCc
          clear hCc hb5 HJ4 HS4 f0 f1 f2 f3
          go_wp2_with ((with_reducible refine gate_builtin (b := .append) (xs := #[.tmp 46, .tmp 50]) rfl ?_); at_builtin; refine print_append_of (w0 := w5) Value.string w.heap.size rfl (.tmp 46) (.tmp 50) 31 9 (.string ByteArray.empty) 16 rfl Try.underlying31 infoStr rfl (by decide) (.slice A6 all.length c6) (all.map strOfNums) (strOfNums bb) rfl rfl rfl HS5.out.1 (Below.refl _ _) HJ5.out.live.base.size (by rw [List.length_map]; omega) ?_)
          intro v6 w6 hown hB hg hat
          have hown' : w6.ownsRow w.heap.size 9 1 v6 ((all ++ [bb]).map strOfNums).length (encs Value.string ((all ++ [bb]).map strOfNums)) := by
            rw [List.map_append]
            simpa using hown
          have HJ6 := Lib.hid (HJ5.out.grown HS5.out hg)
          have HS6 := Lib.hid (Row.grownJ HJ5.out HS5.out hown' hat)
          clear hown hown' hB hg hat HJ5 HS5 hcv
          have HJN2 := Lib.hid (HJN.out.write bb ⟨hbB, h6⟩)
          have hal2 : (all ++ [bb]).length = all.length + 1 := by simp
          have hsl2 := jwrite_len st (fr bb)
          obtain ⟨all2, hall2⟩ : ∃ all2, all ++ [bb] = all2 := ⟨_, rfl⟩
          obtain ⟨st2, hst2⟩ : ∃ st2, jwrite st (fr bb) = st2 := ⟨_, rfl⟩
          rw [hall2] at HJN2 HS6 hal2
          rw [hst2] at HJN2 HJ6 hsl2
          have hal3 : all2.length ≤ j + 1 := by omega
          have hal4 : all.length ≤ all2.length := by omega
          clear hall2 hst2 hal2
          go_wp2
          go_roundw
          case rel => exact ⟨j + 1, all2, safe, st2, nw + 1, by omega, by go_num, rfl, ⟨HJN2.out⟩, hal3, by omega, by omega, by omega, ⟨F4, HJ6.out, HS6.out⟩⟩
          case measure => simp [intOf]; omega
        · go_wp2_with fail
          refine (write_no HJ3.out Ab cb bb [] hcb HCb.out 0 (make_long bb (by omega) 0)).mono ?_
          rintro e w4 ⟨rfl, hb⟩
          have HJ4 := Lib.hid (HJ3.out.below hb)
          have HS4 := Lib.hid (HS3.out.below hb)
          clear hb HJ3 HS3 c3 HBK3 HCb
          go_wp2
          go_roundw
          case rel => exact ⟨j + 1, all, safe, st, nw, by omega, by go_num, rfl, HJN, by omega, by omega, hsf, by omega, ⟨F, HJ4.out, by have h := HS4.out; exact h⟩⟩
          case measure => simp [intOf]; omega
    · have hjj : j = l0.length := by omega
      have halm : all.length ≤ 1048576 := by omega
      have hnw9 : nw ≤ 1048576 := by omega
      have hstm : st.length ≤ 1048576 := by omega
      obtain ⟨m1, rfl⟩ := Int.eq_ofNat_of_zero_le ha0
      obtain ⟨y, hy⟩ : ∃ y, m1 % 900 = y := ⟨_, rfl⟩
      have hn : Int.tmod (m1 : Int) 900 = (y : Int) := by rw [← hy]; rfl
      have hn3 : (m1 : Int) % 900 = (y : Int) := by omega
      have hy9 : y < 900 := by omega
      have hw1 : IntKind.i64.wrap (y : Int) = (y : Int) := by rw [Go.Proofs.Ytklliflmdckadaa.DevC.i64_w]; unfold wrap64; omega
      have hfa : (frs all).length ≤ 635437056 := by omega
      obtain ⟨rs, more, hall, hsafe, hjn, htold, hA, hlastA, hgone, hfine, htotal, hlenC⟩ := HJN.out.crash (y : Int) (by omega) (by omega) (by omega)
      obtain ⟨C, hC⟩ : ∃ C, dcrash st (y : Int) = C := ⟨_, rfl⟩
      rw [hC] at hjn htold hA hlastA hgone hfine htotal hlenC
      obtain ⟨R, hR⟩ : ∃ R, jrec tellA C = R := ⟨_, rfl⟩
      rw [hR] at hjn hgone
      have hrl : rs.length + more.length = all.length := by rw [hall, List.length_append]
      have hfr : (frs rs).length ≤ 635437056 := recs_bytes hjn 1048576 (by omega)
      have hread := hjn.read (by omega) (by omega)
      have hagain := hjn.again (by omega) (by omega)
      have hRl : R.length ≤ 1048576 := by rw [← hR, jrec_len]; omega
      have hCt : total C ≤ 635437056 := by omega
      have hRt : total R ≤ 635437056 := by rw [hjn.total]; exact hfr
      obtain ⟨mc, hmc, hmc2⟩ := dlast_le (st := C)
      obtain ⟨mr, hmr, hmr2⟩ := dlast_le (st := R)
      rw [hmc, hmr] at hgone
      have hmcb : mc ≤ 635437056 := by omega
      have hmrb : mr ≤ 635437056 := by omega
      obtain ⟨cb, hcb⟩ : ∃ cb, jwhole tellA (dsegs C) = cb := ⟨_, rfl⟩
      have HALL := Lib.hid hall
      have HCE := Lib.hid hC
      have HRE := Lib.hid hR
      have HJNR := Lib.hid hjn
      have HTO := Lib.hid htold
      have HAC := Lib.hid hA
      have HLA := Lib.hid hlastA
      have HGO := Lib.hid hgone
      have HFI := Lib.hid hfine
      have HRD := Lib.hid hread
      have HAG := Lib.hid hagain
      have HMC := Lib.hid hmc
      have HMR := Lib.hid hmr
      have HCB := Lib.hid hcb
      have hs1 : wrap64 ((mc : Int) - (mr : Int)) = (mc : Int) - (mr : Int) := by unfold wrap64; omega
      have hs2 : IntKind.i64.wrap ((mc : Int) - (mr : Int)) = (mc : Int) - (mr : Int) := by rw [Go.Proofs.Ytklliflmdckadaa.DevC.i64_w]; exact hs1
      have cJ := HJ.out.cell
      clear hall hC hR hjn htold hA hlastA hgone hfine hread hagain hmc hmr hcb hy htotal
      go_wp2_with fail
      refine (live_crash HJ.out.live (by omega) (y : Int) (by omega) (by omega) (by intro b s hm; have h1 := HJN.out.fine b s hm; have h2 := total_mem hm; exact ⟨h1.1, h1.2, by omega⟩)).mono ?_
      rintro e w3 ⟨rfl, F3, hL, ht, hF⟩
      rw [HCE.out] at hL
      have HJ3 := Lib.hid (HJ.out.next hL ht hF)
      have HS3 := Lib.hid (HS.out.nextJ ht hF)
      have c3 := HJ3.out.cell
      clear hL ht hF HJ HS cJ
      go_wp2_with fail
      refine (read_ HJ3.out.live (by omega) (by intro b s hm; have h2 := total_mem hm; omega) tellA HAC.out (by rw [HTO.out]; omega)).mono ?_
      rintro e w4 ⟨v, rfl, hV, hb⟩
      obtain ⟨At, ct, hv⟩ := Kd.V_slice hV
      rw [HTO.out] at hv
      subst hv
      rw [HCB.out]
      have HJ4 := Lib.hid (HJ3.out.below hb)
      have HS4 := Lib.hid (HS3.out.below hb)
      have c4 := HJ4.out.cell
      clear hV hb HJ3 HS3 c3
      go_wp2_with fail
      have key := live_last HJ4.out.live (by omega)
      rw [HMC.out] at key
      refine key.mono ?_
      clear key
      rintro e w5 ⟨rfl, n5, rfl⟩
      have HJ5 := Lib.hid (HJ4.out.below (pw_below_drewN (Below.refl _ _) n5))
      have HS5 := Lib.hid (HS4.out.below (pw_below_drewN (Below.refl _ _) n5))
      obtain ⟨w5, hw5⟩ : ∃ w5, w4.drewN n5 = w5 := ⟨_, rfl⟩
      rw [hw5] at HJ5 HS5 ⊢
      clear hw5 HJ4 HS4 c4
      go_wp2_with fail
      have key := recover_ HJ5.out (by omega) HFI.out (by omega) tellA HLA.out
      rw [HGO.out, HRE.out] at key
      refine key.mono ?_
      clear key
      rintro e w6 ⟨rfl, F6, hJ, ht, hF⟩
      have HJ6 := Lib.hid hJ
      have HS6 := Lib.hid (HS5.out.nextJ ht hF)
      have c6' := hJ.cell
      clear hJ ht hF HJ5 HS5
      go_wp2_with fail
      refine (read_ HJ6.out.live (by omega) (by intro b s hm; have h2 := total_mem hm; omega) tellA HRD.out.1 (by rw [HRD.out.2.1]; omega)).mono ?_
      rintro e w7 ⟨v, rfl, hV, hb⟩
      rw [HRD.out.2.1] at hV
      rw [HRD.out.2.2]
      obtain ⟨Ar, cr, hv⟩ := Kd.V_slice hV
      subst hv
      have HV7 := Lib.hid hV
      have hsz6 := hb.size
      have HJ7 := Lib.hid (HJ6.out.below hb)
      have HS7 := Lib.hid (HS6.out.below hb)
      have c7 := HJ7.out.cell
      have hF6 : ∀ k ∈ F6, k < w6.heap.size := fun k hk => (HJ6.out.live.foot k hk).2
      have HF6 := Lib.hid hF6
      have d1 : decide (rs.length < safe) = false := decide_eq_false (by omega)
      have d2 : decide (all.length < rs.length) = false := decide_eq_false (by omega)
      have HS1 := Lib.hid hs1
      have HS2 := Lib.hid hs2
      clear hs1 hs2
      have HRL := Lib.hid hrl
      have HLC := Lib.hid hlenC
      have HJJ := Lib.hid hjj
      clear hV hb HJ6 HS6 c6' hF6 hrl hlenC hjj hn hn3 hw1 hsz6 hsl hal hnw hbytes hlt
      go_wp2_with fail
      have key := live_last HJ7.out.live (by omega)
      rw [HMR.out] at key
      refine key.mono ?_
      clear key
      rintro e w8 ⟨rfl, n8, rfl⟩
      have HJ8 := Lib.hid (HJ7.out.below (pw_below_drewN (Below.refl _ _) n8))
      have HS8 := Lib.hid (HS7.out.below (pw_below_drewN (Below.refl _ _) n8))
      have HV8 := Lib.hid (Kd.V_drewN HV7.out n8)
      have hz8 : w7.heap.size = (w7.drewN n8).heap.size := rfl
      obtain ⟨w8, hw8⟩ : ∃ w8, w7.drewN n8 = w8 := ⟨_, rfl⟩
      rw [hw8] at HJ8 HS8 HV8 hz8 ⊢
      clear hw8 HJ7 HS7 HV7 c7
      go_wp2_with fail
      have key := recover_ HJ8.out (by omega) HJNR.out.fine (by omega) tellA HAG.out.1
      rw [HAG.out.2.1, HAG.out.2.2] at key
      refine key.mono ?_
      clear key
      rintro e w9 ⟨rfl, F9, hJ, ht, hF⟩
      have HJ9 := Lib.hid hJ
      have HS9 := Lib.hid (HS8.out.nextJ ht hF)
      have HV9 := Lib.hid (Kd.V_step HV8.out (fun k hk hk2 => ht.block k hk2 (fun hm => by have := HF6.out k hm; omega)))
      clear hJ ht hF HJ8 HS8 HV8
      go_wp2_with fail
      obtain ⟨wp, hwp⟩ : ∃ wp, wr = wp := ⟨_, rfl⟩
      clear hwp
      go_loopw [16, 124] (fun v16 i wx => ∃ k : Nat, k ≤ rs.length ∧ i = .int .i64 k ∧ Aside0 (Drawn0 w9 wx))
        (fun _ i _ => rs.length - (intOf i).toNat)
      case atStart => exact ⟨0, Nat.zero_le _, rfl, ⟨Drawn0.refl _⟩⟩
      case round =>
        obtain ⟨k, hk, rfl, HD⟩ := hrel
        by_cases hkl : k < rs.length
        · have hget := List.getElem?_eq_getElem hkl
          obtain ⟨x, hx⟩ : ∃ x, rs[k] = x := ⟨_, rfl⟩
          rw [hx] at hget
          obtain ⟨ad, Ax, cx, hAr, hcell, hcx, hF⟩ := V_row (Kd.V_below HV9.out HD.out.below) k x hget
          subst hAr
          have hg2 : (all.map strOfNums)[k]? = some (strOfNums x) := by rw [HALL.out, List.getElem?_map, List.getElem?_append_left hkl, hget]; rfl
          obtain ⟨g6, c6', hv6, hc6', hcell6, _⟩ := (HS9.out.below HD.out.below).at_ k (strOfNums x) hg2
          injection hv6 with hv6 hl6 hc6e
          subst hv6
          have hka : k < all.length := by have := HRL.out; omega
          have hcq := fun n => Kd.C_string (P := Try.prog) (c := cx) Try.underlying32 Try.underlying5 Try.underlying9 (Kd.C_drewN (Kd.F_now hF) n)
          clear hget hx hF hg2 hl6 hc6e hc6'
          go_wp2_with fail
          go_quiet (fail)
          go_wp2
          go_roundw
          case rel => exact ⟨k + 1, by omega, by go_num, ⟨HD.out.step nq⟩⟩
          case measure => simp [intOf]; omega
        · have hke : k = rs.length := by omega
          have HJ10 := Lib.hid (HJ9.out.below HD.out.below)
          have c10 := HJ10.out.cell
          have k1 := Go.Lib.run_convert_bytes_const (P := Try.prog) wr 32 5 #[.int .u8 122] 1 1 Try.underlying32 Try.underlying5
          have HC := Lib.hid (Go.Proofs.YtklliflmdckadaaW.HandW.marked_C wr 5 [122] (1, 2) (by decide))
          have HJ11 := Lib.hid (HJ10.out.below (below_alloc (Below.refl _ _) (.cells (nums .u8 [122]).toArray 5 (1, 2))))
          have hz8 : B8 [122] ∧ ([122] : List Int).length ≤ 600 := ⟨fun y hy => by simp at hy; omega, by decide⟩
          obtain ⟨km, hkm⟩ := Ev.rounds (make [122] hz8.2 hz8.1)
          have hfz : (fr [122]).length = 7 := by rw [fr_len]; rfl
          have hjz := HJNR.out.sync.write [122] hz8
          obtain ⟨fz, hfze⟩ : ∃ fz, fr [122] = fz := ⟨_, rfl⟩
          rw [hfze] at hkm hfz hjz
          have hlz := jwrite_len (dsync R) fz
          rw [dsync_len] at hlz
          obtain ⟨Z, hZ⟩ : ∃ Z, jwrite (dsync R) fz = Z := ⟨_, rfl⟩
          rw [hZ] at hjz hlz
          have hzl : (rs ++ [[122]]).length = rs.length + 1 := by simp
          have hfb : (frs (rs ++ [[122]])).length ≤ 700000000 := by have := recs_bytes hjz 1048577 (by rw [hzl]; have := HRL.out; omega); omega
          have hrz := hjz.read (by omega) (by rw [hzl]; have := HRL.out; omega)
          have hzt := hjz.total
          have HKM := Lib.hid hkm
          have HZ := Lib.hid hZ
          have HFZ := Lib.hid hfz
          have HRZ := Lib.hid hrz
          have HZL := Lib.hid hzl
          have htz : total Z ≤ 700000000 := by omega
          have hrl1 : rs.length ≤ 1048576 := by have := HRL.out; omega
          clear hkm hZ hfz hrz hjz hzt hzl hz8 hfze hfb hkl
          go_wp2_with fail
          refine (write_ HJ11.out (by rw [dsync_len]; omega) (by omega) (by omega) _ _ [122] fz (by decide) HC.out km HKM.out (by rw [dsync_total, HFZ.out]; omega)).mono ?_
          rintro e w12 ⟨rfl, F12, hJ, ht, hF⟩
          rw [HZ.out] at hJ
          have HJ12 := Lib.hid hJ
          have c12 := hJ.cell
          clear hJ ht hF HJ10 HJ11 HC c10 k1
          go_wp2_with fail
          refine (read_ HJ12.out.live (by omega) (by intro b s hm; have h2 := total_mem hm; omega) tellA HRZ.out.1 (by rw [HRZ.out.2.1, HZL.out]; omega)).mono ?_
          rintro e w13 ⟨v, rfl, hV, hb⟩
          rw [HRZ.out.2.1] at hV
          rw [HRZ.out.2.2]
          obtain ⟨Am, cm, hv⟩ := Kd.V_slice hV
          subst hv
          obtain ⟨ad, Ax, cx, hAm, hcell, hcx, hF⟩ := V_row hV rs.length [122] (by simp)
          subst hAm
          have hcv := Kd.C_string (P := Try.prog) (c := cx) Try.underlying32 Try.underlying5 Try.underlying9 (Kd.F_now hF)
          change w13.cell? (ad.add rs.length) = some (.slice Ax 1 cx) at hcell
          change (convert 32 9 (.slice Ax 1 cx)).run Try.prog w13 = _ at hcv
          have hs : strOfNums [122] = ⟨#[122]⟩ := rfl
          rw [hs] at hcv
          have HB13 := Lib.hid (HJ12.out.live.base.trans (hb.mono HJ12.out.live.base.size))
          rw [HZL.out]
          clear hV hb hF HJ12 hs c12
          go_wp2
          go_ret
          exact ⟨by first | rfl | simp, HB13.out⟩
end Go.Proofs.Ytklliflmdckadaa.PJ
