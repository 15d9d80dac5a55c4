/-
  The law JournalWrite walked. No macro, syntax, notation, axiom, sorry.
-/
import Derived.Test.YtklliflmdckadaaDoorPJx10
import Derived.Test.YtklliflmdckadaaDoorPJx12
import Derived.Test.YtklliflmdckadaaDoorNum
namespace Go.Proofs.YtklliflmdckadaaDoor.PJ
open Go.RowKit Go.Proofs.YtklliflmdckadaaDoorW.PrintWords Go.Proofs.YtklliflmdckadaaDoorW.PrintLast Go.Proofs.YtklliflmdckadaaDoor.DevW Go.Proofs.YtklliflmdckadaaDoor.DevC
open Go.Proofs.YtklliflmdckadaaDoor.QJ (fr frs frs_snoc frs_len frs_b8 fr_len fr_b8 make make_long)
open Go.Proofs.YtklliflmdckadaaDoor.Base (B8)
set_option linter.unusedVariables false
set_option linter.unusedSimpArgs false
set_option maxRecDepth 100000
attribute [local irreducible] fr

theorem dappend_len (st : St) (b : List Int) : (dappend st b).length ≤ st.length + 1 := by
  unfold dappend
  rw [onLast_len]
  split
  · rw [dbegin_len]; omega
  · omega
theorem jwrite_len (st : St) (b : List Int) : (jwrite st b).length ≤ st.length + 1 := by
  rcases snoc_cases st with rfl | ⟨r, x, rfl⟩
  · unfold jwrite
    rw [if_neg (by simp [dlast])]
    exact dappend_len _ _
  · unfold jwrite
    split
    · unfold dbegin
      rw [dappend_snoc]
      simp [dsync_len]
    · rw [dappend_snoc]
      simp
theorem abytes_b8 {bs : List Int} (h : B8 bs) (z : Nat) : B8 (abytes bs z) := by
  unfold abytes
  split
  · intro y hy
    have := List.eq_of_mem_replicate hy
    omega
  · exact h
theorem infoStr : (Tryd.prog.info? 9).map (fun i => (i.zero, i.size, i.bytes)) = some (some (.string ByteArray.empty), 1, 16) := by kernel_rfl
theorem recs_bytes {st : St} {all : List (List Int)} {safe : Nat} (h : Jn st all safe) (n : Nat) (hn : all.length ≤ n) : (frs all).length ≤ 606 * n := by
  have := frs_len all (fun c hc => (h.1 c hc).2)
  have h2 : 606 * all.length ≤ 606 * n := Nat.mul_le_mul_left _ hn
  omega
theorem infoInt : (Tryd.prog.info? 3).map (fun i => (i.zero, i.size, i.bytes)) = some (some (.int .i64 0), 1, 8) := by kernel_rfl
/-- A cell of a row of the law's own is written. -/
theorem JL.row {α : Type} {e : TypeId} {enc : α → Value} {w0 w : World} {gj g : Nat} {F : List Nat} {st : St} {nw : Int} {gx n c : Nat} {xs : List α} (h : JL w0 w gj g F st nw) (hr : Row e enc w0 w (gj :: F) (.slice (some ⟨gx, 0, none⟩) n c) xs) (i : Nat) (u : Value) : JL w0 (w.setCell ⟨gx, i, none⟩ u) gj g F st nw :=
  ⟨live_row h.live ⟨hr.1, fun k hk hm => hr.2 k hk (List.mem_cons_of_mem _ hm)⟩ i u,
   (World.cell?_of_block (((Turned.refl [gx] w).setCell (p := ⟨gx, i, none⟩) (.inl (by simp)) u).block _ h.lt (by
      intro hm
      have he := List.mem_singleton.1 hm
      exact hr.2 gx rfl (by rw [← he]; exact List.mem_cons_self ..)))).trans h.cell, h.nin, by rw [World.size_setCell]; exact h.lt⟩
/-- Bytes that stand unless the blocks from lo on, below hi, are turned. -/
def Kept (w0 w3 : World) (lo : Nat) (A : Option Addr) (bs : List Int) : Prop := ∀ w', Below w0.heap.size w0 w' → (∀ k, lo ≤ k → k < w3.heap.size → w'.heap[k]? = w3.heap[k]?) → Kd.C (Kd.int .u8) w' A bs.length bs
theorem C_block {w w' : World} {k : IntKind} {A : Option Addr} {xs : List Int} (h : Kd.C (Kd.int k) w A xs.length xs) (hA : ∀ ad, A = some ad → ad.block < w.heap.size → w'.heap[ad.block]? = w.heap[ad.block]?) : Kd.C (Kd.int k) w' A xs.length xs := by
  refine ⟨h.1, h.2.1, fun hn => ?_⟩
  obtain ⟨ad, ha, hc⟩ := h.2.2 hn
  refine ⟨ad, ha, fun j p hj => ?_⟩
  obtain ⟨c, h1, h2, h3⟩ := hc j p hj
  refine ⟨c, h1, h2, fun i u hu => ?_⟩
  have hcell := h3 i u hu
  have hb : (ad.add (j * (Kd.int k).sz + i)).block = ad.block := by unfold Addr.add; split <;> rfl
  exact (World.cell?_of_block (by rw [hb]; exact hA ad ha (by rw [← hb]; exact World.block_lt_of_cell? w _ hcell))).trans hcell
set_option maxHeartbeats 2000000 in
theorem bytes2_ (w0 w : World) (op : Int) (Ab : Option Addr) (cb : Nat) (bs : List Int) (z : Nat) (n : Int) (hz : z < 256) (hcb : bs.length ≤ cb) (hC : Kd.C (Kd.int .u8) w0 Ab bs.length bs) (hB : Below w0.heap.size w0 w) :
    Calls Tryd.prog 6 #[.agg #[.int .u8 op, .slice Ab bs.length cb, .int .u8 z, .int .i8 n]] w fun e w' => ∃ A c, e = .returned (.slice A (abytes bs z).length c) ∧ (abytes bs z).length ≤ c ∧ Kept w0 w' w.heap.size A (abytes bs z) ∧ Below w.heap.size w w' := by
  have HC := Lib.hid hC
  have HBB := Lib.hid hB
  clear hC hB
  obtain ⟨y, hy⟩ : ∃ y, z % 8 = y := ⟨_, rfl⟩
  have hn : Int.tmod (z : Int) 8 = (y : Int) := by rw [← hy]; rfl
  have hn3 : (z : Int) % 8 = (y : Int) := by omega
  by_cases h7 : y = 7
  · subst h7
    have ha : abytes bs z = List.replicate (100 + 2 * z) 0 := if_pos hy
    rw [ha]
    obtain ⟨m, hm⟩ : ∃ m : Nat, 100 + 2 * z = m := ⟨_, rfl⟩
    have hs : 100 + 2 * (z : Int) = (m : Int) := by omega
    have hm6 : m ≤ 1000 := by omega
    have hmk := print_make (P := Tryd.prog) 32 5 .u8 1 Tryd.underlying32 info5 (by decide) m (by omega)
    rw [hm]
    have HY := Lib.hid hy
    clear hy ha hm
    have hw1 : IntKind.i64.wrap (z : Int) = (z : Int) := by rw [Go.Proofs.YtklliflmdckadaaDoor.DevC.i64_w]; unfold wrap64; omega
    go_enter Tryd.func6, Tryd.ntmps6
    go_wp2
    go_ret
    have hown := own_made' (w.alloc (.cells #[.int .u8 op, .slice Ab bs.length cb, .int .u8 z, .int .i8 n] 35)) w.heap.size 5 .u8 m (by rw [World.alloc]; show w.heap.size ≤ (w.heap.push _).size; rw [Array.size_push]; omega) (by omega)
    have hl : (List.replicate m (0 : Int)).length = m := List.length_replicate
    have hC2 := own_C (by rw [hl] at hown ⊢; exact hown)
    refine ⟨some ⟨(w.alloc (.cells #[.int .u8 op, .slice Ab bs.length cb, .int .u8 z, .int .i8 n] 35)).heap.size, 0, none⟩, m, ?_, by rw [hl]; exact Nat.le_refl _, fun w' h1 h2 => C_block hC2 (fun ad ha hlt => h2 _ (by injection ha with ha; rw [← ha]; show w.heap.size ≤ (w.heap.push _).size; rw [Array.size_push]; omega) hlt), by repeat (first | exact Below.refl _ _ | apply below_alloc)⟩
    rw [hl]
    first | rfl | simp
  · have ha : abytes bs z = bs := if_neg (by omega)
    rw [ha]
    have e7 : ((y : Int) == 7) = false := beq_eq_false_iff_ne.mpr (by omega)
    have HY := Lib.hid hy
    have H7 := Lib.hid h7
    clear hy h7 ha
    go_enter Tryd.func6, Tryd.ntmps6
    go_wp2
    go_ret
    exact ⟨_, _, rfl, hcb, fun w' h1 h2 => Kd.C_below HC.out h1, by repeat (first | exact Below.refl _ _ | apply below_alloc)⟩
theorem y_bound {st : St} {yn : Nat} {y : Int} {all : List (List Int)} {j : Nat} {l0 : List JAct} (hyy : (yn : Int) = y) (hyt : yn ≤ total st) (ht : total st = (frs all).length) (hb : (frs all).length ≤ 606 * j) (hj : j ≤ l0.length) (hl : l0.length ≤ 1048576) : 0 ≤ y ∧ y ≤ 635437056 := by omega
theorem w_pred {n m : Nat} (h : n = m + 1) (hn : n ≤ 1048576) : wrap64 ((n : Int) - 1) = (m : Int) := by unfold wrap64; omega
theorem i_pred {n m : Nat} (h : n = m + 1) : (n : Int) - 1 = (m : Int) := by omega
theorem i_succ {n m : Nat} (h : n = m + 1) : (m : Int) + 1 = (n : Int) := by omega
theorem big_ {y : Int} {n : Nat} (h : 2048 < y + (n : Int) + 6) : 2048 < y + ((n + 6 : Nat) : Int) := by omega
theorem small_ {y : Int} {n : Nat} (h : ¬ 2048 < y + (n : Int) + 6) : ¬ (0 < y ∧ 2048 < y + ((n + 6 : Nat) : Int)) := by omega
theorem set_new (st : St) (v : Int) : (lens st ++ [(0 : Int)]).set st.length v = lens st ++ [v] := by
  have h := lens_len st
  rw [List.set_append_right _ _ (by omega), h, Nat.sub_self]
  rfl
theorem w_succ {n m : Nat} (h : n = m + 1) (hn : n ≤ 1048576) : wrap64 ((m : Int) + 1) = (n : Int) := by unfold wrap64; omega
theorem w_sums {y : Int} {n : Nat} (h0 : 0 ≤ y) (h1 : y ≤ 635437056) (hn : n ≤ 600) : wrap64 (y + (n : Int)) = y + (n : Int) ∧ wrap64 (y + (n : Int) + 6) = y + (n : Int) + 6 ∧ wrap64 (y + ((n : Int) + 6)) = y + ((n : Int) + 6) := by unfold wrap64; omega
def bolterlaw24_JournalWrite.f (l0 : List JAct) : Option Bool := if (∀ a ∈ l0, (∀ y ∈ a.f1, 0 ≤ y ∧ y < 256) ∧ 0 ≤ a.f0 ∧ a.f0 < 256 ∧ 0 ≤ a.f2 ∧ a.f2 < 256) ∧ l0.length ≤ 1048576 then some true else none
set_option maxHeartbeats 2000000 in
theorem bolterlaw24_JournalWrite.calls (A0 : Option Addr) (c0 : Nat) (l0 : List JAct) (r : Bool) (w : World) (hr0 : Kd.C k35 w A0 l0.length l0) (hc0 : l0.length ≤ c0) (hE : Num.ErrT w) (h : bolterlaw24_JournalWrite.f l0 = some r) :
    Calls Tryd.prog 3 #[.slice A0 l0.length c0] w fun e w' => e = .returned (.bool r) ∧ Below w.heap.size w w' := by
  unfold bolterlaw24_JournalWrite.f at h
  by_cases hc : (∀ a ∈ l0, (∀ y ∈ a.f1, 0 ≤ y ∧ y < 256) ∧ 0 ≤ a.f0 ∧ a.f0 < 256 ∧ 0 ≤ a.f2 ∧ a.f2 < 256) ∧ l0.length ≤ 1048576
  case neg => rw [if_neg hc] at h; cases h
  rw [if_pos hc] at h
  obtain rfl := Option.some.inj h
  clear h
  obtain ⟨hal, hlen⟩ := hc
  have HR0 := Lib.hid hr0
  have HAL := Lib.hid hal
  have HE := Lib.hid hE
  clear hr0 hal hE
  go_enter Tryd.func3, Tryd.ntmps3
  go_wp2_with fail
  refine (awake w).mono ?_
  rintro e w1 ⟨rfl, hB⟩
  have HJ0 := Lib.hid (JL.fresh (Live.fresh w w1 hB))
  clear hB
  go_wp2_with fail
  refine (of_ _ _).mono ?_
  rintro e w2 ⟨rfl, rfl⟩
  obtain ⟨gj, hgj⟩ : ∃ gj, (w1.alloc (.cells #[.slice none 0 0, .int .i64 0] 29)).heap.size = gj := ⟨_, rfl⟩
  rw [hgj] at HJ0 ⊢
  obtain ⟨w2, hw2⟩ : ∃ w2, (w1.alloc (.cells #[.slice none 0 0, .int .i64 0] 29)).alloc (.cells #[.pointer (some ⟨w1.heap.size, 0, none⟩)] 46) = w2 := ⟨_, rfl⟩
  rw [hw2] at HJ0 ⊢
  clear hgj hw2
  obtain ⟨g, hg⟩ : ∃ g, w1.heap.size = g := ⟨_, rfl⟩
  rw [hg] at HJ0 ⊢
  obtain ⟨F0, hF0⟩ : ∃ F0, [g] = F0 := ⟨_, rfl⟩
  rw [hF0] at HJ0
  clear hg hF0
  go_wp2_with fail
  go_loopw [4, 5, 23] (fun v3 v4 i wx => ∃ (j : Nat) (all : List (List Int)) (st : St) (nw : Nat), j ≤ l0.length ∧ i = .int .i64 j ∧ Aside0 (Jn st all 0) ∧ all.length ≤ j ∧ st.length ≤ j ∧ nw ≤ j ∧
      Aside0 (∃ F, JL w wx gj g F st nw ∧ Row 9 Value.string w wx (gj :: F) v3 (all.map strOfNums) ∧ Row 3 (Value.int .i64) w wx (gj :: F) v4 (lens st)))
    (fun _ _ i _ => l0.length - (intOf i).toNat)
  case atStart => exact ⟨0, [], [], 0, Nat.zero_le _, rfl, ⟨Jn.nil⟩, Nat.le_refl _, Nat.le_refl _, Nat.le_refl _, ⟨F0, HJ0.out, ⟨World.ownsRow_nil _ _ _ _, fun k hk => by simp [Value.ownBlock] at hk⟩, ⟨World.ownsRow_nil _ _ _ _, fun k hk => by simp [Value.ownBlock] at hk⟩⟩⟩
  case round =>
    obtain ⟨j, all, st, nw, hj, rfl, HJN, hal, hsl, hnw, hrel⟩ := hrel
    obtain ⟨F, hJ, hS, hG⟩ := hrel.out
    clear hrel
    obtain ⟨A3, c3, hv3, hc3⟩ := hS.slice
    obtain ⟨A4, c4, hv4, hc4⟩ := hG.slice
    subst hv3 hv4
    rw [List.length_map] at hc3 hS ⊢
    rw [lens_len] at hc4 hG ⊢
    have HJ := Lib.hid hJ
    have HS := Lib.hid hS
    have HG := Lib.hid hG
    clear hJ hS hG HJ0
    have hbytes := recs_bytes HJN.out j hal
    have htot := HJN.out.total
    by_cases hlt : j < l0.length
    · have hget := List.getElem?_eq_getElem hlt
      obtain ⟨x, hx⟩ : ∃ x, l0[j] = x := ⟨_, rfl⟩
      rw [hx] at hget
      obtain ⟨hB, ho0, ho1, hz0, hz1⟩ := HAL.out x (List.mem_of_getElem? hget)
      obtain ⟨ad, Ax, cx, ha, q0, q1, q2, q3, hcx, hC⟩ := act_at HR0.out j x hget
      obtain ⟨o, hoo⟩ := Int.eq_ofNat_of_zero_le ho0
      obtain ⟨z, hzz⟩ := Int.eq_ofNat_of_zero_le hz0
      rw [hoo] at q0
      rw [hzz] at q2
      have hz6 : z < 256 := by omega
      have p0 := pw_cell_below HJ.out.live.base q0
      have p1 := pw_cell_below HJ.out.live.base q1
      have p2 := pw_cell_below HJ.out.live.base q2
      have p3 := pw_cell_below HJ.out.live.base q3
      subst ha
      rw [add_field _ _ _ (by omega)] at p1 p2 p3
      have hxl : x.f1.length ≤ 9223372036854775807 := hC.2.1
      have HC := Lib.hid hC
      have HB8 := Lib.hid hB
      have HTOT := Lib.hid htot
      clear hget hx hoo hzz q0 q1 q2 q3 hC hB ho0 ho1 hz0 hz1 htot
      have hbA := below_alloc (Below.refl wr.heap.size wr) (Obj.cells #[Value.int IntKind.u8 o, Value.slice Ax x.f1.length cx, Value.int IntKind.u8 z, Value.int IntKind.i8 x.f3] 35)
      go_wp2_with fail
      obtain ⟨g8, hg8⟩ : ∃ g8, wr.heap.size = g8 := ⟨_, rfl⟩
      obtain ⟨wb, hwb⟩ : ∃ wb, wr.alloc (Obj.cells #[Value.int IntKind.u8 o, Value.slice Ax x.f1.length cx, Value.int IntKind.u8 z, Value.int IntKind.i8 x.f3] 35) = wb := ⟨_, rfl⟩
      rw [hwb] at hbA ⊢
      have HJb := Lib.hid (HJ.out.below hbA)
      have HSb := Lib.hid (HS.out.below hbA)
      have HGb := Lib.hid (HG.out.below hbA)
      rw [hg8]
      clear hg8 hwb HJ HS HG p0 p1 p2 p3 hbA
      refine (bytes2_ w wb (o : Int) Ax cx x.f1 z x.f3 hz6 hcx HC.out HJb.out.live.base).mono ?_
      rintro e w3 ⟨Ab, cb, rfl, hcb, hKp, hb⟩
      obtain ⟨bb, hbb⟩ : ∃ bb, abytes x.f1 z = bb := ⟨_, rfl⟩
      have hbB : B8 bb := by rw [← hbb]; exact abytes_b8 HB8.out z
      rw [hbb] at hcb hKp ⊢
      have HJ3 := Lib.hid (HJb.out.below hb)
      have HS3 := Lib.hid (HSb.out.below hb)
      have HG3 := Lib.hid (HGb.out.below hb)
      have HKP := Lib.hid hKp
      have HCb := Lib.hid (hKp w3 HJ3.out.live.base (fun _ _ _ => rfl))
      have HWB := Lib.hid hb.size
      have hgF : ∀ k ∈ F, k < wb.heap.size := fun k hk => (HJb.out.live.foot k hk).2
      have HGF := Lib.hid hgF
      have HGO := Lib.hid (fun k hk => (HGb.out.1.lt k hk).2)
      clear hKp hb hbb HJb HSb HGb hgF
      by_cases h6 : bb.length ≤ 600
      · obtain ⟨km, hkm⟩ := Ev.rounds (make bb h6 hbB)
        have HKM := Lib.hid hkm
        have hfl : (fr bb).length = bb.length + 6 := by rw [fr_len]
        have HFL := Lib.hid hfl
        clear hkm
        go_wp2_with fail
        refine (write_ HJ3.out (by omega) (by omega) (by omega) Ab cb bb (fr bb) hcb HCb.out km HKM.out (by rw [HTOT.out]; omega)).mono ?_
        rintro e w4 ⟨rfl, F4, hJ4, ht4, hF4⟩
        have HJ4 := Lib.hid hJ4
        have HS4 := Lib.hid (HS3.out.nextJ ht4 hF4)
        have HG4 := Lib.hid (HG3.out.nextJ ht4 hF4)
        have HK4 : Hid (∀ k, wb.heap.size ≤ k → k < w3.heap.size → w4.heap[k]? = w3.heap[k]?) := Lib.hid fun k hk hk2 => ht4.block k hk2 (fun hm => by have := HGF.out k hm; omega)
        have HW4 := Lib.hid ht4.size
        have HJN2 := Lib.hid (HJN.out.write bb ⟨hbB, h6⟩)
        have hal2 : (all ++ [bb]).length = all.length + 1 := by simp
        have hsl2 := jwrite_len st (fr bb)
        have HAL2 := Lib.hid hal2
        have HSL2 := Lib.hid hsl2
        have dd : decide ((600 : Int) < (bb.length : Int)) = false := decide_eq_false (by omega)
        have wa : wrap64 ((bb.length : Int) + 6) = (bb.length : Int) + 6 := by unfold wrap64; omega
        have wa2 : IntKind.i64.wrap ((bb.length : Int) + 6) = (bb.length : Int) + 6 := by rw [Go.Proofs.YtklliflmdckadaaDoor.DevC.i64_w]; exact wa
        clear hJ4 ht4 hF4 HJ3 HS3 HG3 HCb hfl hsl2 hal2
        rcases snoc_cases st with rfl | ⟨rs, xl, hst⟩
        · have HLN := Lib.hid (lens_nil (fr bb))
          go_wp2_with ((with_reducible refine gate_builtin (b := .append) (xs := #[.tmp 63, .tmp 64]) rfl ?_); at_builtin; refine print_append_of (w0 := w4) (Value.int .i64) w.heap.size rfl (.tmp 63) (.tmp 64) 31 3 (.int .i64 0) 8 rfl Tryd.underlying31 infoInt rfl (by decide) (.slice A4 ([] : St).length c4) (lens ([] : St)) (0 : Int) rfl rfl rfl HG4.out.1 (Below.refl _ _) HJ4.out.live.base.size (by decide) ?_)
          intro v5 w5 hown hB hg hat
          have hown' : w5.ownsRow w.heap.size 3 1 v5 (lens ([] : St) ++ [(0 : Int)]).length (encs (Value.int .i64) (lens ([] : St) ++ [(0 : Int)])) := by rw [List.length_append]; exact hown
          have HJ5 := Lib.hid (HJ4.out.grown HG4.out hg)
          have HG5 := Lib.hid (Row.grownJ HJ4.out HG4.out hown' hat)
          have HS5 := Lib.hid (Row.over HS4.out HG4.out hg (by decide))
          have HK5 : Hid (∀ k, wb.heap.size ≤ k → k < w3.heap.size → w5.heap[k]? = w3.heap[k]?) := Lib.hid fun k hk hk2 => (hg.block k (by have := HW4.out; omega) (fun e => by have := HGO.out k e.symm; omega)).trans (HK4.out k hk hk2)
          have hW5 := hg.size
          obtain ⟨g5, c5, hv5, hc5, hcell, hfr, hnin, hge, hlt5⟩ := HG5.out.at_ 0 0 (by simp [lens])
          subst hv5
          have hgW : g5 < wb.heap.size ∨ w3.heap.size ≤ g5 := by
            rcases hat with hat | ⟨b, hb, hle⟩
            · exact .inl (HGO.out g5 hat.symm)
            · have hb : some g5 = some b := hb
              obtain rfl := Option.some.inj hb
              exact .inr (by have := HW4.out; omega)
          have HGW := Lib.hid hgW
          have hlv : (lens ([] : St) ++ [(0 : Int)]).length = 0 + 1 := by simp [lens]
          rw [hlv] at hc5 ⊢
          clear hown hown' hB hg hat hgW HJ4 HS4 HG4 hge hlt5
          have hset : Hid ((lens ([] : St) ++ [(0 : Int)]).set 0 ((bb.length : Int) + 6) = lens (jwrite [] (fr bb))) := Lib.hid (by rw [HLN.out, HFL.out]; simp [lens])
          have HC5 := Lib.hid hc5
          have HJ6 := Lib.hid (HJ5.out.row HG5.out 0 (.int .i64 ((bb.length : Int) + 6)))
          have HS6 := Lib.hid (HS5.out.far (HS5.out.apart HG5.out (by decide)) 0 (.int .i64 ((bb.length : Int) + 6)))
          have hG6 := HG5.out.set_ 0 ((bb.length : Int) + 6)
          have HLL : Hid ((jwrite [] (fr bb)).length = 0 + 1) := Lib.hid (by rw [← lens_len, ← hset.out, List.length_set]; exact hlv)
          have hset' := hset.out
          rw [hset', lens_len] at hG6
          have HG6 := Lib.hid hG6
          have hcv := Kd.C_string (P := Tryd.prog) (c := cb) Tryd.underlying32 Tryd.underlying5 Tryd.underlying9 (HKP.out (w5.setCell ⟨g5, 0, none⟩ (.int .i64 ((bb.length : Int) + 6))) HJ6.out.live.base (fun k hk hk2 => (Below.heap_setCell _ _ _ _ (by have := HGW.out; intro he; have he : k = g5 := he; omega)).trans (HK5.out k hk hk2)))
          clear hG6 hset' hset
          go_upto_region 20 with fail
          obtain ⟨w6, hw6⟩ : ∃ w6, w5.setCell ⟨g5, 0, none⟩ (.int .i64 ((bb.length : Int) + 6)) = w6 := ⟨_, rfl⟩
          rw [hw6] at HJ6 HS6 HG6 hcv ⊢
          clear hw6
          go_wp2_with ((with_reducible refine gate_builtin (b := .append) (xs := #[.tmp 77, .tmp 80]) rfl ?_); at_builtin; refine print_append_of (w0 := w6) Value.string w.heap.size rfl (.tmp 77) (.tmp 80) 30 9 (.string ByteArray.empty) 16 rfl Tryd.underlying30 infoStr rfl (by decide) (.slice A3 all.length c3) (all.map strOfNums) (strOfNums bb) rfl rfl rfl HS6.out.1 (Below.refl _ _) HJ6.out.live.base.size (by rw [List.length_map]; omega) ?_)
          intro v7 w7 hown hB hg hat
          have hown' : w7.ownsRow w.heap.size 9 1 v7 ((all ++ [bb]).map strOfNums).length (encs Value.string ((all ++ [bb]).map strOfNums)) := by
            rw [List.map_append]
            simpa using hown
          have HJ7 := Lib.hid (HJ6.out.grown HS6.out hg)
          have HS7 := Lib.hid (Row.grownJ HJ6.out HS6.out hown' hat)
          have HG7 := Lib.hid (Row.over HG6.out HS6.out hg (by decide))
          clear hown hown' hB hg hat hcv HJ6 HS6 HG6
          go_wp2
          go_roundw
          case rel => exact ⟨j + 1, all ++ [bb], jwrite [] (fr bb), nw + 1, by omega, by go_num, ⟨HJN2.out⟩, by have := HAL2.out; omega, by have := HSL2.out; omega, by omega, ⟨F4, HJ7.out, HS7.out, by have h := HG7.out; first | exact h | (rw [show (jwrite [] (fr bb)).length = 0 + 1 from HLL.out] at h; first | exact h | (rw [← HM1.out] at h; exact h))⟩⟩
          case measure => simp [intOf]; omega
        · have hm1 : st.length = rs.length + 1 := by rw [hst, List.length_append]; rfl
          obtain ⟨m, hm⟩ : ∃ m, rs.length = m := ⟨_, rfl⟩
          rw [hm] at hm1
          obtain ⟨yn, hy, hyt⟩ := dlast_le (st := st)
          have hlast : (lens st)[m]? = some (dlast st) := by
            have h := lens_last rs xl
            rw [← hst, hm1] at h
            exact h
          rw [hy] at hlast
          have hL0 : ¬ (0 < dlast st ∧ 2048 < dlast st + (fr bb).length) → lens (jwrite st (fr bb)) = (lens st).set m (dlast st + (fr bb).length) := by
            intro hn
            have h := lens_old rs xl (fr bb) (by rw [← hst]; exact hn)
            rw [← hst, hm] at h
            exact h
          rw [hy, HFL.out] at hL0
          have hL1 := lens_new st (fr bb)
          rw [hy, HFL.out] at hL1
          obtain ⟨y, hyy⟩ : ∃ y : Int, ((yn : Nat) : Int) = y := ⟨_, rfl⟩
          have hy0 : 0 ≤ y ∧ y ≤ 635437056 := y_bound hyy hyt HTOT.out hbytes hj hlen
          rw [hyy] at hlast hL0 hL1
          have hw1 : wrap64 ((st.length : Int) - 1) = (m : Int) := w_pred hm1 (Nat.le_trans hsl (Nat.le_trans hj hlen))
          have hw3 : wrap64 ((m : Int) + 1) = (st.length : Int) := w_succ hm1 (Nat.le_trans hsl (Nat.le_trans hj hlen))
          have q1 : (0 : Int) ≤ (m : Int) := Int.natCast_nonneg m
          have q2 : (m : Int) < (st.length : Int) := by rw [hm1]; exact Int.ofNat_lt.2 (Nat.lt_succ_self m)
          have HSU := Lib.hid (w_sums hy0.1 hy0.2 h6)
          obtain ⟨g4, cc4, hv4, hc4', hcell4, hfr4, hnin4, hge4, hlt4⟩ := HG4.out.at_ m y hlast
          injection hv4 with hv4 hv4l hv4c
          subst hv4
          subst hv4c
          have HLA := Lib.hid hlast
          have HM1 := Lib.hid hm1
          have HQ := Lib.hid (And.intro hy0 (And.intro hw1 hw3))
          have HL0 := Lib.hid hL0
          have HL1 := Lib.hid hL1
          have HGO4 := Lib.hid (HGO.out g4 rfl)
          have HC4 := Lib.hid hc4
          clear hst hm hm1 hy hyt hlast hL0 hL1 hyy hv4l hge4 hlt4 hc4' hnin4 hw1 hw3 hy0
          go_upto_region 15 with fail
          try rw [i_pred HM1.out]
          try rw [i_pred HM1.out]
          by_cases hyp : 0 < y
          · have d2 : decide (0 < y) = true := decide_eq_true hyp
            by_cases hbig : 2048 < y + (bb.length : Int) + 6
            · have d3 : decide (2048 < y + (bb.length : Int) + 6) = true := decide_eq_true hbig
              have hw3 : wrap64 ((m : Int) + 1) = (st.length : Int) := HQ.out.2.2
              have HP := Lib.hid (And.intro hyp hbig)
              clear hyp hbig
              obtain ⟨s1, s2, s3⟩ := HSU.out
              go_wp2_with ((with_reducible refine gate_builtin (b := .append) (xs := #[.tmp 63, .tmp 64]) rfl ?_); at_builtin; refine print_append_of (w0 := w4) (Value.int .i64) w.heap.size rfl (.tmp 63) (.tmp 64) 31 3 (.int .i64 0) 8 rfl Tryd.underlying31 infoInt rfl (by decide) (.slice (some ⟨g4, 0, none⟩) st.length c4) (lens st) (0 : Int) rfl rfl rfl HG4.out.1 (Below.refl _ _) HJ4.out.live.base.size (by clear s1 s2 s3 hw3 wa wa2; rw [lens_len]; omega) ?_)
              clear s1 s2 s3 hw3
              intro v5 w5 hown hB hg hat
              have hown' : w5.ownsRow w.heap.size 3 1 v5 (lens st ++ [(0 : Int)]).length (encs (Value.int .i64) (lens st ++ [(0 : Int)])) := by rw [List.length_append]; exact hown
              have HJ5 := Lib.hid (HJ4.out.grown HG4.out hg)
              have HG5 := Lib.hid (Row.grownJ HJ4.out HG4.out hown' hat)
              have HS5 := Lib.hid (Row.over HS4.out HG4.out hg (by decide))
              have HK5 : Hid (∀ k, wb.heap.size ≤ k → k < w3.heap.size → w5.heap[k]? = w3.heap[k]?) := Lib.hid fun k hk hk2 => (hg.block k (by have := HW4.out; omega) (fun e => by have := HGO.out k e.symm; omega)).trans (HK4.out k hk hk2)
              have hW5 := hg.size
              obtain ⟨g5, c5, hv5, hc5, hcell, hfr, hnin, hge, hlt5⟩ := HG5.out.at_ st.length 0 (by simp [lens])
              subst hv5
              have hgW : g5 < wb.heap.size ∨ w3.heap.size ≤ g5 := by
                rcases hat with hat | ⟨b, hb, hle⟩
                · exact .inl (HGO.out g5 hat.symm)
                · have hb : some g5 = some b := hb
                  obtain rfl := Option.some.inj hb
                  exact .inr (by have := HW4.out; omega)
              have HGW := Lib.hid hgW
              have hlv : (lens st ++ [(0 : Int)]).length = st.length + 1 := by simp [lens]
              rw [hlv] at hc5 ⊢
              clear hown hown' hB hg hat hgW HJ4 HS4 HG4 hge hlt5
              go_upto_region 19 with fail
              rw [i_succ HM1.out]
              have hset : Hid ((lens st ++ [(0 : Int)]).set st.length ((bb.length : Int) + 6) = lens (jwrite st (fr bb))) := Lib.hid (by rw [HL1.out HP.out.1 (big_ HP.out.2), set_new]; rfl)
              have HC5 := Lib.hid hc5
              have HJ6 := Lib.hid (HJ5.out.row HG5.out st.length (.int .i64 ((bb.length : Int) + 6)))
              have HS6 := Lib.hid (HS5.out.far (HS5.out.apart HG5.out (by decide)) st.length (.int .i64 ((bb.length : Int) + 6)))
              have hG6 := HG5.out.set_ st.length ((bb.length : Int) + 6)
              have HLL : Hid ((jwrite st (fr bb)).length = st.length + 1) := Lib.hid (by rw [← lens_len, ← hset.out, List.length_set]; exact hlv)
              have hset' := hset.out
              rw [hset', lens_len] at hG6
              have HG6 := Lib.hid hG6
              have hcv := Kd.C_string (P := Tryd.prog) (c := cb) Tryd.underlying32 Tryd.underlying5 Tryd.underlying9 (HKP.out (w5.setCell ⟨g5, st.length, none⟩ (.int .i64 ((bb.length : Int) + 6))) HJ6.out.live.base (fun k hk hk2 => (Below.heap_setCell _ _ _ _ (by have := HGW.out; intro he; have he : k = g5 := he; omega)).trans (HK5.out k hk hk2)))
              clear hG6 hset' hset
              go_upto_region 20 with fail
              obtain ⟨w6, hw6⟩ : ∃ w6, w5.setCell ⟨g5, st.length, none⟩ (.int .i64 ((bb.length : Int) + 6)) = w6 := ⟨_, rfl⟩
              rw [hw6] at HJ6 HS6 HG6 hcv ⊢
              clear hw6
              go_wp2_with ((with_reducible refine gate_builtin (b := .append) (xs := #[.tmp 77, .tmp 80]) rfl ?_); at_builtin; refine print_append_of (w0 := w6) Value.string w.heap.size rfl (.tmp 77) (.tmp 80) 30 9 (.string ByteArray.empty) 16 rfl Tryd.underlying30 infoStr rfl (by decide) (.slice A3 all.length c3) (all.map strOfNums) (strOfNums bb) rfl rfl rfl HS6.out.1 (Below.refl _ _) HJ6.out.live.base.size (by rw [List.length_map]; omega) ?_)
              intro v7 w7 hown hB hg hat
              have hown' : w7.ownsRow w.heap.size 9 1 v7 ((all ++ [bb]).map strOfNums).length (encs Value.string ((all ++ [bb]).map strOfNums)) := by
                rw [List.map_append]
                simpa using hown
              have HJ7 := Lib.hid (HJ6.out.grown HS6.out hg)
              have HS7 := Lib.hid (Row.grownJ HJ6.out HS6.out hown' hat)
              have HG7 := Lib.hid (Row.over HG6.out HS6.out hg (by decide))
              clear hown hown' hB hg hat hcv HJ6 HS6 HG6
              go_wp2
              go_roundw
              case rel => exact ⟨j + 1, all ++ [bb], jwrite st (fr bb), nw + 1, by omega, by go_num, ⟨HJN2.out⟩, by have := HAL2.out; omega, by have := HSL2.out; omega, by omega, ⟨F4, HJ7.out, HS7.out, by have h := HG7.out; first | exact h | (rw [show (jwrite st (fr bb)).length = st.length + 1 from HLL.out] at h; first | exact h | (rw [← HM1.out] at h; exact h))⟩⟩
              case measure => simp [intOf]; omega
            · have d3 : decide (2048 < y + (bb.length : Int) + 6) = false := decide_eq_false hbig
              have HP := Lib.hid hbig
              clear hyp hbig
              have HJ5 := HJ4
              have HS5 := HS4
              have HG5 : Hid (Row 3 (Value.int .i64) w w4 (gj :: F4) (.slice (some ⟨g4, 0, none⟩) (lens st).length c4) (lens st)) := Lib.hid (by rw [lens_len]; exact HG4.out)
              have HK5 := HK4
              have HGW : Hid (g4 < wb.heap.size ∨ w3.heap.size ≤ g4) := Lib.hid (.inl HGO4.out)
              obtain ⟨g5, hg5⟩ : ∃ g5, g4 = g5 := ⟨_, rfl⟩
              subst hg5
              have hc5 := HC4.out
              have hlv : (lens st).length = m + 1 := by rw [lens_len]; exact HM1.out
              have hset : Hid ((lens st).set m (y + ((bb.length : Int) + 6)) = lens (jwrite st (fr bb))) := Lib.hid (by rw [HL0.out (small_ HP.out)]; congr 1)
              have HC5 := Lib.hid hc5
              have HJ6 := Lib.hid (HJ5.out.row HG5.out m (.int .i64 (y + ((bb.length : Int) + 6))))
              have HS6 := Lib.hid (HS5.out.far (HS5.out.apart HG5.out (by decide)) m (.int .i64 (y + ((bb.length : Int) + 6))))
              have hG6 := HG5.out.set_ m (y + ((bb.length : Int) + 6))
              have HLL : Hid ((jwrite st (fr bb)).length = m + 1) := Lib.hid (by rw [← lens_len, ← hset.out, List.length_set]; exact hlv)
              have hset' := hset.out
              rw [hset', lens_len] at hG6
              have HG6 := Lib.hid hG6
              have hcv := Kd.C_string (P := Tryd.prog) (c := cb) Tryd.underlying32 Tryd.underlying5 Tryd.underlying9 (HKP.out (w4.setCell ⟨g4, m, none⟩ (.int .i64 (y + ((bb.length : Int) + 6)))) HJ6.out.live.base (fun k hk hk2 => (Below.heap_setCell _ _ _ _ (by have := HGW.out; intro he; have he : k = g4 := he; omega)).trans (HK5.out k hk hk2)))
              clear hG6 hset' hset
              obtain ⟨s1, s2, s3⟩ := HSU.out; go_upto_region 20 with fail
              clear s1 s2 s3; obtain ⟨w6, hw6⟩ : ∃ w6, w4.setCell ⟨g4, m, none⟩ (.int .i64 (y + ((bb.length : Int) + 6))) = w6 := ⟨_, rfl⟩
              rw [hw6] at HJ6 HS6 HG6 hcv ⊢
              clear hw6
              go_wp2_with ((with_reducible refine gate_builtin (b := .append) (xs := #[.tmp 77, .tmp 80]) rfl ?_); at_builtin; refine print_append_of (w0 := w6) Value.string w.heap.size rfl (.tmp 77) (.tmp 80) 30 9 (.string ByteArray.empty) 16 rfl Tryd.underlying30 infoStr rfl (by decide) (.slice A3 all.length c3) (all.map strOfNums) (strOfNums bb) rfl rfl rfl HS6.out.1 (Below.refl _ _) HJ6.out.live.base.size (by rw [List.length_map]; omega) ?_)
              intro v7 w7 hown hB hg hat
              have hown' : w7.ownsRow w.heap.size 9 1 v7 ((all ++ [bb]).map strOfNums).length (encs Value.string ((all ++ [bb]).map strOfNums)) := by
                rw [List.map_append]
                simpa using hown
              have HJ7 := Lib.hid (HJ6.out.grown HS6.out hg)
              have HS7 := Lib.hid (Row.grownJ HJ6.out HS6.out hown' hat)
              have HG7 := Lib.hid (Row.over HG6.out HS6.out hg (by decide))
              clear hown hown' hB hg hat hcv HJ6 HS6 HG6
              go_wp2
              go_roundw
              case rel => exact ⟨j + 1, all ++ [bb], jwrite st (fr bb), nw + 1, by omega, by go_num, ⟨HJN2.out⟩, by have := HAL2.out; omega, by have := HSL2.out; omega, by omega, ⟨F4, HJ7.out, HS7.out, by have h := HG7.out; first | exact h | (rw [show (jwrite st (fr bb)).length = m + 1 from HLL.out] at h; first | exact h | (rw [← HM1.out] at h; exact h))⟩⟩
              case measure => simp [intOf]; omega
          · have d2 : decide (0 < y) = false := decide_eq_false hyp
            have HP := Lib.hid hyp
            clear hyp
            have HJ5 := HJ4
            have HS5 := HS4
            have HG5 : Hid (Row 3 (Value.int .i64) w w4 (gj :: F4) (.slice (some ⟨g4, 0, none⟩) (lens st).length c4) (lens st)) := Lib.hid (by rw [lens_len]; exact HG4.out)
            have HK5 := HK4
            have HGW : Hid (g4 < wb.heap.size ∨ w3.heap.size ≤ g4) := Lib.hid (.inl HGO4.out)
            obtain ⟨g5, hg5⟩ : ∃ g5, g4 = g5 := ⟨_, rfl⟩
            subst hg5
            have hc5 := HC4.out
            have hlv : (lens st).length = m + 1 := by rw [lens_len]; exact HM1.out
            have hset : Hid ((lens st).set m (y + ((bb.length : Int) + 6)) = lens (jwrite st (fr bb))) := Lib.hid (by rw [HL0.out (fun h => HP.out h.1)]; congr 1)
            have HC5 := Lib.hid hc5
            have HJ6 := Lib.hid (HJ5.out.row HG5.out m (.int .i64 (y + ((bb.length : Int) + 6))))
            have HS6 := Lib.hid (HS5.out.far (HS5.out.apart HG5.out (by decide)) m (.int .i64 (y + ((bb.length : Int) + 6))))
            have hG6 := HG5.out.set_ m (y + ((bb.length : Int) + 6))
            have HLL : Hid ((jwrite st (fr bb)).length = m + 1) := Lib.hid (by rw [← lens_len, ← hset.out, List.length_set]; exact hlv)
            have hset' := hset.out
            rw [hset', lens_len] at hG6
            have HG6 := Lib.hid hG6
            have hcv := Kd.C_string (P := Tryd.prog) (c := cb) Tryd.underlying32 Tryd.underlying5 Tryd.underlying9 (HKP.out (w4.setCell ⟨g4, m, none⟩ (.int .i64 (y + ((bb.length : Int) + 6)))) HJ6.out.live.base (fun k hk hk2 => (Below.heap_setCell _ _ _ _ (by have := HGW.out; intro he; have he : k = g4 := he; omega)).trans (HK5.out k hk hk2)))
            clear hG6 hset' hset
            obtain ⟨s1, s2, s3⟩ := HSU.out; go_upto_region 20 with fail
            clear s1 s2 s3; obtain ⟨w6, hw6⟩ : ∃ w6, w4.setCell ⟨g4, m, none⟩ (.int .i64 (y + ((bb.length : Int) + 6))) = w6 := ⟨_, rfl⟩
            rw [hw6] at HJ6 HS6 HG6 hcv ⊢
            clear hw6
            go_wp2_with ((with_reducible refine gate_builtin (b := .append) (xs := #[.tmp 77, .tmp 80]) rfl ?_); at_builtin; refine print_append_of (w0 := w6) Value.string w.heap.size rfl (.tmp 77) (.tmp 80) 30 9 (.string ByteArray.empty) 16 rfl Tryd.underlying30 infoStr rfl (by decide) (.slice A3 all.length c3) (all.map strOfNums) (strOfNums bb) rfl rfl rfl HS6.out.1 (Below.refl _ _) HJ6.out.live.base.size (by rw [List.length_map]; omega) ?_)
            intro v7 w7 hown hB hg hat
            have hown' : w7.ownsRow w.heap.size 9 1 v7 ((all ++ [bb]).map strOfNums).length (encs Value.string ((all ++ [bb]).map strOfNums)) := by
              rw [List.map_append]
              simpa using hown
            have HJ7 := Lib.hid (HJ6.out.grown HS6.out hg)
            have HS7 := Lib.hid (Row.grownJ HJ6.out HS6.out hown' hat)
            have HG7 := Lib.hid (Row.over HG6.out HS6.out hg (by decide))
            clear hown hown' hB hg hat hcv HJ6 HS6 HG6
            go_wp2
            go_roundw
            case rel => exact ⟨j + 1, all ++ [bb], jwrite st (fr bb), nw + 1, by omega, by go_num, ⟨HJN2.out⟩, by have := HAL2.out; omega, by have := HSL2.out; omega, by omega, ⟨F4, HJ7.out, HS7.out, by have h := HG7.out; first | exact h | (rw [show (jwrite st (fr bb)).length = m + 1 from HLL.out] at h; first | exact h | (rw [← HM1.out] at h; exact h))⟩⟩
            case measure => simp [intOf]; omega
      · have dd : decide ((600 : Int) < (bb.length : Int)) = true := decide_eq_true (by omega)
        go_wp2_with fail
        refine (write_no HJ3.out Ab cb bb [] hcb HCb.out 0 (make_long bb (by omega) 0)).mono ?_
        rintro e w4 ⟨rfl, hb⟩
        have HJ4 := Lib.hid (HJ3.out.below hb)
        have HS4 := Lib.hid (HS3.out.below hb)
        have HG4 := Lib.hid (HG3.out.below hb)
        clear hb HJ3 HS3 HG3 HCb
        go_wp2_with fail
        refine (Num.number_ 9 w4 (HE.out.below HJ4.out.live.base)).mono ?_
        rintro e w5 ⟨rfl, hb⟩
        have HJ5 := Lib.hid (HJ4.out.below hb)
        have HS5 := Lib.hid (HS4.out.below hb)
        have HG5 := Lib.hid (HG4.out.below hb)
        clear hb HJ4 HS4 HG4
        go_wp2
        go_roundw
        case rel => exact ⟨j + 1, all, st, nw, by omega, by go_num, HJN, by omega, by omega, by omega, ⟨F, HJ5.out, by have h := HS5.out; exact h, by have h := HG5.out; exact h⟩⟩
        case measure => simp [intOf]; omega
    · have hjj : j = l0.length := by omega
      have halm : all.length ≤ 1048576 := by omega
      have hstm : st.length ≤ 1048576 := by omega
      have hfa : (frs all).length ≤ 635437056 := by omega
      have htt : total st ≤ 635437056 := by omega
      have hread := HJN.out.read (by omega) (by omega)
      have hdl : (dsegs st).length = st.length := dsegs_len st
      have HRD := Lib.hid hread
      have HDL := Lib.hid hdl
      have cJ := HJ.out.cell
      clear hread hdl hlt hbytes htot hal hsl hnw
      go_wp2_with fail
      refine (read_ HJ.out.live (by omega) (by intro b s hm; have h2 := total_mem hm; omega) tellA HRD.out.1 (by rw [HRD.out.2.1]; omega)).mono ?_
      rintro e w4 ⟨v, rfl, hV, hb⟩
      rw [HRD.out.2.1] at hV
      rw [HRD.out.2.2]
      obtain ⟨At, ct, hv⟩ := Kd.V_slice hV
      subst hv
      have HV4 := Lib.hid hV
      have HJ4 := Lib.hid (HJ.out.below hb)
      have HS4 := Lib.hid (HS.out.below hb)
      have HG4 := Lib.hid (HG.out.below hb)
      have c4' := HJ4.out.cell
      clear hV hb HJ HS HG cJ
      go_wp2_with fail
      refine (live_segments HJ4.out.live (by omega) (by intro b s hm; have h2 := total_mem hm; omega)).mono ?_
      rintro e w5 ⟨v, rfl, hR, hB⟩
      obtain ⟨As, cs, hv⟩ := Kd.R_slice hR
      subst hv
      have HV5 := Lib.hid (Kd.V_below HV4.out hB)
      have HR5 := Lib.hid (Kd.V_bound (Kd.R_V (base' := 0) hR))
      have HJ5 := Lib.hid (HJ4.out.below hB)
      have HS5 := Lib.hid (HS4.out.below hB)
      have HG5 := Lib.hid (HG4.out.below hB)
      rw [HDL.out]
      clear hR hB HJ4 HS4 HG4 HV4 c4'
      go_wp2_with fail
      go_loopw [14, 114] (fun v14 i wx => ∃ k : Nat, k ≤ all.length ∧ i = .int .i64 k ∧ Aside0 (Drawn0 w5 wx))
        (fun _ i _ => all.length - (intOf i).toNat)
      case atStart => exact ⟨0, Nat.zero_le _, rfl, ⟨Drawn0.refl _⟩⟩
      case round =>
        obtain ⟨k, hk, rfl, HD⟩ := hrel
        by_cases hkl : k < all.length
        · have hget := List.getElem?_eq_getElem hkl
          obtain ⟨x, hx⟩ : ∃ x, all[k] = x := ⟨_, rfl⟩
          rw [hx] at hget
          obtain ⟨ad, Ax, cx, hAr, hcell, hcx, hF⟩ := V_row (Kd.V_below HV5.out HD.out.below) k x hget
          subst hAr
          have hg2 : (all.map strOfNums)[k]? = some (strOfNums x) := by rw [List.getElem?_map, hget]; rfl
          obtain ⟨g6, c6', hv6, hc6', hcell6, _⟩ := (HS5.out.below HD.out.below).at_ k (strOfNums x) hg2
          injection hv6 with hv6 hl6 hc6e
          subst hv6
          have hcq := fun n => Kd.C_string (P := Tryd.prog) (c := cx) Tryd.underlying32 Tryd.underlying5 Tryd.underlying9 (Kd.C_drewN (Kd.F_now hF) n)
          clear hget hx hF hg2 hl6 hc6e hc6'
          go_wp2_with fail
          go_quiet (fail)
          go_wp2
          go_roundw
          case rel => exact ⟨k + 1, by omega, by go_num, ⟨HD.out.step nq⟩⟩
          case measure => simp [intOf]; omega
        · have hke : k = all.length := by omega
          have HD1 := Lib.hid HD.out
          clear HD hkl
          go_wp2_with fail
          go_loopw [15, 130] (fun v15 i wx => ∃ q : Nat, q ≤ st.length ∧ i = .int .i64 q ∧ Aside0 (Drawn0 w5 wx))
            (fun _ i _ => st.length - (intOf i).toNat)
          case atStart => exact ⟨0, Nat.zero_le _, rfl, ⟨HD1.out⟩⟩
          case round =>
            obtain ⟨q, hq, rfl, HD⟩ := hrel
            by_cases hql : q < st.length
            · have hql2 : q < (dsegs st).length := by rw [HDL.out]; exact hql
              have hget := List.getElem?_eq_getElem hql2
              obtain ⟨x, hx⟩ : ∃ x, (dsegs st)[q] = x := ⟨_, rfl⟩
              rw [hx] at hget
              obtain ⟨ad, Ax, cx, hAr, hcell, hcx, hF⟩ := V_row (Kd.V_below HR5.out HD.out.below) q x hget
              subst hAr
              have hg2 : (lens st)[q]? = some (x.length : Int) := by rw [lens_segs, List.getElem?_map, hget]; rfl
              obtain ⟨g6, c6', hv6, hc6', hcell6, _⟩ := (HG5.out.below HD.out.below).at_ q (x.length : Int) hg2
              injection hv6 with hv6 hl6 hc6e
              subst hv6
              clear hget hx hF hg2 hl6 hc6e hc6' hql2
              go_wp2_with fail
              go_quiet (fail)
              go_wp2
              go_roundw
              case rel => exact ⟨q + 1, by omega, by go_num, ⟨HD.out.step nq⟩⟩
              case measure => simp [intOf]; omega
            · have hqe : q = st.length := by omega
              have HB9 := Lib.hid (HJ5.out.live.base.trans (HD.out.below.mono HJ5.out.live.base.size))
              go_wp2
              go_ret
              exact ⟨rfl, HB9.out⟩
end Go.Proofs.YtklliflmdckadaaDoor.PJ
