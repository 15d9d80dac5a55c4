-- written by a program of this session out of the loaded program (its tools: wip/tools)
import Derived.Test.YtdmpmcmpkmldnaaPPx0
import Derived.Test.YtdmpmcmpkmldnaaPPx1
namespace Go.Proofs.Ytdmpmcmpkmldnaa.PP
open Go.RowKit Go.Proofs.YtdmpmcmpkmldnaaW.PrintWords Go.Proofs.YtdmpmcmpkmldnaaW.PrintLast Go.Proofs.YtdmpmcmpkmldnaaW.PrintMore
attribute [local go_sem] max2_int min2_int max_two min_two max_three min_three max_four min_four   -- for this text's walks alone
set_option linter.unusedVariables false
set_option linter.unusedSimpArgs false

/-! ### num_Put16: function 20 -/
def num_Put16.l0 : Nat → List Int → List Int → Int → Int → Option (List Int)
  | 0, _, _, _, _ => none
  | k + 1, x5, x10, x11, x12 => if x12 < x11 then (if 0 ≤ x12 then (if x12 < (x10.length : Int) then ((some (([((rd x10 x12) / 256) % 256, (rd x10 x12) % 256] : List Int) : List Int)).bind fun y113 => (if x5.length + y113.length < 140737488355328 then (num_Put16.l0 k (x5 ++ y113) x10 x11 (wrap64 (x12 + 1))) else (none))) else (none)) else (none)) else (some x5)
def num_Put16.f (k : Nat) (l0 : List Int) (l1 : List Int) : Option (List Int) := if ([] : List Int).length + l0.length < 140737488355328 then (num_Put16.l0 k (([] : List Int) ++ l0) l1 (l1.length : Int) 0) else (none)
theorem num_Put16.mono_l : ∀ k, (∀ y0 y1 y2 y3, LeO (num_Put16.l0 k y0 y1 y2 y3) (num_Put16.l0 (k + 1) y0 y1 y2 y3))
  | 0 => fun _ _ _ _ r h => by simp [num_Put16.l0] at h
  | k + 1 => by
    have ih0 := num_Put16.mono_l k
    · intro y0 y1 y2 y3
      unfold num_Put16.l0
      repeat' first
      | (with_reducible exact ih0 _ _ _ _)
      | (with_reducible exact LeO.refl _)
      | (with_reducible exact LeO.none _)
      | (with_reducible refine LeO.ite ?_ ?_)
      | (with_reducible refine LeO.bind ?_ (fun _ => ?_))
      | exact ih0 _ _ _ _
      | exact LeO.none _
      | refine LeO.ite ?_ ?_
      | refine LeO.bind ?_ (fun _ => ?_)
theorem num_Put16.mono : ∀ a0 a1 k, LeO (num_Put16.f k a0 a1) (num_Put16.f (k + 1) a0 a1) := by
  intro a0 a1 k
  have ih0 := num_Put16.mono_l k
  unfold num_Put16.f
  repeat' first
      | (with_reducible exact ih0 _ _ _ _)
      | (with_reducible exact LeO.refl _)
      | (with_reducible exact LeO.none _)
      | (with_reducible refine LeO.ite ?_ ?_)
      | (with_reducible refine LeO.bind ?_ (fun _ => ?_))
      | exact ih0 _ _ _ _
      | exact LeO.none _
      | refine LeO.ite ?_ ?_
      | refine LeO.bind ?_ (fun _ => ?_)
set_option maxHeartbeats 8000000 in
set_option maxRecDepth 100000 in
theorem num_Put16.calls (k : Nat) (A0 : Option Addr) (c0 : Nat) (l0 : List Int) (A1 : Option Addr) (c1 : Nat) (l1 : List Int) (r : List Int) (w : World) (hr0 : Kd.C (Kd.int .u8) w A0 l0.length l0) (hc0 : l0.length ≤ c0) (hr1 : Kd.C (Kd.int .u16) w A1 l1.length l1) (hc1 : l1.length ≤ c1) (h : num_Put16.f k l0 l1 = some r) :
    Calls Try.prog 20 #[.slice A0 l0.length c0, .slice A1 l1.length c1] w fun e w' => ∃ v0_ : Value, e = .returned (v0_) ∧ Kd.R (Kd.int .u8) 5 w' w.heap.size (fun _ => True) v0_ r ∧ Below w.heap.size w w' := by
  have HR0 := Aside0.mk hr0
  have HC0 := Aside0.mk hc0
  clear hr0 hc0
  have HR1 := Aside0.mk hr1
  have HC1 := Aside0.mk hc1
  clear hr1 hc1
  have HB := Aside0.mk (Below.refl w.heap.size w)
  have H : (if ([] : List Int).length + l0.length < 140737488355328 then (num_Put16.l0 k (([] : List Int) ++ l0) l1 (l1.length : Int) 0) else (none)) = some r := h
  clear h
  by_cases c3 : ([] : List Int).length + l0.length < 140737488355328
  · rw [if_pos c3] at H
    have LMc3 := Aside0.mk c3
    clear c3
    obtain ⟨y109, hy109⟩ : ∃ y_ : List Int, y_ = (([] : List Int) ++ l0) := ⟨_, rfl⟩
    replace H : (num_Put16.l0 k y109 l1 (l1.length : Int) 0) = some r := by first | (rw [hy109]; with_reducible exact H) | (have H2_ := (Option.bind_some _ _).symm.trans H; rw [hy109]; with_reducible exact H2_) | (have H2_ := (Option.bind_some _ _).symm.trans H; with_reducible exact H2_) | with_reducible exact H | (rw [hy109]; exact H) | exact H
    have Ny109 := Aside0.mk hy109
    clear hy109
    have H' := Aside0.mk H
    clear H
    go_enter Try.func20, Try.ntmps20
    go_wp2_with (first | ((with_reducible refine gate_builtin (b := .append) (xs := #[.const (.slice none 0 0), .tmp 8]) rfl ?_); at_builtin; refine Kd.R_append_rows (Kd.int .u8) (w0 := w) w.heap.size rfl (.const (.slice none 0 0)) (.tmp 8) 30 5 (.int .u8 0) 1 rfl Try.underlying30 info5 rfl (by decide) (by omega) (.slice none 0 0) ([] : List Int) l0 _ _ _ (fun _ => True) (fun _ => False) rfl rfl ?aO ?aR (fun _ _ h => h) (fun _ h => h.elim) ?aF ?aB ?aS ?aL ?_; (case aR => repeat (first | exact HR0.out | (with_reducible refine Kd.C_alloc ?_ _) | (with_reducible refine Kd.C_drewN ?_ _) | (with_reducible refine Kd.C_drew ?_))); (case aB => exact (by repeat (first | (with_reducible first | exact HB.out | apply below_alloc | apply pw_below_drewN | apply below_drew1) | exact HB.out))); (case aF => exact (fun _ _ => trivial)); (case aO => exact ((Kd.R_nil _ _ _ _ (fun _ => True)))); (case aS => exact (below_size (by repeat (first | (with_reducible first | exact HB.out | apply below_alloc | apply pw_below_drewN | apply below_drew1) | exact HB.out)))); (case aL => have := LMc3.out; omega); intro v110 w4 ho hb hg hat; rw [← Ny109.out] at ho; have n0_ := Aside0.mk (hb); have n1_ := Aside0.mk (ho); clear HB; have HB := n0_; have HO111 := n1_; clear n0_ n1_; clear ho hb hg hat))
    go_loopg [5, 12] k (fun kq v5 v12 w' => ∃ (x5_1 : List Int) (x12_1 : Int), v12 = .int .i64 x12_1 ∧ Aside0 (num_Put16.l0 kq x5_1 l1 (l1.length : Int) x12_1 = some r) ∧ Aside0 (kq ≤ k) ∧ Aside0 (Kd.R (Kd.int .u8) 5 w' w.heap.size (fun _ => True) v5 x5_1) ∧ Aside0 (Below w.heap.size w w'))
    case atStart => exact ⟨(y109), (0), (by first | rfl | (simp; done) | (simp [*]; done)), H', ⟨Nat.le_refl _⟩, ⟨by (with_reducible repeat (first | apply Kd.R_alloc | apply Kd.R_drewN | apply Kd.R_drew)); exact HO111.out⟩, ⟨by repeat (first | (with_reducible first | exact HB.out | apply below_alloc | apply pw_below_drewN | apply below_drew1) | exact HB.out)⟩⟩
    case round =>
      clear H'
      try clear c1
      try clear c2
      try clear p2
      try clear c3
      obtain ⟨x5_1, x12_1, rfl, HA, HK1, HO_5, HB⟩ := hrel
      cases gk with
      | zero => exact absurd HA.out (by simp [num_Put16.l0])
      | succ k1 =>
        have H := HA.out
        clear HA
        simp only [num_Put16.l0] at H
        by_cases c5 : x12_1 < (l1.length : Int)
        · rw [if_pos c5] at H
          have c5b0 : decide (x12_1 < (l1.length : Int)) = true := decide_eq_true c5
          clear c5
          by_cases c6 : 0 ≤ x12_1
          · rw [if_pos c6] at H
            have c6b0 : decide (0 ≤ x12_1) = true := decide_eq_true c6
            clear c6
            by_cases c7 : x12_1 < (l1.length : Int)
            · rw [if_pos c7] at H
              have c7b0 : decide (x12_1 < (l1.length : Int)) = true := decide_eq_true c7
              clear c7
              obtain ⟨y113, hy113⟩ : ∃ y_ : List Int, y_ = (([((rd l1 x12_1) / 256) % 256, (rd l1 x12_1) % 256] : List Int)) := ⟨_, rfl⟩
              replace H : (if x5_1.length + y113.length < 140737488355328 then (num_Put16.l0 k1 (x5_1 ++ y113) l1 (l1.length : Int) (wrap64 (x12_1 + 1))) else (none)) = some r := by first | (rw [hy113]; with_reducible exact H) | (have H2_ := (Option.bind_some _ _).symm.trans H; rw [hy113]; with_reducible exact H2_) | (have H2_ := (Option.bind_some _ _).symm.trans H; with_reducible exact H2_) | with_reducible exact H | (rw [hy113]; exact H) | exact H
              have Ny113 := Aside0.mk hy113
              clear hy113
              by_cases c8 : x5_1.length + y113.length < 140737488355328
              · rw [if_pos c8] at H
                have LMc8 := Aside0.mk c8
                clear c8
                obtain ⟨y116, hy116⟩ : ∃ y_ : List Int, y_ = (x5_1 ++ y113) := ⟨_, rfl⟩
                replace H : (num_Put16.l0 k1 y116 l1 (l1.length : Int) (wrap64 (x12_1 + 1))) = some r := by first | (rw [hy116]; with_reducible exact H) | (have H2_ := (Option.bind_some _ _).symm.trans H; rw [hy116]; with_reducible exact H2_) | (have H2_ := (Option.bind_some _ _).symm.trans H; with_reducible exact H2_) | with_reducible exact H | (rw [hy116]; exact H) | exact H
                have Ny116 := Aside0.mk hy116
                clear hy116
                have H' := Aside0.mk H
                clear H
                have p112 : 0 ≤ (x12_1 : Int) := of_decide_eq_true (by first | (with_reducible assumption) | assumption)
                have q112 : x12_1 < (l1.length : Int) := of_decide_eq_true (by first | (with_reducible assumption) | assumption)
                obtain ⟨ad112, e112, hx112_0⟩ := Kd.at_int HR1.out x12_1 p112 q112
                cases e112
                replace hx112_0 := (HB.out.cell (World.block_lt_of_cell? w _ hx112_0)).trans hx112_0
                replace p112 := eq_true p112
                replace q112 := eq_true q112
                go_wp2_with (first | ((with_reducible refine gate_dst (N := 22) rfl ?_); refine Kd.R_lit (Kd.int .u8) _ 5 ?hg (N := 22) ?hd (xs := ([((rd l1 x12_1) / 256) % 256, (rd l1 x12_1) % 256] : List Int)) (inner := [.int .u8 (((rd l1 x12_1) / 256) % 256), .int .u8 ((rd l1 x12_1) % 256)]) (ok := fun _ => True) (okp := fun _ => True) ?hr ?hp (fun _ hk => hk) trivial (Below.refl _ _) (Nat.le_refl _) (by simp) ?_; (case hd => rfl); (case hg => rfl); (case hr => first | (go_simp; done) | (go_simp; rfl)); (case hp => exact (Reps.one (show Kd.M (Kd.int .u8) _ _ _ (((rd l1 x12_1) / 256) % 256) [.int .u8 (((rd l1 x12_1) / 256) % 256)] from rfl) (Reps.one (show Kd.M (Kd.int .u8) _ _ _ ((rd l1 x12_1) % 256) [.int .u8 ((rd l1 x12_1) % 256)] from rfl) (Reps.none _ _)))); intro v114 w9 ho10 hb hg_ hnew_; clear hg_ hnew_; (first | rw [← Ny113.out] at ho10 | (simp only [Int.reduceToNat] at ho10; rw [← Ny113.out] at ho10)); have n0_ := Aside0.mk (Kd.R_elder' (by (with_reducible repeat (first | apply Kd.R_alloc | apply Kd.R_drewN | apply Kd.R_drew)); exact HO_5.out) (Kd.R_base ho10) hb); have n1_ := Aside0.mk (Kd.R_lower (Kd.R_new' ho10 (Kd.R_lt (by (with_reducible repeat (first | apply Kd.R_alloc | apply Kd.R_drewN | apply Kd.R_drew)); exact HO_5.out))) (below_size (by repeat (first | (with_reducible first | exact HB.out | apply below_alloc | apply pw_below_drewN | apply below_drew1) | exact HB.out)))); have n2_ := Aside0.mk (below_step (by repeat (first | (with_reducible first | exact HB.out | apply below_alloc | apply pw_below_drewN | apply below_drew1) | exact HB.out)) hb); clear HO_5; clear HB; have HO_5 := n0_; have HO115 := n1_; have HB := n2_; clear n0_ n1_ n2_; clear hb ho10; obtain ⟨Ao12, co12, eo12⟩ := Kd.R_slice HO115.out; subst eo12) | ((with_reducible refine gate_builtin (b := .append) (xs := #[.tmp 16, .tmp 22]) rfl ?_); at_builtin; refine Kd.R_append_rows (Kd.int .u8) (w0 := w) w.heap.size rfl (.tmp 16) (.tmp 22) 30 5 (.int .u8 0) 1 rfl Try.underlying30 info5 rfl (by decide) (by omega) u5 x5_1 y113 _ _ _ (fun k_ => some k_ ≠ (.slice Ao12 y113.length co12 : Value).ownBlock) (fun _ => False) rfl rfl ?aO ?aR (fun _ _ h => h) (fun _ h => h.elim) ?aF ?aB ?aS ?aL ?_; (case aR => repeat (first | exact (Kd.R_reads' HO115.out).2.2 | (with_reducible refine Kd.C_alloc ?_ _) | (with_reducible refine Kd.C_drewN ?_ _) | (with_reducible refine Kd.C_drew ?_))); (case aB => exact (by repeat (first | (with_reducible first | exact HB.out | apply below_alloc | apply pw_below_drewN | apply below_drew1) | exact HB.out))); (case aF => exact (fun k_ hk => Kd.fresh' (Kd.R_lt (by (with_reducible repeat (first | apply Kd.R_alloc | apply Kd.R_drewN | apply Kd.R_drew)); exact HO115.out)) k_ hk)); (case aO => exact (by (with_reducible repeat (first | apply Kd.R_alloc | apply Kd.R_drewN | apply Kd.R_drew)); exact Kd.R_mono HO_5.out (fun _ hk => hk.2))); (case aS => exact (below_size (by repeat (first | (with_reducible first | exact HB.out | apply below_alloc | apply pw_below_drewN | apply below_drew1) | exact HB.out)))); (case aL => have := LMc8.out; omega); intro v117 w11 ho hb hg hat; rw [← Ny116.out] at ho; have n0_ := Aside0.mk (Kd.R_after (ok := (fun _ => True)) (by (with_reducible repeat (first | apply Kd.R_alloc | apply Kd.R_drewN | apply Kd.R_drew)); exact HO115.out) hg hat); have n1_ := Aside0.mk (hb); have n2_ := Aside0.mk (ho); clear HO115; clear HB; clear HO_5; have HO115 := n0_; have HB := n1_; have HO118 := n2_; clear n0_ n1_ n2_; clear ho hb hg hat))
                go_roundg k1
                case measure => have := HK1.out; omega
                case rel => exact ⟨(y116), (wrap64 (x12_1 + 1)), (by first | rfl | (simp; done) | (simp [*]; done)), H', ⟨by have := HK1.out; omega⟩, ⟨by (with_reducible repeat (first | apply Kd.R_alloc | apply Kd.R_drewN | apply Kd.R_drew)); exact Kd.R_mono HO118.out (fun _ hk => trivial)⟩, ⟨by repeat (first | (with_reducible first | exact HB.out | apply below_alloc | apply pw_below_drewN | apply below_drew1) | exact HB.out)⟩⟩
              · rw [if_neg c8] at H
                exact absurd H (by simp)
            · rw [if_neg c7] at H
              exact absurd H (by simp)
          · rw [if_neg c6] at H
            exact absurd H (by simp)
        · rw [if_neg c5] at H
          have c5b0 : decide (x12_1 < (l1.length : Int)) = false := decide_eq_false c5
          clear c5
          obtain rfl := Option.some.inj H
          go_wp2
          go_ret
          exact ⟨_, by first | rfl | (simp [errW_none, errW_some] <;> rfl) | (simp [*, errW_none, errW_some] <;> rfl), by (with_reducible repeat (first | apply Kd.R_alloc | apply Kd.R_drewN | apply Kd.R_drew)); exact HO_5.out, by repeat (first | (with_reducible first | exact HB.out | apply below_alloc | apply pw_below_drewN | apply below_drew1) | exact HB.out)⟩
  · rw [if_neg c3] at H
    exact absurd H (by simp)

-- NOT PRINTED: function 13 (point_Writer_Name)

-- NOT PRINTED: function 8 (bolterlaw03_awake)

/-! ### bolterlaw03_read: function 10 -/
mutual
def bolterlaw03_read.l0 : Nat → ByteArray → Int → Int → Int → List ByteArray → Int → Option (ByteArray × Int × Bool)
  | 0, _, _, _, _, _, _ => none
  | k + 1, x0, x1, x7, x8, x9, x10 => if x10 < 3100 then (if x1 < 0 then (bolterlaw03_read.j1 k x0 x1 x7 x8 x9 x10 true) else (bolterlaw03_read.j1 k x0 x1 x7 x8 x9 x10 (decide (x1 ≥ (x0.size : Int))))) else (some ((⟨#[]⟩ : ByteArray), 0, false))
def bolterlaw03_read.j1 : Nat → ByteArray → Int → Int → Int → List ByteArray → Int → Bool → Option (ByteArray × Int × Bool)
  | 0, _, _, _, _, _, _, _ => none
  | k + 1, x0, x1, x7, x8, x9, x10, x27 => if x27 = true then (some ((⟨#[]⟩ : ByteArray), 0, false)) else (if 0 ≤ x1 then (if x1 < (x0.size : Int) then (if (wrap64 (bt x0 x1)) = 0 then ((name_Make.f x9).bind fun bt119 => (if x7 < 0 then (if bt119.2 = true then (some (bt119.1, wrap64 (x1 + 1), true)) else (some ((⟨#[]⟩ : ByteArray), 0, false))) else (if bt119.2 = true then (some (bt119.1, x7, true)) else (some ((⟨#[]⟩ : ByteArray), 0, false))))) else (if (wrap64 (bt x0 x1)) < 64 then (if (wrap64 (x1 + (wrap64 (bt x0 x1)))) ≥ (x0.size : Int) then (some ((⟨#[]⟩ : ByteArray), 0, false)) else (if 0 ≤ (wrap64 (x1 + 1)) then (if (wrap64 (x1 + 1)) ≤ (wrap64 ((wrap64 (x1 + (wrap64 (bt x0 x1)))) + 1)) then (if (wrap64 ((wrap64 (x1 + (wrap64 (bt x0 x1)))) + 1)) ≤ (x0.size : Int) then (if x9.length < 8796093022208 then (bolterlaw03_read.l0 k x0 (wrap64 (x1 + (wrap64 ((wrap64 (bt x0 x1)) + 1)))) x7 x8 (x9 ++ [x0.extract ((wrap64 (x1 + 1)) : Int).toNat ((wrap64 ((wrap64 (x1 + (wrap64 (bt x0 x1)))) + 1)) : Int).toNat]) (wrap64 (x10 + 1))) else (none)) else (none)) else (none)) else (none))) else (if (wrap64 (bt x0 x1)) < 192 then (bolterlaw03_read.j2 k x0 x1 x7 x8 x9 x10 (wrap64 (bt x0 x1)) true) else (bolterlaw03_read.j2 k x0 x1 x7 x8 x9 x10 (wrap64 (bt x0 x1)) (decide ((wrap64 (x1 + 1)) ≥ (x0.size : Int))))))) else (none)) else (none))
def bolterlaw03_read.j2 : Nat → ByteArray → Int → Int → Int → List ByteArray → Int → Int → Bool → Option (ByteArray × Int × Bool)
  | 0, _, _, _, _, _, _, _, _ => none
  | k + 1, x0, x1, x7, x8, x9, x10, x11, x90 => if x90 = true then (some ((⟨#[]⟩ : ByteArray), 0, false)) else (if 0 ≤ (wrap64 (x1 + 1)) then (if (wrap64 (x1 + 1)) < (x0.size : Int) then (if x7 < 0 then (if (wrap64 ((wrap64 ((wrap64 (x11 - 192)) * 256)) + (wrap64 (bt x0 (wrap64 (x1 + 1)))))) ≥ x8 then (some ((⟨#[]⟩ : ByteArray), 0, false)) else (bolterlaw03_read.l0 k x0 (wrap64 ((wrap64 ((wrap64 (x11 - 192)) * 256)) + (wrap64 (bt x0 (wrap64 (x1 + 1)))))) (wrap64 (x1 + 2)) (wrap64 ((wrap64 ((wrap64 (x11 - 192)) * 256)) + (wrap64 (bt x0 (wrap64 (x1 + 1)))))) x9 (wrap64 (x10 + 1)))) else (if (wrap64 ((wrap64 ((wrap64 (x11 - 192)) * 256)) + (wrap64 (bt x0 (wrap64 (x1 + 1)))))) ≥ x8 then (some ((⟨#[]⟩ : ByteArray), 0, false)) else (bolterlaw03_read.l0 k x0 (wrap64 ((wrap64 ((wrap64 (x11 - 192)) * 256)) + (wrap64 (bt x0 (wrap64 (x1 + 1)))))) x7 (wrap64 ((wrap64 ((wrap64 (x11 - 192)) * 256)) + (wrap64 (bt x0 (wrap64 (x1 + 1)))))) x9 (wrap64 (x10 + 1))))) else (none)) else (none))
end
def bolterlaw03_read.f (k : Nat) (a0 : ByteArray) (a1 : Int) : Option (ByteArray × Int × Bool) := bolterlaw03_read.l0 k a0 a1 (-1) a1 ([] : List ByteArray) 0
theorem bolterlaw03_read.mono_l : ∀ k, (∀ y0 y1 y2 y3 y4 y5, LeO (bolterlaw03_read.l0 k y0 y1 y2 y3 y4 y5) (bolterlaw03_read.l0 (k + 1) y0 y1 y2 y3 y4 y5)) ∧ (∀ y0 y1 y2 y3 y4 y5 y6, LeO (bolterlaw03_read.j1 k y0 y1 y2 y3 y4 y5 y6) (bolterlaw03_read.j1 (k + 1) y0 y1 y2 y3 y4 y5 y6)) ∧ (∀ y0 y1 y2 y3 y4 y5 y6 y7, LeO (bolterlaw03_read.j2 k y0 y1 y2 y3 y4 y5 y6 y7) (bolterlaw03_read.j2 (k + 1) y0 y1 y2 y3 y4 y5 y6 y7))
  | 0 => ⟨fun _ _ _ _ _ _ r h => by simp [bolterlaw03_read.l0] at h, fun _ _ _ _ _ _ _ r h => by simp [bolterlaw03_read.j1] at h, fun _ _ _ _ _ _ _ _ r h => by simp [bolterlaw03_read.j2] at h⟩
  | k + 1 => by
    obtain ⟨ih0, ih1, ih2⟩ := bolterlaw03_read.mono_l k
    refine ⟨?_, ?_, ?_⟩
    · intro y0 y1 y2 y3 y4 y5
      unfold bolterlaw03_read.l0
      repeat' first
      | (with_reducible exact ih0 _ _ _ _ _ _)
      | (with_reducible exact ih1 _ _ _ _ _ _ _)
      | (with_reducible exact ih2 _ _ _ _ _ _ _ _)
      | (with_reducible exact LeO.refl _)
      | (with_reducible exact LeO.none _)
      | (with_reducible refine LeO.ite ?_ ?_)
      | (with_reducible refine LeO.bind ?_ (fun _ => ?_))
      | exact ih0 _ _ _ _ _ _
      | exact ih1 _ _ _ _ _ _ _
      | exact ih2 _ _ _ _ _ _ _ _
      | exact LeO.none _
      | refine LeO.ite ?_ ?_
      | refine LeO.bind ?_ (fun _ => ?_)
    · intro y0 y1 y2 y3 y4 y5 y6
      unfold bolterlaw03_read.j1
      repeat' first
      | (with_reducible exact ih0 _ _ _ _ _ _)
      | (with_reducible exact ih1 _ _ _ _ _ _ _)
      | (with_reducible exact ih2 _ _ _ _ _ _ _ _)
      | (with_reducible exact LeO.refl _)
      | (with_reducible exact LeO.none _)
      | (with_reducible refine LeO.ite ?_ ?_)
      | (with_reducible refine LeO.bind ?_ (fun _ => ?_))
      | exact ih0 _ _ _ _ _ _
      | exact ih1 _ _ _ _ _ _ _
      | exact ih2 _ _ _ _ _ _ _ _
      | exact LeO.none _
      | refine LeO.ite ?_ ?_
      | refine LeO.bind ?_ (fun _ => ?_)
    · intro y0 y1 y2 y3 y4 y5 y6 y7
      unfold bolterlaw03_read.j2
      repeat' first
      | (with_reducible exact ih0 _ _ _ _ _ _)
      | (with_reducible exact ih1 _ _ _ _ _ _ _)
      | (with_reducible exact ih2 _ _ _ _ _ _ _ _)
      | (with_reducible exact LeO.refl _)
      | (with_reducible exact LeO.none _)
      | (with_reducible refine LeO.ite ?_ ?_)
      | (with_reducible refine LeO.bind ?_ (fun _ => ?_))
      | exact ih0 _ _ _ _ _ _
      | exact ih1 _ _ _ _ _ _ _
      | exact ih2 _ _ _ _ _ _ _ _
      | exact LeO.none _
      | refine LeO.ite ?_ ?_
      | refine LeO.bind ?_ (fun _ => ?_)
theorem bolterlaw03_read.mono : ∀ a0 a1 k, LeO (bolterlaw03_read.f k a0 a1) (bolterlaw03_read.f (k + 1) a0 a1) := by
  intro a0 a1 k
  obtain ⟨ih0, ih1, ih2⟩ := bolterlaw03_read.mono_l k
  unfold bolterlaw03_read.f
  repeat' first
      | (with_reducible exact ih0 _ _ _ _ _ _)
      | (with_reducible exact ih1 _ _ _ _ _ _ _)
      | (with_reducible exact ih2 _ _ _ _ _ _ _ _)
      | (with_reducible exact LeO.refl _)
      | (with_reducible exact LeO.none _)
      | (with_reducible refine LeO.ite ?_ ?_)
      | (with_reducible refine LeO.bind ?_ (fun _ => ?_))
      | exact ih0 _ _ _ _ _ _
      | exact ih1 _ _ _ _ _ _ _
      | exact ih2 _ _ _ _ _ _ _ _
      | exact LeO.none _
      | refine LeO.ite ?_ ?_
      | refine LeO.bind ?_ (fun _ => ?_)
set_option maxHeartbeats 8000000 in
set_option maxRecDepth 100000 in
theorem bolterlaw03_read.calls (k : Nat) (a0 : ByteArray) (a1 : Int) (r1 : ByteArray) (r2 : Int) (r3 : Bool) (w : World) (h : bolterlaw03_read.f k a0 a1 = some (r1, r2, r3)) :
    Calls Try.prog 10 #[.string a0, .int .i64 a1] w fun e w' => e = .returned (.tuple #[.string r1, .int .i64 r2, .bool r3]) ∧ Below w.heap.size w w' := by
  have HB := Aside0.mk (Below.refl w.heap.size w)
  have H : (bolterlaw03_read.l0 k a0 a1 (-1) a1 ([] : List ByteArray) 0) = some (r1, r2, r3) := h
  clear h
  have H' := Aside0.mk H
  clear H
  go_enter Try.func10, Try.ntmps10
  go_wp2
  go_loopg [1, 7, 8, 9, 10] k (fun kq v1 v7 v8 v9 v10 w' => ∃ (x1_1 : Int) (x7_1 : Int) (x8_1 : Int) (x9_1 : List ByteArray) (x10_1 : Int), v1 = .int .i64 x1_1 ∧ v7 = .int .i64 x7_1 ∧ v8 = .int .i64 x8_1 ∧ v10 = .int .i64 x10_1 ∧ Aside0 (bolterlaw03_read.l0 kq a0 x1_1 x7_1 x8_1 x9_1 x10_1 = some (r1, r2, r3)) ∧ Aside0 (kq ≤ k) ∧ Aside0 (Kd.R Kd.string 9 w' w.heap.size (fun _ => True) v9 x9_1) ∧ Aside0 (Below w.heap.size w w'))
  case atStart => exact ⟨(a1), ((-1)), (a1), (([] : List ByteArray)), (0), (by first | rfl | (simp; done) | (simp [*]; done)), (by first | rfl | (simp; done) | (simp [*]; done)), (by first | rfl | (simp; done) | (simp [*]; done)), (by first | rfl | (simp; done) | (simp [*]; done)), H', ⟨Nat.le_refl _⟩, ⟨by first | exact Kd.R_nil _ _ _ _ _ | exact Kd.N_nil _ _ _ _ _ | exact Kd.V_nil _ _ _ _ _ | exact Kd.Q_nil _ _ _ _ _ | exact Kd.S_nil _ _ _ _ _⟩, ⟨by repeat (first | (with_reducible first | exact HB.out | apply below_alloc | apply pw_below_drewN | apply below_drew1) | exact HB.out)⟩⟩
  case round =>
    clear H'
    try clear c1
    try clear p2
    obtain ⟨x1_1, x7_1, x8_1, x9_1, x10_1, rfl, rfl, rfl, rfl, HA, HK1, HO_9, HB⟩ := hrel
    cases gk with
    | zero => exact absurd HA.out (by simp [bolterlaw03_read.l0])
    | succ k1 =>
      have H := HA.out
      clear HA
      simp only [bolterlaw03_read.l0] at H
      by_cases c3 : x10_1 < 3100
      · rw [if_pos c3] at H
        have c3b0 : decide (x10_1 < 3100) = true := decide_eq_true c3
        clear c3
        have HC4 := Aside0.mk H
        clear H
        go_upto_region 6 with (fail)
        go_cut [27] (fun v27 wc => ∃ (kq : Nat) (x27_3 : Bool), v27 = .bool x27_3 ∧ Aside0 (bolterlaw03_read.j1 kq a0 x1_1 x7_1 x8_1 x9_1 x10_1 x27_3 = some (r1, r2, r3)) ∧ Aside0 (kq ≤ k1) ∧ Aside0 (Kd.R Kd.string 9 wc w.heap.size (fun _ => True) u9 x9_1) ∧ Aside0 (Below w.heap.size w wc))
        case first =>
          have H := HC4.out
          clear HC4
          by_cases c5 : x1_1 < 0
          · rw [if_pos c5] at H
            have c5b0 : decide (x1_1 < 0) = true := decide_eq_true c5
            clear c5
            (first | rw [c5b0] | (simp only [i64_w, i32_w]; rw [c5b0]) | skip)
            have H' := Aside0.mk H
            clear H
            go_wp2
            go_meet
            case rel => exact ⟨_, (true), (by first | rfl | (simp; done) | (simp [*]; done)), H', ⟨by have := HK1.out; first | omega | exact Nat.le_refl _⟩, ⟨by (with_reducible repeat (first | apply Kd.R_alloc | apply Kd.R_drewN | apply Kd.R_drew)); exact HO_9.out⟩, ⟨by repeat (first | (with_reducible first | exact HB.out | apply below_alloc | apply pw_below_drewN | apply below_drew1) | exact HB.out)⟩⟩
          · rw [if_neg c5] at H
            have c5b0 : decide (x1_1 < 0) = false := decide_eq_false c5
            clear c5
            (first | rw [c5b0] | (simp only [i64_w, i32_w]; rw [c5b0]) | skip)
            have H' := Aside0.mk H
            clear H
            go_wp2
            go_meet
            case rel => exact ⟨_, (decide (x1_1 ≥ (a0.size : Int))), (by first | rfl | (simp; done) | (simp [*]; done)), H', ⟨by have := HK1.out; first | omega | exact Nat.le_refl _⟩, ⟨by (with_reducible repeat (first | apply Kd.R_alloc | apply Kd.R_drewN | apply Kd.R_drew)); exact HO_9.out⟩, ⟨by repeat (first | (with_reducible first | exact HB.out | apply below_alloc | apply pw_below_drewN | apply below_drew1) | exact HB.out)⟩⟩
        case rest =>
          clear HC4
          try clear c1
          try clear p2
          try clear c3
          try clear c3b0
          try clear c5
          try clear c5b0
          try clear p2
          obtain ⟨kq, x27_3, rfl, HA, HJ3, HO_9, HB⟩ := hcut
          cases kq with
          | zero => exact absurd HA.out (by simp [bolterlaw03_read.j1])
          | succ kj3 =>
            have H := HA.out
            clear HA
            simp only [bolterlaw03_read.j1] at H
            by_cases c6 : x27_3 = true
            · subst c6
              have H1 : (some ((⟨#[]⟩ : ByteArray), 0, false)) = some (r1, r2, r3) := by rw [if_pos rfl] at H; exact H
              clear H
              have H := H1
              clear H1
              simp only [Option.some.injEq, Prod.mk.injEq] at H
              obtain ⟨rfl, rfl, rfl⟩ := H
              go_wp2
              go_ret3
              exact ⟨by first | rfl | (simp [errW_none, errW_some] <;> rfl) | (simp [*, errW_none, errW_some] <;> rfl), by repeat (first | (with_reducible first | exact HB.out | apply below_alloc | apply pw_below_drewN | apply below_drew1) | exact HB.out)⟩
            · replace c6 := Bool.eq_false_iff.mpr c6
              subst c6
              have H1 : (if 0 ≤ x1_1 then (if x1_1 < (a0.size : Int) then (if (wrap64 (bt a0 x1_1)) = 0 then ((name_Make.f x9_1).bind fun bt119 => (if x7_1 < 0 then (if bt119.2 = true then (some (bt119.1, wrap64 (x1_1 + 1), true)) else (some ((⟨#[]⟩ : ByteArray), 0, false))) else (if bt119.2 = true then (some (bt119.1, x7_1, true)) else (some ((⟨#[]⟩ : ByteArray), 0, false))))) else (if (wrap64 (bt a0 x1_1)) < 64 then (if (wrap64 (x1_1 + (wrap64 (bt a0 x1_1)))) ≥ (a0.size : Int) then (some ((⟨#[]⟩ : ByteArray), 0, false)) else (if 0 ≤ (wrap64 (x1_1 + 1)) then (if (wrap64 (x1_1 + 1)) ≤ (wrap64 ((wrap64 (x1_1 + (wrap64 (bt a0 x1_1)))) + 1)) then (if (wrap64 ((wrap64 (x1_1 + (wrap64 (bt a0 x1_1)))) + 1)) ≤ (a0.size : Int) then (if x9_1.length < 8796093022208 then (bolterlaw03_read.l0 kj3 a0 (wrap64 (x1_1 + (wrap64 ((wrap64 (bt a0 x1_1)) + 1)))) x7_1 x8_1 (x9_1 ++ [a0.extract ((wrap64 (x1_1 + 1)) : Int).toNat ((wrap64 ((wrap64 (x1_1 + (wrap64 (bt a0 x1_1)))) + 1)) : Int).toNat]) (wrap64 (x10_1 + 1))) else (none)) else (none)) else (none)) else (none))) else (if (wrap64 (bt a0 x1_1)) < 192 then (bolterlaw03_read.j2 kj3 a0 x1_1 x7_1 x8_1 x9_1 x10_1 (wrap64 (bt a0 x1_1)) true) else (bolterlaw03_read.j2 kj3 a0 x1_1 x7_1 x8_1 x9_1 x10_1 (wrap64 (bt a0 x1_1)) (decide ((wrap64 (x1_1 + 1)) ≥ (a0.size : Int))))))) else (none)) else (none)) = some (r1, r2, r3) := by rw [if_neg (show ¬ (false = true) by decide)] at H; exact H
              clear H
              have H := H1
              clear H1
              by_cases c7 : 0 ≤ x1_1
              · rw [if_pos c7] at H
                have c7b0 : decide (0 ≤ x1_1) = true := decide_eq_true c7
                clear c7
                by_cases c8 : x1_1 < (a0.size : Int)
                · rw [if_pos c8] at H
                  have c8b0 : decide (x1_1 < (a0.size : Int)) = true := decide_eq_true c8
                  clear c8
                  by_cases c10 : (wrap64 (bt a0 x1_1)) = 0
                  · rw [if_pos c10] at H
                    have c10b0 : ((wrap64 (bt a0 x1_1)) == 0) = true := beq_iff_eq.mpr c10
                    have c10b1 : ((wrap64 (bt a0 x1_1)) != 0) = false := bne_eq_false_iff_eq.mpr c10
                    (try (have c10b2 : ((IntKind.i64.wrap (bt a0 x1_1)) == 0) = true := by simp only [i64_w]; exact (beq_iff_eq.mpr c10)))
                    (try (have c10b3 : ((IntKind.i64.wrap (bt a0 x1_1)) != 0) = false := by simp only [i64_w]; exact (bne_eq_false_iff_eq.mpr c10)))
                    clear c10
                    replace H := Option.bind_eq_some_iff.mp H
                    obtain ⟨⟨t119, t120⟩, A110, H⟩ := H
                    replace H : (if x7_1 < 0 then (if t120 = true then (some (t119, wrap64 (x1_1 + 1), true)) else (some ((⟨#[]⟩ : ByteArray), 0, false))) else (if t120 = true then (some (t119, x7_1, true)) else (some ((⟨#[]⟩ : ByteArray), 0, false)))) = some (r1, r2, r3) := H
                    have A11 := Aside0.mk A110
                    clear A110
                    by_cases c12 : x7_1 < 0
                    · rw [if_pos c12] at H
                      have c12b0 : decide (x7_1 < 0) = true := decide_eq_true c12
                      clear c12
                      by_cases c13 : t120 = true
                      · subst c13
                        have H1 : (some (t119, wrap64 (x1_1 + 1), true)) = some (r1, r2, r3) := by rw [if_pos rfl] at H; exact H
                        clear H
                        have H := H1
                        clear H1
                        simp only [Option.some.injEq, Prod.mk.injEq] at H
                        obtain ⟨rfl, rfl, rfl⟩ := H
                        have p9 : 0 ≤ (x1_1 : Int) := of_decide_eq_true (by first | (with_reducible assumption) | assumption)
                        have q9 : x1_1 < (a0.size : Int) := of_decide_eq_true (by first | (with_reducible assumption) | assumption)
                        have hx9 := bt_at a0 x1_1
                        replace p9 := eq_true p9
                        replace q9 := eq_true q9
                        obtain ⟨Ao14, co14, eo14⟩ := Kd.R_slice HO_9.out
                        subst eo14
                        go_wp2_with (first | ((with_reducible refine gate_callee (f := 16) rfl ?_); refine goesL_ (some 55) rfl rfl Try.func16 (by kernel_rfl) rfl #[.slice Ao14 x9_1.length co14] rfl (by (try simp only [List.map_toArray, List.map_cons, List.map_nil]); first | done | rfl | (simp only [List.length_drop, List.length_take]; rfl)) ?_; (with_reducible refine (name_Make.calls _ _ x9_1 t119 true _ ?side1 ?side2 A11.out).mono ?_); (case side1 => repeat (first | exact (Kd.R_reads' HO_9.out).2.2 | (with_reducible refine Kd.C_alloc ?_ _) | (with_reducible refine Kd.C_drewN ?_ _) | (with_reducible refine Kd.C_drew ?_))); (case side2 => exact (Kd.R_reads' HO_9.out).2.1); rintro e w15 ⟨rfl, hb⟩; refine ⟨_, rfl, ?_⟩; have n0_ := Aside0.mk (Kd.R_below (by (with_reducible repeat (first | apply Kd.R_alloc | apply Kd.R_drewN | apply Kd.R_drew)); exact HO_9.out) hb); have n1_ := Aside0.mk (below_step (by repeat (first | (with_reducible first | exact HB.out | apply below_alloc | apply pw_below_drewN | apply below_drew1) | exact HB.out)) hb); clear HO_9; clear HB; have HO_9 := n0_; have HB := n1_; clear n0_ n1_; (try clear hb); (try clear hb2); (try clear hk); (try clear hi)))
                        go_ret3
                        exact ⟨by first | rfl | (simp [errW_none, errW_some] <;> rfl) | (simp [*, errW_none, errW_some] <;> rfl), by repeat (first | (with_reducible first | exact HB.out | apply below_alloc | apply pw_below_drewN | apply below_drew1) | exact HB.out)⟩
                      · replace c13 := Bool.eq_false_iff.mpr c13
                        subst c13
                        have H1 : (some ((⟨#[]⟩ : ByteArray), 0, false)) = some (r1, r2, r3) := by rw [if_neg (show ¬ (false = true) by decide)] at H; exact H
                        clear H
                        have H := H1
                        clear H1
                        simp only [Option.some.injEq, Prod.mk.injEq] at H
                        obtain ⟨rfl, rfl, rfl⟩ := H
                        have p9 : 0 ≤ (x1_1 : Int) := of_decide_eq_true (by first | (with_reducible assumption) | assumption)
                        have q9 : x1_1 < (a0.size : Int) := of_decide_eq_true (by first | (with_reducible assumption) | assumption)
                        have hx9 := bt_at a0 x1_1
                        replace p9 := eq_true p9
                        replace q9 := eq_true q9
                        obtain ⟨Ao16, co16, eo16⟩ := Kd.R_slice HO_9.out
                        subst eo16
                        go_wp2_with (first | ((with_reducible refine gate_callee (f := 16) rfl ?_); refine goesL_ (some 55) rfl rfl Try.func16 (by kernel_rfl) rfl #[.slice Ao16 x9_1.length co16] rfl (by (try simp only [List.map_toArray, List.map_cons, List.map_nil]); first | done | rfl | (simp only [List.length_drop, List.length_take]; rfl)) ?_; (with_reducible refine (name_Make.calls _ _ x9_1 t119 false _ ?side1 ?side2 A11.out).mono ?_); (case side1 => repeat (first | exact (Kd.R_reads' HO_9.out).2.2 | (with_reducible refine Kd.C_alloc ?_ _) | (with_reducible refine Kd.C_drewN ?_ _) | (with_reducible refine Kd.C_drew ?_))); (case side2 => exact (Kd.R_reads' HO_9.out).2.1); rintro e w17 ⟨rfl, hb⟩; refine ⟨_, rfl, ?_⟩; have n0_ := Aside0.mk (Kd.R_below (by (with_reducible repeat (first | apply Kd.R_alloc | apply Kd.R_drewN | apply Kd.R_drew)); exact HO_9.out) hb); have n1_ := Aside0.mk (below_step (by repeat (first | (with_reducible first | exact HB.out | apply below_alloc | apply pw_below_drewN | apply below_drew1) | exact HB.out)) hb); clear HO_9; clear HB; have HO_9 := n0_; have HB := n1_; clear n0_ n1_; (try clear hb); (try clear hb2); (try clear hk); (try clear hi)))
                        go_ret3
                        exact ⟨by first | rfl | (simp [errW_none, errW_some] <;> rfl) | (simp [*, errW_none, errW_some] <;> rfl), by repeat (first | (with_reducible first | exact HB.out | apply below_alloc | apply pw_below_drewN | apply below_drew1) | exact HB.out)⟩
                    · rw [if_neg c12] at H
                      have c12b0 : decide (x7_1 < 0) = false := decide_eq_false c12
                      clear c12
                      by_cases c18 : t120 = true
                      · subst c18
                        have H1 : (some (t119, x7_1, true)) = some (r1, r2, r3) := by rw [if_pos rfl] at H; exact H
                        clear H
                        have H := H1
                        clear H1
                        simp only [Option.some.injEq, Prod.mk.injEq] at H
                        obtain ⟨rfl, rfl, rfl⟩ := H
                        have p9 : 0 ≤ (x1_1 : Int) := of_decide_eq_true (by first | (with_reducible assumption) | assumption)
                        have q9 : x1_1 < (a0.size : Int) := of_decide_eq_true (by first | (with_reducible assumption) | assumption)
                        have hx9 := bt_at a0 x1_1
                        replace p9 := eq_true p9
                        replace q9 := eq_true q9
                        obtain ⟨Ao19, co19, eo19⟩ := Kd.R_slice HO_9.out
                        subst eo19
                        go_wp2_with (first | ((with_reducible refine gate_callee (f := 16) rfl ?_); refine goesL_ (some 55) rfl rfl Try.func16 (by kernel_rfl) rfl #[.slice Ao19 x9_1.length co19] rfl (by (try simp only [List.map_toArray, List.map_cons, List.map_nil]); first | done | rfl | (simp only [List.length_drop, List.length_take]; rfl)) ?_; (with_reducible refine (name_Make.calls _ _ x9_1 t119 true _ ?side1 ?side2 A11.out).mono ?_); (case side1 => repeat (first | exact (Kd.R_reads' HO_9.out).2.2 | (with_reducible refine Kd.C_alloc ?_ _) | (with_reducible refine Kd.C_drewN ?_ _) | (with_reducible refine Kd.C_drew ?_))); (case side2 => exact (Kd.R_reads' HO_9.out).2.1); rintro e w20 ⟨rfl, hb⟩; refine ⟨_, rfl, ?_⟩; have n0_ := Aside0.mk (Kd.R_below (by (with_reducible repeat (first | apply Kd.R_alloc | apply Kd.R_drewN | apply Kd.R_drew)); exact HO_9.out) hb); have n1_ := Aside0.mk (below_step (by repeat (first | (with_reducible first | exact HB.out | apply below_alloc | apply pw_below_drewN | apply below_drew1) | exact HB.out)) hb); clear HO_9; clear HB; have HO_9 := n0_; have HB := n1_; clear n0_ n1_; (try clear hb); (try clear hb2); (try clear hk); (try clear hi)))
                        go_ret3
                        exact ⟨by first | rfl | (simp [errW_none, errW_some] <;> rfl) | (simp [*, errW_none, errW_some] <;> rfl), by repeat (first | (with_reducible first | exact HB.out | apply below_alloc | apply pw_below_drewN | apply below_drew1) | exact HB.out)⟩
                      · replace c18 := Bool.eq_false_iff.mpr c18
                        subst c18
                        have H1 : (some ((⟨#[]⟩ : ByteArray), 0, false)) = some (r1, r2, r3) := by rw [if_neg (show ¬ (false = true) by decide)] at H; exact H
                        clear H
                        have H := H1
                        clear H1
                        simp only [Option.some.injEq, Prod.mk.injEq] at H
                        obtain ⟨rfl, rfl, rfl⟩ := H
                        have p9 : 0 ≤ (x1_1 : Int) := of_decide_eq_true (by first | (with_reducible assumption) | assumption)
                        have q9 : x1_1 < (a0.size : Int) := of_decide_eq_true (by first | (with_reducible assumption) | assumption)
                        have hx9 := bt_at a0 x1_1
                        replace p9 := eq_true p9
                        replace q9 := eq_true q9
                        obtain ⟨Ao21, co21, eo21⟩ := Kd.R_slice HO_9.out
                        subst eo21
                        go_wp2_with (first | ((with_reducible refine gate_callee (f := 16) rfl ?_); refine goesL_ (some 55) rfl rfl Try.func16 (by kernel_rfl) rfl #[.slice Ao21 x9_1.length co21] rfl (by (try simp only [List.map_toArray, List.map_cons, List.map_nil]); first | done | rfl | (simp only [List.length_drop, List.length_take]; rfl)) ?_; (with_reducible refine (name_Make.calls _ _ x9_1 t119 false _ ?side1 ?side2 A11.out).mono ?_); (case side1 => repeat (first | exact (Kd.R_reads' HO_9.out).2.2 | (with_reducible refine Kd.C_alloc ?_ _) | (with_reducible refine Kd.C_drewN ?_ _) | (with_reducible refine Kd.C_drew ?_))); (case side2 => exact (Kd.R_reads' HO_9.out).2.1); rintro e w22 ⟨rfl, hb⟩; refine ⟨_, rfl, ?_⟩; have n0_ := Aside0.mk (Kd.R_below (by (with_reducible repeat (first | apply Kd.R_alloc | apply Kd.R_drewN | apply Kd.R_drew)); exact HO_9.out) hb); have n1_ := Aside0.mk (below_step (by repeat (first | (with_reducible first | exact HB.out | apply below_alloc | apply pw_below_drewN | apply below_drew1) | exact HB.out)) hb); clear HO_9; clear HB; have HO_9 := n0_; have HB := n1_; clear n0_ n1_; (try clear hb); (try clear hb2); (try clear hk); (try clear hi)))
                        go_ret3
                        exact ⟨by first | rfl | (simp [errW_none, errW_some] <;> rfl) | (simp [*, errW_none, errW_some] <;> rfl), by repeat (first | (with_reducible first | exact HB.out | apply below_alloc | apply pw_below_drewN | apply below_drew1) | exact HB.out)⟩
                  · rw [if_neg c10] at H
                    have c10b0 : ((wrap64 (bt a0 x1_1)) == 0) = false := beq_eq_false_iff_ne.mpr c10
                    have c10b1 : ((wrap64 (bt a0 x1_1)) != 0) = true := bne_iff_ne.mpr c10
                    (try (have c10b2 : ((IntKind.i64.wrap (bt a0 x1_1)) == 0) = false := by simp only [i64_w]; exact (beq_eq_false_iff_ne.mpr c10)))
                    (try (have c10b3 : ((IntKind.i64.wrap (bt a0 x1_1)) != 0) = true := by simp only [i64_w]; exact (bne_iff_ne.mpr c10)))
                    by_cases c23 : (wrap64 (bt a0 x1_1)) < 64
                    · rw [if_pos c23] at H
                      have c23b0 : decide ((wrap64 (bt a0 x1_1)) < 64) = true := decide_eq_true c23
                      (try (have c23b1 : decide ((IntKind.i64.wrap (bt a0 x1_1)) < 64) = true := by simp only [i64_w]; exact (decide_eq_true c23)))
                      clear c23
                      by_cases c24 : (wrap64 (x1_1 + (wrap64 (bt a0 x1_1)))) ≥ (a0.size : Int)
                      · rw [if_pos c24] at H
                        have c24b0 : decide ((a0.size : Int) ≤ (wrap64 (x1_1 + (wrap64 (bt a0 x1_1))))) = true := decide_eq_true c24
                        (try (have c24b1 : decide ((a0.size : Int) ≤ (IntKind.i64.wrap (x1_1 + (IntKind.i64.wrap (bt a0 x1_1))))) = true := by simp only [i64_w]; exact (decide_eq_true c24)))
                        clear c24
                        simp only [Option.some.injEq, Prod.mk.injEq] at H
                        obtain ⟨rfl, rfl, rfl⟩ := H
                        have p9 : 0 ≤ (x1_1 : Int) := of_decide_eq_true (by first | (with_reducible assumption) | assumption)
                        have q9 : x1_1 < (a0.size : Int) := of_decide_eq_true (by first | (with_reducible assumption) | assumption)
                        have hx9 := bt_at a0 x1_1
                        replace p9 := eq_true p9
                        replace q9 := eq_true q9
                        go_wp2
                        go_ret3
                        exact ⟨by first | rfl | (simp [errW_none, errW_some] <;> rfl) | (simp [*, errW_none, errW_some] <;> rfl), by repeat (first | (with_reducible first | exact HB.out | apply below_alloc | apply pw_below_drewN | apply below_drew1) | exact HB.out)⟩
                      · rw [if_neg c24] at H
                        have c24b0 : decide ((a0.size : Int) ≤ (wrap64 (x1_1 + (wrap64 (bt a0 x1_1))))) = false := decide_eq_false c24
                        (try (have c24b1 : decide ((a0.size : Int) ≤ (IntKind.i64.wrap (x1_1 + (IntKind.i64.wrap (bt a0 x1_1))))) = false := by simp only [i64_w]; exact (decide_eq_false c24)))
                        clear c24
                        obtain ⟨ji25, hji25⟩ : ∃ j_ : Int, (wrap64 (x1_1 + 1)) = j_ := ⟨_, rfl⟩
                        replace H : (if 0 ≤ (ji25) then (if (ji25) ≤ (wrap64 ((wrap64 (x1_1 + (wrap64 (bt a0 x1_1)))) + 1)) then (if (wrap64 ((wrap64 (x1_1 + (wrap64 (bt a0 x1_1)))) + 1)) ≤ (a0.size : Int) then (if x9_1.length < 8796093022208 then (bolterlaw03_read.l0 kj3 a0 (wrap64 (x1_1 + (wrap64 ((wrap64 (bt a0 x1_1)) + 1)))) x7_1 x8_1 (x9_1 ++ [a0.extract ((ji25) : Int).toNat ((wrap64 ((wrap64 (x1_1 + (wrap64 (bt a0 x1_1)))) + 1)) : Int).toNat]) (wrap64 (x10_1 + 1))) else (none)) else (none)) else (none)) else (none)) = some (r1, r2, r3) := by first | (rw [hji25] at H; exact H) | (simp only [hji25] at H ⊢; exact H)
                        have hji25w : (IntKind.i64.wrap (x1_1 + 1)) = ji25 := (i64_w _).trans hji25
                        by_cases c26 : 0 ≤ (ji25)
                        · rw [if_pos c26] at H
                          have c26b0 := eq_true c26
                          have c26b1 : decide (0 ≤ (ji25)) = true := decide_eq_true c26
                          clear c26
                          by_cases c27 : (ji25) ≤ (wrap64 ((wrap64 (x1_1 + (wrap64 (bt a0 x1_1)))) + 1))
                          · rw [if_pos c27] at H
                            have c27b0 := eq_true c27
                            have c27b1 : decide ((ji25) ≤ (wrap64 ((wrap64 (x1_1 + (wrap64 (bt a0 x1_1)))) + 1))) = true := decide_eq_true c27
                            by_cases c28 : (wrap64 ((wrap64 (x1_1 + (wrap64 (bt a0 x1_1)))) + 1)) ≤ (a0.size : Int)
                            · rw [if_pos c28] at H
                              have c28b0 := eq_true c28
                              have c28b1 : decide ((wrap64 ((wrap64 (x1_1 + (wrap64 (bt a0 x1_1)))) + 1)) ≤ (a0.size : Int)) = true := decide_eq_true c28
                              by_cases c29 : x9_1.length < 8796093022208
                              · rw [if_pos c29] at H
                                have LMc29 := Aside0.mk c29
                                clear c29
                                obtain ⟨y121, hy121⟩ : ∃ y_ : List ByteArray, y_ = (x9_1 ++ [a0.extract ((ji25) : Int).toNat ((wrap64 ((wrap64 (x1_1 + (wrap64 (bt a0 x1_1)))) + 1)) : Int).toNat]) := ⟨_, rfl⟩
                                replace H : (bolterlaw03_read.l0 kj3 a0 (wrap64 (x1_1 + (wrap64 ((wrap64 (bt a0 x1_1)) + 1)))) x7_1 x8_1 y121 (wrap64 (x10_1 + 1))) = some (r1, r2, r3) := by first | (rw [hy121]; with_reducible exact H) | (have H2_ := (Option.bind_some _ _).symm.trans H; rw [hy121]; with_reducible exact H2_) | (have H2_ := (Option.bind_some _ _).symm.trans H; with_reducible exact H2_) | with_reducible exact H | (rw [hy121]; exact H) | exact H
                                have Ny121 := Aside0.mk hy121
                                clear hy121
                                have H' := Aside0.mk H
                                clear H
                                have p9 : 0 ≤ (x1_1 : Int) := of_decide_eq_true (by first | (with_reducible assumption) | assumption)
                                have q9 : x1_1 < (a0.size : Int) := of_decide_eq_true (by first | (with_reducible assumption) | assumption)
                                have hx9 := bt_at a0 x1_1
                                replace p9 := eq_true p9
                                replace q9 := eq_true q9
                                go_wp2_with (first | ((with_reducible refine gate_builtin (b := .append) (xs := #[.tmp 75, .tmp 84]) rfl ?_); (try (refine gate_guard (by rfl) ?_; dsimp only)); at_builtin; refine Kd.R_append Kd.string (w0 := w) w.heap.size rfl (.tmp 75) (.tmp 84) 43 9 (.string ⟨#[]⟩) 16 rfl Try.underlying43 info9 rfl (by decide) (by omega) u9 x9_1 (a0.extract ((ji25) : Int).toNat ((wrap64 ((wrap64 (x1_1 + (wrap64 (bt a0 x1_1)))) + 1)) : Int).toNat) [.string (a0.extract ((ji25) : Int).toNat ((wrap64 ((wrap64 (x1_1 + (wrap64 (bt a0 x1_1)))) + 1)) : Int).toNat)] (fun _ => True) (fun _ => False) rfl rfl ?aP (fun _ hk => hk.elim) ?aF ?aO ?aB ?aS ?aL ?_; (case aP => exact rfl); (case aB => exact (by repeat (first | (with_reducible first | exact HB.out | apply below_alloc | apply pw_below_drewN | apply below_drew1) | exact HB.out))); (case aF => exact (fun _ _ => trivial)); (case aO => exact (by (with_reducible repeat (first | apply Kd.R_alloc | apply Kd.R_drewN | apply Kd.R_drew)); exact HO_9.out)); (case aS => exact (below_size (by repeat (first | (with_reducible first | exact HB.out | apply below_alloc | apply pw_below_drewN | apply below_drew1) | exact HB.out)))); (case aL => have := LMc29.out; omega); intro v122 w30 ho hb hg hat; rw [← Ny121.out] at ho; have n0_ := Aside0.mk (hb); have n1_ := Aside0.mk (ho); clear HB; clear HO_9; have HB := n0_; have HO123 := n1_; clear n0_ n1_; clear ho hb hg hat))
                                go_roundg kj3
                                case measure => have := HK1.out; have := HJ3.out; omega
                                case rel => exact ⟨(wrap64 (x1_1 + (wrap64 ((wrap64 (bt a0 x1_1)) + 1)))), (x7_1), (x8_1), (y121), (wrap64 (x10_1 + 1)), (by first | rfl | (simp; done) | (simp [*]; done)), (by first | rfl | (simp; done) | (simp [*]; done)), (by first | rfl | (simp; done) | (simp [*]; done)), (by first | rfl | (simp; done) | (simp [*]; done)), H', ⟨by have := HK1.out; have := HJ3.out; omega⟩, ⟨by (with_reducible repeat (first | apply Kd.R_alloc | apply Kd.R_drewN | apply Kd.R_drew)); exact HO123.out⟩, ⟨by repeat (first | (with_reducible first | exact HB.out | apply below_alloc | apply pw_below_drewN | apply below_drew1) | exact HB.out)⟩⟩
                              · rw [if_neg c29] at H
                                exact absurd H (by simp)
                            · rw [if_neg c28] at H
                              exact absurd H (by simp)
                          · rw [if_neg c27] at H
                            exact absurd H (by simp)
                        · rw [if_neg c26] at H
                          exact absurd H (by simp)
                    · rw [if_neg c23] at H
                      have c23b0 : decide ((wrap64 (bt a0 x1_1)) < 64) = false := decide_eq_false c23
                      (try (have c23b1 : decide ((IntKind.i64.wrap (bt a0 x1_1)) < 64) = false := by simp only [i64_w]; exact (decide_eq_false c23)))
                      clear c23
                      have HC31 := Aside0.mk H
                      clear H
                      have p9 : 0 ≤ (x1_1 : Int) := of_decide_eq_true (by first | (with_reducible assumption) | assumption)
                      have q9 : x1_1 < (a0.size : Int) := of_decide_eq_true (by first | (with_reducible assumption) | assumption)
                      have hx9 := bt_at a0 x1_1
                      replace p9 := eq_true p9
                      replace q9 := eq_true q9
                      go_upto_region 27 with (fail)
                      go_cut [90] (fun v90 wc => ∃ (kq : Nat) (x90_30 : Bool), v90 = .bool x90_30 ∧ Aside0 (bolterlaw03_read.j2 kq a0 x1_1 x7_1 x8_1 x9_1 x10_1 (wrap64 (bt a0 x1_1)) x90_30 = some (r1, r2, r3)) ∧ Aside0 (kq ≤ kj3) ∧ Aside0 (Kd.R Kd.string 9 wc w.heap.size (fun _ => True) u9 x9_1) ∧ Aside0 (Below w.heap.size w wc))
                      case first =>
                        have H := HC31.out
                        clear HC31
                        by_cases c32 : (wrap64 (bt a0 x1_1)) < 192
                        · rw [if_pos c32] at H
                          have c32b0 : decide ((wrap64 (bt a0 x1_1)) < 192) = true := decide_eq_true c32
                          (try (have c32b1 : decide ((IntKind.i64.wrap (bt a0 x1_1)) < 192) = true := by simp only [i64_w]; exact (decide_eq_true c32)))
                          clear c32
                          (first | rw [c32b0] | (simp only [i64_w, i32_w]; rw [c32b0]) | skip)
                          have H' := Aside0.mk H
                          clear H
                          go_wp2
                          go_meet
                          case rel => exact ⟨_, (true), (by first | rfl | (simp; done) | (simp [*]; done)), H', ⟨by have := HK1.out; have := HJ3.out; first | omega | exact Nat.le_refl _⟩, ⟨by (with_reducible repeat (first | apply Kd.R_alloc | apply Kd.R_drewN | apply Kd.R_drew)); exact HO_9.out⟩, ⟨by repeat (first | (with_reducible first | exact HB.out | apply below_alloc | apply pw_below_drewN | apply below_drew1) | exact HB.out)⟩⟩
                        · rw [if_neg c32] at H
                          have c32b0 : decide ((wrap64 (bt a0 x1_1)) < 192) = false := decide_eq_false c32
                          (try (have c32b1 : decide ((IntKind.i64.wrap (bt a0 x1_1)) < 192) = false := by simp only [i64_w]; exact (decide_eq_false c32)))
                          clear c32
                          (first | rw [c32b0] | (simp only [i64_w, i32_w]; rw [c32b0]) | skip)
                          have H' := Aside0.mk H
                          clear H
                          go_wp2
                          go_meet
                          case rel => exact ⟨_, (decide ((wrap64 (x1_1 + 1)) ≥ (a0.size : Int))), (by first | rfl | (simp; done) | (simp [*]; done)), H', ⟨by have := HK1.out; have := HJ3.out; first | omega | exact Nat.le_refl _⟩, ⟨by (with_reducible repeat (first | apply Kd.R_alloc | apply Kd.R_drewN | apply Kd.R_drew)); exact HO_9.out⟩, ⟨by repeat (first | (with_reducible first | exact HB.out | apply below_alloc | apply pw_below_drewN | apply below_drew1) | exact HB.out)⟩⟩
                      case rest =>
                        clear HC31
                        try clear c1
                        try clear c2
                        try clear p2
                        try clear c3
                        try clear c3b0
                        try clear c5
                        try clear c5b0
                        try clear c6
                        try clear p6
                        try clear c7
                        try clear c7b0
                        try clear c8
                        try clear c8b0
                        try clear p9
                        try clear q9
                        try clear hx9
                        try clear c10
                        try clear c10b0
                        try clear c10b1
                        try clear c10b2
                        try clear c12
                        try clear c12b0
                        try clear c13
                        try clear c16
                        try clear c18
                        try clear c23
                        try clear c23b0
                        try clear c23b1
                        try clear c24
                        try clear c24b0
                        try clear c24b1
                        try clear c26
                        try clear c26b0
                        try clear c26b1
                        try clear c27
                        try clear c27b0
                        try clear c27b1
                        try clear c28
                        try clear c28b0
                        try clear c28b1
                        try clear c29
                        try clear c32
                        try clear c32b0
                        try clear c32b1
                        try clear p2
                        try clear p9
                        try clear q9
                        obtain ⟨kq, x90_30, rfl, HA, HJ30, HO_9, HB⟩ := hcut
                        cases kq with
                        | zero => exact absurd HA.out (by simp [bolterlaw03_read.j2])
                        | succ kj30 =>
                          have H := HA.out
                          clear HA
                          simp only [bolterlaw03_read.j2] at H
                          by_cases c33 : x90_30 = true
                          · subst c33
                            have H1 : (some ((⟨#[]⟩ : ByteArray), 0, false)) = some (r1, r2, r3) := by rw [if_pos rfl] at H; exact H
                            clear H
                            have H := H1
                            clear H1
                            simp only [Option.some.injEq, Prod.mk.injEq] at H
                            obtain ⟨rfl, rfl, rfl⟩ := H
                            go_wp2
                            go_ret3
                            exact ⟨by first | rfl | (simp [errW_none, errW_some] <;> rfl) | (simp [*, errW_none, errW_some] <;> rfl), by repeat (first | (with_reducible first | exact HB.out | apply below_alloc | apply pw_below_drewN | apply below_drew1) | exact HB.out)⟩
                          · replace c33 := Bool.eq_false_iff.mpr c33
                            subst c33
                            have H1 : (if 0 ≤ (wrap64 (x1_1 + 1)) then (if (wrap64 (x1_1 + 1)) < (a0.size : Int) then (if x7_1 < 0 then (if (wrap64 ((wrap64 ((wrap64 ((wrap64 (bt a0 x1_1)) - 192)) * 256)) + (wrap64 (bt a0 (wrap64 (x1_1 + 1)))))) ≥ x8_1 then (some ((⟨#[]⟩ : ByteArray), 0, false)) else (bolterlaw03_read.l0 kj30 a0 (wrap64 ((wrap64 ((wrap64 ((wrap64 (bt a0 x1_1)) - 192)) * 256)) + (wrap64 (bt a0 (wrap64 (x1_1 + 1)))))) (wrap64 (x1_1 + 2)) (wrap64 ((wrap64 ((wrap64 ((wrap64 (bt a0 x1_1)) - 192)) * 256)) + (wrap64 (bt a0 (wrap64 (x1_1 + 1)))))) x9_1 (wrap64 (x10_1 + 1)))) else (if (wrap64 ((wrap64 ((wrap64 ((wrap64 (bt a0 x1_1)) - 192)) * 256)) + (wrap64 (bt a0 (wrap64 (x1_1 + 1)))))) ≥ x8_1 then (some ((⟨#[]⟩ : ByteArray), 0, false)) else (bolterlaw03_read.l0 kj30 a0 (wrap64 ((wrap64 ((wrap64 ((wrap64 (bt a0 x1_1)) - 192)) * 256)) + (wrap64 (bt a0 (wrap64 (x1_1 + 1)))))) x7_1 (wrap64 ((wrap64 ((wrap64 ((wrap64 (bt a0 x1_1)) - 192)) * 256)) + (wrap64 (bt a0 (wrap64 (x1_1 + 1)))))) x9_1 (wrap64 (x10_1 + 1))))) else (none)) else (none)) = some (r1, r2, r3) := by rw [if_neg (show ¬ (false = true) by decide)] at H; exact H
                            clear H
                            have H := H1
                            clear H1
                            obtain ⟨ji34, hji34⟩ : ∃ j_ : Int, (wrap64 (x1_1 + 1)) = j_ := ⟨_, rfl⟩
                            replace H : (if 0 ≤ (ji34) then (if (ji34) < (a0.size : Int) then (if x7_1 < 0 then (if (wrap64 ((wrap64 ((wrap64 ((wrap64 (bt a0 x1_1)) - 192)) * 256)) + (wrap64 (bt a0 (ji34))))) ≥ x8_1 then (some ((⟨#[]⟩ : ByteArray), 0, false)) else (bolterlaw03_read.l0 kj30 a0 (wrap64 ((wrap64 ((wrap64 ((wrap64 (bt a0 x1_1)) - 192)) * 256)) + (wrap64 (bt a0 (ji34))))) (wrap64 (x1_1 + 2)) (wrap64 ((wrap64 ((wrap64 ((wrap64 (bt a0 x1_1)) - 192)) * 256)) + (wrap64 (bt a0 (ji34))))) x9_1 (wrap64 (x10_1 + 1)))) else (if (wrap64 ((wrap64 ((wrap64 ((wrap64 (bt a0 x1_1)) - 192)) * 256)) + (wrap64 (bt a0 (ji34))))) ≥ x8_1 then (some ((⟨#[]⟩ : ByteArray), 0, false)) else (bolterlaw03_read.l0 kj30 a0 (wrap64 ((wrap64 ((wrap64 ((wrap64 (bt a0 x1_1)) - 192)) * 256)) + (wrap64 (bt a0 (ji34))))) x7_1 (wrap64 ((wrap64 ((wrap64 ((wrap64 (bt a0 x1_1)) - 192)) * 256)) + (wrap64 (bt a0 (ji34))))) x9_1 (wrap64 (x10_1 + 1))))) else (none)) else (none)) = some (r1, r2, r3) := by first | (rw [hji34] at H; exact H) | (simp only [hji34] at H ⊢; exact H)
                            have hji34w : (IntKind.i64.wrap (x1_1 + 1)) = ji34 := (i64_w _).trans hji34
                            by_cases c35 : 0 ≤ (ji34)
                            · rw [if_pos c35] at H
                              have c35b0 : decide (0 ≤ (ji34)) = true := decide_eq_true c35
                              clear c35
                              by_cases c36 : (ji34) < (a0.size : Int)
                              · rw [if_pos c36] at H
                                have c36b0 : decide ((ji34) < (a0.size : Int)) = true := decide_eq_true c36
                                clear c36
                                by_cases c38 : x7_1 < 0
                                · rw [if_pos c38] at H
                                  have c38b0 : decide (x7_1 < 0) = true := decide_eq_true c38
                                  clear c38
                                  by_cases c39 : (wrap64 ((wrap64 ((wrap64 ((wrap64 (bt a0 x1_1)) - 192)) * 256)) + (wrap64 (bt a0 (ji34))))) ≥ x8_1
                                  · rw [if_pos c39] at H
                                    have c39b0 : decide (x8_1 ≤ (wrap64 ((wrap64 ((wrap64 ((wrap64 (bt a0 x1_1)) - 192)) * 256)) + (wrap64 (bt a0 (ji34)))))) = true := decide_eq_true c39
                                    (try (have c39b1 : decide (x8_1 ≤ (IntKind.i64.wrap ((IntKind.i64.wrap ((IntKind.i64.wrap ((IntKind.i64.wrap (bt a0 x1_1)) - 192)) * 256)) + (IntKind.i64.wrap (bt a0 (ji34)))))) = true := by simp only [i64_w]; exact (decide_eq_true c39)))
                                    clear c39
                                    simp only [Option.some.injEq, Prod.mk.injEq] at H
                                    obtain ⟨rfl, rfl, rfl⟩ := H
                                    have p37 : 0 ≤ ((ji34) : Int) := of_decide_eq_true (by first | (with_reducible assumption) | assumption)
                                    have q37 : (ji34) < (a0.size : Int) := of_decide_eq_true (by first | (with_reducible assumption) | assumption)
                                    have hx37 := bt_at a0 (ji34)
                                    replace p37 := eq_true p37
                                    replace q37 := eq_true q37
                                    go_wp2
                                    go_ret3
                                    exact ⟨by first | rfl | (simp [errW_none, errW_some] <;> rfl) | (simp only [← hji34]; first | rfl | (simp [errW_none, errW_some] <;> rfl)) | (simp [*, errW_none, errW_some] <;> rfl), by repeat (first | (with_reducible first | exact HB.out | apply below_alloc | apply pw_below_drewN | apply below_drew1) | exact HB.out)⟩
                                  · rw [if_neg c39] at H
                                    have c39b0 : decide (x8_1 ≤ (wrap64 ((wrap64 ((wrap64 ((wrap64 (bt a0 x1_1)) - 192)) * 256)) + (wrap64 (bt a0 (ji34)))))) = false := decide_eq_false c39
                                    (try (have c39b1 : decide (x8_1 ≤ (IntKind.i64.wrap ((IntKind.i64.wrap ((IntKind.i64.wrap ((IntKind.i64.wrap (bt a0 x1_1)) - 192)) * 256)) + (IntKind.i64.wrap (bt a0 (ji34)))))) = false := by simp only [i64_w]; exact (decide_eq_false c39)))
                                    clear c39
                                    have H' := Aside0.mk H
                                    clear H
                                    have p37 : 0 ≤ ((ji34) : Int) := of_decide_eq_true (by first | (with_reducible assumption) | assumption)
                                    have q37 : (ji34) < (a0.size : Int) := of_decide_eq_true (by first | (with_reducible assumption) | assumption)
                                    have hx37 := bt_at a0 (ji34)
                                    replace p37 := eq_true p37
                                    replace q37 := eq_true q37
                                    go_wp2
                                    go_roundg kj30
                                    case measure => have := HK1.out; have := HJ3.out; have := HJ30.out; omega
                                    case rel => exact ⟨(wrap64 ((wrap64 ((wrap64 ((wrap64 (bt a0 x1_1)) - 192)) * 256)) + (wrap64 (bt a0 (ji34))))), (wrap64 (x1_1 + 2)), (wrap64 ((wrap64 ((wrap64 ((wrap64 (bt a0 x1_1)) - 192)) * 256)) + (wrap64 (bt a0 (ji34))))), (x9_1), (wrap64 (x10_1 + 1)), (by first | rfl | (simp; done) | (simp only [← hji34] <;> (first | rfl | simp)) | (simp [*]; done)), (by first | rfl | (simp; done) | (simp [*]; done)), (by first | rfl | (simp; done) | (simp only [← hji34] <;> (first | rfl | simp)) | (simp [*]; done)), (by first | rfl | (simp; done) | (simp [*]; done)), H', ⟨by have := HK1.out; have := HJ3.out; have := HJ30.out; omega⟩, ⟨by (with_reducible repeat (first | apply Kd.R_alloc | apply Kd.R_drewN | apply Kd.R_drew)); exact HO_9.out⟩, ⟨by repeat (first | (with_reducible first | exact HB.out | apply below_alloc | apply pw_below_drewN | apply below_drew1) | exact HB.out)⟩⟩
                                · rw [if_neg c38] at H
                                  have c38b0 : decide (x7_1 < 0) = false := decide_eq_false c38
                                  clear c38
                                  by_cases c40 : (wrap64 ((wrap64 ((wrap64 ((wrap64 (bt a0 x1_1)) - 192)) * 256)) + (wrap64 (bt a0 (ji34))))) ≥ x8_1
                                  · rw [if_pos c40] at H
                                    have c40b0 : decide (x8_1 ≤ (wrap64 ((wrap64 ((wrap64 ((wrap64 (bt a0 x1_1)) - 192)) * 256)) + (wrap64 (bt a0 (ji34)))))) = true := decide_eq_true c40
                                    (try (have c40b1 : decide (x8_1 ≤ (IntKind.i64.wrap ((IntKind.i64.wrap ((IntKind.i64.wrap ((IntKind.i64.wrap (bt a0 x1_1)) - 192)) * 256)) + (IntKind.i64.wrap (bt a0 (ji34)))))) = true := by simp only [i64_w]; exact (decide_eq_true c40)))
                                    clear c40
                                    simp only [Option.some.injEq, Prod.mk.injEq] at H
                                    obtain ⟨rfl, rfl, rfl⟩ := H
                                    have p37 : 0 ≤ ((ji34) : Int) := of_decide_eq_true (by first | (with_reducible assumption) | assumption)
                                    have q37 : (ji34) < (a0.size : Int) := of_decide_eq_true (by first | (with_reducible assumption) | assumption)
                                    have hx37 := bt_at a0 (ji34)
                                    replace p37 := eq_true p37
                                    replace q37 := eq_true q37
                                    go_wp2
                                    go_ret3
                                    exact ⟨by first | rfl | (simp [errW_none, errW_some] <;> rfl) | (simp only [← hji34]; first | rfl | (simp [errW_none, errW_some] <;> rfl)) | (simp [*, errW_none, errW_some] <;> rfl), by repeat (first | (with_reducible first | exact HB.out | apply below_alloc | apply pw_below_drewN | apply below_drew1) | exact HB.out)⟩
                                  · rw [if_neg c40] at H
                                    have c40b0 : decide (x8_1 ≤ (wrap64 ((wrap64 ((wrap64 ((wrap64 (bt a0 x1_1)) - 192)) * 256)) + (wrap64 (bt a0 (ji34)))))) = false := decide_eq_false c40
                                    (try (have c40b1 : decide (x8_1 ≤ (IntKind.i64.wrap ((IntKind.i64.wrap ((IntKind.i64.wrap ((IntKind.i64.wrap (bt a0 x1_1)) - 192)) * 256)) + (IntKind.i64.wrap (bt a0 (ji34)))))) = false := by simp only [i64_w]; exact (decide_eq_false c40)))
                                    clear c40
                                    have H' := Aside0.mk H
                                    clear H
                                    have p37 : 0 ≤ ((ji34) : Int) := of_decide_eq_true (by first | (with_reducible assumption) | assumption)
                                    have q37 : (ji34) < (a0.size : Int) := of_decide_eq_true (by first | (with_reducible assumption) | assumption)
                                    have hx37 := bt_at a0 (ji34)
                                    replace p37 := eq_true p37
                                    replace q37 := eq_true q37
                                    go_wp2
                                    go_roundg kj30
                                    case measure => have := HK1.out; have := HJ3.out; have := HJ30.out; omega
                                    case rel => exact ⟨(wrap64 ((wrap64 ((wrap64 ((wrap64 (bt a0 x1_1)) - 192)) * 256)) + (wrap64 (bt a0 (ji34))))), (x7_1), (wrap64 ((wrap64 ((wrap64 ((wrap64 (bt a0 x1_1)) - 192)) * 256)) + (wrap64 (bt a0 (ji34))))), (x9_1), (wrap64 (x10_1 + 1)), (by first | rfl | (simp; done) | (simp only [← hji34] <;> (first | rfl | simp)) | (simp [*]; done)), (by first | rfl | (simp; done) | (simp [*]; done)), (by first | rfl | (simp; done) | (simp only [← hji34] <;> (first | rfl | simp)) | (simp [*]; done)), (by first | rfl | (simp; done) | (simp [*]; done)), H', ⟨by have := HK1.out; have := HJ3.out; have := HJ30.out; omega⟩, ⟨by (with_reducible repeat (first | apply Kd.R_alloc | apply Kd.R_drewN | apply Kd.R_drew)); exact HO_9.out⟩, ⟨by repeat (first | (with_reducible first | exact HB.out | apply below_alloc | apply pw_below_drewN | apply below_drew1) | exact HB.out)⟩⟩
                              · rw [if_neg c36] at H
                                exact absurd H (by simp)
                            · rw [if_neg c35] at H
                              exact absurd H (by simp)
                · rw [if_neg c8] at H
                  exact absurd H (by simp)
              · rw [if_neg c7] at H
                exact absurd H (by simp)
      · rw [if_neg c3] at H
        have c3b0 : decide (x10_1 < 3100) = false := decide_eq_false c3
        clear c3
        simp only [Option.some.injEq, Prod.mk.injEq] at H
        obtain ⟨rfl, rfl, rfl⟩ := H
        go_wp2
        go_ret3
        exact ⟨by first | rfl | (simp [errW_none, errW_some] <;> rfl) | (simp [*, errW_none, errW_some] <;> rfl), by repeat (first | (with_reducible first | exact HB.out | apply below_alloc | apply pw_below_drewN | apply below_drew1) | exact HB.out)⟩

-- NOT PRINTED: function 3 (bolterlaw03_PointRead)

/-! ### bolterlaw02_Words: function 19 -/
def bolterlaw02_Words.l0 : Nat → List ByteArray → List Int → Int → Int → Option (List ByteArray)
  | 0, _, _, _, _ => none
  | k + 1, x3, x7, x8, x9 => if x9 < x8 then (if 0 ≤ x9 then (if x9 < (x7.length : Int) then (if x9 = 12 then (some x3) else ((some (([(⟨#[97]⟩ : ByteArray), (⟨#[98]⟩ : ByteArray), (⟨#[99]⟩ : ByteArray), (⟨#[119, 119, 119]⟩ : ByteArray), (⟨#[101, 120]⟩ : ByteArray), (⟨#[111, 114, 103]⟩ : ByteArray), (⟨#[42]⟩ : ByteArray), (⟨#[114, 112, 122, 45, 105, 112]⟩ : ByteArray)] : List ByteArray) : List ByteArray)).bind fun y125 => (if 0 ≤ (Int.tmod (rd x7 x9) 8) then (if (Int.tmod (rd x7 x9) 8) < (y125.length : Int) then (if x3.length < 8796093022208 then (bolterlaw02_Words.l0 k (x3 ++ [rdOf ByteArray.empty y125 (Int.tmod (rd x7 x9) 8)]) x7 x8 (wrap64 (x9 + 1))) else (none)) else (none)) else (none)))) else (none)) else (none)) else (some x3)
def bolterlaw02_Words.f (k : Nat) (l0 : List Int) : Option (List ByteArray) := bolterlaw02_Words.l0 k ([] : List ByteArray) l0 (l0.length : Int) 0
theorem bolterlaw02_Words.mono_l : ∀ k, (∀ y0 y1 y2 y3, LeO (bolterlaw02_Words.l0 k y0 y1 y2 y3) (bolterlaw02_Words.l0 (k + 1) y0 y1 y2 y3))
  | 0 => fun _ _ _ _ r h => by simp [bolterlaw02_Words.l0] at h
  | k + 1 => by
    have ih0 := bolterlaw02_Words.mono_l k
    · intro y0 y1 y2 y3
      unfold bolterlaw02_Words.l0
      repeat' first
      | (with_reducible exact ih0 _ _ _ _)
      | (with_reducible exact LeO.refl _)
      | (with_reducible exact LeO.none _)
      | (with_reducible refine LeO.ite ?_ ?_)
      | (with_reducible refine LeO.bind ?_ (fun _ => ?_))
      | exact ih0 _ _ _ _
      | exact LeO.none _
      | refine LeO.ite ?_ ?_
      | refine LeO.bind ?_ (fun _ => ?_)
theorem bolterlaw02_Words.mono : ∀ a0 k, LeO (bolterlaw02_Words.f k a0) (bolterlaw02_Words.f (k + 1) a0) := by
  intro a0 k
  have ih0 := bolterlaw02_Words.mono_l k
  unfold bolterlaw02_Words.f
  repeat' first
      | (with_reducible exact ih0 _ _ _ _)
      | (with_reducible exact LeO.refl _)
      | (with_reducible exact LeO.none _)
      | (with_reducible refine LeO.ite ?_ ?_)
      | (with_reducible refine LeO.bind ?_ (fun _ => ?_))
      | exact ih0 _ _ _ _
      | exact LeO.none _
      | refine LeO.ite ?_ ?_
      | refine LeO.bind ?_ (fun _ => ?_)
set_option maxHeartbeats 8000000 in
set_option maxRecDepth 100000 in
theorem bolterlaw02_Words.calls (k : Nat) (A0 : Option Addr) (c0 : Nat) (l0 : List Int) (r : List ByteArray) (w : World) (hr0 : Kd.C (Kd.int .u8) w A0 l0.length l0) (hc0 : l0.length ≤ c0) (h : bolterlaw02_Words.f k l0 = some r) :
    Calls Try.prog 19 #[.slice A0 l0.length c0] w fun e w' => ∃ v0_ : Value, e = .returned (v0_) ∧ Kd.R Kd.string 9 w' w.heap.size (fun _ => True) v0_ r ∧ Below w.heap.size w w' := by
  have HR0 := Aside0.mk hr0
  have HC0 := Aside0.mk hc0
  clear hr0 hc0
  have HB := Aside0.mk (Below.refl w.heap.size w)
  have H : (bolterlaw02_Words.l0 k ([] : List ByteArray) l0 (l0.length : Int) 0) = some r := h
  clear h
  have H' := Aside0.mk H
  clear H
  go_enter Try.func19, Try.ntmps19
  go_wp2
  go_loopg [3, 9] k (fun kq v3 v9 w' => ∃ (x3_1 : List ByteArray) (x9_1 : Int), v9 = .int .i64 x9_1 ∧ Aside0 (bolterlaw02_Words.l0 kq x3_1 l0 (l0.length : Int) x9_1 = some r) ∧ Aside0 (kq ≤ k) ∧ Aside0 (Kd.R Kd.string 9 w' w.heap.size (fun _ => True) v3 x3_1) ∧ Aside0 (Below w.heap.size w w'))
  case atStart => exact ⟨(([] : List ByteArray)), (0), (by first | rfl | (simp; done) | (simp [*]; done)), H', ⟨Nat.le_refl _⟩, ⟨by first | exact Kd.R_nil _ _ _ _ _ | exact Kd.N_nil _ _ _ _ _ | exact Kd.V_nil _ _ _ _ _ | exact Kd.Q_nil _ _ _ _ _ | exact Kd.S_nil _ _ _ _ _⟩, ⟨by repeat (first | (with_reducible first | exact HB.out | apply below_alloc | apply pw_below_drewN | apply below_drew1) | exact HB.out)⟩⟩
  case round =>
    clear H'
    try clear c1
    obtain ⟨x3_1, x9_1, rfl, HA, HK1, HO_3, HB⟩ := hrel
    cases gk with
    | zero => exact absurd HA.out (by simp [bolterlaw02_Words.l0])
    | succ k1 =>
      have H := HA.out
      clear HA
      simp only [bolterlaw02_Words.l0] at H
      by_cases c2 : x9_1 < (l0.length : Int)
      · rw [if_pos c2] at H
        have c2b0 : decide (x9_1 < (l0.length : Int)) = true := decide_eq_true c2
        clear c2
        by_cases c3 : 0 ≤ x9_1
        · rw [if_pos c3] at H
          have c3b0 : decide (0 ≤ x9_1) = true := decide_eq_true c3
          clear c3
          by_cases c4 : x9_1 < (l0.length : Int)
          · rw [if_pos c4] at H
            have c4b0 : decide (x9_1 < (l0.length : Int)) = true := decide_eq_true c4
            clear c4
            by_cases c5 : x9_1 = 12
            · rw [if_pos c5] at H
              have c5b0 : (x9_1 == 12) = true := beq_iff_eq.mpr c5
              have c5b1 : (x9_1 != 12) = false := bne_eq_false_iff_eq.mpr c5
              clear c5
              obtain rfl := Option.some.inj H
              have p124 : 0 ≤ (x9_1 : Int) := of_decide_eq_true (by first | (with_reducible assumption) | assumption)
              have q124 : x9_1 < (l0.length : Int) := of_decide_eq_true (by first | (with_reducible assumption) | assumption)
              obtain ⟨ad124, e124, hx124_0⟩ := Kd.at_int HR0.out x9_1 p124 q124
              cases e124
              replace hx124_0 := (HB.out.cell (World.block_lt_of_cell? w _ hx124_0)).trans hx124_0
              replace p124 := eq_true p124
              replace q124 := eq_true q124
              go_wp2
              go_ret
              exact ⟨_, by first | rfl | (simp [errW_none, errW_some] <;> rfl) | (simp [*, errW_none, errW_some] <;> rfl), by (with_reducible repeat (first | apply Kd.R_alloc | apply Kd.R_drewN | apply Kd.R_drew)); exact HO_3.out, by repeat (first | (with_reducible first | exact HB.out | apply below_alloc | apply pw_below_drewN | apply below_drew1) | exact HB.out)⟩
            · rw [if_neg c5] at H
              have c5b0 : (x9_1 == 12) = false := beq_eq_false_iff_ne.mpr c5
              have c5b1 : (x9_1 != 12) = true := bne_iff_ne.mpr c5
              obtain ⟨y125, hy125⟩ : ∃ y_ : List ByteArray, y_ = (([(⟨#[97]⟩ : ByteArray), (⟨#[98]⟩ : ByteArray), (⟨#[99]⟩ : ByteArray), (⟨#[119, 119, 119]⟩ : ByteArray), (⟨#[101, 120]⟩ : ByteArray), (⟨#[111, 114, 103]⟩ : ByteArray), (⟨#[42]⟩ : ByteArray), (⟨#[114, 112, 122, 45, 105, 112]⟩ : ByteArray)] : List ByteArray)) := ⟨_, rfl⟩
              replace H : (if 0 ≤ (Int.tmod (rd l0 x9_1) 8) then (if (Int.tmod (rd l0 x9_1) 8) < (y125.length : Int) then (if x3_1.length < 8796093022208 then (bolterlaw02_Words.l0 k1 (x3_1 ++ [rdOf ByteArray.empty y125 (Int.tmod (rd l0 x9_1) 8)]) l0 (l0.length : Int) (wrap64 (x9_1 + 1))) else (none)) else (none)) else (none)) = some r := by first | (rw [hy125]; with_reducible exact H) | (have H2_ := (Option.bind_some _ _).symm.trans H; rw [hy125]; with_reducible exact H2_) | (have H2_ := (Option.bind_some _ _).symm.trans H; with_reducible exact H2_) | with_reducible exact H | (rw [hy125]; exact H) | exact H
              have Ny125 := Aside0.mk hy125
              clear hy125
              obtain ⟨ji6, hji6⟩ : ∃ j_ : Int, (Int.tmod (rd l0 x9_1) 8) = j_ := ⟨_, rfl⟩
              replace H : (if 0 ≤ (ji6) then (if (ji6) < (y125.length : Int) then (if x3_1.length < 8796093022208 then (bolterlaw02_Words.l0 k1 (x3_1 ++ [rdOf ByteArray.empty y125 (ji6)]) l0 (l0.length : Int) (wrap64 (x9_1 + 1))) else (none)) else (none)) else (none)) = some r := by first | (rw [hji6] at H; exact H) | (simp only [hji6] at H ⊢; exact H)
              by_cases c7 : 0 ≤ (ji6)
              · rw [if_pos c7] at H
                have c7b0 : decide (0 ≤ (ji6)) = true := decide_eq_true c7
                clear c7
                by_cases c8 : (ji6) < (y125.length : Int)
                · rw [if_pos c8] at H
                  have c8b0 : decide ((ji6) < (y125.length : Int)) = true := decide_eq_true c8
                  clear c8
                  by_cases c9 : x3_1.length < 8796093022208
                  · rw [if_pos c9] at H
                    have LMc9 := Aside0.mk c9
                    clear c9
                    obtain ⟨y129, hy129⟩ : ∃ y_ : List ByteArray, y_ = (x3_1 ++ [rdOf ByteArray.empty y125 (ji6)]) := ⟨_, rfl⟩
                    replace H : (bolterlaw02_Words.l0 k1 y129 l0 (l0.length : Int) (wrap64 (x9_1 + 1))) = some r := by first | (rw [hy129]; with_reducible exact H) | (have H2_ := (Option.bind_some _ _).symm.trans H; rw [hy129]; with_reducible exact H2_) | (have H2_ := (Option.bind_some _ _).symm.trans H; with_reducible exact H2_) | with_reducible exact H | (rw [hy129]; exact H) | exact H
                    have Ny129 := Aside0.mk hy129
                    clear hy129
                    have H' := Aside0.mk H
                    clear H
                    have p124 : 0 ≤ (x9_1 : Int) := of_decide_eq_true (by first | (with_reducible assumption) | assumption)
                    have q124 : x9_1 < (l0.length : Int) := of_decide_eq_true (by first | (with_reducible assumption) | assumption)
                    obtain ⟨ad124, e124, hx124_0⟩ := Kd.at_int HR0.out x9_1 p124 q124
                    cases e124
                    replace hx124_0 := (HB.out.cell (World.block_lt_of_cell? w _ hx124_0)).trans hx124_0
                    replace p124 := eq_true p124
                    replace q124 := eq_true q124
                    go_wp2_with (first | ((with_reducible refine gate_dst (N := 16) rfl ?_); refine Kd.R_lit Kd.string _ 9 ?hg (N := 16) ?hd (xs := ([(⟨#[97]⟩ : ByteArray), (⟨#[98]⟩ : ByteArray), (⟨#[99]⟩ : ByteArray), (⟨#[119, 119, 119]⟩ : ByteArray), (⟨#[101, 120]⟩ : ByteArray), (⟨#[111, 114, 103]⟩ : ByteArray), (⟨#[42]⟩ : ByteArray), (⟨#[114, 112, 122, 45, 105, 112]⟩ : ByteArray)] : List ByteArray)) (inner := [.string (⟨#[97]⟩ : ByteArray), .string (⟨#[98]⟩ : ByteArray), .string (⟨#[99]⟩ : ByteArray), .string (⟨#[119, 119, 119]⟩ : ByteArray), .string (⟨#[101, 120]⟩ : ByteArray), .string (⟨#[111, 114, 103]⟩ : ByteArray), .string (⟨#[42]⟩ : ByteArray), .string (⟨#[114, 112, 122, 45, 105, 112]⟩ : ByteArray)]) (ok := fun _ => True) (okp := fun _ => True) ?hr ?hp (fun _ hk => hk) trivial (Below.refl _ _) (Nat.le_refl _) (by simp) ?_; (case hd => rfl); (case hg => rfl); (case hr => first | (go_simp; done) | (go_simp; rfl)); (case hp => exact (Reps.one (show Kd.M Kd.string _ _ _ (⟨#[97]⟩ : ByteArray) [.string (⟨#[97]⟩ : ByteArray)] from rfl) (Reps.one (show Kd.M Kd.string _ _ _ (⟨#[98]⟩ : ByteArray) [.string (⟨#[98]⟩ : ByteArray)] from rfl) (Reps.one (show Kd.M Kd.string _ _ _ (⟨#[99]⟩ : ByteArray) [.string (⟨#[99]⟩ : ByteArray)] from rfl) (Reps.one (show Kd.M Kd.string _ _ _ (⟨#[119, 119, 119]⟩ : ByteArray) [.string (⟨#[119, 119, 119]⟩ : ByteArray)] from rfl) (Reps.one (show Kd.M Kd.string _ _ _ (⟨#[101, 120]⟩ : ByteArray) [.string (⟨#[101, 120]⟩ : ByteArray)] from rfl) (Reps.one (show Kd.M Kd.string _ _ _ (⟨#[111, 114, 103]⟩ : ByteArray) [.string (⟨#[111, 114, 103]⟩ : ByteArray)] from rfl) (Reps.one (show Kd.M Kd.string _ _ _ (⟨#[42]⟩ : ByteArray) [.string (⟨#[42]⟩ : ByteArray)] from rfl) (Reps.one (show Kd.M Kd.string _ _ _ (⟨#[114, 112, 122, 45, 105, 112]⟩ : ByteArray) [.string (⟨#[114, 112, 122, 45, 105, 112]⟩ : ByteArray)] from rfl) (Reps.none _ _)))))))))); intro v126 w10 ho11 hb hg_ hnew_; clear hg_ hnew_; (first | rw [← Ny125.out] at ho11 | (simp only [Int.reduceToNat] at ho11; rw [← Ny125.out] at ho11)); have n0_ := Aside0.mk (Kd.R_elder' (by (with_reducible repeat (first | apply Kd.R_alloc | apply Kd.R_drewN | apply Kd.R_drew)); exact HO_3.out) (Kd.R_base ho11) hb); have n1_ := Aside0.mk (Kd.R_lower (Kd.R_new' ho11 (Kd.R_lt (by (with_reducible repeat (first | apply Kd.R_alloc | apply Kd.R_drewN | apply Kd.R_drew)); exact HO_3.out))) (below_size (by repeat (first | (with_reducible first | exact HB.out | apply below_alloc | apply pw_below_drewN | apply below_drew1) | exact HB.out)))); have n2_ := Aside0.mk (below_step (by repeat (first | (with_reducible first | exact HB.out | apply below_alloc | apply pw_below_drewN | apply below_drew1) | exact HB.out)) hb); clear HO_3; clear HB; have HO_3 := n0_; have HO127 := n1_; have HB := n2_; clear n0_ n1_ n2_; clear hb ho11; obtain ⟨Ao12, co12, eo12⟩ := Kd.R_slice HO127.out; subst eo12; have p128 : 0 ≤ ((ji6) : Int) := of_decide_eq_true (by first | (with_reducible assumption) | assumption); have q128 : (ji6) < (y125.length : Int) := of_decide_eq_true (by first | (with_reducible assumption) | assumption); obtain ⟨ad128, e128, hx128_0⟩ := Kd.at_string (Kd.R_reads' HO127.out).2.2 (ji6) p128 q128; cases e128; replace p128 := eq_true p128; replace q128 := eq_true q128) | ((with_reducible refine gate_builtin (b := .append) (xs := #[.tmp 17, .tmp 23]) rfl ?_); at_builtin; refine Kd.R_append Kd.string (w0 := w) w.heap.size rfl (.tmp 17) (.tmp 23) 43 9 (.string ⟨#[]⟩) 16 rfl Try.underlying43 info9 rfl (by decide) (by omega) u3 x3_1 (rdOf ByteArray.empty y125 (ji6)) [.string (rdOf ByteArray.empty y125 (ji6))] (fun k_ => some k_ ≠ (.slice (some ad128) y125.length co12 : Value).ownBlock) (fun _ => False) rfl rfl ?aP (fun _ hk => hk.elim) ?aF ?aO ?aB ?aS ?aL ?_; (case aP => exact rfl); (case aB => exact (by repeat (first | (with_reducible first | exact HB.out | apply below_alloc | apply pw_below_drewN | apply below_drew1) | exact HB.out))); (case aF => exact (fun k_ hk => Kd.fresh' (Kd.R_lt (by (with_reducible repeat (first | apply Kd.R_alloc | apply Kd.R_drewN | apply Kd.R_drew)); exact HO127.out)) k_ hk)); (case aO => exact (by (with_reducible repeat (first | apply Kd.R_alloc | apply Kd.R_drewN | apply Kd.R_drew)); exact Kd.R_mono HO_3.out (fun _ hk => hk.2))); (case aS => exact (below_size (by repeat (first | (with_reducible first | exact HB.out | apply below_alloc | apply pw_below_drewN | apply below_drew1) | exact HB.out)))); (case aL => have := LMc9.out; omega); intro v130 w13 ho hb hg hat; rw [← Ny129.out] at ho; have n0_ := Aside0.mk (Kd.R_after (ok := (fun _ => True)) (by (with_reducible repeat (first | apply Kd.R_alloc | apply Kd.R_drewN | apply Kd.R_drew)); exact HO127.out) hg hat); have n1_ := Aside0.mk (hb); have n2_ := Aside0.mk (ho); clear HO127; clear HB; clear HO_3; have HO127 := n0_; have HB := n1_; have HO131 := n2_; clear n0_ n1_ n2_; clear ho hb hg hat))
                    go_roundg k1
                    case measure => have := HK1.out; omega
                    case rel => exact ⟨(y129), (wrap64 (x9_1 + 1)), (by first | rfl | (simp; done) | (simp [*]; done)), H', ⟨by have := HK1.out; omega⟩, ⟨by (with_reducible repeat (first | apply Kd.R_alloc | apply Kd.R_drewN | apply Kd.R_drew)); exact Kd.R_mono HO131.out (fun _ hk => trivial)⟩, ⟨by repeat (first | (with_reducible first | exact HB.out | apply below_alloc | apply pw_below_drewN | apply below_drew1) | exact HB.out)⟩⟩
                  · rw [if_neg c9] at H
                    exact absurd H (by simp)
                · rw [if_neg c8] at H
                  exact absurd H (by simp)
              · rw [if_neg c7] at H
                exact absurd H (by simp)
          · rw [if_neg c4] at H
            exact absurd H (by simp)
        · rw [if_neg c3] at H
          exact absurd H (by simp)
      · rw [if_neg c2] at H
        have c2b0 : decide (x9_1 < (l0.length : Int)) = false := decide_eq_false c2
        clear c2
        obtain rfl := Option.some.inj H
        go_wp2
        go_ret
        exact ⟨_, by first | rfl | (simp [errW_none, errW_some] <;> rfl) | (simp [*, errW_none, errW_some] <;> rfl), by (with_reducible repeat (first | apply Kd.R_alloc | apply Kd.R_drewN | apply Kd.R_drew)); exact HO_3.out, by repeat (first | (with_reducible first | exact HB.out | apply below_alloc | apply pw_below_drewN | apply below_drew1) | exact HB.out)⟩

/-! ### bolterlaw02_Name: function 12 -/
def bolterlaw02_Name.f (k : Nat) (l0 : List Int) : Option (ByteArray) := (bolterlaw02_Words.f k l0).bind fun t132 => ((name_Make.f t132).bind fun bt135 => (some bt135.1))
theorem bolterlaw02_Name.mono : ∀ a0 k, LeO (bolterlaw02_Name.f k a0) (bolterlaw02_Name.f (k + 1) a0) := by
  intro a0 k
  unfold bolterlaw02_Name.f
  repeat' first
      | (with_reducible exact bolterlaw02_Words.mono _ _)
      | (with_reducible exact LeO.refl _)
      | (with_reducible exact LeO.none _)
      | (with_reducible refine LeO.ite ?_ ?_)
      | (with_reducible refine LeO.bind ?_ (fun _ => ?_))
      | exact bolterlaw02_Words.mono _ _
      | exact LeO.none _
      | refine LeO.ite ?_ ?_
      | refine LeO.bind ?_ (fun _ => ?_)
set_option maxHeartbeats 8000000 in
set_option maxRecDepth 100000 in
theorem bolterlaw02_Name.calls (k : Nat) (A0 : Option Addr) (c0 : Nat) (l0 : List Int) (r : ByteArray) (w : World) (hr0 : Kd.C (Kd.int .u8) w A0 l0.length l0) (hc0 : l0.length ≤ c0) (h : bolterlaw02_Name.f k l0 = some r) :
    Calls Try.prog 12 #[.slice A0 l0.length c0] w fun e w' => e = .returned (.string r) ∧ Below w.heap.size w w' := by
  have HR0 := Aside0.mk hr0
  have HC0 := Aside0.mk hc0
  clear hr0 hc0
  have HB := Aside0.mk (Below.refl w.heap.size w)
  have H : ((bolterlaw02_Words.f k l0).bind fun t132 => ((name_Make.f t132).bind fun bt135 => (some bt135.1))) = some r := h
  clear h
  replace H := Option.bind_eq_some_iff.mp H
  obtain ⟨t132, A20, H⟩ := H
  replace H : ((name_Make.f t132).bind fun bt135 => (some bt135.1)) = some r := H
  have A2 := Aside0.mk A20
  clear A20
  replace H := Option.bind_eq_some_iff.mp H
  obtain ⟨⟨t135, t136⟩, A30, H⟩ := H
  replace H : (some t135) = some r := H
  have A3 := Aside0.mk A30
  clear A30
  obtain rfl := Option.some.inj H
  go_enter Try.func12, Try.ntmps12
  go_wp2_with (first | ((with_reducible refine gate_callee (f := 19) rfl ?_); refine goesL_ (some 7) rfl rfl Try.func19 (by kernel_rfl) rfl #[.slice A0 l0.length c0] rfl (by (try simp only [List.map_toArray, List.map_cons, List.map_nil]); first | done | rfl | (simp only [List.length_drop, List.length_take]; rfl)) ?_; (with_reducible refine (bolterlaw02_Words.calls k _ _ l0 t132 _ ?side1 ?side2 A2.out).mono ?_); (case side1 => repeat (first | exact HR0.out | (with_reducible refine Kd.C_alloc ?_ _) | (with_reducible refine Kd.C_drewN ?_ _) | (with_reducible refine Kd.C_drew ?_))); (case side2 => exact HC0.out); rintro e w4 ⟨v133, rfl, ho0, hb⟩; refine ⟨_, rfl, ?_⟩; have n0_ := Aside0.mk (Kd.R_lower ho0 (below_size (by repeat (first | (with_reducible first | exact HB.out | apply below_alloc | apply pw_below_drewN | apply below_drew1) | exact HB.out)))); have n1_ := Aside0.mk (below_step (by repeat (first | (with_reducible first | exact HB.out | apply below_alloc | apply pw_below_drewN | apply below_drew1) | exact HB.out)) hb); clear HB; have HO134 := n0_; have HB := n1_; clear n0_ n1_; (try clear hb); (try clear hb2); (try clear hk); (try clear hi); (try clear ho0); obtain ⟨Ao5, co5, eo5⟩ := Kd.R_slice HO134.out; subst eo5) | ((with_reducible refine gate_callee (f := 16) rfl ?_); refine goesL_ (some 8) rfl rfl Try.func16 (by kernel_rfl) rfl #[.slice Ao5 t132.length co5] rfl (by (try simp only [List.map_toArray, List.map_cons, List.map_nil]); first | done | rfl | (simp only [List.length_drop, List.length_take]; rfl)) ?_; (with_reducible refine (name_Make.calls _ _ t132 t135 t136 _ ?side1 ?side2 A3.out).mono ?_); (case side1 => repeat (first | exact (Kd.R_reads' HO134.out).2.2 | (with_reducible refine Kd.C_alloc ?_ _) | (with_reducible refine Kd.C_drewN ?_ _) | (with_reducible refine Kd.C_drew ?_))); (case side2 => exact (Kd.R_reads' HO134.out).2.1); rintro e w6 ⟨rfl, hb⟩; refine ⟨_, rfl, ?_⟩; have n0_ := Aside0.mk (Kd.R_below (by (with_reducible repeat (first | apply Kd.R_alloc | apply Kd.R_drewN | apply Kd.R_drew)); exact HO134.out) hb); have n1_ := Aside0.mk (below_step (by repeat (first | (with_reducible first | exact HB.out | apply below_alloc | apply pw_below_drewN | apply below_drew1) | exact HB.out)) hb); clear HO134; clear HB; have HO134 := n0_; have HB := n1_; clear n0_ n1_; (try clear hb); (try clear hb2); (try clear hk); (try clear hi)))
  go_ret
  exact ⟨by first | rfl | (simp [errW_none, errW_some] <;> rfl) | (simp [*, errW_none, errW_some] <;> rfl), by repeat (first | (with_reducible first | exact HB.out | apply below_alloc | apply pw_below_drewN | apply below_drew1) | exact HB.out)⟩

-- NOT PRINTED: function 4 (bolterlaw03_PointWrite)

-- NOT PRINTED: function 5 (bolterlaw03_PointBack)

/-! ### point_Plain: function 14 -/
def point_Plain.f (a0 : ByteArray) : Option (ByteArray) := if a0.size + 1 ≤ 9223372036854775807 then (some (a0 ++ (⟨#[0]⟩ : ByteArray))) else (none)
set_option maxHeartbeats 8000000 in
set_option maxRecDepth 100000 in
theorem point_Plain.calls (a0 : ByteArray) (r : ByteArray) (w : World) (h : point_Plain.f a0 = some r) :
    Calls Try.prog 14 #[.string a0] w fun e w' => e = .returned (.string r) ∧ Drawn0 w w' := by
  have H : (if a0.size + 1 ≤ 9223372036854775807 then (some (a0 ++ (⟨#[0]⟩ : ByteArray))) else (none)) = some r := h
  clear h
  by_cases c2 : a0.size + 1 ≤ 9223372036854775807
  · rw [if_pos c2] at H
    have c2b0 := eq_true c2
    have c2b1 : decide (a0.size + 1 ≤ 9223372036854775807) = true := decide_eq_true c2
    try have c2b2 : (9223372036854775807 < a0.size + 1) = False := eq_false (Nat.not_lt.2 c2)
    obtain rfl := Option.some.inj H
    go_enter Try.func14, Try.ntmps14
    go_wp2
    go_ret
    exact ⟨by first | rfl | (simp; done) | (simp [*]; done), by repeat (first | exact Drawn0.refl _ | apply Drawn0.step)⟩
  · rw [if_neg c2] at H
    exact absurd H (by simp)

-- NOT PRINTED: function 6 (bolterlaw03_PointNone)

end Go.Proofs.Ytdmpmcmpkmldnaa.PP
