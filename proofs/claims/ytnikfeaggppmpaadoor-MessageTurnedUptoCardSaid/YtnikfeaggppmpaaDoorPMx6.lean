import Derived.Test.YtnikfeaggppmpaaDoorPMx0
namespace Go.Proofs.YtnikfeaggppmpaaDoor.PM
open Go.RowKit Go.Proofs.YtnikfeaggppmpaaDoorW.PrintWords Go.Proofs.YtnikfeaggppmpaaDoorW.PrintLast Go.Proofs.YtnikfeaggppmpaaDoorW.PrintMore
attribute [local go_sem] max2_int min2_int max_two min_two max_three min_three max_four min_four   -- for this text's walks alone
set_option linter.unusedVariables false
set_option linter.unusedSimpArgs false
def num_Put32.l0 : Nat → List Int → List Int → Int → Int → Option (List Int)
  | 0, _, _, _, _ => none
  | k + 1, x5, x10, x11, x12 => if x12 < x11 then (if 0 ≤ x12 then (if x12 < (x10.length : Int) then ((some (([((rd x10 x12) / 16777216) % 256, ((rd x10 x12) / 65536) % 256, ((rd x10 x12) / 256) % 256, (rd x10 x12) % 256] : List Int) : List Int)).bind fun y159 => (if x5.length + y159.length < 140737488355328 then (num_Put32.l0 k (x5 ++ y159) x10 x11 (wrap64 (x12 + 1))) else (none))) else (none)) else (none)) else (some x5)
def num_Put32.f (k : Nat) (l0 : List Int) (l1 : List Int) : Option (List Int) := if ([] : List Int).length + l0.length < 140737488355328 then (num_Put32.l0 k (([] : List Int) ++ l0) l1 (l1.length : Int) 0) else (none)
theorem num_Put32.mono_l : ∀ k, (∀ y0 y1 y2 y3, LeO (num_Put32.l0 k y0 y1 y2 y3) (num_Put32.l0 (k + 1) y0 y1 y2 y3))
  | 0 => fun _ _ _ _ r h => by simp [num_Put32.l0] at h
  | k + 1 => by
    have ih0 := num_Put32.mono_l k
    · intro y0 y1 y2 y3
      unfold num_Put32.l0
      repeat' first
      | (with_reducible exact ih0 _ _ _ _)
      | (with_reducible exact LeO.refl _)
      | (with_reducible exact LeO.none _)
      | (with_reducible refine LeO.ite ?_ ?_)
      | (with_reducible refine LeO.bind ?_ (fun _ => ?_))
      | exact ih0 _ _ _ _
      | exact LeO.none _
      | refine LeO.ite ?_ ?_
      | refine LeO.bind ?_ (fun _ => ?_)
theorem num_Put32.mono : ∀ a0 a1 k, LeO (num_Put32.f k a0 a1) (num_Put32.f (k + 1) a0 a1) := by
  intro a0 a1 k
  have ih0 := num_Put32.mono_l k
  unfold num_Put32.f
  repeat' first
      | (with_reducible exact ih0 _ _ _ _)
      | (with_reducible exact LeO.refl _)
      | (with_reducible exact LeO.none _)
      | (with_reducible refine LeO.ite ?_ ?_)
      | (with_reducible refine LeO.bind ?_ (fun _ => ?_))
      | exact ih0 _ _ _ _
      | exact LeO.none _
      | refine LeO.ite ?_ ?_
      | refine LeO.bind ?_ (fun _ => ?_)
set_option maxHeartbeats 8000000 in
set_option maxRecDepth 100000 in
theorem num_Put32.calls (k : Nat) (A0 : Option Addr) (c0 : Nat) (l0 : List Int) (A1 : Option Addr) (c1 : Nat) (l1 : List Int) (r : List Int) (w : World) (hr0 : Kd.C (Kd.int .u8) w A0 l0.length l0) (hc0 : l0.length ≤ c0) (hr1 : Kd.C (Kd.int .u32) w A1 l1.length l1) (hc1 : l1.length ≤ c1) (h : num_Put32.f k l0 l1 = some r) :
    Calls Tryd.prog 37 #[.slice A0 l0.length c0, .slice A1 l1.length c1] w fun e w' => ∃ v0_ : Value, e = .returned (v0_) ∧ Kd.R (Kd.int .u8) 5 w' w.heap.size (fun _ => True) v0_ r ∧ Below w.heap.size w w' := by
  have HR0 := Aside0.mk hr0
  have HC0 := Aside0.mk hc0
  clear hr0 hc0
  have HR1 := Aside0.mk hr1
  have HC1 := Aside0.mk hc1
  clear hr1 hc1
  have HB := Aside0.mk (Below.refl w.heap.size w)
  have H : (if ([] : List Int).length + l0.length < 140737488355328 then (num_Put32.l0 k (([] : List Int) ++ l0) l1 (l1.length : Int) 0) else (none)) = some r := h
  clear h
  by_cases c3 : ([] : List Int).length + l0.length < 140737488355328
  · rw [if_pos c3] at H
    have LMc3 := Aside0.mk c3
    clear c3
    obtain ⟨y155, hy155⟩ : ∃ y_ : List Int, y_ = (([] : List Int) ++ l0) := ⟨_, rfl⟩
    replace H : (num_Put32.l0 k y155 l1 (l1.length : Int) 0) = some r := by first | (rw [hy155]; with_reducible exact H) | (have H2_ := (Option.bind_some _ _).symm.trans H; rw [hy155]; with_reducible exact H2_) | (have H2_ := (Option.bind_some _ _).symm.trans H; with_reducible exact H2_) | with_reducible exact H | (rw [hy155]; exact H) | exact H
    have Ny155 := Aside0.mk hy155
    clear hy155
    have H' := Aside0.mk H
    clear H
    go_enter Tryd.func37, Tryd.ntmps37
    go_wp2_with (first | ((with_reducible refine gate_builtin (b := .append) (xs := #[.const (.slice none 0 0), .tmp 8]) rfl ?_); at_builtin; refine Kd.R_append_rows (Kd.int .u8) (w0 := w) w.heap.size rfl (.const (.slice none 0 0)) (.tmp 8) 22 5 (.int .u8 0) 1 rfl Tryd.underlying22 info5 rfl (by decide) (by omega) (.slice none 0 0) ([] : List Int) l0 _ _ _ (fun _ => True) (fun _ => False) rfl rfl ?aO ?aR (fun _ _ h => h) (fun _ h => h.elim) ?aF ?aB ?aS ?aL ?_; (case aR => repeat (first | exact HR0.out | (with_reducible refine Kd.C_alloc ?_ _) | (with_reducible refine Kd.C_drewN ?_ _) | (with_reducible refine Kd.C_drew ?_))); (case aB => exact (by repeat (first | (with_reducible first | exact HB.out | apply below_alloc | apply pw_below_drewN | apply below_drew1) | exact HB.out))); (case aF => exact (fun _ _ => trivial)); (case aO => exact ((Kd.R_nil _ _ _ _ (fun _ => True)))); (case aS => exact (below_size (by repeat (first | (with_reducible first | exact HB.out | apply below_alloc | apply pw_below_drewN | apply below_drew1) | exact HB.out)))); (case aL => have := LMc3.out; omega); intro v156 w4 ho hb hg hat; rw [← Ny155.out] at ho; have n0_ := Aside0.mk (hb); have n1_ := Aside0.mk (ho); clear HB; have HB := n0_; have HO157 := n1_; clear n0_ n1_; clear ho hb hg hat))
    go_loopg [5, 12] k (fun kq v5 v12 w' => ∃ (x5_1 : List Int) (x12_1 : Int), v12 = .int .i64 x12_1 ∧ Aside0 (num_Put32.l0 kq x5_1 l1 (l1.length : Int) x12_1 = some r) ∧ Aside0 (kq ≤ k) ∧ Aside0 (Kd.R (Kd.int .u8) 5 w' w.heap.size (fun _ => True) v5 x5_1) ∧ Aside0 (Below w.heap.size w w'))
    case atStart => exact ⟨(y155), (0), (by first | rfl | (simp; done) | (simp [*]; done)), H', ⟨Nat.le_refl _⟩, ⟨by (with_reducible repeat (first | apply Kd.R_alloc | apply Kd.R_drewN | apply Kd.R_drew)); exact HO157.out⟩, ⟨by repeat (first | (with_reducible first | exact HB.out | apply below_alloc | apply pw_below_drewN | apply below_drew1) | exact HB.out)⟩⟩
    case round =>
      clear H'
      try clear c1
      try clear p2
      try clear c3
      obtain ⟨x5_1, x12_1, rfl, HA, HK1, HO_5, HB⟩ := hrel
      cases gk with
      | zero => exact absurd HA.out (by simp [num_Put32.l0])
      | succ k1 =>
        have H := HA.out
        clear HA
        simp only [num_Put32.l0] at H
        by_cases c5 : x12_1 < (l1.length : Int)
        · rw [if_pos c5] at H
          have c5b0 : decide (x12_1 < (l1.length : Int)) = true := decide_eq_true c5
          clear c5
          by_cases c6 : 0 ≤ x12_1
          · rw [if_pos c6] at H
            have c6b0 : decide (0 ≤ x12_1) = true := decide_eq_true c6
            clear c6
            by_cases c7 : x12_1 < (l1.length : Int)
            · rw [if_pos c7] at H
              have c7b0 : decide (x12_1 < (l1.length : Int)) = true := decide_eq_true c7
              clear c7
              obtain ⟨y159, hy159⟩ : ∃ y_ : List Int, y_ = (([((rd l1 x12_1) / 16777216) % 256, ((rd l1 x12_1) / 65536) % 256, ((rd l1 x12_1) / 256) % 256, (rd l1 x12_1) % 256] : List Int)) := ⟨_, rfl⟩
              replace H : (if x5_1.length + y159.length < 140737488355328 then (num_Put32.l0 k1 (x5_1 ++ y159) l1 (l1.length : Int) (wrap64 (x12_1 + 1))) else (none)) = some r := by first | (rw [hy159]; with_reducible exact H) | (have H2_ := (Option.bind_some _ _).symm.trans H; rw [hy159]; with_reducible exact H2_) | (have H2_ := (Option.bind_some _ _).symm.trans H; with_reducible exact H2_) | with_reducible exact H | (rw [hy159]; exact H) | exact H
              have Ny159 := Aside0.mk hy159
              clear hy159
              by_cases c8 : x5_1.length + y159.length < 140737488355328
              · rw [if_pos c8] at H
                have LMc8 := Aside0.mk c8
                clear c8
                obtain ⟨y162, hy162⟩ : ∃ y_ : List Int, y_ = (x5_1 ++ y159) := ⟨_, rfl⟩
                replace H : (num_Put32.l0 k1 y162 l1 (l1.length : Int) (wrap64 (x12_1 + 1))) = some r := by first | (rw [hy162]; with_reducible exact H) | (have H2_ := (Option.bind_some _ _).symm.trans H; rw [hy162]; with_reducible exact H2_) | (have H2_ := (Option.bind_some _ _).symm.trans H; with_reducible exact H2_) | with_reducible exact H | (rw [hy162]; exact H) | exact H
                have Ny162 := Aside0.mk hy162
                clear hy162
                have H' := Aside0.mk H
                clear H
                have p158 : 0 ≤ (x12_1 : Int) := of_decide_eq_true (by first | (with_reducible assumption) | assumption)
                have q158 : x12_1 < (l1.length : Int) := of_decide_eq_true (by first | (with_reducible assumption) | assumption)
                obtain ⟨ad158, e158, hx158_0⟩ := Kd.at_int HR1.out x12_1 p158 q158
                cases e158
                replace hx158_0 := (HB.out.cell (World.block_lt_of_cell? w _ hx158_0)).trans hx158_0
                replace p158 := eq_true p158
                replace q158 := eq_true q158
                go_wp2_with (first | ((with_reducible refine gate_dst (N := 28) rfl ?_); refine Kd.R_lit (Kd.int .u8) _ 5 ?hg (N := 28) ?hd (xs := ([((rd l1 x12_1) / 16777216) % 256, ((rd l1 x12_1) / 65536) % 256, ((rd l1 x12_1) / 256) % 256, (rd l1 x12_1) % 256] : List Int)) (inner := [.int .u8 (((rd l1 x12_1) / 16777216) % 256), .int .u8 (((rd l1 x12_1) / 65536) % 256), .int .u8 (((rd l1 x12_1) / 256) % 256), .int .u8 ((rd l1 x12_1) % 256)]) (ok := fun _ => True) (okp := fun _ => True) ?hr ?hp (fun _ hk => hk) trivial (Below.refl _ _) (Nat.le_refl _) (by simp) ?_; (case hd => rfl); (case hg => rfl); (case hr => first | (go_simp; done) | (go_simp; rfl)); (case hp => exact (Reps.one (show Kd.M (Kd.int .u8) _ _ _ (((rd l1 x12_1) / 16777216) % 256) [.int .u8 (((rd l1 x12_1) / 16777216) % 256)] from rfl) (Reps.one (show Kd.M (Kd.int .u8) _ _ _ (((rd l1 x12_1) / 65536) % 256) [.int .u8 (((rd l1 x12_1) / 65536) % 256)] from rfl) (Reps.one (show Kd.M (Kd.int .u8) _ _ _ (((rd l1 x12_1) / 256) % 256) [.int .u8 (((rd l1 x12_1) / 256) % 256)] from rfl) (Reps.one (show Kd.M (Kd.int .u8) _ _ _ ((rd l1 x12_1) % 256) [.int .u8 ((rd l1 x12_1) % 256)] from rfl) (Reps.none _ _)))))); intro v160 w9 ho10 hb hg_ hnew_; clear hg_ hnew_; (first | rw [← Ny159.out] at ho10 | (simp only [Int.reduceToNat] at ho10; rw [← Ny159.out] at ho10)); have n0_ := Aside0.mk (Kd.R_elder' (by (with_reducible repeat (first | apply Kd.R_alloc | apply Kd.R_drewN | apply Kd.R_drew)); exact HO_5.out) (Kd.R_base ho10) hb); have n1_ := Aside0.mk (Kd.R_lower (Kd.R_new' ho10 (Kd.R_lt (by (with_reducible repeat (first | apply Kd.R_alloc | apply Kd.R_drewN | apply Kd.R_drew)); exact HO_5.out))) (below_size (by repeat (first | (with_reducible first | exact HB.out | apply below_alloc | apply pw_below_drewN | apply below_drew1) | exact HB.out)))); have n2_ := Aside0.mk (below_step (by repeat (first | (with_reducible first | exact HB.out | apply below_alloc | apply pw_below_drewN | apply below_drew1) | exact HB.out)) hb); clear HO_5; clear HB; have HO_5 := n0_; have HO161 := n1_; have HB := n2_; clear n0_ n1_ n2_; clear hb ho10; obtain ⟨Ao12, co12, eo12⟩ := Kd.R_slice HO161.out; subst eo12) | ((with_reducible refine gate_builtin (b := .append) (xs := #[.tmp 16, .tmp 28]) rfl ?_); at_builtin; refine Kd.R_append_rows (Kd.int .u8) (w0 := w) w.heap.size rfl (.tmp 16) (.tmp 28) 22 5 (.int .u8 0) 1 rfl Tryd.underlying22 info5 rfl (by decide) (by omega) u5 x5_1 y159 _ _ _ (fun k_ => some k_ ≠ (.slice Ao12 y159.length co12 : Value).ownBlock) (fun _ => False) rfl rfl ?aO ?aR (fun _ _ h => h) (fun _ h => h.elim) ?aF ?aB ?aS ?aL ?_; (case aR => repeat (first | exact (Kd.R_reads' HO161.out).2.2 | (with_reducible refine Kd.C_alloc ?_ _) | (with_reducible refine Kd.C_drewN ?_ _) | (with_reducible refine Kd.C_drew ?_))); (case aB => exact (by repeat (first | (with_reducible first | exact HB.out | apply below_alloc | apply pw_below_drewN | apply below_drew1) | exact HB.out))); (case aF => exact (fun k_ hk => Kd.fresh' (Kd.R_lt (by (with_reducible repeat (first | apply Kd.R_alloc | apply Kd.R_drewN | apply Kd.R_drew)); exact HO161.out)) k_ hk)); (case aO => exact (by (with_reducible repeat (first | apply Kd.R_alloc | apply Kd.R_drewN | apply Kd.R_drew)); exact Kd.R_mono HO_5.out (fun _ hk => hk.2))); (case aS => exact (below_size (by repeat (first | (with_reducible first | exact HB.out | apply below_alloc | apply pw_below_drewN | apply below_drew1) | exact HB.out)))); (case aL => have := LMc8.out; omega); intro v163 w11 ho hb hg hat; rw [← Ny162.out] at ho; have n0_ := Aside0.mk (Kd.R_after (ok := (fun _ => True)) (by (with_reducible repeat (first | apply Kd.R_alloc | apply Kd.R_drewN | apply Kd.R_drew)); exact HO161.out) hg hat); have n1_ := Aside0.mk (hb); have n2_ := Aside0.mk (ho); clear HO161; clear HB; clear HO_5; have HO161 := n0_; have HB := n1_; have HO164 := n2_; clear n0_ n1_ n2_; clear ho hb hg hat))
                go_roundg k1
                case measure => have := HK1.out; omega
                case rel => exact ⟨(y162), (wrap64 (x12_1 + 1)), (by first | rfl | (simp; done) | (simp [*]; done)), H', ⟨by have := HK1.out; omega⟩, ⟨by (with_reducible repeat (first | apply Kd.R_alloc | apply Kd.R_drewN | apply Kd.R_drew)); exact Kd.R_mono HO164.out (fun _ hk => trivial)⟩, ⟨by repeat (first | (with_reducible first | exact HB.out | apply below_alloc | apply pw_below_drewN | apply below_drew1) | exact HB.out)⟩⟩
              · rw [if_neg c8] at H
                exact absurd H (by simp)
            · rw [if_neg c7] at H
              exact absurd H (by simp)
          · rw [if_neg c6] at H
            exact absurd H (by simp)
        · rw [if_neg c5] at H
          have c5b0 : decide (x12_1 < (l1.length : Int)) = false := decide_eq_false c5
          clear c5
          obtain rfl := Option.some.inj H
          go_wp2
          go_ret
          exact ⟨_, by first | rfl | (simp [errW_none, errW_some] <;> rfl) | (simp [*, errW_none, errW_some] <;> rfl), by (with_reducible repeat (first | apply Kd.R_alloc | apply Kd.R_drewN | apply Kd.R_drew)); exact HO_5.out, by repeat (first | (with_reducible first | exact HB.out | apply below_alloc | apply pw_below_drewN | apply below_drew1) | exact HB.out)⟩
  · rw [if_neg c3] at H
    exact absurd H (by simp)
def num_Get16.f (a0 : ByteArray) (a1 : Int) : Option (Int × Bool) := if a1 < 0 then (some (0, false)) else (if a1 > (wrap64 ((a0.size : Int) - 2)) then (some (0, false)) else (if 0 ≤ a1 then (if a1 < (a0.size : Int) then (if 0 ≤ (wrap64 (a1 + 1)) then (if (wrap64 (a1 + 1)) < (a0.size : Int) then (some (Go.bits .or .u16 (IntKind.u16.wrap ((IntKind.u16.wrap (bt a0 a1)) * 256)) (IntKind.u16.wrap (bt a0 (wrap64 (a1 + 1)))), true)) else (none)) else (none)) else (none)) else (none)))
set_option maxHeartbeats 8000000 in
set_option maxRecDepth 100000 in
theorem num_Get16.calls (a0 : ByteArray) (a1 : Int) (r1 : Int) (r2 : Bool) (w : World) (h : num_Get16.f a0 a1 = some (r1, r2)) :
    Calls Tryd.prog 25 #[.string a0, .int .i64 a1] w fun e w' => e = .returned (.tuple #[.int .u16 r1, .bool r2]) ∧ Drawn0 w w' := by
  have H : (if a1 < 0 then (some (0, false)) else (if a1 > (wrap64 ((a0.size : Int) - 2)) then (some (0, false)) else (if 0 ≤ a1 then (if a1 < (a0.size : Int) then (if 0 ≤ (wrap64 (a1 + 1)) then (if (wrap64 (a1 + 1)) < (a0.size : Int) then (some (Go.bits .or .u16 (IntKind.u16.wrap ((IntKind.u16.wrap (bt a0 a1)) * 256)) (IntKind.u16.wrap (bt a0 (wrap64 (a1 + 1)))), true)) else (none)) else (none)) else (none)) else (none)))) = some (r1, r2) := h
  clear h
  by_cases c3 : a1 < 0
  · rw [if_pos c3] at H
    have c3b0 : decide (a1 < 0) = true := decide_eq_true c3
    clear c3
    simp only [Option.some.injEq, Prod.mk.injEq] at H
    obtain ⟨rfl, rfl⟩ := H
    go_enter Tryd.func25, Tryd.ntmps25
    go_wp2
    repeat (go_quiet (fail); try go_wp2)
    go_ret2
    exact ⟨by first | rfl | (simp; done) | (simp [*]; done), by repeat (first | exact Drawn0.refl _ | apply Drawn0.step)⟩
  · rw [if_neg c3] at H
    have c3b0 : decide (a1 < 0) = false := decide_eq_false c3
    clear c3
    by_cases c4 : a1 > (wrap64 ((a0.size : Int) - 2))
    · rw [if_pos c4] at H
      have c4b0 : decide ((wrap64 ((a0.size : Int) - 2)) < a1) = true := decide_eq_true c4
      (try (have c4b1 : decide ((IntKind.i64.wrap ((a0.size : Int) - 2)) < a1) = true := by simp only [i64_w]; exact (decide_eq_true c4)))
      clear c4
      simp only [Option.some.injEq, Prod.mk.injEq] at H
      obtain ⟨rfl, rfl⟩ := H
      go_enter Tryd.func25, Tryd.ntmps25
      go_wp2
      repeat (go_quiet (fail); try go_wp2)
      go_ret2
      exact ⟨by first | rfl | (simp; done) | (simp [*]; done), by repeat (first | exact Drawn0.refl _ | apply Drawn0.step)⟩
    · rw [if_neg c4] at H
      have c4b0 : decide ((wrap64 ((a0.size : Int) - 2)) < a1) = false := decide_eq_false c4
      (try (have c4b1 : decide ((IntKind.i64.wrap ((a0.size : Int) - 2)) < a1) = false := by simp only [i64_w]; exact (decide_eq_false c4)))
      clear c4
      by_cases c5 : 0 ≤ a1
      · rw [if_pos c5] at H
        have c5b0 : decide (0 ≤ a1) = true := decide_eq_true c5
        clear c5
        by_cases c6 : a1 < (a0.size : Int)
        · rw [if_pos c6] at H
          have c6b0 : decide (a1 < (a0.size : Int)) = true := decide_eq_true c6
          clear c6
          obtain ⟨ji8, hji8⟩ : ∃ j_ : Int, (wrap64 (a1 + 1)) = j_ := ⟨_, rfl⟩
          replace H : (if 0 ≤ (ji8) then (if (ji8) < (a0.size : Int) then (some (Go.bits .or .u16 (IntKind.u16.wrap ((IntKind.u16.wrap (bt a0 a1)) * 256)) (IntKind.u16.wrap (bt a0 (ji8))), true)) else (none)) else (none)) = some (r1, r2) := by first | (rw [hji8] at H; exact H) | (simp only [hji8] at H ⊢; exact H)
          have hji8w : (IntKind.i64.wrap (a1 + 1)) = ji8 := (i64_w _).trans hji8
          by_cases c9 : 0 ≤ (ji8)
          · rw [if_pos c9] at H
            have c9b0 : decide (0 ≤ (ji8)) = true := decide_eq_true c9
            clear c9
            by_cases c10 : (ji8) < (a0.size : Int)
            · rw [if_pos c10] at H
              have c10b0 : decide ((ji8) < (a0.size : Int)) = true := decide_eq_true c10
              clear c10
              simp only [Option.some.injEq, Prod.mk.injEq] at H
              obtain ⟨rfl, rfl⟩ := H
              have p7 : 0 ≤ (a1 : Int) := of_decide_eq_true (by first | (with_reducible assumption) | assumption)
              have q7 : a1 < (a0.size : Int) := of_decide_eq_true (by first | (with_reducible assumption) | assumption)
              have hx7 := bt_at a0 a1
              replace p7 := eq_true p7
              replace q7 := eq_true q7
              have p11 : 0 ≤ ((ji8) : Int) := of_decide_eq_true (by first | (with_reducible assumption) | assumption)
              have q11 : (ji8) < (a0.size : Int) := of_decide_eq_true (by first | (with_reducible assumption) | assumption)
              have hx11 := bt_at a0 (ji8)
              replace p11 := eq_true p11
              replace q11 := eq_true q11
              go_enter Tryd.func25, Tryd.ntmps25
              go_wp2
              repeat (go_quiet (fail); try go_wp2)
              go_ret2
              exact ⟨by first | rfl | (simp; done) | (simp only [← hji8] <;> (first | rfl | simp)) | (simp [*]; done), by repeat (first | exact Drawn0.refl _ | apply Drawn0.step)⟩
            · rw [if_neg c10] at H
              exact absurd H (by simp)
          · rw [if_neg c9] at H
            exact absurd H (by simp)
        · rw [if_neg c6] at H
          exact absurd H (by simp)
      · rw [if_neg c5] at H
        exact absurd H (by simp)
def num_Flags.l0 : Nat → Int → List Bool → Int → Option (List Bool)
  | 0, _, _, _ => none
  | k + 1, x0, x5, x6 => if x6 ≥ 0 then (if 0 ≤ x6 then (if x6 < (x5.length : Int) then (num_Flags.l0 k (x0 / 2) (x5.set (x6 : Int).toNat ((Go.bits .and .u16 x0 1) == 1)) (wrap64 (x6 - 1))) else (none)) else (none)) else (some x5)
def num_Flags.f (k : Nat) (a0 : Int) (a1 : Int) : Option (List Bool) := if 0 ≤ (mx 0 (mn a1 16)) then (if (mx 0 (mn a1 16) : Int).toNat ≤ 281474976710656 then ((some (List.replicate (mx 0 (mn a1 16) : Int).toNat false : List Bool)).bind fun y177 => (num_Flags.l0 k a0 y177 (wrap64 ((y177.length : Int) - 1)))) else (none)) else (none)
theorem num_Flags.mono_l : ∀ k, (∀ y0 y1 y2, LeO (num_Flags.l0 k y0 y1 y2) (num_Flags.l0 (k + 1) y0 y1 y2))
  | 0 => fun _ _ _ r h => by simp [num_Flags.l0] at h
  | k + 1 => by
    have ih0 := num_Flags.mono_l k
    · intro y0 y1 y2
      unfold num_Flags.l0
      repeat' first
      | (with_reducible exact ih0 _ _ _)
      | (with_reducible exact LeO.refl _)
      | (with_reducible exact LeO.none _)
      | (with_reducible refine LeO.ite ?_ ?_)
      | (with_reducible refine LeO.bind ?_ (fun _ => ?_))
      | exact ih0 _ _ _
      | exact LeO.none _
      | refine LeO.ite ?_ ?_
      | refine LeO.bind ?_ (fun _ => ?_)
theorem num_Flags.mono : ∀ a0 a1 k, LeO (num_Flags.f k a0 a1) (num_Flags.f (k + 1) a0 a1) := by
  intro a0 a1 k
  have ih0 := num_Flags.mono_l k
  unfold num_Flags.f
  repeat' first
      | (with_reducible exact ih0 _ _ _)
      | (with_reducible exact LeO.refl _)
      | (with_reducible exact LeO.none _)
      | (with_reducible refine LeO.ite ?_ ?_)
      | (with_reducible refine LeO.bind ?_ (fun _ => ?_))
      | exact ih0 _ _ _
      | exact LeO.none _
      | refine LeO.ite ?_ ?_
      | refine LeO.bind ?_ (fun _ => ?_)
set_option maxHeartbeats 8000000 in
set_option maxRecDepth 100000 in
theorem num_Flags.calls (k : Nat) (a0 : Int) (a1 : Int) (r : List Bool) (w : World) (h : num_Flags.f k a0 a1 = some r) :
    Calls Tryd.prog 26 #[.int .u16 a0, .int .i64 a1] w fun e w' => ∃ v0_ : Value, e = .returned (v0_) ∧ Kd.R Kd.bool 4 w' w.heap.size (fun _ => True) v0_ r ∧ Below w.heap.size w w' := by
  have HB := Aside0.mk (Below.refl w.heap.size w)
  have H : (if 0 ≤ (mx 0 (mn a1 16)) then (if (mx 0 (mn a1 16) : Int).toNat ≤ 281474976710656 then ((some (List.replicate (mx 0 (mn a1 16) : Int).toNat false : List Bool)).bind fun y177 => (num_Flags.l0 k a0 y177 (wrap64 ((y177.length : Int) - 1)))) else (none)) else (none)) = some r := h
  clear h
  obtain ⟨ji3, hji3⟩ : ∃ j_ : Int, (mn a1 16) = j_ := ⟨_, rfl⟩
  replace H : (if 0 ≤ (mx 0 (ji3)) then (if (mx 0 (ji3) : Int).toNat ≤ 281474976710656 then ((some (List.replicate (mx 0 (ji3) : Int).toNat false : List Bool)).bind fun y177 => (num_Flags.l0 k a0 y177 (wrap64 ((y177.length : Int) - 1)))) else (none)) else (none)) = some r := by first | (rw [hji3] at H; exact H) | (simp only [hji3] at H ⊢; exact H)
  (try (have hji3h : ji3 ≤ 16 := by (rw [← hji3]; unfold mn; (repeat' split) <;> omega)))
  (try (have hji3g : ji3 ≤ 64 := by omega))
  have hji3_ : (if 16 < a1 then 16 else a1) = ji3 := hji3
  obtain ⟨ji4, hji4⟩ : ∃ j_ : Int, (mx 0 (ji3)) = j_ := ⟨_, rfl⟩
  replace H : (if 0 ≤ (ji4) then (if (ji4 : Int).toNat ≤ 281474976710656 then ((some (List.replicate (ji4 : Int).toNat false : List Bool)).bind fun y177 => (num_Flags.l0 k a0 y177 (wrap64 ((y177.length : Int) - 1)))) else (none)) else (none)) = some r := by first | (rw [hji4] at H; exact H) | (simp only [hji4] at H ⊢; exact H)
  (try (have hji4h : ji4 ≤ 16 := by (rw [← hji4]; unfold mx; (repeat' split) <;> omega)))
  (try (have hji4g : ji4 ≤ 64 := by omega))
  (try (have hji4l : 0 ≤ ji4 := by (rw [← hji4]; unfold mx; (repeat' split) <;> omega)))
  (try (have hji4m : 0 ≤ ji4 := by omega))
  have hji4_ : (if 0 < (ji3) then (ji3) else 0) = ji4 := hji4
  by_cases c5 : 0 ≤ (ji4)
  · rw [if_pos c5] at H
    have c5b0 := eq_true c5
    have c5b1 : decide (0 ≤ (ji4)) = true := decide_eq_true c5
    clear c5
    by_cases c6 : (ji4 : Int).toNat ≤ 281474976710656
    · rw [if_pos c6] at H
      have c6b0 := eq_true c6
      have c6b1 : decide ((ji4 : Int).toNat ≤ 281474976710656) = true := decide_eq_true c6
      clear c6
      obtain ⟨y177, hy177⟩ : ∃ y_ : List Bool, y_ = (List.replicate (ji4 : Int).toNat false) := ⟨_, rfl⟩
      replace H : (num_Flags.l0 k a0 y177 (wrap64 ((y177.length : Int) - 1))) = some r := by first | (rw [hy177]; with_reducible exact H) | (have H2_ := (Option.bind_some _ _).symm.trans H; rw [hy177]; with_reducible exact H2_) | (have H2_ := (Option.bind_some _ _).symm.trans H; with_reducible exact H2_) | with_reducible exact H | (rw [hy177]; exact H) | exact H
      have Ny177 := Aside0.mk hy177
      clear hy177
      have H' := Aside0.mk H
      clear H
      go_enter Tryd.func26, Tryd.ntmps26
      go_wp2_with (first | ((with_reducible refine gate_dst (N := 10) rfl ?_); refine Kd.R_make Kd.bool _ 4 rfl (N := 10) rfl 75 _ _ rfl ji4 rfl rfl Tryd.underlying75 (.bool false) 1 info4 rfl (by decide) (by omega) false (ok := fun _ => True) (okp := fun _ => True) rfl (fun _ hk => hk) trivial (of_decide_eq_true (by first | (with_reducible assumption) | assumption)) (Nat.le_trans (Nat.mul_le_mul_right _ (of_decide_eq_true (by first | (with_reducible assumption) | assumption) : ji4.toNat ≤ 281474976710656)) (by omega)) (Below.refl _ _) (Nat.le_refl _) ?_; intro v178 w7 ho8 hb hg_ hnew_; clear hg_ hnew_; (first | rw [← Ny177.out] at ho8 | (simp only [Int.reduceToNat] at ho8; rw [← Ny177.out] at ho8)); have n0_ := Aside0.mk (Kd.R_lower ho8 (below_size (by repeat (first | (with_reducible first | exact HB.out | apply below_alloc | apply pw_below_drewN | apply below_drew1) | exact HB.out)))); have n1_ := Aside0.mk (below_step (by repeat (first | (with_reducible first | exact HB.out | apply below_alloc | apply pw_below_drewN | apply below_drew1) | exact HB.out)) hb); clear HB; have HO179 := n0_; have HB := n1_; clear n0_ n1_; clear hb ho8; obtain ⟨Ao9, co9, eo9⟩ := Kd.R_slice HO179.out; subst eo9))
      go_loopg [0, 6] k (fun kq v0 v6 w' => ∃ (x0_1 : Int) (x5_1 : List Bool) (x6_1 : Int), v0 = .int .u16 x0_1 ∧ v6 = .int .i64 x6_1 ∧ Aside0 (num_Flags.l0 kq x0_1 x5_1 x6_1 = some r) ∧ Aside0 (kq ≤ k) ∧ Aside0 (Kd.R Kd.bool 4 w' w.heap.size (fun _ => True) (.slice Ao9 y177.length co9) x5_1) ∧ Aside0 (Below w.heap.size w w'))
      case atStart => exact ⟨(a0), (y177), (wrap64 ((y177.length : Int) - 1)), (by first | rfl | (simp; done) | (simp [*]; done)), (by first | rfl | (simp; done) | (simp [*]; done)), H', ⟨Nat.le_refl _⟩, ⟨by (with_reducible repeat (first | apply Kd.R_alloc | apply Kd.R_drewN | apply Kd.R_drew)); exact HO179.out⟩, ⟨by repeat (first | (with_reducible first | exact HB.out | apply below_alloc | apply pw_below_drewN | apply below_drew1) | exact HB.out)⟩⟩
      case round =>
        clear H'
        try clear c2
        try clear p2
        try clear c5
        try clear c5b0
        try clear c5b1
        try clear c6
        try clear c6b0
        try clear c6b1
        try clear p6
        obtain ⟨x0_1, x5_1, x6_1, rfl, rfl, HA, HK1, HO_5, HB⟩ := hrel
        have hl5_1 := (Kd.R_reads' HO_5.out).1
        rw [hl5_1] at HO_5
        (try simp only [hl5_1])
        cases gk with
        | zero => exact absurd HA.out (by simp [num_Flags.l0])
        | succ k1 =>
          have H := HA.out
          clear HA
          simp only [num_Flags.l0] at H
          by_cases c10 : x6_1 ≥ 0
          · rw [if_pos c10] at H
            have c10b0 : decide (0 ≤ x6_1) = true := decide_eq_true c10
            clear c10
            by_cases c11 : 0 ≤ x6_1
            · rw [if_pos c11] at H
              have c11b0 : decide (0 ≤ x6_1) = true := decide_eq_true c11
              clear c11
              by_cases c12 : x6_1 < (x5_1.length : Int)
              · rw [if_pos c12] at H
                have c12b0 : decide (x6_1 < (x5_1.length : Int)) = true := decide_eq_true c12
                clear c12
                obtain ⟨y180, hy180⟩ : ∃ y_ : List Bool, y_ = (x5_1.set (x6_1 : Int).toNat ((Go.bits .and .u16 x0_1 1) == 1)) := ⟨_, rfl⟩
                replace H : (num_Flags.l0 k1 (x0_1 / 2) y180 (wrap64 (x6_1 - 1))) = some r := by first | (rw [hy180]; with_reducible exact H) | (have H2_ := (Option.bind_some _ _).symm.trans H; rw [hy180]; with_reducible exact H2_) | (have H2_ := (Option.bind_some _ _).symm.trans H; with_reducible exact H2_) | with_reducible exact H | (rw [hy180]; exact H) | exact H
                have Ny180 := Aside0.mk hy180
                clear hy180
                have H' := Aside0.mk H
                clear H
                have p13 : 0 ≤ (x6_1 : Int) := of_decide_eq_true (by first | (with_reducible assumption) | assumption)
                have q13 : (x6_1 : Int) < ((x5_1.length : Int) : Int) := of_decide_eq_true (by first | (with_reducible assumption) | assumption)
                obtain ⟨go13, co13, eo13, gb13, gl13, cl13, HG13⟩ := Kd.R_form HO_5.out (by omega)
                (first | cases eo13 | (injection eo13 with ea_ en_ ec_; (first | subst ea_ | (injection ea_ with ea_; subst ea_)); subst ec_; clear en_))
                have GB13 := Aside0.mk gb13
                have GG13 := Aside0.mk HG13
                clear gb13 gl13 HG13
                obtain ⟨hx13_0, hf13_0⟩ := Kd.R_celln false HO_5.out (x6_1 : Int) p13 q13
                replace p13 := eq_true p13
                replace q13 := eq_true q13
                have HP14 := Kd.R_putg HO_5.out (x6_1 : Int) ((Go.bits .and .u16 x0_1 1) == 1)
                go_wp2_with (first | ((with_reducible refine gate_store (t := 4) (p := 23) rfl ?_); refine store_event (t := 4) (p := 23) (v := ?vo_w15) (w1 := (wr.setCell ⟨go13, (x6_1 : Int).toNat, none⟩ (.bool ((Go.bits .and .u16 x0_1 1) == 1)))) ?hg ?ho ?hn ?hr ?_; (case ho => rfl); (case hg => rfl); (case hn => rfl); (case hr => first | (go_simp; done) | (go_simp; rfl)); intro w15 hw; have hg : wr.grownBy w15 (some go13) := (by rw [hw]; exact HP14.2); have hp_ : Kd.R Kd.bool 4 w15 w.heap.size (fun _ => True) (.slice (some ⟨go13, 0, none⟩) x5_1.length co9) y180 := (by rw [hw, Ny180.out]; exact HP14.1); clear HP14; have n0_ := Aside0.mk (hp_); have n1_ := Aside0.mk ((by rw [hw]; exact below_set (HB.out) GB13.out : Below w.heap.size w w15)); clear HO_5; clear HB; have HO_5 := n0_; have HB := n1_; clear n0_ n1_; clear hg hw hp_))
                (try simp only [← hl5_1])
                go_roundg k1
                case measure => have := HK1.out; omega
                case rel => exact ⟨(x0_1 / 2), (y180), (wrap64 (x6_1 - 1)), (by first | rfl | (simp; done) | (simp [*]; done)), (by first | rfl | (simp; done) | (simp [*]; done)), H', ⟨by have := HK1.out; omega⟩, ⟨by (try simp only [hl5_1]); (with_reducible repeat (first | apply Kd.R_alloc | apply Kd.R_drewN | apply Kd.R_drew)); exact HO_5.out⟩, ⟨by repeat (first | (with_reducible first | exact HB.out | apply below_alloc | apply pw_below_drewN | apply below_drew1) | exact HB.out)⟩⟩
              · rw [if_neg c12] at H
                exact absurd H (by simp)
            · rw [if_neg c11] at H
              exact absurd H (by simp)
          · rw [if_neg c10] at H
            have c10b0 : decide (0 ≤ x6_1) = false := decide_eq_false c10
            clear c10
            obtain rfl := Option.some.inj H
            go_wp2
            go_ret
            exact ⟨_, by first | rfl | (simp [errW_none, errW_some] <;> rfl) | (simp only [← hji3, ← hji4]; first | rfl | (simp [errW_none, errW_some] <;> rfl)) | (simp [*, errW_none, errW_some] <;> rfl), by (with_reducible repeat (first | apply Kd.R_alloc | apply Kd.R_drewN | apply Kd.R_drew)); exact HO_5.out, by repeat (first | (with_reducible first | exact HB.out | apply below_alloc | apply pw_below_drewN | apply below_drew1) | exact HB.out)⟩
    · rw [if_neg c6] at H
      exact absurd H (by simp)
  · rw [if_neg c5] at H
    exact absurd H (by simp)
def message_head.f (k : Nat) (a0 : Int) (a1 : Int) : Option (Int × Bool × Int × Bool × Bool × Bool × Bool × Int) := (num_Flags.f k (a1 / 128) 4).bind fun t182 => (if 0 < (t182.length : Int) then (if 1 < (t182.length : Int) then (if 2 < (t182.length : Int) then (if 3 < (t182.length : Int) then (some (a0, ((a1 / 32768) == 1), wrap64 (Go.bits .and .u16 (a1 / 2048) 15), rdOf false t182 0, rdOf false t182 1, rdOf false t182 2, rdOf false t182 3, wrap64 (Go.bits .and .u16 a1 15))) else (none)) else (none)) else (none)) else (none))
theorem message_head.mono : ∀ a0 a1 k, LeO (message_head.f k a0 a1) (message_head.f (k + 1) a0 a1) := by
  intro a0 a1 k
  unfold message_head.f
  repeat' first
      | (with_reducible exact num_Flags.mono _ _ _)
      | (with_reducible exact LeO.refl _)
      | (with_reducible exact LeO.none _)
      | (with_reducible refine LeO.ite ?_ ?_)
      | (with_reducible refine LeO.bind ?_ (fun _ => ?_))
      | exact num_Flags.mono _ _ _
      | exact LeO.none _
      | refine LeO.ite ?_ ?_
      | refine LeO.bind ?_ (fun _ => ?_)
def message_head.T2 : Bool × List (List Nat × List Nat) := (true, [([], []), ([], []), ([1], [1]), ([2], [2]), ([], []), ([4], [4]), ([5], [5]), ([6], [6]), ([], []), ([8], [8]), ([9], [9]), ([], []), ([11], [11]), ([12], [12]), ([], []), ([14], [14]), ([15], [15]), ([], []), ([17], [17]), ([18], [18]), ([], []), ([20], [20]), ([21], [21]), ([0, 3, 7, 10, 13, 16, 19, 22], [0, 3, 7, 10, 13, 16, 19, 22]), ([23, 0, 1, 2, 3, 4, 5, 6, 7, 8, 9, 10, 11, 12, 13, 14, 15, 16, 17, 18, 19, 20, 21, 22, 23], [23])])
def message_head.B2 : List Nat := [0, 0, 2, 6, 0, 16, 48, 112, 0, 256, 768, 0, 2048, 6144, 0, 16384, 49152, 0, 131072, 393216, 0, 1048576, 3145728, 8388607, 16777215]
theorem message_head.tab2 : rtab .any (opsOf Tryd.f15 2) = message_head.T2 := by kernel_rfl
theorem message_head.bits2 : waitsOk message_head.T2.2 message_head.B2 = true := by kernel_rfl
set_option maxHeartbeats 8000000 in
set_option maxRecDepth 100000 in
theorem message_head.calls (k : Nat) (a0 : Int) (a1 : Int) (r1 : Int) (r2 : Bool) (r3 : Int) (r4 : Bool) (r5 : Bool) (r6 : Bool) (r7 : Bool) (r8 : Int) (w : World) (h : message_head.f k a0 a1 = some (r1, r2, r3, r4, r5, r6, r7, r8)) :
    Calls Tryd.prog 15 #[.int .u16 a0, .int .u16 a1] w fun e w' => e = .returned (.agg #[.int .u16 r1, .bool r2, .int .i64 r3, .bool r4, .bool r5, .bool r6, .bool r7, .int .i64 r8]) ∧ Below w.heap.size w w' := by
  have hu26 := Tryd.underlying26
  have HB := Aside0.mk (Below.refl w.heap.size w)
  have H : ((num_Flags.f k (a1 / 128) 4).bind fun t182 => (if 0 < (t182.length : Int) then (if 1 < (t182.length : Int) then (if 2 < (t182.length : Int) then (if 3 < (t182.length : Int) then (some (a0, ((a1 / 32768) == 1), wrap64 (Go.bits .and .u16 (a1 / 2048) 15), rdOf false t182 0, rdOf false t182 1, rdOf false t182 2, rdOf false t182 3, wrap64 (Go.bits .and .u16 a1 15))) else (none)) else (none)) else (none)) else (none))) = some (r1, r2, r3, r4, r5, r6, r7, r8) := h
  clear h
  replace H := Option.bind_eq_some_iff.mp H
  obtain ⟨t182, A30, H⟩ := H
  replace H : (if 0 < (t182.length : Int) then (if 1 < (t182.length : Int) then (if 2 < (t182.length : Int) then (if 3 < (t182.length : Int) then (some (a0, ((a1 / 32768) == 1), wrap64 (Go.bits .and .u16 (a1 / 2048) 15), rdOf false t182 0, rdOf false t182 1, rdOf false t182 2, rdOf false t182 3, wrap64 (Go.bits .and .u16 a1 15))) else (none)) else (none)) else (none)) else (none)) = some (r1, r2, r3, r4, r5, r6, r7, r8) := H
  have A3 := Aside0.mk A30
  clear A30
  by_cases c4 : 0 < (t182.length : Int)
  · rw [if_pos c4] at H
    have c4b0 : decide (0 < (t182.length : Int)) = true := decide_eq_true c4
    have c4b1 : decide (0 < t182.length) = true := decide_eq_true (by omega)
    clear c4
    by_cases c5 : 1 < (t182.length : Int)
    · rw [if_pos c5] at H
      have c5b0 : decide (1 < (t182.length : Int)) = true := decide_eq_true c5
      have c5b1 : decide (1 < t182.length) = true := decide_eq_true (by omega)
      clear c5
      by_cases c6 : 2 < (t182.length : Int)
      · rw [if_pos c6] at H
        have c6b0 : decide (2 < (t182.length : Int)) = true := decide_eq_true c6
        have c6b1 : decide (2 < t182.length) = true := decide_eq_true (by omega)
        clear c6
        by_cases c7 : 3 < (t182.length : Int)
        · rw [if_pos c7] at H
          have c7b0 : decide (3 < (t182.length : Int)) = true := decide_eq_true c7
          have c7b1 : decide (3 < t182.length) = true := decide_eq_true (by omega)
          clear c7
          simp only [Option.some.injEq, Prod.mk.injEq] at H
          obtain ⟨rfl, rfl, rfl, rfl, rfl, rfl, rfl, rfl⟩ := H
          go_enter Tryd.func15, Tryd.ntmps15
          try go_wp2_with (first | ((with_reducible refine gate_dst (N := 4) rfl ?_); refine box_event ?hg (N := 4) ?hd (cs := #[.int .u16 0, .bool false, .int .i64 0, .bool false, .bool false, .bool false, .bool false, .int .i64 0]) (t := 26) ?hr ?_; (case hd => rfl); (case hg => rfl); (case hr => first | (go_simp; done) | (go_simp; rfl)); intro gb181 hg w8 hbox hb; have n0_ := Aside0.mk (below_step (by repeat (first | (with_reducible first | exact HB.out | apply below_alloc | apply pw_below_drewN | apply below_drew1) | exact HB.out)) hb); have n1_ := Aside0.mk (hbox); have n2_ := Aside0.mk ((by rw [hg]; exact (below_size (by repeat (first | (with_reducible first | exact HB.out | apply below_alloc | apply pw_below_drewN | apply below_drew1) | exact HB.out))) : w.heap.size ≤ gb181)); have n3_ := Aside0.mk ((by rw [hg]; exact (below_size (by repeat (first | (with_reducible first | exact HB.out | apply below_alloc | apply pw_below_drewN | apply below_drew1) | exact HB.out))) : w.heap.size ≤ gb181)); clear HB; have HB := n0_; have BK181 := n1_; have GW181 := n2_; have GE181 := n3_; clear n0_ n1_ n2_ n3_; clear hb hbox hg) | ((with_reducible refine gate_callee (f := 26) rfl ?_); refine goesL_ (some 8) rfl rfl Tryd.func26 (by kernel_rfl) rfl #[.int .u16 (a1 / 128), .int .i64 4] rfl (by (try simp only [List.map_toArray, List.map_cons, List.map_nil]); first | done | rfl | (simp only [List.length_drop, List.length_take]; rfl)) ?_; (with_reducible refine (num_Flags.calls k (a1 / 128) 4 t182 _ A3.out).mono ?_); rintro e w9 ⟨v183, rfl, ho0, hb⟩; refine ⟨_, rfl, ?_⟩; have n0_ := Aside0.mk (Kd.R_lower ho0 (below_size (by repeat (first | (with_reducible first | exact HB.out | apply below_alloc | apply pw_below_drewN | apply below_drew1 | refine below_set ?_ GE181.out) | exact HB.out)))); have n1_ := Aside0.mk (blk_below (g := gb181) (o := .cells #[.int .u16 0, .bool false, .int .i64 0, .bool false, .bool false, .bool false, .bool false, .int .i64 0] 26 (0, 0)) (by (with_reducible repeat (first | refine blk_drewN ?_ _ | refine blk_drew ?_ | refine blk_alloc ?_ _)); exact BK181.out) hb); have n2_ := Aside0.mk (below_step (by repeat (first | (with_reducible first | exact HB.out | apply below_alloc | apply pw_below_drewN | apply below_drew1 | refine below_set ?_ GE181.out) | exact HB.out)) hb); clear BK181; clear HB; have HO184 := n0_; have BK181 := n1_; have HB := n2_; clear n0_ n1_ n2_; (try clear hb); (try clear hb2); (try clear hk); (try clear hi); (try clear ho0)))
          have n0_ := Aside0.mk (Kd.R_drew HO184.out)
          have n1_ := Aside0.mk (blk_drew BK181.out)
          have n2_ := Aside0.mk (below_drew1 HB.out)
          clear HO184
          clear BK181
          clear HB
          have HO184 := n0_
          have BK181 := n1_
          have HB := n2_
          clear n0_ n1_ n2_
          obtain ⟨Ao11, co11, eo11⟩ := Kd.R_slice HO184.out
          (first | subst eo11 | (injection eo11 with f1_ f2_ f3_; have f4_ := f1_.symm; have f5_ := f3_.symm; clear f1_ f2_ f3_; subst f4_; subst f5_))
          have p185 : 0 ≤ (0 : Int) := (by omega)
          have q185 : 0 < (t182.length : Int) := of_decide_eq_true (by first | (with_reducible assumption) | assumption)
          obtain ⟨ad185, e185, hx185_0⟩ := Kd.at_bool (Kd.R_reads' HO184.out).2.2 0 p185 q185
          cases e185
          have qi185 : (0 < t182.length) = True := eq_true (by omega)
          (try rw [show ((0 : Int)).toNat = 0 from rfl] at hx185_0)
          (try rw [Addr.add_zero'] at hx185_0)
          replace p185 := eq_true p185
          replace q185 := eq_true q185
          have p186 : 0 ≤ (1 : Int) := (by omega)
          have q186 : 1 < (t182.length : Int) := of_decide_eq_true (by first | (with_reducible assumption) | assumption)
          obtain ⟨ad186, e186, hx186_0⟩ := Kd.at_bool (Kd.R_reads' HO184.out).2.2 1 p186 q186
          obtain rfl : ad185 = ad186 := (by injection e186)
          (try simp only [show (1 : Int).toNat = 1 from rfl, Nat.reduceMul, Nat.reduceEqDiff, Go.Addr.add, ↓reduceIte] at hx186_0)
          have qi186 : (1 < t182.length) = True := eq_true (by omega)
          (try rw [show ((1 : Int)).toNat = 1 from rfl] at hx186_0)
          replace p186 := eq_true p186
          replace q186 := eq_true q186
          have p187 : 0 ≤ (2 : Int) := (by omega)
          have q187 : 2 < (t182.length : Int) := of_decide_eq_true (by first | (with_reducible assumption) | assumption)
          obtain ⟨ad187, e187, hx187_0⟩ := Kd.at_bool (Kd.R_reads' HO184.out).2.2 2 p187 q187
          obtain rfl : ad185 = ad187 := (by injection e187)
          (try simp only [show (2 : Int).toNat = 2 from rfl, Nat.reduceMul, Nat.reduceEqDiff, Go.Addr.add, ↓reduceIte] at hx187_0)
          have qi187 : (2 < t182.length) = True := eq_true (by omega)
          (try rw [show ((2 : Int)).toNat = 2 from rfl] at hx187_0)
          replace p187 := eq_true p187
          replace q187 := eq_true q187
          have p188 : 0 ≤ (3 : Int) := (by omega)
          have q188 : 3 < (t182.length : Int) := of_decide_eq_true (by first | (with_reducible assumption) | assumption)
          obtain ⟨ad188, e188, hx188_0⟩ := Kd.at_bool (Kd.R_reads' HO184.out).2.2 3 p188 q188
          obtain rfl : ad185 = ad188 := (by injection e188)
          (try simp only [show (3 : Int).toNat = 3 from rfl, Nat.reduceMul, Nat.reduceEqDiff, Go.Addr.add, ↓reduceIte] at hx188_0)
          have qi188 : (3 < t182.length) = True := eq_true (by omega)
          (try rw [show ((3 : Int)).toNat = 3 from rfl] at hx188_0)
          replace p188 := eq_true p188
          replace q188 := eq_true q188
          refine start_ (n := 25) (S := fun w' => w'.cell? ad185 = some (.bool (rdOf false t182 0)) ∧ w'.cell? ⟨ad185.block, ad185.off + 1, none⟩ = some (.bool (rdOf false t182 1)) ∧ w'.cell? ⟨ad185.block, ad185.off + 2, none⟩ = some (.bool (rdOf false t182 2)) ∧ w'.cell? ⟨ad185.block, ad185.off + 3, none⟩ = some (.bool (rdOf false t182 3))) (ds := []) #[false, false, false, false, false, false, false, false, false, false, false, false, false, false, false, false, false, false, false, false, false, false, false, false, false] (by kernel_rfl) rfl rfl ⟨hx185_0, hx186_0, hx187_0, hx188_0⟩ (fun hHeld => ?_); refine with_tabW message_head.tab2 message_head.bits2 (fun HT_ HW_ => ?_)
          generalize w9.drew = w10 at HO184 BK181 HB hx185_0 hx186_0 hx187_0 hx188_0 hHeld ⊢
          refine pure_ (i := 0) (N := some 9) (v := ?_) (a' := ?_) #[true, false, false, false, false, false, false, false, false, false, false, false, false, false, false, false, false, false, false, false, false, false, false, false, false] rfl rfl (any_of HT_.out (by kernel_rfl)) (fun _ _ _ h => h) (Or.inl ⟨by rfl, ?_⟩) ?_ ?_
          rotate_left
          · intro w'
            go_simp
            with_reducible rfl
          rotate_left
          · simp only [Act.put, List.setIfInBounds_toArray, List.set_cons_zero, List.set_cons_succ, i64_w, i32_w]
            rfl
          refine pure_ (i := 1) (N := some 10) (v := ?_) (a' := ?_) #[true, true, false, false, false, false, false, false, false, false, false, false, false, false, false, false, false, false, false, false, false, false, false, false, false] rfl rfl (any_of HT_.out (by kernel_rfl)) (fun _ _ _ h => h) (Or.inl ⟨by rfl, ?_⟩) ?_ ?_
          rotate_left
          · intro w'
            go_simp
            with_reducible rfl
          rotate_left
          · simp only [Act.put, List.setIfInBounds_toArray, List.set_cons_zero, List.set_cons_succ, i64_w, i32_w]
            rfl
          refine pure_ (i := 2) (N := some 11) (v := ?_) (a' := ?_) #[true, true, true, false, false, false, false, false, false, false, false, false, false, false, false, false, false, false, false, false, false, false, false, false, false] rfl rfl (any_of HT_.out (by kernel_rfl)) (fun _ _ _ h => h) (Or.inl ⟨by rfl, ?_⟩) ?_ ?_
          rotate_left
          · intro w'
            go_simp
            with_reducible rfl
          rotate_left
          · simp only [Act.put, List.setIfInBounds_toArray, List.set_cons_zero, List.set_cons_succ, i64_w, i32_w]
            rfl
          refine pure_ (i := 3) (N := some 12) (v := ?_) (a' := ?_) #[true, true, true, true, false, false, false, false, false, false, false, false, false, false, false, false, false, false, false, false, false, false, false, false, false] rfl rfl (any_of HT_.out (by kernel_rfl)) (fun _ _ _ h => h) (Or.inl ⟨by rfl, ?_⟩) ?_ ?_
          rotate_left
          · intro w'
            go_simp
            with_reducible rfl
          rotate_left
          · simp only [Act.put, List.setIfInBounds_toArray, List.set_cons_zero, List.set_cons_succ, i64_w, i32_w]
            rfl
          refine pure_ (i := 4) (N := some 13) (v := ?_) (a' := ?_) #[true, true, true, true, true, false, false, false, false, false, false, false, false, false, false, false, false, false, false, false, false, false, false, false, false] rfl rfl (any_of HT_.out (by kernel_rfl)) (fun _ _ _ h => h) (Or.inl ⟨by rfl, ?_⟩) ?_ ?_
          rotate_left
          · intro w'
            go_simp
            with_reducible rfl
          rotate_left
          · simp only [Act.put, List.setIfInBounds_toArray, List.set_cons_zero, List.set_cons_succ, i64_w, i32_w]
            rfl
          refine pure_ (i := 5) (N := some 14) (v := ?_) (a' := ?_) #[true, true, true, true, true, true, false, false, false, false, false, false, false, false, false, false, false, false, false, false, false, false, false, false, false] rfl rfl (any_of HT_.out (by kernel_rfl)) (fun _ _ _ h => h) (Or.inl ⟨by rfl, ?_⟩) ?_ ?_
          rotate_left
          · intro w'
            go_simp
            with_reducible rfl
          rotate_left
          · simp only [Act.put, List.setIfInBounds_toArray, List.set_cons_zero, List.set_cons_succ, i64_w, i32_w]
            rfl
          refine pure_ (i := 6) (N := some 15) (v := ?_) (a' := ?_) #[true, true, true, true, true, true, true, false, false, false, false, false, false, false, false, false, false, false, false, false, false, false, false, false, false] rfl rfl (any_of HT_.out (by kernel_rfl)) (fun _ _ _ h => h) (Or.inl ⟨by rfl, ?_⟩) ?_ ?_
          rotate_left
          · intro w'
            go_simp
            with_reducible rfl
          rotate_left
          · simp only [Act.put, List.setIfInBounds_toArray, List.set_cons_zero, List.set_cons_succ, i64_w, i32_w]
            rfl
          refine pure_ (i := 7) (N := some 16) (v := ?_) (a' := ?_) #[true, true, true, true, true, true, true, true, false, false, false, false, false, false, false, false, false, false, false, false, false, false, false, false, false] rfl rfl (any_of HT_.out (by kernel_rfl)) (fun _ _ _ h => h) (Or.inl ⟨by rfl, ?_⟩) ?_ ?_
          rotate_left
          · intro w'
            go_simp
            with_reducible rfl
          rotate_left
          · simp only [Act.put, List.setIfInBounds_toArray, List.set_cons_zero, List.set_cons_succ, i64_w, i32_w]
            rfl
          refine pure_ (i := 8) (N := some 17) (v := ?_) (a' := ?_) #[true, true, true, true, true, true, true, true, true, false, false, false, false, false, false, false, false, false, false, false, false, false, false, false, false] rfl rfl (any_of HT_.out (by kernel_rfl)) (fun _ _ _ h => h) (Or.inl ⟨by rfl, ?_⟩) ?_ ?_
          rotate_left
          · intro w'
            go_simp
            with_reducible rfl
          rotate_left
          · simp only [Act.put, List.setIfInBounds_toArray, List.set_cons_zero, List.set_cons_succ, i64_w, i32_w]
            rfl
          refine pure_ (i := 9) (N := some 18) (v := ?_) (a' := ?_) #[true, true, true, true, true, true, true, true, true, true, false, false, false, false, false, false, false, false, false, false, false, false, false, false, false] rfl rfl (any_of HT_.out (by kernel_rfl)) (fun _ _ _ h => h) (Or.inl ⟨by rfl, ?_⟩) ?_ ?_
          rotate_left
          · intro w'
            go_simp
            with_reducible rfl
          rotate_left
          · simp only [Act.put, List.setIfInBounds_toArray, List.set_cons_zero, List.set_cons_succ, i64_w, i32_w]
            rfl
          refine pure_ (i := 11) (N := some 20) (v := ?_) (a' := ?_) #[true, true, true, true, true, true, true, true, true, true, false, true, false, false, false, false, false, false, false, false, false, false, false, false, false] rfl rfl (any_of HT_.out (by kernel_rfl)) (fun _ _ _ h => h) (Or.inl ⟨by rfl, ?_⟩) ?_ ?_
          rotate_left
          · intro w'
            go_simp
            with_reducible rfl
          rotate_left
          · simp only [Act.put, List.setIfInBounds_toArray, List.set_cons_zero, List.set_cons_succ, i64_w, i32_w]
            rfl
          refine pure_ (i := 12) (N := some 21) (v := ?_) (a' := ?_) #[true, true, true, true, true, true, true, true, true, true, false, true, true, false, false, false, false, false, false, false, false, false, false, false, false] rfl rfl (any_of HT_.out (by kernel_rfl)) (fun _ _ _ h => h) (Or.inl ⟨by rfl, ?_⟩) ?_ ?_
          rotate_left
          · intro w'
            go_simp
            with_reducible rfl
          rotate_left
          · simp only [Act.put, List.setIfInBounds_toArray, List.set_cons_zero, List.set_cons_succ, i64_w, i32_w]
            rfl
          refine pure_ (i := 14) (N := some 23) (v := ?_) (a' := ?_) #[true, true, true, true, true, true, true, true, true, true, false, true, true, false, true, false, false, false, false, false, false, false, false, false, false] rfl rfl (any_of HT_.out (by kernel_rfl)) (fun _ _ _ h => h) (Or.inl ⟨by rfl, ?_⟩) ?_ ?_
          rotate_left
          · intro w'
            go_simp
            with_reducible rfl
          rotate_left
          · simp only [Act.put, List.setIfInBounds_toArray, List.set_cons_zero, List.set_cons_succ, i64_w, i32_w]
            rfl
          refine pure_ (i := 15) (N := some 24) (v := ?_) (a' := ?_) #[true, true, true, true, true, true, true, true, true, true, false, true, true, false, true, true, false, false, false, false, false, false, false, false, false] rfl rfl (any_of HT_.out (by kernel_rfl)) (fun _ _ _ h => h) (Or.inl ⟨by rfl, ?_⟩) ?_ ?_
          rotate_left
          · intro w'
            go_simp
            with_reducible rfl
          rotate_left
          · simp only [Act.put, List.setIfInBounds_toArray, List.set_cons_zero, List.set_cons_succ, i64_w, i32_w]
            rfl
          refine pure_ (i := 17) (N := some 26) (v := ?_) (a' := ?_) #[true, true, true, true, true, true, true, true, true, true, false, true, true, false, true, true, false, true, false, false, false, false, false, false, false] rfl rfl (any_of HT_.out (by kernel_rfl)) (fun _ _ _ h => h) (Or.inl ⟨by rfl, ?_⟩) ?_ ?_
          rotate_left
          · intro w'
            go_simp
            with_reducible rfl
          rotate_left
          · simp only [Act.put, List.setIfInBounds_toArray, List.set_cons_zero, List.set_cons_succ, i64_w, i32_w]
            rfl
          refine pure_ (i := 18) (N := some 27) (v := ?_) (a' := ?_) #[true, true, true, true, true, true, true, true, true, true, false, true, true, false, true, true, false, true, true, false, false, false, false, false, false] rfl rfl (any_of HT_.out (by kernel_rfl)) (fun _ _ _ h => h) (Or.inl ⟨by rfl, ?_⟩) ?_ ?_
          rotate_left
          · intro w'
            go_simp
            with_reducible rfl
          rotate_left
          · simp only [Act.put, List.setIfInBounds_toArray, List.set_cons_zero, List.set_cons_succ, i64_w, i32_w]
            rfl
          refine pure_ (i := 20) (N := some 29) (v := ?_) (a' := ?_) #[true, true, true, true, true, true, true, true, true, true, false, true, true, false, true, true, false, true, true, false, true, false, false, false, false] rfl rfl (any_of HT_.out (by kernel_rfl)) (fun _ _ _ h => h) (Or.inl ⟨by rfl, ?_⟩) ?_ ?_
          rotate_left
          · intro w'
            go_simp
            with_reducible rfl
          rotate_left
          · simp only [Act.put, List.setIfInBounds_toArray, List.set_cons_zero, List.set_cons_succ, i64_w, i32_w]
            rfl
          refine pure_ (i := 21) (N := some 30) (v := ?_) (a' := ?_) #[true, true, true, true, true, true, true, true, true, true, false, true, true, false, true, true, false, true, true, false, true, true, false, false, false] rfl rfl (any_of HT_.out (by kernel_rfl)) (fun _ _ _ h => h) (Or.inl ⟨by rfl, ?_⟩) ?_ ?_
          rotate_left
          · intro w'
            go_simp
            with_reducible rfl
          rotate_left
          · simp only [Act.put, List.setIfInBounds_toArray, List.set_cons_zero, List.set_cons_succ, i64_w, i32_w]
            rfl
          refine pure_ (i := 22) (N := some 31) (v := ?_) (a' := ?_) #[true, true, true, true, true, true, true, true, true, true, false, true, true, false, true, true, false, true, true, false, true, true, true, false, false] rfl rfl (any_of HT_.out (by kernel_rfl)) (fun _ _ _ h => h) (Or.inl ⟨by rfl, ?_⟩) ?_ ?_
          rotate_left
          · intro w'
            go_simp
            with_reducible rfl
          rotate_left
          · simp only [Act.put, List.setIfInBounds_toArray, List.set_cons_zero, List.set_cons_succ, i64_w, i32_w]
            rfl
          refine take_ (i := 10) (N := some 19) (v := ?_) (a' := ?_) #[true, true, true, true, true, true, true, true, true, true, true, true, true, false, true, true, false, true, true, false, true, true, true, false, false] rfl rfl (take_ofW HT_.out HW_.out (by kernel_rfl)) (fun _ _ _ h => h) (Or.inl ⟨by rfl, ?_⟩) hHeld ?_ ?_
          rotate_left
          · rintro w' ⟨s0, s1, s2, s3⟩
            go_simp
            with_reducible rfl
          rotate_left
          · simp only [Act.put, List.setIfInBounds_toArray, List.set_cons_zero, List.set_cons_succ, i64_w, i32_w]
            rfl
          refine take_ (i := 13) (N := some 22) (v := ?_) (a' := ?_) #[true, true, true, true, true, true, true, true, true, true, true, true, true, true, true, true, false, true, true, false, true, true, true, false, false] rfl rfl (take_ofW HT_.out HW_.out (by kernel_rfl)) (fun _ _ _ h => h) (Or.inl ⟨by rfl, ?_⟩) hHeld ?_ ?_
          rotate_left
          · rintro w' ⟨s0, s1, s2, s3⟩
            go_simp
            with_reducible rfl
          rotate_left
          · simp only [Act.put, List.setIfInBounds_toArray, List.set_cons_zero, List.set_cons_succ, i64_w, i32_w]
            rfl
          refine take_ (i := 16) (N := some 25) (v := ?_) (a' := ?_) #[true, true, true, true, true, true, true, true, true, true, true, true, true, true, true, true, true, true, true, false, true, true, true, false, false] rfl rfl (take_ofW HT_.out HW_.out (by kernel_rfl)) (fun _ _ _ h => h) (Or.inl ⟨by rfl, ?_⟩) hHeld ?_ ?_
          rotate_left
          · rintro w' ⟨s0, s1, s2, s3⟩
            go_simp
            with_reducible rfl
          rotate_left
          · simp only [Act.put, List.setIfInBounds_toArray, List.set_cons_zero, List.set_cons_succ, i64_w, i32_w]
            rfl
          refine take_ (i := 19) (N := some 28) (v := ?_) (a' := ?_) #[true, true, true, true, true, true, true, true, true, true, true, true, true, true, true, true, true, true, true, true, true, true, true, false, false] rfl rfl (take_ofW HT_.out HW_.out (by kernel_rfl)) (fun _ _ _ h => h) (Or.inl ⟨by rfl, ?_⟩) hHeld ?_ ?_
          rotate_left
          · rintro w' ⟨s0, s1, s2, s3⟩
            go_simp
            with_reducible rfl
          rotate_left
          · simp only [Act.put, List.setIfInBounds_toArray, List.set_cons_zero, List.set_cons_succ, i64_w, i32_w]
            rfl
          refine pure_ (i := 23) (N := some 32) (v := ?_) (a' := ?_) #[true, true, true, true, true, true, true, true, true, true, true, true, true, true, true, true, true, true, true, true, true, true, true, true, false] rfl rfl (any_of HT_.out (by kernel_rfl)) (fun _ _ _ h => h) (Or.inl ⟨by rfl, ?_⟩) ?_ ?_
          rotate_left
          · intro w'
            go_simp
            with_reducible rfl
          rotate_left
          · simp only [Act.put, List.setIfInBounds_toArray, List.set_cons_zero, List.set_cons_succ, i64_w, i32_w]
            rfl
          refine one_ (i := 24) (N := none) #[true, true, true, true, true, true, true, true, true, true, true, true, true, true, true, true, true, true, true, true, true, true, true, true, true] rfl rfl (one_of HT_.out (by kernel_rfl)) (by decide) (fun K hK => ?_)
          have hs12 : w10.cell? ⟨gb181, 0, none⟩ = some (.int .u16 0) := (blk_cell BK181.out 0).trans rfl
          have hfs12 := blk_frozen BK181.out 0
          have hs13 : w10.cell? ⟨gb181, 1, none⟩ = some (.bool false) := (blk_cell BK181.out 1).trans rfl
          have hfs13 := blk_frozen BK181.out 1
          have hs14 : w10.cell? ⟨gb181, 2, none⟩ = some (.int .i64 0) := (blk_cell BK181.out 2).trans rfl
          have hfs14 := blk_frozen BK181.out 2
          have hs15 : w10.cell? ⟨gb181, 3, none⟩ = some (.bool false) := (blk_cell BK181.out 3).trans rfl
          have hfs15 := blk_frozen BK181.out 3
          have hs16 : w10.cell? ⟨gb181, 4, none⟩ = some (.bool false) := (blk_cell BK181.out 4).trans rfl
          have hfs16 := blk_frozen BK181.out 4
          have hs17 : w10.cell? ⟨gb181, 5, none⟩ = some (.bool false) := (blk_cell BK181.out 5).trans rfl
          have hfs17 := blk_frozen BK181.out 5
          have hs18 : w10.cell? ⟨gb181, 6, none⟩ = some (.bool false) := (blk_cell BK181.out 6).trans rfl
          have hfs18 := blk_frozen BK181.out 6
          have hs19 : w10.cell? ⟨gb181, 7, none⟩ = some (.int .i64 0) := (blk_cell BK181.out 7).trans rfl
          have hfs19 := blk_frozen BK181.out 7
          refine skip_ (w1 := ?_) (by rfl) rfl ?_ ?_
          rotate_left
          · go_simp
            rfl
          refine hK.out _ _ ⟨((cell_far (p := ⟨gb181, _, none⟩) (by first | exact Kd.own_blk (Kd.R_ne HO184.out BK181.out (by decide)) | (rw [add_block]; exact Kd.own_blk (Kd.R_ne HO184.out BK181.out (by decide))) | (show (Addr.add _ _).block ≠ _; rw [add_block]; exact Kd.own_blk (Kd.R_ne HO184.out BK181.out (by decide))) | (dsimp only; exact Kd.own_blk (Kd.R_ne HO184.out BK181.out (by decide)))) _).trans (((cell_far (p := ⟨gb181, _, none⟩) (by first | exact Kd.own_blk (Kd.R_ne HO184.out BK181.out (by decide)) | (rw [add_block]; exact Kd.own_blk (Kd.R_ne HO184.out BK181.out (by decide))) | (show (Addr.add _ _).block ≠ _; rw [add_block]; exact Kd.own_blk (Kd.R_ne HO184.out BK181.out (by decide))) | (dsimp only; exact Kd.own_blk (Kd.R_ne HO184.out BK181.out (by decide)))) _).trans (((cell_far (p := ⟨gb181, _, none⟩) (by first | exact Kd.own_blk (Kd.R_ne HO184.out BK181.out (by decide)) | (rw [add_block]; exact Kd.own_blk (Kd.R_ne HO184.out BK181.out (by decide))) | (show (Addr.add _ _).block ≠ _; rw [add_block]; exact Kd.own_blk (Kd.R_ne HO184.out BK181.out (by decide))) | (dsimp only; exact Kd.own_blk (Kd.R_ne HO184.out BK181.out (by decide)))) _).trans (((cell_far (p := ⟨gb181, _, none⟩) (by first | exact Kd.own_blk (Kd.R_ne HO184.out BK181.out (by decide)) | (rw [add_block]; exact Kd.own_blk (Kd.R_ne HO184.out BK181.out (by decide))) | (show (Addr.add _ _).block ≠ _; rw [add_block]; exact Kd.own_blk (Kd.R_ne HO184.out BK181.out (by decide))) | (dsimp only; exact Kd.own_blk (Kd.R_ne HO184.out BK181.out (by decide)))) _).trans (((cell_far (p := ⟨gb181, _, none⟩) (by first | exact Kd.own_blk (Kd.R_ne HO184.out BK181.out (by decide)) | (rw [add_block]; exact Kd.own_blk (Kd.R_ne HO184.out BK181.out (by decide))) | (show (Addr.add _ _).block ≠ _; rw [add_block]; exact Kd.own_blk (Kd.R_ne HO184.out BK181.out (by decide))) | (dsimp only; exact Kd.own_blk (Kd.R_ne HO184.out BK181.out (by decide)))) _).trans (((cell_far (p := ⟨gb181, _, none⟩) (by first | exact Kd.own_blk (Kd.R_ne HO184.out BK181.out (by decide)) | (rw [add_block]; exact Kd.own_blk (Kd.R_ne HO184.out BK181.out (by decide))) | (show (Addr.add _ _).block ≠ _; rw [add_block]; exact Kd.own_blk (Kd.R_ne HO184.out BK181.out (by decide))) | (dsimp only; exact Kd.own_blk (Kd.R_ne HO184.out BK181.out (by decide)))) _).trans (((cell_far (p := ⟨gb181, _, none⟩) (by first | exact Kd.own_blk (Kd.R_ne HO184.out BK181.out (by decide)) | (rw [add_block]; exact Kd.own_blk (Kd.R_ne HO184.out BK181.out (by decide))) | (show (Addr.add _ _).block ≠ _; rw [add_block]; exact Kd.own_blk (Kd.R_ne HO184.out BK181.out (by decide))) | (dsimp only; exact Kd.own_blk (Kd.R_ne HO184.out BK181.out (by decide)))) _).trans (((cell_far (p := ⟨gb181, _, none⟩) (by first | exact Kd.own_blk (Kd.R_ne HO184.out BK181.out (by decide)) | (rw [add_block]; exact Kd.own_blk (Kd.R_ne HO184.out BK181.out (by decide))) | (show (Addr.add _ _).block ≠ _; rw [add_block]; exact Kd.own_blk (Kd.R_ne HO184.out BK181.out (by decide))) | (dsimp only; exact Kd.own_blk (Kd.R_ne HO184.out BK181.out (by decide)))) _).trans (hHeld.1)))))))))))))))), ((cell_far (p := ⟨gb181, _, none⟩) (by first | exact Kd.own_blk (Kd.R_ne HO184.out BK181.out (by decide)) | (rw [add_block]; exact Kd.own_blk (Kd.R_ne HO184.out BK181.out (by decide))) | (show (Addr.add _ _).block ≠ _; rw [add_block]; exact Kd.own_blk (Kd.R_ne HO184.out BK181.out (by decide))) | (dsimp only; exact Kd.own_blk (Kd.R_ne HO184.out BK181.out (by decide)))) _).trans (((cell_far (p := ⟨gb181, _, none⟩) (by first | exact Kd.own_blk (Kd.R_ne HO184.out BK181.out (by decide)) | (rw [add_block]; exact Kd.own_blk (Kd.R_ne HO184.out BK181.out (by decide))) | (show (Addr.add _ _).block ≠ _; rw [add_block]; exact Kd.own_blk (Kd.R_ne HO184.out BK181.out (by decide))) | (dsimp only; exact Kd.own_blk (Kd.R_ne HO184.out BK181.out (by decide)))) _).trans (((cell_far (p := ⟨gb181, _, none⟩) (by first | exact Kd.own_blk (Kd.R_ne HO184.out BK181.out (by decide)) | (rw [add_block]; exact Kd.own_blk (Kd.R_ne HO184.out BK181.out (by decide))) | (show (Addr.add _ _).block ≠ _; rw [add_block]; exact Kd.own_blk (Kd.R_ne HO184.out BK181.out (by decide))) | (dsimp only; exact Kd.own_blk (Kd.R_ne HO184.out BK181.out (by decide)))) _).trans (((cell_far (p := ⟨gb181, _, none⟩) (by first | exact Kd.own_blk (Kd.R_ne HO184.out BK181.out (by decide)) | (rw [add_block]; exact Kd.own_blk (Kd.R_ne HO184.out BK181.out (by decide))) | (show (Addr.add _ _).block ≠ _; rw [add_block]; exact Kd.own_blk (Kd.R_ne HO184.out BK181.out (by decide))) | (dsimp only; exact Kd.own_blk (Kd.R_ne HO184.out BK181.out (by decide)))) _).trans (((cell_far (p := ⟨gb181, _, none⟩) (by first | exact Kd.own_blk (Kd.R_ne HO184.out BK181.out (by decide)) | (rw [add_block]; exact Kd.own_blk (Kd.R_ne HO184.out BK181.out (by decide))) | (show (Addr.add _ _).block ≠ _; rw [add_block]; exact Kd.own_blk (Kd.R_ne HO184.out BK181.out (by decide))) | (dsimp only; exact Kd.own_blk (Kd.R_ne HO184.out BK181.out (by decide)))) _).trans (((cell_far (p := ⟨gb181, _, none⟩) (by first | exact Kd.own_blk (Kd.R_ne HO184.out BK181.out (by decide)) | (rw [add_block]; exact Kd.own_blk (Kd.R_ne HO184.out BK181.out (by decide))) | (show (Addr.add _ _).block ≠ _; rw [add_block]; exact Kd.own_blk (Kd.R_ne HO184.out BK181.out (by decide))) | (dsimp only; exact Kd.own_blk (Kd.R_ne HO184.out BK181.out (by decide)))) _).trans (((cell_far (p := ⟨gb181, _, none⟩) (by first | exact Kd.own_blk (Kd.R_ne HO184.out BK181.out (by decide)) | (rw [add_block]; exact Kd.own_blk (Kd.R_ne HO184.out BK181.out (by decide))) | (show (Addr.add _ _).block ≠ _; rw [add_block]; exact Kd.own_blk (Kd.R_ne HO184.out BK181.out (by decide))) | (dsimp only; exact Kd.own_blk (Kd.R_ne HO184.out BK181.out (by decide)))) _).trans (((cell_far (p := ⟨gb181, _, none⟩) (by first | exact Kd.own_blk (Kd.R_ne HO184.out BK181.out (by decide)) | (rw [add_block]; exact Kd.own_blk (Kd.R_ne HO184.out BK181.out (by decide))) | (show (Addr.add _ _).block ≠ _; rw [add_block]; exact Kd.own_blk (Kd.R_ne HO184.out BK181.out (by decide))) | (dsimp only; exact Kd.own_blk (Kd.R_ne HO184.out BK181.out (by decide)))) _).trans (hHeld.2.1)))))))))))))))), ((cell_far (p := ⟨gb181, _, none⟩) (by first | exact Kd.own_blk (Kd.R_ne HO184.out BK181.out (by decide)) | (rw [add_block]; exact Kd.own_blk (Kd.R_ne HO184.out BK181.out (by decide))) | (show (Addr.add _ _).block ≠ _; rw [add_block]; exact Kd.own_blk (Kd.R_ne HO184.out BK181.out (by decide))) | (dsimp only; exact Kd.own_blk (Kd.R_ne HO184.out BK181.out (by decide)))) _).trans (((cell_far (p := ⟨gb181, _, none⟩) (by first | exact Kd.own_blk (Kd.R_ne HO184.out BK181.out (by decide)) | (rw [add_block]; exact Kd.own_blk (Kd.R_ne HO184.out BK181.out (by decide))) | (show (Addr.add _ _).block ≠ _; rw [add_block]; exact Kd.own_blk (Kd.R_ne HO184.out BK181.out (by decide))) | (dsimp only; exact Kd.own_blk (Kd.R_ne HO184.out BK181.out (by decide)))) _).trans (((cell_far (p := ⟨gb181, _, none⟩) (by first | exact Kd.own_blk (Kd.R_ne HO184.out BK181.out (by decide)) | (rw [add_block]; exact Kd.own_blk (Kd.R_ne HO184.out BK181.out (by decide))) | (show (Addr.add _ _).block ≠ _; rw [add_block]; exact Kd.own_blk (Kd.R_ne HO184.out BK181.out (by decide))) | (dsimp only; exact Kd.own_blk (Kd.R_ne HO184.out BK181.out (by decide)))) _).trans (((cell_far (p := ⟨gb181, _, none⟩) (by first | exact Kd.own_blk (Kd.R_ne HO184.out BK181.out (by decide)) | (rw [add_block]; exact Kd.own_blk (Kd.R_ne HO184.out BK181.out (by decide))) | (show (Addr.add _ _).block ≠ _; rw [add_block]; exact Kd.own_blk (Kd.R_ne HO184.out BK181.out (by decide))) | (dsimp only; exact Kd.own_blk (Kd.R_ne HO184.out BK181.out (by decide)))) _).trans (((cell_far (p := ⟨gb181, _, none⟩) (by first | exact Kd.own_blk (Kd.R_ne HO184.out BK181.out (by decide)) | (rw [add_block]; exact Kd.own_blk (Kd.R_ne HO184.out BK181.out (by decide))) | (show (Addr.add _ _).block ≠ _; rw [add_block]; exact Kd.own_blk (Kd.R_ne HO184.out BK181.out (by decide))) | (dsimp only; exact Kd.own_blk (Kd.R_ne HO184.out BK181.out (by decide)))) _).trans (((cell_far (p := ⟨gb181, _, none⟩) (by first | exact Kd.own_blk (Kd.R_ne HO184.out BK181.out (by decide)) | (rw [add_block]; exact Kd.own_blk (Kd.R_ne HO184.out BK181.out (by decide))) | (show (Addr.add _ _).block ≠ _; rw [add_block]; exact Kd.own_blk (Kd.R_ne HO184.out BK181.out (by decide))) | (dsimp only; exact Kd.own_blk (Kd.R_ne HO184.out BK181.out (by decide)))) _).trans (((cell_far (p := ⟨gb181, _, none⟩) (by first | exact Kd.own_blk (Kd.R_ne HO184.out BK181.out (by decide)) | (rw [add_block]; exact Kd.own_blk (Kd.R_ne HO184.out BK181.out (by decide))) | (show (Addr.add _ _).block ≠ _; rw [add_block]; exact Kd.own_blk (Kd.R_ne HO184.out BK181.out (by decide))) | (dsimp only; exact Kd.own_blk (Kd.R_ne HO184.out BK181.out (by decide)))) _).trans (((cell_far (p := ⟨gb181, _, none⟩) (by first | exact Kd.own_blk (Kd.R_ne HO184.out BK181.out (by decide)) | (rw [add_block]; exact Kd.own_blk (Kd.R_ne HO184.out BK181.out (by decide))) | (show (Addr.add _ _).block ≠ _; rw [add_block]; exact Kd.own_blk (Kd.R_ne HO184.out BK181.out (by decide))) | (dsimp only; exact Kd.own_blk (Kd.R_ne HO184.out BK181.out (by decide)))) _).trans (hHeld.2.2.1)))))))))))))))), ((cell_far (p := ⟨gb181, _, none⟩) (by first | exact Kd.own_blk (Kd.R_ne HO184.out BK181.out (by decide)) | (rw [add_block]; exact Kd.own_blk (Kd.R_ne HO184.out BK181.out (by decide))) | (show (Addr.add _ _).block ≠ _; rw [add_block]; exact Kd.own_blk (Kd.R_ne HO184.out BK181.out (by decide))) | (dsimp only; exact Kd.own_blk (Kd.R_ne HO184.out BK181.out (by decide)))) _).trans (((cell_far (p := ⟨gb181, _, none⟩) (by first | exact Kd.own_blk (Kd.R_ne HO184.out BK181.out (by decide)) | (rw [add_block]; exact Kd.own_blk (Kd.R_ne HO184.out BK181.out (by decide))) | (show (Addr.add _ _).block ≠ _; rw [add_block]; exact Kd.own_blk (Kd.R_ne HO184.out BK181.out (by decide))) | (dsimp only; exact Kd.own_blk (Kd.R_ne HO184.out BK181.out (by decide)))) _).trans (((cell_far (p := ⟨gb181, _, none⟩) (by first | exact Kd.own_blk (Kd.R_ne HO184.out BK181.out (by decide)) | (rw [add_block]; exact Kd.own_blk (Kd.R_ne HO184.out BK181.out (by decide))) | (show (Addr.add _ _).block ≠ _; rw [add_block]; exact Kd.own_blk (Kd.R_ne HO184.out BK181.out (by decide))) | (dsimp only; exact Kd.own_blk (Kd.R_ne HO184.out BK181.out (by decide)))) _).trans (((cell_far (p := ⟨gb181, _, none⟩) (by first | exact Kd.own_blk (Kd.R_ne HO184.out BK181.out (by decide)) | (rw [add_block]; exact Kd.own_blk (Kd.R_ne HO184.out BK181.out (by decide))) | (show (Addr.add _ _).block ≠ _; rw [add_block]; exact Kd.own_blk (Kd.R_ne HO184.out BK181.out (by decide))) | (dsimp only; exact Kd.own_blk (Kd.R_ne HO184.out BK181.out (by decide)))) _).trans (((cell_far (p := ⟨gb181, _, none⟩) (by first | exact Kd.own_blk (Kd.R_ne HO184.out BK181.out (by decide)) | (rw [add_block]; exact Kd.own_blk (Kd.R_ne HO184.out BK181.out (by decide))) | (show (Addr.add _ _).block ≠ _; rw [add_block]; exact Kd.own_blk (Kd.R_ne HO184.out BK181.out (by decide))) | (dsimp only; exact Kd.own_blk (Kd.R_ne HO184.out BK181.out (by decide)))) _).trans (((cell_far (p := ⟨gb181, _, none⟩) (by first | exact Kd.own_blk (Kd.R_ne HO184.out BK181.out (by decide)) | (rw [add_block]; exact Kd.own_blk (Kd.R_ne HO184.out BK181.out (by decide))) | (show (Addr.add _ _).block ≠ _; rw [add_block]; exact Kd.own_blk (Kd.R_ne HO184.out BK181.out (by decide))) | (dsimp only; exact Kd.own_blk (Kd.R_ne HO184.out BK181.out (by decide)))) _).trans (((cell_far (p := ⟨gb181, _, none⟩) (by first | exact Kd.own_blk (Kd.R_ne HO184.out BK181.out (by decide)) | (rw [add_block]; exact Kd.own_blk (Kd.R_ne HO184.out BK181.out (by decide))) | (show (Addr.add _ _).block ≠ _; rw [add_block]; exact Kd.own_blk (Kd.R_ne HO184.out BK181.out (by decide))) | (dsimp only; exact Kd.own_blk (Kd.R_ne HO184.out BK181.out (by decide)))) _).trans (((cell_far (p := ⟨gb181, _, none⟩) (by first | exact Kd.own_blk (Kd.R_ne HO184.out BK181.out (by decide)) | (rw [add_block]; exact Kd.own_blk (Kd.R_ne HO184.out BK181.out (by decide))) | (show (Addr.add _ _).block ≠ _; rw [add_block]; exact Kd.own_blk (Kd.R_ne HO184.out BK181.out (by decide))) | (dsimp only; exact Kd.own_blk (Kd.R_ne HO184.out BK181.out (by decide)))) _).trans (hHeld.2.2.2))))))))))))))))⟩ (fun hHeld => ?_)
          clear hK K
          refine done_ (done_of HT_.out (by kernel_rfl)) ?_
          try go_wp2
          refine bodyPost_ret (results_cell_row rfl _ _ gb181 26 #[.int .u16 a0, .bool ((a1 / 32768) == 1), .int .i64 (wrap64 (Go.bits .and .u16 (a1 / 2048) 15)), .bool (rdOf false t182 0), .bool (rdOf false t182 1), .bool (rdOf false t182 2), .bool (rdOf false t182 3), .int .i64 (wrap64 (Go.bits .and .u16 a1 15))] (0, 0) _ rfl (by (with_reducible repeat (first | refine blk_drewN ?_ _ | refine blk_drew ?_ | refine blk_alloc ?_ _)); refine blk_put (cs := #[.int .u16 a0, .bool ((a1 / 32768) == 1), .int .i64 (wrap64 (Go.bits .and .u16 (a1 / 2048) 15)), .bool (rdOf false t182 0), .bool (rdOf false t182 1), .bool (rdOf false t182 2), .bool (rdOf false t182 3), .int .i64 0]) ?_ 7 _ rfl; (with_reducible repeat (first | refine blk_drewN ?_ _ | refine blk_drew ?_ | refine blk_alloc ?_ _)); refine blk_put (cs := #[.int .u16 a0, .bool ((a1 / 32768) == 1), .int .i64 (wrap64 (Go.bits .and .u16 (a1 / 2048) 15)), .bool (rdOf false t182 0), .bool (rdOf false t182 1), .bool (rdOf false t182 2), .bool false, .int .i64 0]) ?_ 6 _ rfl; (with_reducible repeat (first | refine blk_drewN ?_ _ | refine blk_drew ?_ | refine blk_alloc ?_ _)); refine blk_put (cs := #[.int .u16 a0, .bool ((a1 / 32768) == 1), .int .i64 (wrap64 (Go.bits .and .u16 (a1 / 2048) 15)), .bool (rdOf false t182 0), .bool (rdOf false t182 1), .bool false, .bool false, .int .i64 0]) ?_ 5 _ rfl; (with_reducible repeat (first | refine blk_drewN ?_ _ | refine blk_drew ?_ | refine blk_alloc ?_ _)); refine blk_put (cs := #[.int .u16 a0, .bool ((a1 / 32768) == 1), .int .i64 (wrap64 (Go.bits .and .u16 (a1 / 2048) 15)), .bool (rdOf false t182 0), .bool false, .bool false, .bool false, .int .i64 0]) ?_ 4 _ rfl; (with_reducible repeat (first | refine blk_drewN ?_ _ | refine blk_drew ?_ | refine blk_alloc ?_ _)); refine blk_put (cs := #[.int .u16 a0, .bool ((a1 / 32768) == 1), .int .i64 (wrap64 (Go.bits .and .u16 (a1 / 2048) 15)), .bool false, .bool false, .bool false, .bool false, .int .i64 0]) ?_ 3 _ rfl; (with_reducible repeat (first | refine blk_drewN ?_ _ | refine blk_drew ?_ | refine blk_alloc ?_ _)); refine blk_put (cs := #[.int .u16 a0, .bool ((a1 / 32768) == 1), .int .i64 0, .bool false, .bool false, .bool false, .bool false, .int .i64 0]) ?_ 2 _ rfl; (with_reducible repeat (first | refine blk_drewN ?_ _ | refine blk_drew ?_ | refine blk_alloc ?_ _)); refine blk_put (cs := #[.int .u16 a0, .bool false, .int .i64 0, .bool false, .bool false, .bool false, .bool false, .int .i64 0]) ?_ 1 _ rfl; (with_reducible repeat (first | refine blk_drewN ?_ _ | refine blk_drew ?_ | refine blk_alloc ?_ _)); refine blk_put (cs := #[.int .u16 0, .bool false, .int .i64 0, .bool false, .bool false, .bool false, .bool false, .int .i64 0]) ?_ 0 _ rfl; (with_reducible repeat (first | refine blk_drewN ?_ _ | refine blk_drew ?_ | refine blk_alloc ?_ _)); exact BK181.out) Tryd.underlying26 rfl (by kernel_rfl)) rfl ?_
          exact ⟨by first | rfl | (simp [errW_none, errW_some] <;> rfl) | (simp [*, errW_none, errW_some] <;> rfl), by repeat (first | (with_reducible first | exact HB.out | apply below_alloc | apply pw_below_drewN | apply below_drew1 | refine below_set ?_ GE181.out) | exact HB.out)⟩
        · rw [if_neg c7] at H
          exact absurd H (by simp)
      · rw [if_neg c6] at H
        exact absurd H (by simp)
    · rw [if_neg c5] at H
      exact absurd H (by simp)
  · rw [if_neg c4] at H
    exact absurd H (by simp)
end Go.Proofs.YtnikfeaggppmpaaDoor.PM
