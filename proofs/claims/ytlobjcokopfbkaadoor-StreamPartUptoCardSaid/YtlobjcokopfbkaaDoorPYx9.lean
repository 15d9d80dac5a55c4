import Derived.Test.YtlobjcokopfbkaaDoorPYx0
import Derived.Test.YtlobjcokopfbkaaDoorPYx1
namespace Go.Proofs.YtlobjcokopfbkaaDoor.PY
open Go.RowKit Go.Proofs.YtlobjcokopfbkaaDoorW.PrintWords Go.Proofs.YtlobjcokopfbkaaDoorW.PrintLast Go.Proofs.YtlobjcokopfbkaaDoorW.PrintMore
attribute [local go_sem] max2_int min2_int max_two min_two max_three min_three max_four min_four   -- for this text's walks alone
set_option linter.unusedVariables false
set_option linter.unusedSimpArgs false
attribute [local go_sem high] eqA32
mutual
def stream_Done.j0:Nat→List (S32)→Int→Int→Bool→Option (Bool)
 | 0,_,_,_,_=>none
 | k + 1,x0,x3,x4,x26=>if x26 = true then (stream_Done.j1 k x0 3 x4) else (stream_Done.j1 k x0 x3 x4)
def stream_Done.j1:Nat→List (S32)→Int→Int→Option (Bool)
 | 0,_,_,_=>none
 | k + 1,x0,x3,x4=>stream_Done.l0 k x0 x3 x4 x0 (x0.length:Int) 0
def stream_Done.l0:Nat→List (S32)→Int→Int→List (S32)→Int→Int→Option (Bool)
 | 0,_,_,_,_,_,_=>none
 | k + 1,x0,x3,x4,x27,x28,x29=>if x29 < x28 then (if 0≤x29 then (if x29 < (x27.length:Int) then (if 0 < (x0.length:Int) then (if ((((rd_T32 x27 x29).f0).toList) == (((rd_T32 x0 0).f0).toList) && (((rd_T32 x27 x29).f1) == ((rd_T32 x0 0).f1) && (((rd_T32 x27 x29).f2) == ((rd_T32 x0 0).f2) && ((((rd_T32 x27 x29).f3).toList) == (((rd_T32 x0 0).f3).toList))))) = true then (stream_Done.l0 k x0 x3 (wrap64 (x4 + 1)) x27 x28 (wrap64 (x29 + 1))) else (stream_Done.l0 k x0 x3 x4 x27 x28 (wrap64 (x29 + 1)))) else (none)) else (none)) else (none)) else (some (decide (x4 ≥ x3)))
end
def stream_Done.f (k:Nat) (l0:List (S32)):Option (Bool):=if (l0.length:Int) < 2 then (some ((l0.length:Int) == 1)) else (if 1 < (l0.length:Int) then (if ((rd_T32 l0 1).f1) = 6 then (if 0 < (l0.length:Int) then (stream_Done.j0 k l0 2 0 (!((((rd_T32 l0 1).f0).toList) == (((rd_T32 l0 0).f0).toList)) || (!(((rd_T32 l0 1).f1) == ((rd_T32 l0 0).f1)) || (!(((rd_T32 l0 1).f2) == ((rd_T32 l0 0).f2)) || (!((((rd_T32 l0 1).f3).toList) == (((rd_T32 l0 0).f3).toList))))))) else (none)) else (stream_Done.j0 k l0 2 0 false)) else (none))
theorem stream_Done.mono_l:∀ k,(∀ y0 y1 y2 y3,LeO (stream_Done.j0 k y0 y1 y2 y3) (stream_Done.j0 (k + 1) y0 y1 y2 y3))∧(∀ y0 y1 y2,LeO (stream_Done.j1 k y0 y1 y2) (stream_Done.j1 (k + 1) y0 y1 y2))∧(∀ y0 y1 y2 y3 y4 y5,LeO (stream_Done.l0 k y0 y1 y2 y3 y4 y5) (stream_Done.l0 (k + 1) y0 y1 y2 y3 y4 y5))
 | 0=>⟨fun _ _ _ _ r h=>by simp [stream_Done.j0] at h,fun _ _ _ r h=>by simp [stream_Done.j1] at h,fun _ _ _ _ _ _ r h=>by simp [stream_Done.l0] at h⟩
 | k + 1=>by
  obtain ⟨ih0,ih1,ih2⟩:=stream_Done.mono_l k
  refine ⟨?_,?_,?_⟩
  ·intro y0 y1 y2 y3
   unfold stream_Done.j0
   repeat' first
   | (with_reducible exact ih0 _ _ _ _)
   | (with_reducible exact ih1 _ _ _)
   | (with_reducible exact ih2 _ _ _ _ _ _)
   | (with_reducible exact LeO.refl _)
   | (with_reducible exact LeO.none _)
   | (with_reducible refine LeO.ite ?_ ?_)
   | (with_reducible refine LeO.bind ?_ (fun _=>?_))
   | exact ih0 _ _ _ _
   | exact ih1 _ _ _
   | exact ih2 _ _ _ _ _ _
   | exact LeO.none _
   | refine LeO.ite ?_ ?_
   | refine LeO.bind ?_ (fun _=>?_)
  ·intro y0 y1 y2
   unfold stream_Done.j1
   repeat' first
   | (with_reducible exact ih0 _ _ _ _)
   | (with_reducible exact ih1 _ _ _)
   | (with_reducible exact ih2 _ _ _ _ _ _)
   | (with_reducible exact LeO.refl _)
   | (with_reducible exact LeO.none _)
   | (with_reducible refine LeO.ite ?_ ?_)
   | (with_reducible refine LeO.bind ?_ (fun _=>?_))
   | exact ih0 _ _ _ _
   | exact ih1 _ _ _
   | exact ih2 _ _ _ _ _ _
   | exact LeO.none _
   | refine LeO.ite ?_ ?_
   | refine LeO.bind ?_ (fun _=>?_)
  ·intro y0 y1 y2 y3 y4 y5
   unfold stream_Done.l0
   repeat' first
   | (with_reducible exact ih0 _ _ _ _)
   | (with_reducible exact ih1 _ _ _)
   | (with_reducible exact ih2 _ _ _ _ _ _)
   | (with_reducible exact LeO.refl _)
   | (with_reducible exact LeO.none _)
   | (with_reducible refine LeO.ite ?_ ?_)
   | (with_reducible refine LeO.bind ?_ (fun _=>?_))
   | exact ih0 _ _ _ _
   | exact ih1 _ _ _
   | exact ih2 _ _ _ _ _ _
   | exact LeO.none _
   | refine LeO.ite ?_ ?_
   | refine LeO.bind ?_ (fun _=>?_)
theorem stream_Done.mono:∀ a0 k,LeO (stream_Done.f k a0) (stream_Done.f (k + 1) a0):=by
 intro a0 k
 obtain ⟨ih0,ih1,ih2⟩:=stream_Done.mono_l k
 unfold stream_Done.f
 repeat' first
   | (with_reducible exact ih0 _ _ _ _)
   | (with_reducible exact ih1 _ _ _)
   | (with_reducible exact ih2 _ _ _ _ _ _)
   | (with_reducible exact LeO.refl _)
   | (with_reducible exact LeO.none _)
   | (with_reducible refine LeO.ite ?_ ?_)
   | (with_reducible refine LeO.bind ?_ (fun _=>?_))
   | exact ih0 _ _ _ _
   | exact ih1 _ _ _
   | exact ih2 _ _ _ _ _ _
   | exact LeO.none _
   | refine LeO.ite ?_ ?_
   | refine LeO.bind ?_ (fun _=>?_)
set_option maxHeartbeats 8000000 in
set_option maxRecDepth 100000 in
theorem stream_Done.calls (k:Nat) (A0:Option Addr) (c0:Nat) (l0:List (S32)) (r:Bool) (w:World) (hr0:Kd.C k32 w A0 l0.length l0) (hc0:l0.length≤c0) (h:stream_Done.f k l0 = some r) :
  Calls Tryd.prog 21 #[.slice A0 l0.length c0] w fun e w'=>e = .returned (.bool r)∧Below w.heap.size w w':=by
 have hu32:=Tryd.underlying32
 have HR0:=Aside0.mk hr0
 have HC0:=Aside0.mk hc0
 clear hr0 hc0
 have HB:=Aside0.mk (Below.refl w.heap.size w)
 have H:(if (l0.length:Int) < 2 then (some ((l0.length:Int) == 1)) else (if 1 < (l0.length:Int) then (if ((rd_T32 l0 1).f1) = 6 then (if 0 < (l0.length:Int) then (stream_Done.j0 k l0 2 0 (!((((rd_T32 l0 1).f0).toList) == (((rd_T32 l0 0).f0).toList)) || (!(((rd_T32 l0 1).f1) == ((rd_T32 l0 0).f1)) || (!(((rd_T32 l0 1).f2) == ((rd_T32 l0 0).f2)) || (!((((rd_T32 l0 1).f3).toList) == (((rd_T32 l0 0).f3).toList))))))) else (none)) else (stream_Done.j0 k l0 2 0 false)) else (none))) = some r:=h
 clear h
 by_cases c2:(l0.length:Int) < 2
 ·rw [if_pos c2] at H
  have c2b0:decide ((l0.length:Int) < 2) = true:=decide_eq_true c2
  have c2b1:decide (l0.length < 2) = true:=decide_eq_true (by omega)
  clear c2
  obtain rfl:=Option.some.inj H
  go_enter Tryd.func21,Tryd.ntmps21
  go_wp2
  repeat (go_quiet (fail);try go_wp2)
  go_ret
  exact ⟨by first|rfl|(simp [errW_none,errW_some] <;> rfl)|(simp [*,errW_none,errW_some] <;> rfl),by repeat (first|(with_reducible first|exact HB.out|apply below_alloc|apply pw_below_drewN|apply below_drew1)|exact HB.out)⟩
 ·rw [if_neg c2] at H
  have c2b0:decide ((l0.length:Int) < 2) = false:=decide_eq_false c2
  have c2b1:decide (l0.length < 2) = false:=decide_eq_false (by omega)
  clear c2
  have HC3:=Aside0.mk H
  clear H
  go_enter Tryd.func21,Tryd.ntmps21
  go_upto_region 4 with (fail)
  repeat (go_quiet (fail);go_upto_region 4 with (fail))
  go_cut [26] (fun v26 wc=>∃ (kq:Nat) (x26_2:Bool),v26 = .bool x26_2∧Aside0 (stream_Done.j0 kq l0 2 0 x26_2 = some r)∧Aside0 (kq≤k)∧Aside0 (Below w.heap.size w wc))
  case first =>
   have H:=HC3.out
   clear HC3
   by_cases c4:1 < (l0.length:Int)
   ·rw [if_pos c4] at H
    have c4b0:decide (1 < (l0.length:Int)) = true:=decide_eq_true c4
    have c4b1:decide (1 < l0.length) = true:=decide_eq_true (by omega)
    clear c4
    (first|rw [c4b0]|(simp only [i64_w,i32_w];rw [c4b0])|skip)
    by_cases c5:((rd_T32 l0 1).f1) = 6
    ·rw [if_pos c5] at H
     have c5b0:(((rd_T32 l0 1).f1) == 6) = true:=beq_iff_eq.mpr c5
     have c5b1:(((rd_T32 l0 1).f1) != 6) = false:=bne_eq_false_iff_eq.mpr c5
     clear c5
     by_cases c6:0 < (l0.length:Int)
     ·rw [if_pos c6] at H
      have c6b0:decide (0 < (l0.length:Int)) = true:=decide_eq_true c6
      have c6b1:decide (0 < l0.length) = true:=decide_eq_true (by omega)
      clear c6
      have H':=Aside0.mk H
      clear H
      have p275:0≤(1:Int):=(by omega)
      have q275:1 < (l0.length:Int):=of_decide_eq_true (by first|(with_reducible assumption)|assumption)
      obtain ⟨ad275,e275,hx275_0,hx275_1,hx275_2,hx275_3⟩:=at_T32 HR0.out 1 p275 q275
      cases e275
      (try simp only [show (1:Int).toNat = 1 from rfl,Nat.reduceMul,Nat.reduceEqDiff,Go.Addr.add,↓reduceIte] at hx275_0)
      (try simp only [show (1:Int).toNat = 1 from rfl,Nat.reduceMul,Nat.reduceEqDiff,Go.Addr.add,↓reduceIte] at hx275_1)
      (try simp only [show (1:Int).toNat = 1 from rfl,Nat.reduceMul,Nat.reduceEqDiff,Go.Addr.add,↓reduceIte] at hx275_2)
      (try simp only [show (1:Int).toNat = 1 from rfl,Nat.reduceMul,Nat.reduceEqDiff,Go.Addr.add,↓reduceIte] at hx275_3)
      have qi275:(1 < l0.length) = True:=eq_true (by omega)
      (try rw [show ((1:Int)).toNat = 1 from rfl] at hx275_0)
      (try rw [show 1 * 4 = 4 from rfl] at hx275_0)
      (try rw [show ((1:Int)).toNat = 1 from rfl] at hx275_1)
      (try rw [show 1 * 4 = 4 from rfl] at hx275_1)
      (try rw [show ((1:Int)).toNat = 1 from rfl] at hx275_2)
      (try rw [show 1 * 4 = 4 from rfl] at hx275_2)
      (try rw [show ((1:Int)).toNat = 1 from rfl] at hx275_3)
      (try rw [show 1 * 4 = 4 from rfl] at hx275_3)
      replace hx275_0:=(HB.out.cell (World.block_lt_of_cell? w _ hx275_0)).trans hx275_0
      replace hx275_1:=(HB.out.cell (World.block_lt_of_cell? w _ hx275_1)).trans hx275_1
      replace hx275_2:=(HB.out.cell (World.block_lt_of_cell? w _ hx275_2)).trans hx275_2
      replace hx275_3:=(HB.out.cell (World.block_lt_of_cell? w _ hx275_3)).trans hx275_3
      replace p275:=eq_true p275
      replace q275:=eq_true q275
      have p276:0≤(1:Int):=(by omega)
      have q276:1 < (l0.length:Int):=of_decide_eq_true (by first|(with_reducible assumption)|assumption)
      obtain ⟨ad276,e276,hx276_0,hx276_1,hx276_2,hx276_3⟩:=at_T32 HR0.out 1 p276 q276
      obtain rfl:ad275 = ad276:=(by injection e276)
      (try simp only [show (1:Int).toNat = 1 from rfl,Nat.reduceMul,Nat.reduceEqDiff,Go.Addr.add,↓reduceIte] at hx276_0)
      (try simp only [show (1:Int).toNat = 1 from rfl,Nat.reduceMul,Nat.reduceEqDiff,Go.Addr.add,↓reduceIte] at hx276_1)
      (try simp only [show (1:Int).toNat = 1 from rfl,Nat.reduceMul,Nat.reduceEqDiff,Go.Addr.add,↓reduceIte] at hx276_2)
      (try simp only [show (1:Int).toNat = 1 from rfl,Nat.reduceMul,Nat.reduceEqDiff,Go.Addr.add,↓reduceIte] at hx276_3)
      have qi276:(1 < l0.length) = True:=eq_true (by omega)
      (try rw [show ((1:Int)).toNat = 1 from rfl] at hx276_0)
      (try rw [show 1 * 4 = 4 from rfl] at hx276_0)
      (try rw [show ((1:Int)).toNat = 1 from rfl] at hx276_1)
      (try rw [show 1 * 4 = 4 from rfl] at hx276_1)
      (try rw [show ((1:Int)).toNat = 1 from rfl] at hx276_2)
      (try rw [show 1 * 4 = 4 from rfl] at hx276_2)
      (try rw [show ((1:Int)).toNat = 1 from rfl] at hx276_3)
      (try rw [show 1 * 4 = 4 from rfl] at hx276_3)
      replace hx276_0:=(HB.out.cell (World.block_lt_of_cell? w _ hx276_0)).trans hx276_0
      replace hx276_1:=(HB.out.cell (World.block_lt_of_cell? w _ hx276_1)).trans hx276_1
      replace hx276_2:=(HB.out.cell (World.block_lt_of_cell? w _ hx276_2)).trans hx276_2
      replace hx276_3:=(HB.out.cell (World.block_lt_of_cell? w _ hx276_3)).trans hx276_3
      replace p276:=eq_true p276
      replace q276:=eq_true q276
      have p277:0≤(0:Int):=(by omega)
      have q277:0 < (l0.length:Int):=of_decide_eq_true (by first|(with_reducible assumption)|assumption)
      obtain ⟨ad277,e277,hx277_0,hx277_1,hx277_2,hx277_3⟩:=at_T32 HR0.out 0 p277 q277
      obtain rfl:ad275 = ad277:=(by injection e277)
      have qi277:(0 < l0.length) = True:=eq_true (by omega)
      (try rw [show ((0:Int)).toNat = 0 from rfl] at hx277_0)
      (try rw [show 0 * 4 = 0 from rfl] at hx277_0)
      (try rw [Addr.add_zero'] at hx277_0)
      (try rw [show ((0:Int)).toNat = 0 from rfl] at hx277_1)
      (try rw [show 0 * 4 = 0 from rfl] at hx277_1)
      (try rw [Addr.add_zero'] at hx277_1)
      (try rw [show ((0:Int)).toNat = 0 from rfl] at hx277_2)
      (try rw [show 0 * 4 = 0 from rfl] at hx277_2)
      (try rw [Addr.add_zero'] at hx277_2)
      (try rw [show ((0:Int)).toNat = 0 from rfl] at hx277_3)
      (try rw [show 0 * 4 = 0 from rfl] at hx277_3)
      (try rw [Addr.add_zero'] at hx277_3)
      replace hx277_0:=(HB.out.cell (World.block_lt_of_cell? w _ hx277_0)).trans hx277_0
      replace hx277_1:=(HB.out.cell (World.block_lt_of_cell? w _ hx277_1)).trans hx277_1
      replace hx277_2:=(HB.out.cell (World.block_lt_of_cell? w _ hx277_2)).trans hx277_2
      replace hx277_3:=(HB.out.cell (World.block_lt_of_cell? w _ hx277_3)).trans hx277_3
      replace p277:=eq_true p277
      replace q277:=eq_true q277
      go_wp2
      repeat (go_quiet (fail);try go_wp2)
      go_meet
      case rel=>exact ⟨_,((!((((rd_T32 l0 1).f0).toList) == (((rd_T32 l0 0).f0).toList)) || (!(((rd_T32 l0 1).f1) == ((rd_T32 l0 0).f1)) || (!(((rd_T32 l0 1).f2) == ((rd_T32 l0 0).f2)) || (!((((rd_T32 l0 1).f3).toList) == (((rd_T32 l0 0).f3).toList))))))),(by first|rfl|(simp;done)|(simp [*];done)),H',⟨by first|omega|exact Nat.le_refl _⟩,⟨by repeat (first|(with_reducible first|exact HB.out|apply below_alloc|apply pw_below_drewN|apply below_drew1)|exact HB.out)⟩⟩
     ·rw [if_neg c6] at H
      exact absurd H (by simp)
    ·rw [if_neg c5] at H
     have c5b0:(((rd_T32 l0 1).f1) == 6) = false:=beq_eq_false_iff_ne.mpr c5
     have c5b1:(((rd_T32 l0 1).f1) != 6) = true:=bne_iff_ne.mpr c5
     have H':=Aside0.mk H
     clear H
     have p275:0≤(1:Int):=(by omega)
     have q275:1 < (l0.length:Int):=of_decide_eq_true (by first|(with_reducible assumption)|assumption)
     obtain ⟨ad275,e275,hx275_0,hx275_1,hx275_2,hx275_3⟩:=at_T32 HR0.out 1 p275 q275
     cases e275
     (try simp only [show (1:Int).toNat = 1 from rfl,Nat.reduceMul,Nat.reduceEqDiff,Go.Addr.add,↓reduceIte] at hx275_0)
     (try simp only [show (1:Int).toNat = 1 from rfl,Nat.reduceMul,Nat.reduceEqDiff,Go.Addr.add,↓reduceIte] at hx275_1)
     (try simp only [show (1:Int).toNat = 1 from rfl,Nat.reduceMul,Nat.reduceEqDiff,Go.Addr.add,↓reduceIte] at hx275_2)
     (try simp only [show (1:Int).toNat = 1 from rfl,Nat.reduceMul,Nat.reduceEqDiff,Go.Addr.add,↓reduceIte] at hx275_3)
     have qi275:(1 < l0.length) = True:=eq_true (by omega)
     (try rw [show ((1:Int)).toNat = 1 from rfl] at hx275_0)
     (try rw [show 1 * 4 = 4 from rfl] at hx275_0)
     (try rw [show ((1:Int)).toNat = 1 from rfl] at hx275_1)
     (try rw [show 1 * 4 = 4 from rfl] at hx275_1)
     (try rw [show ((1:Int)).toNat = 1 from rfl] at hx275_2)
     (try rw [show 1 * 4 = 4 from rfl] at hx275_2)
     (try rw [show ((1:Int)).toNat = 1 from rfl] at hx275_3)
     (try rw [show 1 * 4 = 4 from rfl] at hx275_3)
     replace hx275_0:=(HB.out.cell (World.block_lt_of_cell? w _ hx275_0)).trans hx275_0
     replace hx275_1:=(HB.out.cell (World.block_lt_of_cell? w _ hx275_1)).trans hx275_1
     replace hx275_2:=(HB.out.cell (World.block_lt_of_cell? w _ hx275_2)).trans hx275_2
     replace hx275_3:=(HB.out.cell (World.block_lt_of_cell? w _ hx275_3)).trans hx275_3
     replace p275:=eq_true p275
     replace q275:=eq_true q275
     go_wp2
     repeat (go_quiet (fail);try go_wp2)
     go_meet
     case rel=>exact ⟨_,(false),(by first|rfl|(simp;done)|(simp [*];done)),H',⟨by first|omega|exact Nat.le_refl _⟩,⟨by repeat (first|(with_reducible first|exact HB.out|apply below_alloc|apply pw_below_drewN|apply below_drew1)|exact HB.out)⟩⟩
   ·rw [if_neg c4] at H
    exact absurd H (by simp)
  case rest =>
   clear HC3
   try clear c2
   try clear c2b0
   try clear c2b1
   try clear p2
   try clear q2
   try clear hx2
   try clear qi2
   try clear c4
   try clear c4b0
   try clear c4b1
   try clear c5
   try clear c5b0
   try clear c5b1
   try clear c6
   try clear c6b0
   try clear c6b1
   try clear hx275_0
   try clear hx275_1
   try clear hx275_2
   try clear hx275_3
   try clear hx276_0
   try clear hx276_1
   try clear hx276_2
   try clear hx276_3
   try clear hx277_0
   try clear hx277_1
   try clear hx277_2
   try clear hx277_3
   try clear p275
   try clear p276
   try clear p277
   try clear q275
   try clear q276
   try clear q277
   obtain ⟨kq,x26_2,rfl,HA,HJ2,HB⟩:=hcut
   cases kq with
   | zero=>exact absurd HA.out (by simp [stream_Done.j0])
   | succ kj2 =>
    have H:=HA.out
    clear HA
    simp only [stream_Done.j0] at H
    have HC7:=Aside0.mk H
    clear H
    go_upto_if 26 with (fail)
    repeat (go_quiet (fail);go_upto_if 26 with (fail))
    go_cut [3] (fun v3 wc=>∃ (kq:Nat) (x3_6:Int),v3 = .int .i64 x3_6∧Aside0 (stream_Done.j1 kq l0 x3_6 0 = some r)∧Aside0 (kq≤kj2)∧Aside0 (Below w.heap.size w wc))
    case first =>
     have H:=HC7.out
     clear HC7
     by_cases c8:x26_2 = true
     ·subst c8
      have H1:(stream_Done.j1 kj2 l0 3 0) = some r:=by rw [if_pos rfl] at H;exact H
      clear H
      have H:=H1
      clear H1
      have H':=Aside0.mk H
      clear H
      go_wp2
      repeat (go_quiet (fail);try go_wp2)
      go_meet
      case rel=>exact ⟨_,(3),(by first|rfl|(simp;done)|(simp [*];done)),H',⟨by have:=HJ2.out;first|omega|exact Nat.le_refl _⟩,⟨by repeat (first|(with_reducible first|exact HB.out|apply below_alloc|apply pw_below_drewN|apply below_drew1)|exact HB.out)⟩⟩
     ·replace c8:=Bool.eq_false_iff.mpr c8
      subst c8
      have H1:(stream_Done.j1 kj2 l0 2 0) = some r:=by rw [if_neg (show ¬ (false = true) by decide)] at H;exact H
      clear H
      have H:=H1
      clear H1
      have H':=Aside0.mk H
      clear H
      go_wp2
      repeat (go_quiet (fail);try go_wp2)
      go_meet
      case rel=>exact ⟨_,(2),(by first|rfl|(simp;done)|(simp [*];done)),H',⟨by have:=HJ2.out;first|omega|exact Nat.le_refl _⟩,⟨by repeat (first|(with_reducible first|exact HB.out|apply below_alloc|apply pw_below_drewN|apply below_drew1)|exact HB.out)⟩⟩
    case rest =>
     clear HC7
     try clear c2
     try clear c2b0
     try clear c2b1
     try clear p2
     try clear q2
     try clear hx2
     try clear qi2
     try clear c4
     try clear c4b0
     try clear c4b1
     try clear c5
     try clear c5b0
     try clear c5b1
     try clear c6
     try clear c6b0
     try clear c6b1
     try clear c8
     try clear hx275_0
     try clear hx275_1
     try clear hx275_2
     try clear hx275_3
     try clear hx276_0
     try clear hx276_1
     try clear hx276_2
     try clear hx276_3
     try clear hx277_0
     try clear hx277_1
     try clear hx277_2
     try clear hx277_3
     try clear p2
     try clear p275
     try clear p276
     try clear p277
     try clear q2
     try clear q275
     try clear q276
     try clear q277
     obtain ⟨kq,x3_6,rfl,HA,HJ6,HB⟩:=hcut
     cases kq with
     | zero=>exact absurd HA.out (by simp [stream_Done.j1])
     | succ kj6 =>
      have H:=HA.out
      clear HA
      simp only [stream_Done.j1] at H
      have H':=Aside0.mk H
      clear H
      go_wp2
      repeat (go_quiet (fail);try go_wp2)
      go_loopg [4,29] kj6 (fun kq v4 v29 w'=>∃ (x4_3:Int) (x29_3:Int),v4 = .int .i64 x4_3∧v29 = .int .i64 x29_3∧Aside0 (stream_Done.l0 kq l0 x3_6 x4_3 l0 (l0.length:Int) x29_3 = some r)∧Aside0 (kq≤kj6)∧Aside0 (Below w.heap.size w w'))
      case atStart=>exact ⟨(0),(0),(by first|rfl|(simp;done)|(simp [*];done)),(by first|rfl|(simp;done)|(simp [*];done)),H',⟨Nat.le_refl _⟩,⟨by repeat (first|(with_reducible first|exact HB.out|apply below_alloc|apply pw_below_drewN|apply below_drew1)|exact HB.out)⟩⟩
      case round =>
       clear H'
       try clear c2
       try clear c2b0
       try clear c2b1
       try clear p2
       try clear q2
       try clear hx2
       try clear qi2
       try clear c4
       try clear c4b0
       try clear c4b1
       try clear c5
       try clear c5b0
       try clear c5b1
       try clear c6
       try clear c6b0
       try clear c6b1
       try clear c8
       try clear hx275_0
       try clear hx275_1
       try clear hx275_2
       try clear hx275_3
       try clear hx276_0
       try clear hx276_1
       try clear hx276_2
       try clear hx276_3
       try clear hx277_0
       try clear hx277_1
       try clear hx277_2
       try clear hx277_3
       try clear p2
       try clear p275
       try clear p276
       try clear p277
       try clear q2
       try clear q275
       try clear q276
       try clear q277
       obtain ⟨x4_3,x29_3,rfl,rfl,HA,HK3,HB⟩:=hrel
       cases gk with
       | zero=>exact absurd HA.out (by simp [stream_Done.l0])
       | succ k3 =>
        have H:=HA.out
        clear HA
        simp only [stream_Done.l0] at H
        by_cases c9:x29_3 < (l0.length:Int)
        ·rw [if_pos c9] at H
         have c9b0:decide (x29_3 < (l0.length:Int)) = true:=decide_eq_true c9
         clear c9
         by_cases c10:0≤x29_3
         ·rw [if_pos c10] at H
          have c10b0:decide (0≤x29_3) = true:=decide_eq_true c10
          clear c10
          by_cases c11:x29_3 < (l0.length:Int)
          ·rw [if_pos c11] at H
           have c11b0:decide (x29_3 < (l0.length:Int)) = true:=decide_eq_true c11
           clear c11
           by_cases c12:0 < (l0.length:Int)
           ·rw [if_pos c12] at H
            have c12b0:decide (0 < (l0.length:Int)) = true:=decide_eq_true c12
            have c12b1:decide (0 < l0.length) = true:=decide_eq_true (by omega)
            clear c12
            by_cases c13:((((rd_T32 l0 x29_3).f0).toList) == (((rd_T32 l0 0).f0).toList) && (((rd_T32 l0 x29_3).f1) == ((rd_T32 l0 0).f1) && (((rd_T32 l0 x29_3).f2) == ((rd_T32 l0 0).f2) && ((((rd_T32 l0 x29_3).f3).toList) == (((rd_T32 l0 0).f3).toList))))) = true
            ·rw [if_pos c13] at H
             have c13b0:((((rd_T32 l0 x29_3).f0).toList) == (((rd_T32 l0 0).f0).toList) && (((rd_T32 l0 x29_3).f1) == ((rd_T32 l0 0).f1) && (((rd_T32 l0 x29_3).f2) == ((rd_T32 l0 0).f2) && ((((rd_T32 l0 x29_3).f3).toList) == (((rd_T32 l0 0).f3).toList))))) = true:=c13
             (try (have c13b1:decide ((((rd_T32 l0 x29_3).f0).toList) = (((rd_T32 l0 0).f0).toList) && (((rd_T32 l0 x29_3).f1) == ((rd_T32 l0 0).f1) && (((rd_T32 l0 x29_3).f2) == ((rd_T32 l0 0).f2) && ((((rd_T32 l0 x29_3).f3).toList) == (((rd_T32 l0 0).f3).toList))))) = true:=by simpa using c13))
             (try (have c13b2:((((rd_T32 l0 x29_3).f0).toList) == (((rd_T32 l0 0).f0).toList) && (((rd_T32 l0 x29_3).f1) == ((rd_T32 l0 0).f1) && (((rd_T32 l0 x29_3).f2) == ((rd_T32 l0 0).f2) && ((((rd_T32 l0 x29_3).f3).toList) == (((rd_T32 l0 0).f3).toList))))) = true:=by simpa using c13))
             clear c13
             have H':=Aside0.mk H
             clear H
             have p278:0≤(x29_3:Int):=of_decide_eq_true (by first|(with_reducible assumption)|assumption)
             have q278:x29_3 < (l0.length:Int):=of_decide_eq_true (by first|(with_reducible assumption)|assumption)
             obtain ⟨ad278,e278,hx278_0,hx278_1,hx278_2,hx278_3⟩:=at_T32 HR0.out x29_3 p278 q278
             cases e278
             replace hx278_0:=(HB.out.cell (World.block_lt_of_cell? w _ hx278_0)).trans hx278_0
             replace hx278_1:=(HB.out.cell (World.block_lt_of_cell? w _ hx278_1)).trans hx278_1
             replace hx278_2:=(HB.out.cell (World.block_lt_of_cell? w _ hx278_2)).trans hx278_2
             replace hx278_3:=(HB.out.cell (World.block_lt_of_cell? w _ hx278_3)).trans hx278_3
             replace p278:=eq_true p278
             replace q278:=eq_true q278
             go_wp2_with (first|((with_reducible refine gate_dst (N:=6) rfl ?_);refine box_event ?hg (N:=6) ?hd (cs:=#[.string (⟨#[]⟩:ByteArray),.int .u16 0,.int .u32 0,.string (⟨#[]⟩:ByteArray)]) (t:=32) ?hr ?_;(case hd=>rfl);(case hg=>rfl);(case hr=>first|(go_simp;done)|(go_simp;rfl));intro gb279 hg w14 hbox hb;have n0_:=Aside0.mk (below_step (by repeat (first|(with_reducible first|exact HB.out|apply below_alloc|apply pw_below_drewN|apply below_drew1)|exact HB.out)) hb);have n1_:=Aside0.mk (hbox);have n2_:=Aside0.mk ((by rw [hg];exact (below_size (by repeat (first|(with_reducible first|exact HB.out|apply below_alloc|apply pw_below_drewN|apply below_drew1)|exact HB.out))):w.heap.size≤gb279));have n3_:=Aside0.mk ((by rw [hg];exact (below_size (by repeat (first|(with_reducible first|exact HB.out|apply below_alloc|apply pw_below_drewN|apply below_drew1)|exact HB.out))):w.heap.size≤gb279));clear HB;have HB:=n0_;have BK279:=n1_;have GW279:=n2_;have GE279:=n3_;clear n0_ n1_ n2_ n3_;clear hb hbox hg;have hcz15_0:w14.cell? ⟨gb279,0,none⟩ = some (.string (⟨#[]⟩:ByteArray)):=(blk_cell BK279.out 0).trans rfl;have hcz15_1:w14.cell? ⟨gb279,1,none⟩ = some (.int .u16 0):=(blk_cell BK279.out 1).trans rfl;have hcz15_2:w14.cell? ⟨gb279,2,none⟩ = some (.int .u32 0):=(blk_cell BK279.out 2).trans rfl;have hcz15_3:w14.cell? ⟨gb279,3,none⟩ = some (.string (⟨#[]⟩:ByteArray)):=(blk_cell BK279.out 3).trans rfl;have hfz15_0:=blk_frozen BK279.out 0;have hfz15_1:=blk_frozen BK279.out 1;have hfz15_2:=blk_frozen BK279.out 2;have hfz15_3:=blk_frozen BK279.out 3;have p280:0≤(0:Int):=(by omega);have q280:0 < (l0.length:Int):=of_decide_eq_true (by first|(with_reducible assumption)|assumption);obtain ⟨ad280,e280,hx280_0,hx280_1,hx280_2,hx280_3⟩:=at_T32 HR0.out 0 p280 q280;obtain rfl:ad278 = ad280:=(by injection e280);have qi280:(0 < l0.length) = True:=eq_true (by omega);(try rw [show ((0:Int)).toNat = 0 from rfl] at hx280_0);(try rw [show 0 * 4 = 0 from rfl] at hx280_0);(try rw [Addr.add_zero'] at hx280_0);(try rw [show ((0:Int)).toNat = 0 from rfl] at hx280_1);(try rw [show 0 * 4 = 0 from rfl] at hx280_1);(try rw [Addr.add_zero'] at hx280_1);(try rw [show ((0:Int)).toNat = 0 from rfl] at hx280_2);(try rw [show 0 * 4 = 0 from rfl] at hx280_2);(try rw [Addr.add_zero'] at hx280_2);(try rw [show ((0:Int)).toNat = 0 from rfl] at hx280_3);(try rw [show 0 * 4 = 0 from rfl] at hx280_3);(try rw [Addr.add_zero'] at hx280_3);have hn280_0:ad278.block≠gb279:=Nat.ne_of_lt (Nat.lt_of_lt_of_le (by have:=World.block_lt_of_cell? _ _ hx280_0;first|rwa [add_block] at this|exact this) GW279.out);have hn280_1:ad278.block≠gb279:=Nat.ne_of_lt (Nat.lt_of_lt_of_le (by have:=World.block_lt_of_cell? _ _ hx280_0;first|rwa [add_block] at this|exact this) GW279.out);have hn280_2:ad278.block≠gb279:=Nat.ne_of_lt (Nat.lt_of_lt_of_le (by have:=World.block_lt_of_cell? _ _ hx280_0;first|rwa [add_block] at this|exact this) GW279.out);have hn280_3:ad278.block≠gb279:=Nat.ne_of_lt (Nat.lt_of_lt_of_le (by have:=World.block_lt_of_cell? _ _ hx280_0;first|rwa [add_block] at this|exact this) GW279.out);replace hx280_0:=(HB.out.cell (World.block_lt_of_cell? w _ hx280_0)).trans hx280_0;replace hx280_1:=(HB.out.cell (World.block_lt_of_cell? w _ hx280_1)).trans hx280_1;replace hx280_2:=(HB.out.cell (World.block_lt_of_cell? w _ hx280_2)).trans hx280_2;replace hx280_3:=(HB.out.cell (World.block_lt_of_cell? w _ hx280_3)).trans hx280_3;replace hx280_0:=(cell_far (p:=⟨gb279,0,none⟩) (by first|(rw [add_block];exact hn280_0)|(show (Addr.add _ _).block≠_;rw [add_block];exact hn280_0)|exact hn280_0) (.string ((rd_T32 l0 x29_3).f0))).trans hx280_0;replace hx280_1:=(cell_far (p:=⟨gb279,0,none⟩) (by first|(rw [add_block];exact hn280_0)|(show (Addr.add _ _).block≠_;rw [add_block];exact hn280_0)|exact hn280_0) (.string ((rd_T32 l0 x29_3).f0))).trans hx280_1;replace hx280_2:=(cell_far (p:=⟨gb279,0,none⟩) (by first|(rw [add_block];exact hn280_0)|(show (Addr.add _ _).block≠_;rw [add_block];exact hn280_0)|exact hn280_0) (.string ((rd_T32 l0 x29_3).f0))).trans hx280_2;replace hx280_3:=(cell_far (p:=⟨gb279,0,none⟩) (by first|(rw [add_block];exact hn280_0)|(show (Addr.add _ _).block≠_;rw [add_block];exact hn280_0)|exact hn280_0) (.string ((rd_T32 l0 x29_3).f0))).trans hx280_3;replace hx280_0:=(cell_far (p:=⟨gb279,1,none⟩) (by first|(rw [add_block];exact hn280_1)|(show (Addr.add _ _).block≠_;rw [add_block];exact hn280_1)|exact hn280_1) (.int .u16 ((rd_T32 l0 x29_3).f1))).trans hx280_0;replace hx280_1:=(cell_far (p:=⟨gb279,1,none⟩) (by first|(rw [add_block];exact hn280_1)|(show (Addr.add _ _).block≠_;rw [add_block];exact hn280_1)|exact hn280_1) (.int .u16 ((rd_T32 l0 x29_3).f1))).trans hx280_1;replace hx280_2:=(cell_far (p:=⟨gb279,1,none⟩) (by first|(rw [add_block];exact hn280_1)|(show (Addr.add _ _).block≠_;rw [add_block];exact hn280_1)|exact hn280_1) (.int .u16 ((rd_T32 l0 x29_3).f1))).trans hx280_2;replace hx280_3:=(cell_far (p:=⟨gb279,1,none⟩) (by first|(rw [add_block];exact hn280_1)|(show (Addr.add _ _).block≠_;rw [add_block];exact hn280_1)|exact hn280_1) (.int .u16 ((rd_T32 l0 x29_3).f1))).trans hx280_3;replace hx280_0:=(cell_far (p:=⟨gb279,2,none⟩) (by first|(rw [add_block];exact hn280_2)|(show (Addr.add _ _).block≠_;rw [add_block];exact hn280_2)|exact hn280_2) (.int .u32 ((rd_T32 l0 x29_3).f2))).trans hx280_0;replace hx280_1:=(cell_far (p:=⟨gb279,2,none⟩) (by first|(rw [add_block];exact hn280_2)|(show (Addr.add _ _).block≠_;rw [add_block];exact hn280_2)|exact hn280_2) (.int .u32 ((rd_T32 l0 x29_3).f2))).trans hx280_1;replace hx280_2:=(cell_far (p:=⟨gb279,2,none⟩) (by first|(rw [add_block];exact hn280_2)|(show (Addr.add _ _).block≠_;rw [add_block];exact hn280_2)|exact hn280_2) (.int .u32 ((rd_T32 l0 x29_3).f2))).trans hx280_2;replace hx280_3:=(cell_far (p:=⟨gb279,2,none⟩) (by first|(rw [add_block];exact hn280_2)|(show (Addr.add _ _).block≠_;rw [add_block];exact hn280_2)|exact hn280_2) (.int .u32 ((rd_T32 l0 x29_3).f2))).trans hx280_3;replace hx280_0:=(cell_far (p:=⟨gb279,3,none⟩) (by first|(rw [add_block];exact hn280_3)|(show (Addr.add _ _).block≠_;rw [add_block];exact hn280_3)|exact hn280_3) (.string ((rd_T32 l0 x29_3).f3))).trans hx280_0;replace hx280_1:=(cell_far (p:=⟨gb279,3,none⟩) (by first|(rw [add_block];exact hn280_3)|(show (Addr.add _ _).block≠_;rw [add_block];exact hn280_3)|exact hn280_3) (.string ((rd_T32 l0 x29_3).f3))).trans hx280_1;replace hx280_2:=(cell_far (p:=⟨gb279,3,none⟩) (by first|(rw [add_block];exact hn280_3)|(show (Addr.add _ _).block≠_;rw [add_block];exact hn280_3)|exact hn280_3) (.string ((rd_T32 l0 x29_3).f3))).trans hx280_2;replace hx280_3:=(cell_far (p:=⟨gb279,3,none⟩) (by first|(rw [add_block];exact hn280_3)|(show (Addr.add _ _).block≠_;rw [add_block];exact hn280_3)|exact hn280_3) (.string ((rd_T32 l0 x29_3).f3))).trans hx280_3;(try have hy280_0:=fun (n_:Nat)=>(show ((((((w14.drewN n_).setCell ⟨gb279,0,none⟩ (.string ((rd_T32 l0 x29_3).f0))).setCell ⟨gb279,1,none⟩ (.int .u16 ((rd_T32 l0 x29_3).f1))).setCell ⟨gb279,2,none⟩ (.int .u32 ((rd_T32 l0 x29_3).f2))).setCell ⟨gb279,3,none⟩ (.string ((rd_T32 l0 x29_3).f3)))).cell? _ = some _ from hx280_0));(try have hy280_1:=fun (n_:Nat)=>(show ((((((w14.drewN n_).setCell ⟨gb279,0,none⟩ (.string ((rd_T32 l0 x29_3).f0))).setCell ⟨gb279,1,none⟩ (.int .u16 ((rd_T32 l0 x29_3).f1))).setCell ⟨gb279,2,none⟩ (.int .u32 ((rd_T32 l0 x29_3).f2))).setCell ⟨gb279,3,none⟩ (.string ((rd_T32 l0 x29_3).f3)))).cell? _ = some _ from hx280_1));(try have hy280_2:=fun (n_:Nat)=>(show ((((((w14.drewN n_).setCell ⟨gb279,0,none⟩ (.string ((rd_T32 l0 x29_3).f0))).setCell ⟨gb279,1,none⟩ (.int .u16 ((rd_T32 l0 x29_3).f1))).setCell ⟨gb279,2,none⟩ (.int .u32 ((rd_T32 l0 x29_3).f2))).setCell ⟨gb279,3,none⟩ (.string ((rd_T32 l0 x29_3).f3)))).cell? _ = some _ from hx280_2));(try have hy280_3:=fun (n_:Nat)=>(show ((((((w14.drewN n_).setCell ⟨gb279,0,none⟩ (.string ((rd_T32 l0 x29_3).f0))).setCell ⟨gb279,1,none⟩ (.int .u16 ((rd_T32 l0 x29_3).f1))).setCell ⟨gb279,2,none⟩ (.int .u32 ((rd_T32 l0 x29_3).f2))).setCell ⟨gb279,3,none⟩ (.string ((rd_T32 l0 x29_3).f3)))).cell? _ = some _ from hx280_3));clear hn280_0;clear hn280_1;clear hn280_2;clear hn280_3;replace p280:=eq_true p280;replace q280:=eq_true q280))
             repeat (go_quiet (fail);try go_wp2_with (fail))
             go_roundg k3
             case measure=>have:=HJ2.out;have:=HJ6.out;have:=HK3.out;omega
             case rel=>exact ⟨(wrap64 (x4_3 + 1)),(wrap64 (x29_3 + 1)),(by first|rfl|(simp;done)|(simp [*];done)),(by first|rfl|(simp;done)|(simp [*];done)),H',⟨by have:=HJ2.out;have:=HJ6.out;have:=HK3.out;omega⟩,⟨by repeat (first|(with_reducible first|exact HB.out|apply below_alloc|apply pw_below_drewN|apply below_drew1|refine below_set ?_ GE279.out)|exact HB.out)⟩⟩
            ·rw [if_neg c13] at H
             have c13b0:((((rd_T32 l0 x29_3).f0).toList) == (((rd_T32 l0 0).f0).toList) && (((rd_T32 l0 x29_3).f1) == ((rd_T32 l0 0).f1) && (((rd_T32 l0 x29_3).f2) == ((rd_T32 l0 0).f2) && ((((rd_T32 l0 x29_3).f3).toList) == (((rd_T32 l0 0).f3).toList))))) = false:=by simpa using c13
             (try (have c13b1:decide ((((rd_T32 l0 x29_3).f0).toList) = (((rd_T32 l0 0).f0).toList) && (((rd_T32 l0 x29_3).f1) == ((rd_T32 l0 0).f1) && (((rd_T32 l0 x29_3).f2) == ((rd_T32 l0 0).f2) && ((((rd_T32 l0 x29_3).f3).toList) == (((rd_T32 l0 0).f3).toList))))) = false:=by simpa using c13))
             (try (have c13b2:((((rd_T32 l0 x29_3).f0).toList) == (((rd_T32 l0 0).f0).toList) && (((rd_T32 l0 x29_3).f1) == ((rd_T32 l0 0).f1) && (((rd_T32 l0 x29_3).f2) == ((rd_T32 l0 0).f2) && ((((rd_T32 l0 x29_3).f3).toList) == (((rd_T32 l0 0).f3).toList))))) = false:=by simpa using c13))
             (try (have c13b3:¬ ((((rd_T32 l0 x29_3).f0).toList) = (((rd_T32 l0 0).f0).toList) && (((rd_T32 l0 x29_3).f1) == ((rd_T32 l0 0).f1) && (((rd_T32 l0 x29_3).f2) == ((rd_T32 l0 0).f2) && ((((rd_T32 l0 x29_3).f3).toList) == (((rd_T32 l0 0).f3).toList))))):=by simpa using c13))
             clear c13
             have H':=Aside0.mk H
             clear H
             have p278:0≤(x29_3:Int):=of_decide_eq_true (by first|(with_reducible assumption)|assumption)
             have q278:x29_3 < (l0.length:Int):=of_decide_eq_true (by first|(with_reducible assumption)|assumption)
             obtain ⟨ad278,e278,hx278_0,hx278_1,hx278_2,hx278_3⟩:=at_T32 HR0.out x29_3 p278 q278
             cases e278
             replace hx278_0:=(HB.out.cell (World.block_lt_of_cell? w _ hx278_0)).trans hx278_0
             replace hx278_1:=(HB.out.cell (World.block_lt_of_cell? w _ hx278_1)).trans hx278_1
             replace hx278_2:=(HB.out.cell (World.block_lt_of_cell? w _ hx278_2)).trans hx278_2
             replace hx278_3:=(HB.out.cell (World.block_lt_of_cell? w _ hx278_3)).trans hx278_3
             replace p278:=eq_true p278
             replace q278:=eq_true q278
             go_wp2_with (first|((with_reducible refine gate_dst (N:=6) rfl ?_);refine box_event ?hg (N:=6) ?hd (cs:=#[.string (⟨#[]⟩:ByteArray),.int .u16 0,.int .u32 0,.string (⟨#[]⟩:ByteArray)]) (t:=32) ?hr ?_;(case hd=>rfl);(case hg=>rfl);(case hr=>first|(go_simp;done)|(go_simp;rfl));intro gb279 hg w16 hbox hb;have n0_:=Aside0.mk (below_step (by repeat (first|(with_reducible first|exact HB.out|apply below_alloc|apply pw_below_drewN|apply below_drew1)|exact HB.out)) hb);have n1_:=Aside0.mk (hbox);have n2_:=Aside0.mk ((by rw [hg];exact (below_size (by repeat (first|(with_reducible first|exact HB.out|apply below_alloc|apply pw_below_drewN|apply below_drew1)|exact HB.out))):w.heap.size≤gb279));have n3_:=Aside0.mk ((by rw [hg];exact (below_size (by repeat (first|(with_reducible first|exact HB.out|apply below_alloc|apply pw_below_drewN|apply below_drew1)|exact HB.out))):w.heap.size≤gb279));clear HB;have HB:=n0_;have BK279:=n1_;have GW279:=n2_;have GE279:=n3_;clear n0_ n1_ n2_ n3_;clear hb hbox hg;have hcz17_0:w16.cell? ⟨gb279,0,none⟩ = some (.string (⟨#[]⟩:ByteArray)):=(blk_cell BK279.out 0).trans rfl;have hcz17_1:w16.cell? ⟨gb279,1,none⟩ = some (.int .u16 0):=(blk_cell BK279.out 1).trans rfl;have hcz17_2:w16.cell? ⟨gb279,2,none⟩ = some (.int .u32 0):=(blk_cell BK279.out 2).trans rfl;have hcz17_3:w16.cell? ⟨gb279,3,none⟩ = some (.string (⟨#[]⟩:ByteArray)):=(blk_cell BK279.out 3).trans rfl;have hfz17_0:=blk_frozen BK279.out 0;have hfz17_1:=blk_frozen BK279.out 1;have hfz17_2:=blk_frozen BK279.out 2;have hfz17_3:=blk_frozen BK279.out 3;have p280:0≤(0:Int):=(by omega);have q280:0 < (l0.length:Int):=of_decide_eq_true (by first|(with_reducible assumption)|assumption);obtain ⟨ad280,e280,hx280_0,hx280_1,hx280_2,hx280_3⟩:=at_T32 HR0.out 0 p280 q280;obtain rfl:ad278 = ad280:=(by injection e280);have qi280:(0 < l0.length) = True:=eq_true (by omega);(try rw [show ((0:Int)).toNat = 0 from rfl] at hx280_0);(try rw [show 0 * 4 = 0 from rfl] at hx280_0);(try rw [Addr.add_zero'] at hx280_0);(try rw [show ((0:Int)).toNat = 0 from rfl] at hx280_1);(try rw [show 0 * 4 = 0 from rfl] at hx280_1);(try rw [Addr.add_zero'] at hx280_1);(try rw [show ((0:Int)).toNat = 0 from rfl] at hx280_2);(try rw [show 0 * 4 = 0 from rfl] at hx280_2);(try rw [Addr.add_zero'] at hx280_2);(try rw [show ((0:Int)).toNat = 0 from rfl] at hx280_3);(try rw [show 0 * 4 = 0 from rfl] at hx280_3);(try rw [Addr.add_zero'] at hx280_3);have hn280_0:ad278.block≠gb279:=Nat.ne_of_lt (Nat.lt_of_lt_of_le (by have:=World.block_lt_of_cell? _ _ hx280_0;first|rwa [add_block] at this|exact this) GW279.out);have hn280_1:ad278.block≠gb279:=Nat.ne_of_lt (Nat.lt_of_lt_of_le (by have:=World.block_lt_of_cell? _ _ hx280_0;first|rwa [add_block] at this|exact this) GW279.out);have hn280_2:ad278.block≠gb279:=Nat.ne_of_lt (Nat.lt_of_lt_of_le (by have:=World.block_lt_of_cell? _ _ hx280_0;first|rwa [add_block] at this|exact this) GW279.out);have hn280_3:ad278.block≠gb279:=Nat.ne_of_lt (Nat.lt_of_lt_of_le (by have:=World.block_lt_of_cell? _ _ hx280_0;first|rwa [add_block] at this|exact this) GW279.out);replace hx280_0:=(HB.out.cell (World.block_lt_of_cell? w _ hx280_0)).trans hx280_0;replace hx280_1:=(HB.out.cell (World.block_lt_of_cell? w _ hx280_1)).trans hx280_1;replace hx280_2:=(HB.out.cell (World.block_lt_of_cell? w _ hx280_2)).trans hx280_2;replace hx280_3:=(HB.out.cell (World.block_lt_of_cell? w _ hx280_3)).trans hx280_3;replace hx280_0:=(cell_far (p:=⟨gb279,0,none⟩) (by first|(rw [add_block];exact hn280_0)|(show (Addr.add _ _).block≠_;rw [add_block];exact hn280_0)|exact hn280_0) (.string ((rd_T32 l0 x29_3).f0))).trans hx280_0;replace hx280_1:=(cell_far (p:=⟨gb279,0,none⟩) (by first|(rw [add_block];exact hn280_0)|(show (Addr.add _ _).block≠_;rw [add_block];exact hn280_0)|exact hn280_0) (.string ((rd_T32 l0 x29_3).f0))).trans hx280_1;replace hx280_2:=(cell_far (p:=⟨gb279,0,none⟩) (by first|(rw [add_block];exact hn280_0)|(show (Addr.add _ _).block≠_;rw [add_block];exact hn280_0)|exact hn280_0) (.string ((rd_T32 l0 x29_3).f0))).trans hx280_2;replace hx280_3:=(cell_far (p:=⟨gb279,0,none⟩) (by first|(rw [add_block];exact hn280_0)|(show (Addr.add _ _).block≠_;rw [add_block];exact hn280_0)|exact hn280_0) (.string ((rd_T32 l0 x29_3).f0))).trans hx280_3;replace hx280_0:=(cell_far (p:=⟨gb279,1,none⟩) (by first|(rw [add_block];exact hn280_1)|(show (Addr.add _ _).block≠_;rw [add_block];exact hn280_1)|exact hn280_1) (.int .u16 ((rd_T32 l0 x29_3).f1))).trans hx280_0;replace hx280_1:=(cell_far (p:=⟨gb279,1,none⟩) (by first|(rw [add_block];exact hn280_1)|(show (Addr.add _ _).block≠_;rw [add_block];exact hn280_1)|exact hn280_1) (.int .u16 ((rd_T32 l0 x29_3).f1))).trans hx280_1;replace hx280_2:=(cell_far (p:=⟨gb279,1,none⟩) (by first|(rw [add_block];exact hn280_1)|(show (Addr.add _ _).block≠_;rw [add_block];exact hn280_1)|exact hn280_1) (.int .u16 ((rd_T32 l0 x29_3).f1))).trans hx280_2;replace hx280_3:=(cell_far (p:=⟨gb279,1,none⟩) (by first|(rw [add_block];exact hn280_1)|(show (Addr.add _ _).block≠_;rw [add_block];exact hn280_1)|exact hn280_1) (.int .u16 ((rd_T32 l0 x29_3).f1))).trans hx280_3;replace hx280_0:=(cell_far (p:=⟨gb279,2,none⟩) (by first|(rw [add_block];exact hn280_2)|(show (Addr.add _ _).block≠_;rw [add_block];exact hn280_2)|exact hn280_2) (.int .u32 ((rd_T32 l0 x29_3).f2))).trans hx280_0;replace hx280_1:=(cell_far (p:=⟨gb279,2,none⟩) (by first|(rw [add_block];exact hn280_2)|(show (Addr.add _ _).block≠_;rw [add_block];exact hn280_2)|exact hn280_2) (.int .u32 ((rd_T32 l0 x29_3).f2))).trans hx280_1;replace hx280_2:=(cell_far (p:=⟨gb279,2,none⟩) (by first|(rw [add_block];exact hn280_2)|(show (Addr.add _ _).block≠_;rw [add_block];exact hn280_2)|exact hn280_2) (.int .u32 ((rd_T32 l0 x29_3).f2))).trans hx280_2;replace hx280_3:=(cell_far (p:=⟨gb279,2,none⟩) (by first|(rw [add_block];exact hn280_2)|(show (Addr.add _ _).block≠_;rw [add_block];exact hn280_2)|exact hn280_2) (.int .u32 ((rd_T32 l0 x29_3).f2))).trans hx280_3;replace hx280_0:=(cell_far (p:=⟨gb279,3,none⟩) (by first|(rw [add_block];exact hn280_3)|(show (Addr.add _ _).block≠_;rw [add_block];exact hn280_3)|exact hn280_3) (.string ((rd_T32 l0 x29_3).f3))).trans hx280_0;replace hx280_1:=(cell_far (p:=⟨gb279,3,none⟩) (by first|(rw [add_block];exact hn280_3)|(show (Addr.add _ _).block≠_;rw [add_block];exact hn280_3)|exact hn280_3) (.string ((rd_T32 l0 x29_3).f3))).trans hx280_1;replace hx280_2:=(cell_far (p:=⟨gb279,3,none⟩) (by first|(rw [add_block];exact hn280_3)|(show (Addr.add _ _).block≠_;rw [add_block];exact hn280_3)|exact hn280_3) (.string ((rd_T32 l0 x29_3).f3))).trans hx280_2;replace hx280_3:=(cell_far (p:=⟨gb279,3,none⟩) (by first|(rw [add_block];exact hn280_3)|(show (Addr.add _ _).block≠_;rw [add_block];exact hn280_3)|exact hn280_3) (.string ((rd_T32 l0 x29_3).f3))).trans hx280_3;(try have hy280_0:=fun (n_:Nat)=>(show ((((((w16.drewN n_).setCell ⟨gb279,0,none⟩ (.string ((rd_T32 l0 x29_3).f0))).setCell ⟨gb279,1,none⟩ (.int .u16 ((rd_T32 l0 x29_3).f1))).setCell ⟨gb279,2,none⟩ (.int .u32 ((rd_T32 l0 x29_3).f2))).setCell ⟨gb279,3,none⟩ (.string ((rd_T32 l0 x29_3).f3)))).cell? _ = some _ from hx280_0));(try have hy280_1:=fun (n_:Nat)=>(show ((((((w16.drewN n_).setCell ⟨gb279,0,none⟩ (.string ((rd_T32 l0 x29_3).f0))).setCell ⟨gb279,1,none⟩ (.int .u16 ((rd_T32 l0 x29_3).f1))).setCell ⟨gb279,2,none⟩ (.int .u32 ((rd_T32 l0 x29_3).f2))).setCell ⟨gb279,3,none⟩ (.string ((rd_T32 l0 x29_3).f3)))).cell? _ = some _ from hx280_1));(try have hy280_2:=fun (n_:Nat)=>(show ((((((w16.drewN n_).setCell ⟨gb279,0,none⟩ (.string ((rd_T32 l0 x29_3).f0))).setCell ⟨gb279,1,none⟩ (.int .u16 ((rd_T32 l0 x29_3).f1))).setCell ⟨gb279,2,none⟩ (.int .u32 ((rd_T32 l0 x29_3).f2))).setCell ⟨gb279,3,none⟩ (.string ((rd_T32 l0 x29_3).f3)))).cell? _ = some _ from hx280_2));(try have hy280_3:=fun (n_:Nat)=>(show ((((((w16.drewN n_).setCell ⟨gb279,0,none⟩ (.string ((rd_T32 l0 x29_3).f0))).setCell ⟨gb279,1,none⟩ (.int .u16 ((rd_T32 l0 x29_3).f1))).setCell ⟨gb279,2,none⟩ (.int .u32 ((rd_T32 l0 x29_3).f2))).setCell ⟨gb279,3,none⟩ (.string ((rd_T32 l0 x29_3).f3)))).cell? _ = some _ from hx280_3));clear hn280_0;clear hn280_1;clear hn280_2;clear hn280_3;replace p280:=eq_true p280;replace q280:=eq_true q280))
             repeat (go_quiet (fail);try go_wp2_with (fail))
             go_roundg k3
             case measure=>have:=HJ2.out;have:=HJ6.out;have:=HK3.out;omega
             case rel=>exact ⟨(x4_3),(wrap64 (x29_3 + 1)),(by first|rfl|(simp;done)|(simp [*];done)),(by first|rfl|(simp;done)|(simp [*];done)),H',⟨by have:=HJ2.out;have:=HJ6.out;have:=HK3.out;omega⟩,⟨by repeat (first|(with_reducible first|exact HB.out|apply below_alloc|apply pw_below_drewN|apply below_drew1|refine below_set ?_ GE279.out)|exact HB.out)⟩⟩
           ·rw [if_neg c12] at H
            exact absurd H (by simp)
          ·rw [if_neg c11] at H
           exact absurd H (by simp)
         ·rw [if_neg c10] at H
          exact absurd H (by simp)
        ·rw [if_neg c9] at H
         have c9b0:decide (x29_3 < (l0.length:Int)) = false:=decide_eq_false c9
         clear c9
         obtain rfl:=Option.some.inj H
         go_wp2
         repeat (go_quiet (fail);try go_wp2)
         go_ret
         exact ⟨by first|rfl|(simp [errW_none,errW_some] <;> rfl)|(simp [*,errW_none,errW_some] <;> rfl),by repeat (first|(with_reducible first|exact HB.out|apply below_alloc|apply pw_below_drewN|apply below_drew1)|exact HB.out)⟩
end Go.Proofs.YtlobjcokopfbkaaDoor.PY
