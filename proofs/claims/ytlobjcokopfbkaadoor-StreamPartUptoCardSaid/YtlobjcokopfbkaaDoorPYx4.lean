import Derived.Test.YtlobjcokopfbkaaDoorPYx0
import Derived.Test.YtlobjcokopfbkaaDoorPYx2
import Derived.Test.YtlobjcokopfbkaaDoorPYx3
namespace Go.Proofs.YtlobjcokopfbkaaDoor.PY
open Go.RowKit Go.Proofs.YtlobjcokopfbkaaDoorW.PrintWords Go.Proofs.YtlobjcokopfbkaaDoorW.PrintLast Go.Proofs.YtlobjcokopfbkaaDoorW.PrintMore
attribute [local go_sem] max2_int min2_int max_two min_two max_three min_three max_four min_four   -- for this text's walks alone
set_option linter.unusedVariables false
set_option linter.unusedSimpArgs false
mutual
def name_Below.j0:Nat→ByteArray→ByteArray→Bool→Option (Bool)
 | 0,_,_,_=>none
 | k + 1,x0,x1,x5=>name_Below.l0 k x0 x1 x5
def name_Below.l0:Nat→ByteArray→ByteArray→Bool→Option (Bool)
 | 0,_,_,_=>none
 | k + 1,x0,x1,x5=>if x5 = true then (if x0.toList = x1.toList then (some true) else ((name_Parent.f k x0).bind fun bt152=>(name_Below.l0 k bt152.1 x1 bt152.2))) else (some false)
end
def name_Below.f (k:Nat) (a0:ByteArray) (a1:ByteArray):Option (Bool):=(name_May.f k a0).bind fun t150=>(if t150 = true then ((name_May.f k a1).bind fun t151=>(name_Below.j0 k a0 a1 t151)) else (name_Below.j0 k a0 a1 false))
theorem name_Below.mono_l:∀ k,(∀ y0 y1 y2,LeO (name_Below.j0 k y0 y1 y2) (name_Below.j0 (k + 1) y0 y1 y2))∧(∀ y0 y1 y2,LeO (name_Below.l0 k y0 y1 y2) (name_Below.l0 (k + 1) y0 y1 y2))
 | 0=>⟨fun _ _ _ r h=>by simp [name_Below.j0] at h,fun _ _ _ r h=>by simp [name_Below.l0] at h⟩
 | k + 1=>by
  obtain ⟨ih0,ih1⟩:=name_Below.mono_l k
  refine ⟨?_,?_⟩
  ·intro y0 y1 y2
   unfold name_Below.j0
   repeat' first
   | (with_reducible exact ih0 _ _ _)
   | (with_reducible exact ih1 _ _ _)
   | (with_reducible exact name_May.mono _ _)
   | (with_reducible exact name_Parent.mono _ _)
   | (with_reducible exact LeO.refl _)
   | (with_reducible exact LeO.none _)
   | (with_reducible refine LeO.ite ?_ ?_)
   | (with_reducible refine LeO.bind ?_ (fun _=>?_))
   | exact ih0 _ _ _
   | exact ih1 _ _ _
   | exact name_May.mono _ _
   | exact name_Parent.mono _ _
   | exact LeO.none _
   | refine LeO.ite ?_ ?_
   | refine LeO.bind ?_ (fun _=>?_)
  ·intro y0 y1 y2
   unfold name_Below.l0
   repeat' first
   | (with_reducible exact ih0 _ _ _)
   | (with_reducible exact ih1 _ _ _)
   | (with_reducible exact name_May.mono _ _)
   | (with_reducible exact name_Parent.mono _ _)
   | (with_reducible exact LeO.refl _)
   | (with_reducible exact LeO.none _)
   | (with_reducible refine LeO.ite ?_ ?_)
   | (with_reducible refine LeO.bind ?_ (fun _=>?_))
   | exact ih0 _ _ _
   | exact ih1 _ _ _
   | exact name_May.mono _ _
   | exact name_Parent.mono _ _
   | exact LeO.none _
   | refine LeO.ite ?_ ?_
   | refine LeO.bind ?_ (fun _=>?_)
theorem name_Below.mono:∀ a0 a1 k,LeO (name_Below.f k a0 a1) (name_Below.f (k + 1) a0 a1):=by
 intro a0 a1 k
 obtain ⟨ih0,ih1⟩:=name_Below.mono_l k
 unfold name_Below.f
 repeat' first
   | (with_reducible exact ih0 _ _ _)
   | (with_reducible exact ih1 _ _ _)
   | (with_reducible exact name_May.mono _ _)
   | (with_reducible exact name_Parent.mono _ _)
   | (with_reducible exact LeO.refl _)
   | (with_reducible exact LeO.none _)
   | (with_reducible refine LeO.ite ?_ ?_)
   | (with_reducible refine LeO.bind ?_ (fun _=>?_))
   | exact ih0 _ _ _
   | exact ih1 _ _ _
   | exact name_May.mono _ _
   | exact name_Parent.mono _ _
   | exact LeO.none _
   | refine LeO.ite ?_ ?_
   | refine LeO.bind ?_ (fun _=>?_)
set_option maxHeartbeats 8000000 in
set_option maxRecDepth 100000 in
theorem name_Below.calls (k:Nat) (a0:ByteArray) (a1:ByteArray) (r:Bool) (w:World) (h:name_Below.f k a0 a1 = some r) :
  Calls Tryd.prog 32 #[.string a0,.string a1] w fun e w'=>e = .returned (.bool r)∧Below w.heap.size w w':=by
 have HB:=Aside0.mk (Below.refl w.heap.size w)
 have H:((name_May.f k a0).bind fun t150=>(if t150 = true then ((name_May.f k a1).bind fun t151=>(name_Below.j0 k a0 a1 t151)) else (name_Below.j0 k a0 a1 false))) = some r:=h
 clear h
 have HC3:=Aside0.mk H
 clear H
 go_enter Tryd.func32,Tryd.ntmps32
 go_upto_region 1 with (fail)
 go_cut [5] (fun v5 wc=>∃ (kq:Nat) (x5_2:Bool),v5 = .bool x5_2∧Aside0 (name_Below.j0 kq a0 a1 x5_2 = some r)∧Aside0 (kq≤k)∧Aside0 (Below w.heap.size w wc))
 case first =>
  have H:=HC3.out
  clear HC3
  replace H:=Option.bind_eq_some_iff.mp H
  obtain ⟨t150,A40,H⟩:=H
  replace H:(if t150 = true then ((name_May.f k a1).bind fun t151=>(name_Below.j0 k a0 a1 t151)) else (name_Below.j0 k a0 a1 false)) = some r:=H
  have A4:=Aside0.mk A40
  clear A40
  by_cases c5:t150 = true
  ·subst c5
   have H1:((name_May.f k a1).bind fun t151=>(name_Below.j0 k a0 a1 t151)) = some r:=by rw [if_pos rfl] at H;exact H
   clear H
   have H:=H1
   clear H1
   replace H:=Option.bind_eq_some_iff.mp H
   obtain ⟨t151,A60,H⟩:=H
   replace H:(name_Below.j0 k a0 a1 t151) = some r:=H
   have A6:=Aside0.mk A60
   clear A60
   have H':=Aside0.mk H
   clear H
   go_wp2_with (first|((with_reducible refine gate_callee (f:=33) rfl ?_);refine goesL_ (some 7) rfl rfl Tryd.func33 (by kernel_rfl) rfl #[.string a0] rfl (by (try simp only [List.map_toArray,List.map_cons,List.map_nil]) <;> first|rfl|(simp only [List.length_drop,List.length_take];rfl)) ?_;(with_reducible refine (name_May.calls k a0 true _ A4.out).mono ?_);rintro e w7 ⟨rfl,hb⟩;refine ⟨_,rfl,?_⟩;have n0_:=Aside0.mk (below_step (by repeat (first|(with_reducible first|exact HB.out|apply below_alloc|apply pw_below_drewN|apply below_drew1)|exact HB.out)) hb);clear HB;have HB:=n0_;clear n0_;(try clear hb);(try clear hb2);(try clear hk);(try clear hi))|(go_at_call 33;(with_reducible refine (name_May.calls k a1 t151 _ A6.out).mono ?_);rintro e w8 ⟨rfl,hb⟩;have n0_:=Aside0.mk (below_step (by repeat (first|(with_reducible first|exact HB.out|apply below_alloc|apply pw_below_drewN|apply below_drew1)|exact HB.out)) hb);clear HB;have HB:=n0_;clear n0_;(try clear hb);(try clear hb2);(try clear hk);(try clear hi)))
   go_meet
   case rel=>exact ⟨_,(t151),(by first|rfl|(simp;done)|(simp [*];done)),H',⟨by first|omega|exact Nat.le_refl _⟩,⟨by repeat (first|(with_reducible first|exact HB.out|apply below_alloc|apply pw_below_drewN|apply below_drew1)|exact HB.out)⟩⟩
  ·replace c5:=Bool.eq_false_iff.mpr c5
   subst c5
   have H1:(name_Below.j0 k a0 a1 false) = some r:=by rw [if_neg (show ¬ (false = true) by decide)] at H;exact H
   clear H
   have H:=H1
   clear H1
   have H':=Aside0.mk H
   clear H
   go_wp2_with (first|((with_reducible refine gate_callee (f:=33) rfl ?_);refine goesL_ (some 7) rfl rfl Tryd.func33 (by kernel_rfl) rfl #[.string a0] rfl (by (try simp only [List.map_toArray,List.map_cons,List.map_nil]) <;> first|rfl|(simp only [List.length_drop,List.length_take];rfl)) ?_;(with_reducible refine (name_May.calls k a0 false _ A4.out).mono ?_);rintro e w9 ⟨rfl,hb⟩;refine ⟨_,rfl,?_⟩;have n0_:=Aside0.mk (below_step (by repeat (first|(with_reducible first|exact HB.out|apply below_alloc|apply pw_below_drewN|apply below_drew1)|exact HB.out)) hb);clear HB;have HB:=n0_;clear n0_;(try clear hb);(try clear hb2);(try clear hk);(try clear hi)))
   go_meet
   case rel=>exact ⟨_,(false),(by first|rfl|(simp;done)|(simp [*];done)),H',⟨by first|omega|exact Nat.le_refl _⟩,⟨by repeat (first|(with_reducible first|exact HB.out|apply below_alloc|apply pw_below_drewN|apply below_drew1)|exact HB.out)⟩⟩
 case rest =>
  clear HC3
  try clear p2
  try clear c3
  try clear c5
  obtain ⟨kq,x5_2,rfl,HA,HJ2,HB⟩:=hcut
  cases kq with
  | zero=>exact absurd HA.out (by simp [name_Below.j0])
  | succ kj2 =>
   have H:=HA.out
   clear HA
   simp only [name_Below.j0] at H
   have H':=Aside0.mk H
   clear H
   go_wp2
   go_loopg [0,5] kj2 (fun kq v0 v5 w'=>∃ (x0_2:ByteArray) (x5_2:Bool),v0 = .string x0_2∧v5 = .bool x5_2∧Aside0 (name_Below.l0 kq x0_2 a1 x5_2 = some r)∧Aside0 (kq≤kj2)∧Aside0 (Below w.heap.size w w'))
   case atStart=>exact ⟨(a0),(x5_2),(by first|rfl|(simp;done)|(simp [*];done)),(by first|rfl|(simp;done)|(simp [*];done)),H',⟨Nat.le_refl _⟩,⟨by repeat (first|(with_reducible first|exact HB.out|apply below_alloc|apply pw_below_drewN|apply below_drew1)|exact HB.out)⟩⟩
   case round =>
    clear H'
    try clear p2
    try clear c3
    try clear c5
    try clear p2
    obtain ⟨x0_2,x5_2,rfl,rfl,HA,HK2,HB⟩:=hrel
    cases gk with
    | zero=>exact absurd HA.out (by simp [name_Below.l0])
    | succ k2 =>
     have H:=HA.out
     clear HA
     simp only [name_Below.l0] at H
     by_cases c10:x5_2 = true
     ·subst c10
      have H1:(if x0_2.toList = a1.toList then (some true) else ((name_Parent.f k2 x0_2).bind fun bt152=>(name_Below.l0 k2 bt152.1 a1 bt152.2))) = some r:=by rw [if_pos rfl] at H;exact H
      clear H
      have H:=H1
      clear H1
      by_cases c11:x0_2.toList = a1.toList
      ·rw [if_pos c11] at H
       have c11b0:(x0_2.toList == a1.toList) = true:=beq_iff_eq.mpr c11
       have c11b1:(x0_2.toList != a1.toList) = false:=bne_eq_false_iff_eq.mpr c11
       clear c11
       obtain rfl:=Option.some.inj H
       go_wp2
       go_ret
       exact ⟨by first|rfl|(simp [errW_none,errW_some] <;> rfl)|(simp [*,errW_none,errW_some] <;> rfl),by repeat (first|(with_reducible first|exact HB.out|apply below_alloc|apply pw_below_drewN|apply below_drew1)|exact HB.out)⟩
      ·rw [if_neg c11] at H
       have c11b0:(x0_2.toList == a1.toList) = false:=beq_eq_false_iff_ne.mpr c11
       have c11b1:(x0_2.toList != a1.toList) = true:=bne_iff_ne.mpr c11
       replace H:=Option.bind_eq_some_iff.mp H
       obtain ⟨⟨t152,t153⟩,A120,H⟩:=H
       replace H:(name_Below.l0 k2 t152 a1 t153) = some r:=H
       have A12:=Aside0.mk A120
       clear A120
       have H':=Aside0.mk H
       clear H
       go_wp2_with (first|((with_reducible refine gate_callee (f:=46) rfl ?_);refine goesL_ (some 15) rfl rfl Tryd.func46 (by kernel_rfl) rfl #[.string x0_2] rfl (by (try simp only [List.map_toArray,List.map_cons,List.map_nil]) <;> first|rfl|(simp only [List.length_drop,List.length_take];rfl)) ?_;(with_reducible refine (name_Parent.calls k2 x0_2 t152 t153 _ A12.out).mono ?_);rintro e w13 ⟨rfl,hb⟩;refine ⟨_,rfl,?_⟩;have n0_:=Aside0.mk (below_step (by repeat (first|(with_reducible first|exact HB.out|apply below_alloc|apply pw_below_drewN|apply below_drew1)|exact HB.out)) hb);clear HB;have HB:=n0_;clear n0_;(try clear hb);(try clear hb2);(try clear hk);(try clear hi)))
       go_roundg k2
       case measure=>have:=HJ2.out;have:=HK2.out;omega
       case rel=>exact ⟨(t152),(t153),(by first|rfl|(simp;done)|(simp [*];done)),(by first|rfl|(simp;done)|(simp [*];done)),H',⟨by have:=HJ2.out;have:=HK2.out;omega⟩,⟨by repeat (first|(with_reducible first|exact HB.out|apply below_alloc|apply pw_below_drewN|apply below_drew1)|exact HB.out)⟩⟩
     ·replace c10:=Bool.eq_false_iff.mpr c10
      subst c10
      have H1:(some false) = some r:=by rw [if_neg (show ¬ (false = true) by decide)] at H;exact H
      clear H
      have H:=H1
      clear H1
      obtain rfl:=Option.some.inj H
      go_wp2
      go_ret
      exact ⟨by first|rfl|(simp [errW_none,errW_some] <;> rfl)|(simp [*,errW_none,errW_some] <;> rfl),by repeat (first|(with_reducible first|exact HB.out|apply below_alloc|apply pw_below_drewN|apply below_drew1)|exact HB.out)⟩
def stream_right.l0:Nat→ByteArray→List (S32)→List (S32)→Int→Int→Option (Bool)
 | 0,_,_,_,_,_=>none
 | k + 1,x0,x1,x7,x8,x9=>if x9 < x8 then (if 0≤x9 then (if x9 < (x7.length:Int) then ((message_MayRecord.f k ((rd_T32 x7 x9).f0) ((rd_T32 x7 x9).f1) ((rd_T32 x7 x9).f2) ((rd_T32 x7 x9).f3)).bind fun t157=>(if t157 = true then ((name_Below.f k ((rd_T32 x7 x9).f0) x0).bind fun t158=>(if t158 = true then (if ((rd_T32 x7 x9).f1) = 6 then (if ((rd_T32 x7 x9).f0).toList = x0.toList then (stream_right.l0 k x0 x1 x7 x8 (wrap64 (x9 + 1))) else (some false)) else (stream_right.l0 k x0 x1 x7 x8 (wrap64 (x9 + 1)))) else (some false))) else (some false))) else (none)) else (none)) else (if (x1.length:Int) > 0 then (if 0 < (x1.length:Int) then (some (((rd_T32 x1 0).f1) == 6)) else (none)) else (some false))
def stream_right.f (k:Nat) (a0:ByteArray) (l1:List (S32)):Option (Bool):=stream_right.l0 k a0 l1 l1 (l1.length:Int) 0
theorem stream_right.mono_l:∀ k,(∀ y0 y1 y2 y3 y4,LeO (stream_right.l0 k y0 y1 y2 y3 y4) (stream_right.l0 (k + 1) y0 y1 y2 y3 y4))
 | 0=>fun _ _ _ _ _ r h=>by simp [stream_right.l0] at h
 | k + 1=>by
  have ih0:=stream_right.mono_l k
  ·intro y0 y1 y2 y3 y4
   unfold stream_right.l0
   repeat' first
   | (with_reducible exact ih0 _ _ _ _ _)
   | (with_reducible exact message_MayRecord.mono _ _ _ _ _)
   | (with_reducible exact name_Below.mono _ _ _)
   | (with_reducible exact LeO.refl _)
   | (with_reducible exact LeO.none _)
   | (with_reducible refine LeO.ite ?_ ?_)
   | (with_reducible refine LeO.bind ?_ (fun _=>?_))
   | exact ih0 _ _ _ _ _
   | exact message_MayRecord.mono _ _ _ _ _
   | exact name_Below.mono _ _ _
   | exact LeO.none _
   | refine LeO.ite ?_ ?_
   | refine LeO.bind ?_ (fun _=>?_)
theorem stream_right.mono:∀ a0 a1 k,LeO (stream_right.f k a0 a1) (stream_right.f (k + 1) a0 a1):=by
 intro a0 a1 k
 have ih0:=stream_right.mono_l k
 unfold stream_right.f
 repeat' first
   | (with_reducible exact ih0 _ _ _ _ _)
   | (with_reducible exact message_MayRecord.mono _ _ _ _ _)
   | (with_reducible exact name_Below.mono _ _ _)
   | (with_reducible exact LeO.refl _)
   | (with_reducible exact LeO.none _)
   | (with_reducible refine LeO.ite ?_ ?_)
   | (with_reducible refine LeO.bind ?_ (fun _=>?_))
   | exact ih0 _ _ _ _ _
   | exact message_MayRecord.mono _ _ _ _ _
   | exact name_Below.mono _ _ _
   | exact LeO.none _
   | refine LeO.ite ?_ ?_
   | refine LeO.bind ?_ (fun _=>?_)
set_option maxHeartbeats 8000000 in
set_option maxRecDepth 100000 in
theorem stream_right.calls (k:Nat) (a0:ByteArray) (A1:Option Addr) (c1:Nat) (l1:List (S32)) (r:Bool) (w:World) (hr1:Kd.C k32 w A1 l1.length l1) (hc1:l1.length≤c1) (h:stream_right.f k a0 l1 = some r) :
  Calls Tryd.prog 26 #[.string a0,.slice A1 l1.length c1] w fun e w'=>e = .returned (.bool r)∧Below w.heap.size w w':=by
 have hu32:=Tryd.underlying32
 have HR1:=Aside0.mk hr1
 have HC1:=Aside0.mk hc1
 clear hr1 hc1
 have HB:=Aside0.mk (Below.refl w.heap.size w)
 have H:(stream_right.l0 k a0 l1 l1 (l1.length:Int) 0) = some r:=h
 clear h
 have H':=Aside0.mk H
 clear H
 go_enter Tryd.func26,Tryd.ntmps26
 go_wp2
 go_loopg [9] k (fun kq v9 w'=>∃ (x9_1:Int),v9 = .int .i64 x9_1∧Aside0 (stream_right.l0 kq a0 l1 l1 (l1.length:Int) x9_1 = some r)∧Aside0 (kq≤k)∧Aside0 (Below w.heap.size w w'))
 case atStart=>exact ⟨(0),(by first|rfl|(simp;done)|(simp [*];done)),H',⟨Nat.le_refl _⟩,⟨by repeat (first|(with_reducible first|exact HB.out|apply below_alloc|apply pw_below_drewN|apply below_drew1)|exact HB.out)⟩⟩
 case round =>
  clear H'
  try clear c1
  try clear c2
  try clear p2
  obtain ⟨x9_1,rfl,HA,HK1,HB⟩:=hrel
  cases gk with
  | zero=>exact absurd HA.out (by simp [stream_right.l0])
  | succ k1 =>
   have H:=HA.out
   clear HA
   simp only [stream_right.l0] at H
   by_cases c3:x9_1 < (l1.length:Int)
   ·rw [if_pos c3] at H
    have c3b0:decide (x9_1 < (l1.length:Int)) = true:=decide_eq_true c3
    clear c3
    by_cases c4:0≤x9_1
    ·rw [if_pos c4] at H
     have c4b0:decide (0≤x9_1) = true:=decide_eq_true c4
     clear c4
     by_cases c5:x9_1 < (l1.length:Int)
     ·rw [if_pos c5] at H
      have c5b0:decide (x9_1 < (l1.length:Int)) = true:=decide_eq_true c5
      clear c5
      replace H:=Option.bind_eq_some_iff.mp H
      obtain ⟨t157,A60,H⟩:=H
      replace H:(if t157 = true then ((name_Below.f k1 ((rd_T32 l1 x9_1).f0) a0).bind fun t158=>(if t158 = true then (if ((rd_T32 l1 x9_1).f1) = 6 then (if ((rd_T32 l1 x9_1).f0).toList = a0.toList then (stream_right.l0 k1 a0 l1 l1 (l1.length:Int) (wrap64 (x9_1 + 1))) else (some false)) else (stream_right.l0 k1 a0 l1 l1 (l1.length:Int) (wrap64 (x9_1 + 1)))) else (some false))) else (some false)) = some r:=H
      have A6:=Aside0.mk A60
      clear A60
      by_cases c7:t157 = true
      ·subst c7
       have H1:((name_Below.f k1 ((rd_T32 l1 x9_1).f0) a0).bind fun t158=>(if t158 = true then (if ((rd_T32 l1 x9_1).f1) = 6 then (if ((rd_T32 l1 x9_1).f0).toList = a0.toList then (stream_right.l0 k1 a0 l1 l1 (l1.length:Int) (wrap64 (x9_1 + 1))) else (some false)) else (stream_right.l0 k1 a0 l1 l1 (l1.length:Int) (wrap64 (x9_1 + 1)))) else (some false))) = some r:=by rw [if_pos rfl] at H;exact H
       clear H
       have H:=H1
       clear H1
       replace H:=Option.bind_eq_some_iff.mp H
       obtain ⟨t158,A80,H⟩:=H
       replace H:(if t158 = true then (if ((rd_T32 l1 x9_1).f1) = 6 then (if ((rd_T32 l1 x9_1).f0).toList = a0.toList then (stream_right.l0 k1 a0 l1 l1 (l1.length:Int) (wrap64 (x9_1 + 1))) else (some false)) else (stream_right.l0 k1 a0 l1 l1 (l1.length:Int) (wrap64 (x9_1 + 1)))) else (some false)) = some r:=H
       have A8:=Aside0.mk A80
       clear A80
       by_cases c9:t158 = true
       ·subst c9
        have H1:(if ((rd_T32 l1 x9_1).f1) = 6 then (if ((rd_T32 l1 x9_1).f0).toList = a0.toList then (stream_right.l0 k1 a0 l1 l1 (l1.length:Int) (wrap64 (x9_1 + 1))) else (some false)) else (stream_right.l0 k1 a0 l1 l1 (l1.length:Int) (wrap64 (x9_1 + 1)))) = some r:=by rw [if_pos rfl] at H;exact H
        clear H
        have H:=H1
        clear H1
        by_cases c10:((rd_T32 l1 x9_1).f1) = 6
        ·rw [if_pos c10] at H
         have c10b0:(((rd_T32 l1 x9_1).f1) == 6) = true:=beq_iff_eq.mpr c10
         have c10b1:(((rd_T32 l1 x9_1).f1) != 6) = false:=bne_eq_false_iff_eq.mpr c10
         clear c10
         by_cases c11:((rd_T32 l1 x9_1).f0).toList = a0.toList
         ·rw [if_pos c11] at H
          have c11b0:(((rd_T32 l1 x9_1).f0).toList == a0.toList) = true:=beq_iff_eq.mpr c11
          have c11b1:(((rd_T32 l1 x9_1).f0).toList != a0.toList) = false:=bne_eq_false_iff_eq.mpr c11
          clear c11
          have H':=Aside0.mk H
          clear H
          have p155:0≤(x9_1:Int):=of_decide_eq_true (by first|(with_reducible assumption)|assumption)
          have q155:x9_1 < (l1.length:Int):=of_decide_eq_true (by first|(with_reducible assumption)|assumption)
          obtain ⟨ad155,e155,hx155_0,hx155_1,hx155_2,hx155_3⟩:=at_T32 HR1.out x9_1 p155 q155
          cases e155
          replace hx155_0:=(HB.out.cell (World.block_lt_of_cell? w _ hx155_0)).trans hx155_0
          replace hx155_1:=(HB.out.cell (World.block_lt_of_cell? w _ hx155_1)).trans hx155_1
          replace hx155_2:=(HB.out.cell (World.block_lt_of_cell? w _ hx155_2)).trans hx155_2
          replace hx155_3:=(HB.out.cell (World.block_lt_of_cell? w _ hx155_3)).trans hx155_3
          replace p155:=eq_true p155
          replace q155:=eq_true q155
          go_wp2_with (first|((with_reducible refine gate_dst (N:=6) rfl ?_);refine box_event ?hg (N:=6) ?hd (cs:=#[.string (⟨#[]⟩:ByteArray),.int .u16 0,.int .u32 0,.string (⟨#[]⟩:ByteArray)]) (t:=32) ?hr ?_;(case hd=>rfl);(case hg=>rfl);(case hr=>first|(go_simp;done)|(go_simp;rfl));intro gb156 hg w12 hbox hb;have n0_:=Aside0.mk (below_step (by repeat (first|(with_reducible first|exact HB.out|apply below_alloc|apply pw_below_drewN|apply below_drew1)|exact HB.out)) hb);have n1_:=Aside0.mk (hbox);have n2_:=Aside0.mk ((by rw [hg];exact (below_size (by repeat (first|(with_reducible first|exact HB.out|apply below_alloc|apply pw_below_drewN|apply below_drew1)|exact HB.out))):w.heap.size≤gb156));have n3_:=Aside0.mk ((by rw [hg];exact (below_size (by repeat (first|(with_reducible first|exact HB.out|apply below_alloc|apply pw_below_drewN|apply below_drew1)|exact HB.out))):w.heap.size≤gb156));clear HB;have HB:=n0_;have BK156:=n1_;have GW156:=n2_;have GE156:=n3_;clear n0_ n1_ n2_ n3_;clear hb hbox hg;have hcz13_0:w12.cell? ⟨gb156,0,none⟩ = some (.string (⟨#[]⟩:ByteArray)):=(blk_cell BK156.out 0).trans rfl;have hcz13_1:w12.cell? ⟨gb156,1,none⟩ = some (.int .u16 0):=(blk_cell BK156.out 1).trans rfl;have hcz13_2:w12.cell? ⟨gb156,2,none⟩ = some (.int .u32 0):=(blk_cell BK156.out 2).trans rfl;have hcz13_3:w12.cell? ⟨gb156,3,none⟩ = some (.string (⟨#[]⟩:ByteArray)):=(blk_cell BK156.out 3).trans rfl;have hfz13_0:=blk_frozen BK156.out 0;have hfz13_1:=blk_frozen BK156.out 1;have hfz13_2:=blk_frozen BK156.out 2;have hfz13_3:=blk_frozen BK156.out 3)|((with_reducible refine gate_callee (f:=31) rfl ?_);refine goesL_ (some 14) rfl rfl Tryd.func31 (by kernel_rfl) rfl #[.agg #[.string ((rd_T32 l1 x9_1).f0),.int .u16 ((rd_T32 l1 x9_1).f1),.int .u32 ((rd_T32 l1 x9_1).f2),.string ((rd_T32 l1 x9_1).f3)]] rfl (by (try simp only [List.map_toArray,List.map_cons,List.map_nil]) <;> first|rfl|(simp only [List.length_drop,List.length_take];rfl)) ?_;(with_reducible refine (message_MayRecord.calls k1 ((rd_T32 l1 x9_1).f0) ((rd_T32 l1 x9_1).f1) ((rd_T32 l1 x9_1).f2) ((rd_T32 l1 x9_1).f3) true _ A6.out).mono ?_);rintro e w14 ⟨rfl,hb⟩;refine ⟨_,rfl,?_⟩;have n0_:=Aside0.mk (blk_below (g:=gb156) (o:=.cells #[.string ((rd_T32 l1 x9_1).f0),.int .u16 ((rd_T32 l1 x9_1).f1),.int .u32 ((rd_T32 l1 x9_1).f2),.string ((rd_T32 l1 x9_1).f3)] 32 (0,0)) (by (with_reducible repeat (first|apply blk_drewN|apply blk_drew|apply blk_alloc));refine blk_put (cs:=#[.string ((rd_T32 l1 x9_1).f0),.int .u16 ((rd_T32 l1 x9_1).f1),.int .u32 ((rd_T32 l1 x9_1).f2),.string (⟨#[]⟩:ByteArray)]) ?_ 3 _ rfl;(with_reducible repeat (first|apply blk_drewN|apply blk_drew|apply blk_alloc));refine blk_put (cs:=#[.string ((rd_T32 l1 x9_1).f0),.int .u16 ((rd_T32 l1 x9_1).f1),.int .u32 0,.string (⟨#[]⟩:ByteArray)]) ?_ 2 _ rfl;(with_reducible repeat (first|apply blk_drewN|apply blk_drew|apply blk_alloc));refine blk_put (cs:=#[.string ((rd_T32 l1 x9_1).f0),.int .u16 0,.int .u32 0,.string (⟨#[]⟩:ByteArray)]) ?_ 1 _ rfl;(with_reducible repeat (first|apply blk_drewN|apply blk_drew|apply blk_alloc));refine blk_put (cs:=#[.string (⟨#[]⟩:ByteArray),.int .u16 0,.int .u32 0,.string (⟨#[]⟩:ByteArray)]) ?_ 0 _ rfl;(with_reducible repeat (first|apply blk_drewN|apply blk_drew|apply blk_alloc));exact BK156.out) hb);have n1_:=Aside0.mk (below_step (by repeat (first|(with_reducible first|exact HB.out|apply below_alloc|apply pw_below_drewN|apply below_drew1|refine below_set ?_ GE156.out)|exact HB.out)) hb);clear BK156;clear HB;have BK156:=n0_;have HB:=n1_;clear n0_ n1_;(try clear hb);(try clear hb2);(try clear hk);(try clear hi);have hcz15_0:w14.cell? ⟨gb156,0,none⟩ = some (.string ((rd_T32 l1 x9_1).f0)):=(blk_cell BK156.out 0).trans rfl;have hcz15_1:w14.cell? ⟨gb156,1,none⟩ = some (.int .u16 ((rd_T32 l1 x9_1).f1)):=(blk_cell BK156.out 1).trans rfl;have hcz15_2:w14.cell? ⟨gb156,2,none⟩ = some (.int .u32 ((rd_T32 l1 x9_1).f2)):=(blk_cell BK156.out 2).trans rfl;have hcz15_3:w14.cell? ⟨gb156,3,none⟩ = some (.string ((rd_T32 l1 x9_1).f3)):=(blk_cell BK156.out 3).trans rfl;have hfz15_0:=blk_frozen BK156.out 0;have hfz15_1:=blk_frozen BK156.out 1;have hfz15_2:=blk_frozen BK156.out 2;have hfz15_3:=blk_frozen BK156.out 3)|(go_at_call 32;(with_reducible refine (name_Below.calls k1 ((rd_T32 l1 x9_1).f0) a0 true _ A8.out).mono ?_);rintro e w16 ⟨rfl,hb⟩;have n0_:=Aside0.mk (blk_below (g:=gb156) (o:=.cells #[.string ((rd_T32 l1 x9_1).f0),.int .u16 ((rd_T32 l1 x9_1).f1),.int .u32 ((rd_T32 l1 x9_1).f2),.string ((rd_T32 l1 x9_1).f3)] 32 (0,0)) (by (with_reducible repeat (first|apply blk_drewN|apply blk_drew|apply blk_alloc));exact BK156.out) hb);have n1_:=Aside0.mk (below_step (by repeat (first|(with_reducible first|exact HB.out|apply below_alloc|apply pw_below_drewN|apply below_drew1|refine below_set ?_ GE156.out)|exact HB.out)) hb);clear BK156;clear HB;have BK156:=n0_;have HB:=n1_;clear n0_ n1_;(try clear hb);(try clear hb2);(try clear hk);(try clear hi);have hcz17_0:w16.cell? ⟨gb156,0,none⟩ = some (.string ((rd_T32 l1 x9_1).f0)):=(blk_cell BK156.out 0).trans rfl;have hcz17_1:w16.cell? ⟨gb156,1,none⟩ = some (.int .u16 ((rd_T32 l1 x9_1).f1)):=(blk_cell BK156.out 1).trans rfl;have hcz17_2:w16.cell? ⟨gb156,2,none⟩ = some (.int .u32 ((rd_T32 l1 x9_1).f2)):=(blk_cell BK156.out 2).trans rfl;have hcz17_3:w16.cell? ⟨gb156,3,none⟩ = some (.string ((rd_T32 l1 x9_1).f3)):=(blk_cell BK156.out 3).trans rfl;have hfz17_0:=blk_frozen BK156.out 0;have hfz17_1:=blk_frozen BK156.out 1;have hfz17_2:=blk_frozen BK156.out 2;have hfz17_3:=blk_frozen BK156.out 3))
          go_roundg k1
          case measure=>have:=HK1.out;omega
          case rel=>exact ⟨(wrap64 (x9_1 + 1)),(by first|rfl|(simp;done)|(simp [*];done)),H',⟨by have:=HK1.out;omega⟩,⟨by repeat (first|(with_reducible first|exact HB.out|apply below_alloc|apply pw_below_drewN|apply below_drew1|refine below_set ?_ GE156.out)|exact HB.out)⟩⟩
         ·rw [if_neg c11] at H
          have c11b0:(((rd_T32 l1 x9_1).f0).toList == a0.toList) = false:=beq_eq_false_iff_ne.mpr c11
          have c11b1:(((rd_T32 l1 x9_1).f0).toList != a0.toList) = true:=bne_iff_ne.mpr c11
          obtain rfl:=Option.some.inj H
          have p155:0≤(x9_1:Int):=of_decide_eq_true (by first|(with_reducible assumption)|assumption)
          have q155:x9_1 < (l1.length:Int):=of_decide_eq_true (by first|(with_reducible assumption)|assumption)
          obtain ⟨ad155,e155,hx155_0,hx155_1,hx155_2,hx155_3⟩:=at_T32 HR1.out x9_1 p155 q155
          cases e155
          replace hx155_0:=(HB.out.cell (World.block_lt_of_cell? w _ hx155_0)).trans hx155_0
          replace hx155_1:=(HB.out.cell (World.block_lt_of_cell? w _ hx155_1)).trans hx155_1
          replace hx155_2:=(HB.out.cell (World.block_lt_of_cell? w _ hx155_2)).trans hx155_2
          replace hx155_3:=(HB.out.cell (World.block_lt_of_cell? w _ hx155_3)).trans hx155_3
          replace p155:=eq_true p155
          replace q155:=eq_true q155
          go_wp2_with (first|((with_reducible refine gate_dst (N:=6) rfl ?_);refine box_event ?hg (N:=6) ?hd (cs:=#[.string (⟨#[]⟩:ByteArray),.int .u16 0,.int .u32 0,.string (⟨#[]⟩:ByteArray)]) (t:=32) ?hr ?_;(case hd=>rfl);(case hg=>rfl);(case hr=>first|(go_simp;done)|(go_simp;rfl));intro gb156 hg w18 hbox hb;have n0_:=Aside0.mk (below_step (by repeat (first|(with_reducible first|exact HB.out|apply below_alloc|apply pw_below_drewN|apply below_drew1)|exact HB.out)) hb);have n1_:=Aside0.mk (hbox);have n2_:=Aside0.mk ((by rw [hg];exact (below_size (by repeat (first|(with_reducible first|exact HB.out|apply below_alloc|apply pw_below_drewN|apply below_drew1)|exact HB.out))):w.heap.size≤gb156));have n3_:=Aside0.mk ((by rw [hg];exact (below_size (by repeat (first|(with_reducible first|exact HB.out|apply below_alloc|apply pw_below_drewN|apply below_drew1)|exact HB.out))):w.heap.size≤gb156));clear HB;have HB:=n0_;have BK156:=n1_;have GW156:=n2_;have GE156:=n3_;clear n0_ n1_ n2_ n3_;clear hb hbox hg;have hcz19_0:w18.cell? ⟨gb156,0,none⟩ = some (.string (⟨#[]⟩:ByteArray)):=(blk_cell BK156.out 0).trans rfl;have hcz19_1:w18.cell? ⟨gb156,1,none⟩ = some (.int .u16 0):=(blk_cell BK156.out 1).trans rfl;have hcz19_2:w18.cell? ⟨gb156,2,none⟩ = some (.int .u32 0):=(blk_cell BK156.out 2).trans rfl;have hcz19_3:w18.cell? ⟨gb156,3,none⟩ = some (.string (⟨#[]⟩:ByteArray)):=(blk_cell BK156.out 3).trans rfl;have hfz19_0:=blk_frozen BK156.out 0;have hfz19_1:=blk_frozen BK156.out 1;have hfz19_2:=blk_frozen BK156.out 2;have hfz19_3:=blk_frozen BK156.out 3)|((with_reducible refine gate_callee (f:=31) rfl ?_);refine goesL_ (some 14) rfl rfl Tryd.func31 (by kernel_rfl) rfl #[.agg #[.string ((rd_T32 l1 x9_1).f0),.int .u16 ((rd_T32 l1 x9_1).f1),.int .u32 ((rd_T32 l1 x9_1).f2),.string ((rd_T32 l1 x9_1).f3)]] rfl (by (try simp only [List.map_toArray,List.map_cons,List.map_nil]) <;> first|rfl|(simp only [List.length_drop,List.length_take];rfl)) ?_;(with_reducible refine (message_MayRecord.calls k1 ((rd_T32 l1 x9_1).f0) ((rd_T32 l1 x9_1).f1) ((rd_T32 l1 x9_1).f2) ((rd_T32 l1 x9_1).f3) true _ A6.out).mono ?_);rintro e w20 ⟨rfl,hb⟩;refine ⟨_,rfl,?_⟩;have n0_:=Aside0.mk (blk_below (g:=gb156) (o:=.cells #[.string ((rd_T32 l1 x9_1).f0),.int .u16 ((rd_T32 l1 x9_1).f1),.int .u32 ((rd_T32 l1 x9_1).f2),.string ((rd_T32 l1 x9_1).f3)] 32 (0,0)) (by (with_reducible repeat (first|apply blk_drewN|apply blk_drew|apply blk_alloc));refine blk_put (cs:=#[.string ((rd_T32 l1 x9_1).f0),.int .u16 ((rd_T32 l1 x9_1).f1),.int .u32 ((rd_T32 l1 x9_1).f2),.string (⟨#[]⟩:ByteArray)]) ?_ 3 _ rfl;(with_reducible repeat (first|apply blk_drewN|apply blk_drew|apply blk_alloc));refine blk_put (cs:=#[.string ((rd_T32 l1 x9_1).f0),.int .u16 ((rd_T32 l1 x9_1).f1),.int .u32 0,.string (⟨#[]⟩:ByteArray)]) ?_ 2 _ rfl;(with_reducible repeat (first|apply blk_drewN|apply blk_drew|apply blk_alloc));refine blk_put (cs:=#[.string ((rd_T32 l1 x9_1).f0),.int .u16 0,.int .u32 0,.string (⟨#[]⟩:ByteArray)]) ?_ 1 _ rfl;(with_reducible repeat (first|apply blk_drewN|apply blk_drew|apply blk_alloc));refine blk_put (cs:=#[.string (⟨#[]⟩:ByteArray),.int .u16 0,.int .u32 0,.string (⟨#[]⟩:ByteArray)]) ?_ 0 _ rfl;(with_reducible repeat (first|apply blk_drewN|apply blk_drew|apply blk_alloc));exact BK156.out) hb);have n1_:=Aside0.mk (below_step (by repeat (first|(with_reducible first|exact HB.out|apply below_alloc|apply pw_below_drewN|apply below_drew1|refine below_set ?_ GE156.out)|exact HB.out)) hb);clear BK156;clear HB;have BK156:=n0_;have HB:=n1_;clear n0_ n1_;(try clear hb);(try clear hb2);(try clear hk);(try clear hi);have hcz21_0:w20.cell? ⟨gb156,0,none⟩ = some (.string ((rd_T32 l1 x9_1).f0)):=(blk_cell BK156.out 0).trans rfl;have hcz21_1:w20.cell? ⟨gb156,1,none⟩ = some (.int .u16 ((rd_T32 l1 x9_1).f1)):=(blk_cell BK156.out 1).trans rfl;have hcz21_2:w20.cell? ⟨gb156,2,none⟩ = some (.int .u32 ((rd_T32 l1 x9_1).f2)):=(blk_cell BK156.out 2).trans rfl;have hcz21_3:w20.cell? ⟨gb156,3,none⟩ = some (.string ((rd_T32 l1 x9_1).f3)):=(blk_cell BK156.out 3).trans rfl;have hfz21_0:=blk_frozen BK156.out 0;have hfz21_1:=blk_frozen BK156.out 1;have hfz21_2:=blk_frozen BK156.out 2;have hfz21_3:=blk_frozen BK156.out 3)|(go_at_call 32;(with_reducible refine (name_Below.calls k1 ((rd_T32 l1 x9_1).f0) a0 true _ A8.out).mono ?_);rintro e w22 ⟨rfl,hb⟩;have n0_:=Aside0.mk (blk_below (g:=gb156) (o:=.cells #[.string ((rd_T32 l1 x9_1).f0),.int .u16 ((rd_T32 l1 x9_1).f1),.int .u32 ((rd_T32 l1 x9_1).f2),.string ((rd_T32 l1 x9_1).f3)] 32 (0,0)) (by (with_reducible repeat (first|apply blk_drewN|apply blk_drew|apply blk_alloc));exact BK156.out) hb);have n1_:=Aside0.mk (below_step (by repeat (first|(with_reducible first|exact HB.out|apply below_alloc|apply pw_below_drewN|apply below_drew1|refine below_set ?_ GE156.out)|exact HB.out)) hb);clear BK156;clear HB;have BK156:=n0_;have HB:=n1_;clear n0_ n1_;(try clear hb);(try clear hb2);(try clear hk);(try clear hi);have hcz23_0:w22.cell? ⟨gb156,0,none⟩ = some (.string ((rd_T32 l1 x9_1).f0)):=(blk_cell BK156.out 0).trans rfl;have hcz23_1:w22.cell? ⟨gb156,1,none⟩ = some (.int .u16 ((rd_T32 l1 x9_1).f1)):=(blk_cell BK156.out 1).trans rfl;have hcz23_2:w22.cell? ⟨gb156,2,none⟩ = some (.int .u32 ((rd_T32 l1 x9_1).f2)):=(blk_cell BK156.out 2).trans rfl;have hcz23_3:w22.cell? ⟨gb156,3,none⟩ = some (.string ((rd_T32 l1 x9_1).f3)):=(blk_cell BK156.out 3).trans rfl;have hfz23_0:=blk_frozen BK156.out 0;have hfz23_1:=blk_frozen BK156.out 1;have hfz23_2:=blk_frozen BK156.out 2;have hfz23_3:=blk_frozen BK156.out 3))
          go_ret
          exact ⟨by first|rfl|(simp [errW_none,errW_some] <;> rfl)|(simp [*,errW_none,errW_some] <;> rfl),by repeat (first|(with_reducible first|exact HB.out|apply below_alloc|apply pw_below_drewN|apply below_drew1|refine below_set ?_ GE156.out)|exact HB.out)⟩
        ·rw [if_neg c10] at H
         have c10b0:(((rd_T32 l1 x9_1).f1) == 6) = false:=beq_eq_false_iff_ne.mpr c10
         have c10b1:(((rd_T32 l1 x9_1).f1) != 6) = true:=bne_iff_ne.mpr c10
         have H':=Aside0.mk H
         clear H
         have p155:0≤(x9_1:Int):=of_decide_eq_true (by first|(with_reducible assumption)|assumption)
         have q155:x9_1 < (l1.length:Int):=of_decide_eq_true (by first|(with_reducible assumption)|assumption)
         obtain ⟨ad155,e155,hx155_0,hx155_1,hx155_2,hx155_3⟩:=at_T32 HR1.out x9_1 p155 q155
         cases e155
         replace hx155_0:=(HB.out.cell (World.block_lt_of_cell? w _ hx155_0)).trans hx155_0
         replace hx155_1:=(HB.out.cell (World.block_lt_of_cell? w _ hx155_1)).trans hx155_1
         replace hx155_2:=(HB.out.cell (World.block_lt_of_cell? w _ hx155_2)).trans hx155_2
         replace hx155_3:=(HB.out.cell (World.block_lt_of_cell? w _ hx155_3)).trans hx155_3
         replace p155:=eq_true p155
         replace q155:=eq_true q155
         go_wp2_with (first|((with_reducible refine gate_dst (N:=6) rfl ?_);refine box_event ?hg (N:=6) ?hd (cs:=#[.string (⟨#[]⟩:ByteArray),.int .u16 0,.int .u32 0,.string (⟨#[]⟩:ByteArray)]) (t:=32) ?hr ?_;(case hd=>rfl);(case hg=>rfl);(case hr=>first|(go_simp;done)|(go_simp;rfl));intro gb156 hg w24 hbox hb;have n0_:=Aside0.mk (below_step (by repeat (first|(with_reducible first|exact HB.out|apply below_alloc|apply pw_below_drewN|apply below_drew1)|exact HB.out)) hb);have n1_:=Aside0.mk (hbox);have n2_:=Aside0.mk ((by rw [hg];exact (below_size (by repeat (first|(with_reducible first|exact HB.out|apply below_alloc|apply pw_below_drewN|apply below_drew1)|exact HB.out))):w.heap.size≤gb156));have n3_:=Aside0.mk ((by rw [hg];exact (below_size (by repeat (first|(with_reducible first|exact HB.out|apply below_alloc|apply pw_below_drewN|apply below_drew1)|exact HB.out))):w.heap.size≤gb156));clear HB;have HB:=n0_;have BK156:=n1_;have GW156:=n2_;have GE156:=n3_;clear n0_ n1_ n2_ n3_;clear hb hbox hg;have hcz25_0:w24.cell? ⟨gb156,0,none⟩ = some (.string (⟨#[]⟩:ByteArray)):=(blk_cell BK156.out 0).trans rfl;have hcz25_1:w24.cell? ⟨gb156,1,none⟩ = some (.int .u16 0):=(blk_cell BK156.out 1).trans rfl;have hcz25_2:w24.cell? ⟨gb156,2,none⟩ = some (.int .u32 0):=(blk_cell BK156.out 2).trans rfl;have hcz25_3:w24.cell? ⟨gb156,3,none⟩ = some (.string (⟨#[]⟩:ByteArray)):=(blk_cell BK156.out 3).trans rfl;have hfz25_0:=blk_frozen BK156.out 0;have hfz25_1:=blk_frozen BK156.out 1;have hfz25_2:=blk_frozen BK156.out 2;have hfz25_3:=blk_frozen BK156.out 3)|((with_reducible refine gate_callee (f:=31) rfl ?_);refine goesL_ (some 14) rfl rfl Tryd.func31 (by kernel_rfl) rfl #[.agg #[.string ((rd_T32 l1 x9_1).f0),.int .u16 ((rd_T32 l1 x9_1).f1),.int .u32 ((rd_T32 l1 x9_1).f2),.string ((rd_T32 l1 x9_1).f3)]] rfl (by (try simp only [List.map_toArray,List.map_cons,List.map_nil]) <;> first|rfl|(simp only [List.length_drop,List.length_take];rfl)) ?_;(with_reducible refine (message_MayRecord.calls k1 ((rd_T32 l1 x9_1).f0) ((rd_T32 l1 x9_1).f1) ((rd_T32 l1 x9_1).f2) ((rd_T32 l1 x9_1).f3) true _ A6.out).mono ?_);rintro e w26 ⟨rfl,hb⟩;refine ⟨_,rfl,?_⟩;have n0_:=Aside0.mk (blk_below (g:=gb156) (o:=.cells #[.string ((rd_T32 l1 x9_1).f0),.int .u16 ((rd_T32 l1 x9_1).f1),.int .u32 ((rd_T32 l1 x9_1).f2),.string ((rd_T32 l1 x9_1).f3)] 32 (0,0)) (by (with_reducible repeat (first|apply blk_drewN|apply blk_drew|apply blk_alloc));refine blk_put (cs:=#[.string ((rd_T32 l1 x9_1).f0),.int .u16 ((rd_T32 l1 x9_1).f1),.int .u32 ((rd_T32 l1 x9_1).f2),.string (⟨#[]⟩:ByteArray)]) ?_ 3 _ rfl;(with_reducible repeat (first|apply blk_drewN|apply blk_drew|apply blk_alloc));refine blk_put (cs:=#[.string ((rd_T32 l1 x9_1).f0),.int .u16 ((rd_T32 l1 x9_1).f1),.int .u32 0,.string (⟨#[]⟩:ByteArray)]) ?_ 2 _ rfl;(with_reducible repeat (first|apply blk_drewN|apply blk_drew|apply blk_alloc));refine blk_put (cs:=#[.string ((rd_T32 l1 x9_1).f0),.int .u16 0,.int .u32 0,.string (⟨#[]⟩:ByteArray)]) ?_ 1 _ rfl;(with_reducible repeat (first|apply blk_drewN|apply blk_drew|apply blk_alloc));refine blk_put (cs:=#[.string (⟨#[]⟩:ByteArray),.int .u16 0,.int .u32 0,.string (⟨#[]⟩:ByteArray)]) ?_ 0 _ rfl;(with_reducible repeat (first|apply blk_drewN|apply blk_drew|apply blk_alloc));exact BK156.out) hb);have n1_:=Aside0.mk (below_step (by repeat (first|(with_reducible first|exact HB.out|apply below_alloc|apply pw_below_drewN|apply below_drew1|refine below_set ?_ GE156.out)|exact HB.out)) hb);clear BK156;clear HB;have BK156:=n0_;have HB:=n1_;clear n0_ n1_;(try clear hb);(try clear hb2);(try clear hk);(try clear hi);have hcz27_0:w26.cell? ⟨gb156,0,none⟩ = some (.string ((rd_T32 l1 x9_1).f0)):=(blk_cell BK156.out 0).trans rfl;have hcz27_1:w26.cell? ⟨gb156,1,none⟩ = some (.int .u16 ((rd_T32 l1 x9_1).f1)):=(blk_cell BK156.out 1).trans rfl;have hcz27_2:w26.cell? ⟨gb156,2,none⟩ = some (.int .u32 ((rd_T32 l1 x9_1).f2)):=(blk_cell BK156.out 2).trans rfl;have hcz27_3:w26.cell? ⟨gb156,3,none⟩ = some (.string ((rd_T32 l1 x9_1).f3)):=(blk_cell BK156.out 3).trans rfl;have hfz27_0:=blk_frozen BK156.out 0;have hfz27_1:=blk_frozen BK156.out 1;have hfz27_2:=blk_frozen BK156.out 2;have hfz27_3:=blk_frozen BK156.out 3)|(go_at_call 32;(with_reducible refine (name_Below.calls k1 ((rd_T32 l1 x9_1).f0) a0 true _ A8.out).mono ?_);rintro e w28 ⟨rfl,hb⟩;have n0_:=Aside0.mk (blk_below (g:=gb156) (o:=.cells #[.string ((rd_T32 l1 x9_1).f0),.int .u16 ((rd_T32 l1 x9_1).f1),.int .u32 ((rd_T32 l1 x9_1).f2),.string ((rd_T32 l1 x9_1).f3)] 32 (0,0)) (by (with_reducible repeat (first|apply blk_drewN|apply blk_drew|apply blk_alloc));exact BK156.out) hb);have n1_:=Aside0.mk (below_step (by repeat (first|(with_reducible first|exact HB.out|apply below_alloc|apply pw_below_drewN|apply below_drew1|refine below_set ?_ GE156.out)|exact HB.out)) hb);clear BK156;clear HB;have BK156:=n0_;have HB:=n1_;clear n0_ n1_;(try clear hb);(try clear hb2);(try clear hk);(try clear hi);have hcz29_0:w28.cell? ⟨gb156,0,none⟩ = some (.string ((rd_T32 l1 x9_1).f0)):=(blk_cell BK156.out 0).trans rfl;have hcz29_1:w28.cell? ⟨gb156,1,none⟩ = some (.int .u16 ((rd_T32 l1 x9_1).f1)):=(blk_cell BK156.out 1).trans rfl;have hcz29_2:w28.cell? ⟨gb156,2,none⟩ = some (.int .u32 ((rd_T32 l1 x9_1).f2)):=(blk_cell BK156.out 2).trans rfl;have hcz29_3:w28.cell? ⟨gb156,3,none⟩ = some (.string ((rd_T32 l1 x9_1).f3)):=(blk_cell BK156.out 3).trans rfl;have hfz29_0:=blk_frozen BK156.out 0;have hfz29_1:=blk_frozen BK156.out 1;have hfz29_2:=blk_frozen BK156.out 2;have hfz29_3:=blk_frozen BK156.out 3))
         go_roundg k1
         case measure=>have:=HK1.out;omega
         case rel=>exact ⟨(wrap64 (x9_1 + 1)),(by first|rfl|(simp;done)|(simp [*];done)),H',⟨by have:=HK1.out;omega⟩,⟨by repeat (first|(with_reducible first|exact HB.out|apply below_alloc|apply pw_below_drewN|apply below_drew1|refine below_set ?_ GE156.out)|exact HB.out)⟩⟩
       ·replace c9:=Bool.eq_false_iff.mpr c9
        subst c9
        have H1:(some false) = some r:=by rw [if_neg (show ¬ (false = true) by decide)] at H;exact H
        clear H
        have H:=H1
        clear H1
        obtain rfl:=Option.some.inj H
        have p155:0≤(x9_1:Int):=of_decide_eq_true (by first|(with_reducible assumption)|assumption)
        have q155:x9_1 < (l1.length:Int):=of_decide_eq_true (by first|(with_reducible assumption)|assumption)
        obtain ⟨ad155,e155,hx155_0,hx155_1,hx155_2,hx155_3⟩:=at_T32 HR1.out x9_1 p155 q155
        cases e155
        replace hx155_0:=(HB.out.cell (World.block_lt_of_cell? w _ hx155_0)).trans hx155_0
        replace hx155_1:=(HB.out.cell (World.block_lt_of_cell? w _ hx155_1)).trans hx155_1
        replace hx155_2:=(HB.out.cell (World.block_lt_of_cell? w _ hx155_2)).trans hx155_2
        replace hx155_3:=(HB.out.cell (World.block_lt_of_cell? w _ hx155_3)).trans hx155_3
        replace p155:=eq_true p155
        replace q155:=eq_true q155
        go_wp2_with (first|((with_reducible refine gate_dst (N:=6) rfl ?_);refine box_event ?hg (N:=6) ?hd (cs:=#[.string (⟨#[]⟩:ByteArray),.int .u16 0,.int .u32 0,.string (⟨#[]⟩:ByteArray)]) (t:=32) ?hr ?_;(case hd=>rfl);(case hg=>rfl);(case hr=>first|(go_simp;done)|(go_simp;rfl));intro gb156 hg w30 hbox hb;have n0_:=Aside0.mk (below_step (by repeat (first|(with_reducible first|exact HB.out|apply below_alloc|apply pw_below_drewN|apply below_drew1)|exact HB.out)) hb);have n1_:=Aside0.mk (hbox);have n2_:=Aside0.mk ((by rw [hg];exact (below_size (by repeat (first|(with_reducible first|exact HB.out|apply below_alloc|apply pw_below_drewN|apply below_drew1)|exact HB.out))):w.heap.size≤gb156));have n3_:=Aside0.mk ((by rw [hg];exact (below_size (by repeat (first|(with_reducible first|exact HB.out|apply below_alloc|apply pw_below_drewN|apply below_drew1)|exact HB.out))):w.heap.size≤gb156));clear HB;have HB:=n0_;have BK156:=n1_;have GW156:=n2_;have GE156:=n3_;clear n0_ n1_ n2_ n3_;clear hb hbox hg;have hcz31_0:w30.cell? ⟨gb156,0,none⟩ = some (.string (⟨#[]⟩:ByteArray)):=(blk_cell BK156.out 0).trans rfl;have hcz31_1:w30.cell? ⟨gb156,1,none⟩ = some (.int .u16 0):=(blk_cell BK156.out 1).trans rfl;have hcz31_2:w30.cell? ⟨gb156,2,none⟩ = some (.int .u32 0):=(blk_cell BK156.out 2).trans rfl;have hcz31_3:w30.cell? ⟨gb156,3,none⟩ = some (.string (⟨#[]⟩:ByteArray)):=(blk_cell BK156.out 3).trans rfl;have hfz31_0:=blk_frozen BK156.out 0;have hfz31_1:=blk_frozen BK156.out 1;have hfz31_2:=blk_frozen BK156.out 2;have hfz31_3:=blk_frozen BK156.out 3)|((with_reducible refine gate_callee (f:=31) rfl ?_);refine goesL_ (some 14) rfl rfl Tryd.func31 (by kernel_rfl) rfl #[.agg #[.string ((rd_T32 l1 x9_1).f0),.int .u16 ((rd_T32 l1 x9_1).f1),.int .u32 ((rd_T32 l1 x9_1).f2),.string ((rd_T32 l1 x9_1).f3)]] rfl (by (try simp only [List.map_toArray,List.map_cons,List.map_nil]) <;> first|rfl|(simp only [List.length_drop,List.length_take];rfl)) ?_;(with_reducible refine (message_MayRecord.calls k1 ((rd_T32 l1 x9_1).f0) ((rd_T32 l1 x9_1).f1) ((rd_T32 l1 x9_1).f2) ((rd_T32 l1 x9_1).f3) true _ A6.out).mono ?_);rintro e w32 ⟨rfl,hb⟩;refine ⟨_,rfl,?_⟩;have n0_:=Aside0.mk (blk_below (g:=gb156) (o:=.cells #[.string ((rd_T32 l1 x9_1).f0),.int .u16 ((rd_T32 l1 x9_1).f1),.int .u32 ((rd_T32 l1 x9_1).f2),.string ((rd_T32 l1 x9_1).f3)] 32 (0,0)) (by (with_reducible repeat (first|apply blk_drewN|apply blk_drew|apply blk_alloc));refine blk_put (cs:=#[.string ((rd_T32 l1 x9_1).f0),.int .u16 ((rd_T32 l1 x9_1).f1),.int .u32 ((rd_T32 l1 x9_1).f2),.string (⟨#[]⟩:ByteArray)]) ?_ 3 _ rfl;(with_reducible repeat (first|apply blk_drewN|apply blk_drew|apply blk_alloc));refine blk_put (cs:=#[.string ((rd_T32 l1 x9_1).f0),.int .u16 ((rd_T32 l1 x9_1).f1),.int .u32 0,.string (⟨#[]⟩:ByteArray)]) ?_ 2 _ rfl;(with_reducible repeat (first|apply blk_drewN|apply blk_drew|apply blk_alloc));refine blk_put (cs:=#[.string ((rd_T32 l1 x9_1).f0),.int .u16 0,.int .u32 0,.string (⟨#[]⟩:ByteArray)]) ?_ 1 _ rfl;(with_reducible repeat (first|apply blk_drewN|apply blk_drew|apply blk_alloc));refine blk_put (cs:=#[.string (⟨#[]⟩:ByteArray),.int .u16 0,.int .u32 0,.string (⟨#[]⟩:ByteArray)]) ?_ 0 _ rfl;(with_reducible repeat (first|apply blk_drewN|apply blk_drew|apply blk_alloc));exact BK156.out) hb);have n1_:=Aside0.mk (below_step (by repeat (first|(with_reducible first|exact HB.out|apply below_alloc|apply pw_below_drewN|apply below_drew1|refine below_set ?_ GE156.out)|exact HB.out)) hb);clear BK156;clear HB;have BK156:=n0_;have HB:=n1_;clear n0_ n1_;(try clear hb);(try clear hb2);(try clear hk);(try clear hi);have hcz33_0:w32.cell? ⟨gb156,0,none⟩ = some (.string ((rd_T32 l1 x9_1).f0)):=(blk_cell BK156.out 0).trans rfl;have hcz33_1:w32.cell? ⟨gb156,1,none⟩ = some (.int .u16 ((rd_T32 l1 x9_1).f1)):=(blk_cell BK156.out 1).trans rfl;have hcz33_2:w32.cell? ⟨gb156,2,none⟩ = some (.int .u32 ((rd_T32 l1 x9_1).f2)):=(blk_cell BK156.out 2).trans rfl;have hcz33_3:w32.cell? ⟨gb156,3,none⟩ = some (.string ((rd_T32 l1 x9_1).f3)):=(blk_cell BK156.out 3).trans rfl;have hfz33_0:=blk_frozen BK156.out 0;have hfz33_1:=blk_frozen BK156.out 1;have hfz33_2:=blk_frozen BK156.out 2;have hfz33_3:=blk_frozen BK156.out 3)|(go_at_call 32;(with_reducible refine (name_Below.calls k1 ((rd_T32 l1 x9_1).f0) a0 false _ A8.out).mono ?_);rintro e w34 ⟨rfl,hb⟩;have n0_:=Aside0.mk (blk_below (g:=gb156) (o:=.cells #[.string ((rd_T32 l1 x9_1).f0),.int .u16 ((rd_T32 l1 x9_1).f1),.int .u32 ((rd_T32 l1 x9_1).f2),.string ((rd_T32 l1 x9_1).f3)] 32 (0,0)) (by (with_reducible repeat (first|apply blk_drewN|apply blk_drew|apply blk_alloc));exact BK156.out) hb);have n1_:=Aside0.mk (below_step (by repeat (first|(with_reducible first|exact HB.out|apply below_alloc|apply pw_below_drewN|apply below_drew1|refine below_set ?_ GE156.out)|exact HB.out)) hb);clear BK156;clear HB;have BK156:=n0_;have HB:=n1_;clear n0_ n1_;(try clear hb);(try clear hb2);(try clear hk);(try clear hi)))
        go_ret
        exact ⟨by first|rfl|(simp [errW_none,errW_some] <;> rfl)|(simp [*,errW_none,errW_some] <;> rfl),by repeat (first|(with_reducible first|exact HB.out|apply below_alloc|apply pw_below_drewN|apply below_drew1|refine below_set ?_ GE156.out)|exact HB.out)⟩
      ·replace c7:=Bool.eq_false_iff.mpr c7
       subst c7
       have H1:(some false) = some r:=by rw [if_neg (show ¬ (false = true) by decide)] at H;exact H
       clear H
       have H:=H1
       clear H1
       obtain rfl:=Option.some.inj H
       have p155:0≤(x9_1:Int):=of_decide_eq_true (by first|(with_reducible assumption)|assumption)
       have q155:x9_1 < (l1.length:Int):=of_decide_eq_true (by first|(with_reducible assumption)|assumption)
       obtain ⟨ad155,e155,hx155_0,hx155_1,hx155_2,hx155_3⟩:=at_T32 HR1.out x9_1 p155 q155
       cases e155
       replace hx155_0:=(HB.out.cell (World.block_lt_of_cell? w _ hx155_0)).trans hx155_0
       replace hx155_1:=(HB.out.cell (World.block_lt_of_cell? w _ hx155_1)).trans hx155_1
       replace hx155_2:=(HB.out.cell (World.block_lt_of_cell? w _ hx155_2)).trans hx155_2
       replace hx155_3:=(HB.out.cell (World.block_lt_of_cell? w _ hx155_3)).trans hx155_3
       replace p155:=eq_true p155
       replace q155:=eq_true q155
       go_wp2_with (first|((with_reducible refine gate_dst (N:=6) rfl ?_);refine box_event ?hg (N:=6) ?hd (cs:=#[.string (⟨#[]⟩:ByteArray),.int .u16 0,.int .u32 0,.string (⟨#[]⟩:ByteArray)]) (t:=32) ?hr ?_;(case hd=>rfl);(case hg=>rfl);(case hr=>first|(go_simp;done)|(go_simp;rfl));intro gb156 hg w35 hbox hb;have n0_:=Aside0.mk (below_step (by repeat (first|(with_reducible first|exact HB.out|apply below_alloc|apply pw_below_drewN|apply below_drew1)|exact HB.out)) hb);have n1_:=Aside0.mk (hbox);have n2_:=Aside0.mk ((by rw [hg];exact (below_size (by repeat (first|(with_reducible first|exact HB.out|apply below_alloc|apply pw_below_drewN|apply below_drew1)|exact HB.out))):w.heap.size≤gb156));have n3_:=Aside0.mk ((by rw [hg];exact (below_size (by repeat (first|(with_reducible first|exact HB.out|apply below_alloc|apply pw_below_drewN|apply below_drew1)|exact HB.out))):w.heap.size≤gb156));clear HB;have HB:=n0_;have BK156:=n1_;have GW156:=n2_;have GE156:=n3_;clear n0_ n1_ n2_ n3_;clear hb hbox hg;have hcz36_0:w35.cell? ⟨gb156,0,none⟩ = some (.string (⟨#[]⟩:ByteArray)):=(blk_cell BK156.out 0).trans rfl;have hcz36_1:w35.cell? ⟨gb156,1,none⟩ = some (.int .u16 0):=(blk_cell BK156.out 1).trans rfl;have hcz36_2:w35.cell? ⟨gb156,2,none⟩ = some (.int .u32 0):=(blk_cell BK156.out 2).trans rfl;have hcz36_3:w35.cell? ⟨gb156,3,none⟩ = some (.string (⟨#[]⟩:ByteArray)):=(blk_cell BK156.out 3).trans rfl;have hfz36_0:=blk_frozen BK156.out 0;have hfz36_1:=blk_frozen BK156.out 1;have hfz36_2:=blk_frozen BK156.out 2;have hfz36_3:=blk_frozen BK156.out 3)|((with_reducible refine gate_callee (f:=31) rfl ?_);refine goesL_ (some 14) rfl rfl Tryd.func31 (by kernel_rfl) rfl #[.agg #[.string ((rd_T32 l1 x9_1).f0),.int .u16 ((rd_T32 l1 x9_1).f1),.int .u32 ((rd_T32 l1 x9_1).f2),.string ((rd_T32 l1 x9_1).f3)]] rfl (by (try simp only [List.map_toArray,List.map_cons,List.map_nil]) <;> first|rfl|(simp only [List.length_drop,List.length_take];rfl)) ?_;(with_reducible refine (message_MayRecord.calls k1 ((rd_T32 l1 x9_1).f0) ((rd_T32 l1 x9_1).f1) ((rd_T32 l1 x9_1).f2) ((rd_T32 l1 x9_1).f3) false _ A6.out).mono ?_);rintro e w37 ⟨rfl,hb⟩;refine ⟨_,rfl,?_⟩;have n0_:=Aside0.mk (blk_below (g:=gb156) (o:=.cells #[.string ((rd_T32 l1 x9_1).f0),.int .u16 ((rd_T32 l1 x9_1).f1),.int .u32 ((rd_T32 l1 x9_1).f2),.string ((rd_T32 l1 x9_1).f3)] 32 (0,0)) (by (with_reducible repeat (first|apply blk_drewN|apply blk_drew|apply blk_alloc));refine blk_put (cs:=#[.string ((rd_T32 l1 x9_1).f0),.int .u16 ((rd_T32 l1 x9_1).f1),.int .u32 ((rd_T32 l1 x9_1).f2),.string (⟨#[]⟩:ByteArray)]) ?_ 3 _ rfl;(with_reducible repeat (first|apply blk_drewN|apply blk_drew|apply blk_alloc));refine blk_put (cs:=#[.string ((rd_T32 l1 x9_1).f0),.int .u16 ((rd_T32 l1 x9_1).f1),.int .u32 0,.string (⟨#[]⟩:ByteArray)]) ?_ 2 _ rfl;(with_reducible repeat (first|apply blk_drewN|apply blk_drew|apply blk_alloc));refine blk_put (cs:=#[.string ((rd_T32 l1 x9_1).f0),.int .u16 0,.int .u32 0,.string (⟨#[]⟩:ByteArray)]) ?_ 1 _ rfl;(with_reducible repeat (first|apply blk_drewN|apply blk_drew|apply blk_alloc));refine blk_put (cs:=#[.string (⟨#[]⟩:ByteArray),.int .u16 0,.int .u32 0,.string (⟨#[]⟩:ByteArray)]) ?_ 0 _ rfl;(with_reducible repeat (first|apply blk_drewN|apply blk_drew|apply blk_alloc));exact BK156.out) hb);have n1_:=Aside0.mk (below_step (by repeat (first|(with_reducible first|exact HB.out|apply below_alloc|apply pw_below_drewN|apply below_drew1|refine below_set ?_ GE156.out)|exact HB.out)) hb);clear BK156;clear HB;have BK156:=n0_;have HB:=n1_;clear n0_ n1_;(try clear hb);(try clear hb2);(try clear hk);(try clear hi)))
       go_ret
       exact ⟨by first|rfl|(simp [errW_none,errW_some] <;> rfl)|(simp [*,errW_none,errW_some] <;> rfl),by repeat (first|(with_reducible first|exact HB.out|apply below_alloc|apply pw_below_drewN|apply below_drew1|refine below_set ?_ GE156.out)|exact HB.out)⟩
     ·rw [if_neg c5] at H
      exact absurd H (by simp)
    ·rw [if_neg c4] at H
     exact absurd H (by simp)
   ·rw [if_neg c3] at H
    have c3b0:decide (x9_1 < (l1.length:Int)) = false:=decide_eq_false c3
    clear c3
    by_cases c38:(l1.length:Int) > 0
    ·rw [if_pos c38] at H
     have c38b0:decide (0 < (l1.length:Int)) = true:=decide_eq_true c38
     have c38b1:decide (0 < l1.length) = true:=decide_eq_true (by omega)
     clear c38
     by_cases c39:0 < (l1.length:Int)
     ·rw [if_pos c39] at H
      have c39b0:decide (0 < (l1.length:Int)) = true:=decide_eq_true c39
      have c39b1:decide (0 < l1.length) = true:=decide_eq_true (by omega)
      clear c39
      obtain rfl:=Option.some.inj H
      have p154:0≤(0:Int):=(by omega)
      have q154:0 < (l1.length:Int):=of_decide_eq_true (by first|(with_reducible assumption)|assumption)
      obtain ⟨ad154,e154,hx154_0,hx154_1,hx154_2,hx154_3⟩:=at_T32 HR1.out 0 p154 q154
      cases e154
      have qi154:(0 < l1.length) = True:=eq_true (by omega)
      (try rw [show ((0:Int)).toNat = 0 from rfl] at hx154_0)
      (try rw [show 0 * 4 = 0 from rfl] at hx154_0)
      (try rw [Addr.add_zero'] at hx154_0)
      (try rw [show ((0:Int)).toNat = 0 from rfl] at hx154_1)
      (try rw [show 0 * 4 = 0 from rfl] at hx154_1)
      (try rw [Addr.add_zero'] at hx154_1)
      (try rw [show ((0:Int)).toNat = 0 from rfl] at hx154_2)
      (try rw [show 0 * 4 = 0 from rfl] at hx154_2)
      (try rw [Addr.add_zero'] at hx154_2)
      (try rw [show ((0:Int)).toNat = 0 from rfl] at hx154_3)
      (try rw [show 0 * 4 = 0 from rfl] at hx154_3)
      (try rw [Addr.add_zero'] at hx154_3)
      replace hx154_0:=(HB.out.cell (World.block_lt_of_cell? w _ hx154_0)).trans hx154_0
      replace hx154_1:=(HB.out.cell (World.block_lt_of_cell? w _ hx154_1)).trans hx154_1
      replace hx154_2:=(HB.out.cell (World.block_lt_of_cell? w _ hx154_2)).trans hx154_2
      replace hx154_3:=(HB.out.cell (World.block_lt_of_cell? w _ hx154_3)).trans hx154_3
      replace p154:=eq_true p154
      replace q154:=eq_true q154
      go_wp2
      go_ret
      exact ⟨by first|rfl|(simp [errW_none,errW_some] <;> rfl)|(simp [*,errW_none,errW_some] <;> rfl),by repeat (first|(with_reducible first|exact HB.out|apply below_alloc|apply pw_below_drewN|apply below_drew1)|exact HB.out)⟩
     ·rw [if_neg c39] at H
      exact absurd H (by simp)
    ·rw [if_neg c38] at H
     have c38b0:decide (0 < (l1.length:Int)) = false:=decide_eq_false c38
     have c38b1:decide (0 < l1.length) = false:=decide_eq_false (by omega)
     clear c38
     obtain rfl:=Option.some.inj H
     go_wp2
     go_ret
     exact ⟨by first|rfl|(simp [errW_none,errW_some] <;> rfl)|(simp [*,errW_none,errW_some] <;> rfl),by repeat (first|(with_reducible first|exact HB.out|apply below_alloc|apply pw_below_drewN|apply below_drew1)|exact HB.out)⟩
end Go.Proofs.YtlobjcokopfbkaaDoor.PY
