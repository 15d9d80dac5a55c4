import Derived.Test.YtlobjcokopfbkaaDoorPYx0
import Derived.Test.YtlobjcokopfbkaaDoorPYx2
namespace Go.Proofs.YtlobjcokopfbkaaDoor.PY
open Go.RowKit Go.Proofs.YtlobjcokopfbkaaDoorW.PrintWords Go.Proofs.YtlobjcokopfbkaaDoorW.PrintLast Go.Proofs.YtlobjcokopfbkaaDoorW.PrintMore
attribute [local go_sem] max2_int min2_int max_two min_two max_three min_three max_four min_four   -- for this text's walks alone
set_option linter.unusedVariables false
set_option linter.unusedSimpArgs false
def point_Cut.l0:Nat→ByteArray→Int→Option (ByteArray × ByteArray × Bool)
 | 0,_,_=>none
 | k + 1,x0,x5=>if x5 < (x0.size:Int) then (if 0≤x5 then (if (bt x0 x5) = 0 then (if x5≤(x0.size:Int) then ((name_May.f k (x0.extract 0 (x5:Int).toNat)).bind fun t133=>(if t133 = true then (if 0≤(wrap64 (x5 + 1)) then (if (wrap64 (x5 + 1))≤(x0.size:Int) then (some (x0.extract 0 (x5:Int).toNat,x0.extract ((wrap64 (x5 + 1)):Int).toNat x0.size,true)) else (none)) else (none)) else (some ((⟨#[]⟩:ByteArray),(⟨#[]⟩:ByteArray),false)))) else (none)) else (point_Cut.l0 k x0 (wrap64 (x5 + (wrap64 (1 + (wrap64 (bt x0 x5)))))))) else (none)) else (some ((⟨#[]⟩:ByteArray),(⟨#[]⟩:ByteArray),false))
def point_Cut.f (k:Nat) (a0:ByteArray):Option (ByteArray × ByteArray × Bool):=point_Cut.l0 k a0 0
theorem point_Cut.mono_l:∀ k,(∀ y0 y1,LeO (point_Cut.l0 k y0 y1) (point_Cut.l0 (k + 1) y0 y1))
 | 0=>fun _ _ r h=>by simp [point_Cut.l0] at h
 | k + 1=>by
  have ih0:=point_Cut.mono_l k
  ·intro y0 y1
   unfold point_Cut.l0
   repeat' first
   | (with_reducible exact ih0 _ _)
   | (with_reducible exact name_May.mono _ _)
   | (with_reducible exact LeO.refl _)
   | (with_reducible exact LeO.none _)
   | (with_reducible refine LeO.ite ?_ ?_)
   | (with_reducible refine LeO.bind ?_ (fun _=>?_))
   | exact ih0 _ _
   | exact name_May.mono _ _
   | exact LeO.none _
   | refine LeO.ite ?_ ?_
   | refine LeO.bind ?_ (fun _=>?_)
theorem point_Cut.mono:∀ a0 k,LeO (point_Cut.f k a0) (point_Cut.f (k + 1) a0):=by
 intro a0 k
 have ih0:=point_Cut.mono_l k
 unfold point_Cut.f
 repeat' first
   | (with_reducible exact ih0 _ _)
   | (with_reducible exact name_May.mono _ _)
   | (with_reducible exact LeO.refl _)
   | (with_reducible exact LeO.none _)
   | (with_reducible refine LeO.ite ?_ ?_)
   | (with_reducible refine LeO.bind ?_ (fun _=>?_))
   | exact ih0 _ _
   | exact name_May.mono _ _
   | exact LeO.none _
   | refine LeO.ite ?_ ?_
   | refine LeO.bind ?_ (fun _=>?_)
set_option maxHeartbeats 8000000 in
set_option maxRecDepth 100000 in
theorem point_Cut.calls (k:Nat) (a0:ByteArray) (r1:ByteArray) (r2:ByteArray) (r3:Bool) (w:World) (h:point_Cut.f k a0 = some (r1,r2,r3)) :
  Calls Tryd.prog 61 #[.string a0] w fun e w'=>e = .returned (.tuple #[.string r1,.string r2,.bool r3])∧Below w.heap.size w w':=by
 have HB:=Aside0.mk (Below.refl w.heap.size w)
 have H:(point_Cut.l0 k a0 0) = some (r1,r2,r3):=h
 clear h
 have H':=Aside0.mk H
 clear H
 go_enter Tryd.func61,Tryd.ntmps61
 go_wp2
 repeat (go_quiet (fail);try go_wp2)
 go_loopg [5] k (fun kq v5 w'=>∃ (x5_1:Int),v5 = .int .i64 x5_1∧Aside0 (point_Cut.l0 kq a0 x5_1 = some (r1,r2,r3))∧Aside0 (kq≤k)∧Aside0 (Below w.heap.size w w'))
 case atStart=>exact ⟨(0),(by first|rfl|(simp;done)|(simp [*];done)),H',⟨Nat.le_refl _⟩,⟨by repeat (first|(with_reducible first|exact HB.out|apply below_alloc|apply pw_below_drewN|apply below_drew1)|exact HB.out)⟩⟩
 case round =>
  clear H'
  obtain ⟨x5_1,rfl,HA,HK1,HB⟩:=hrel
  cases gk with
  | zero=>exact absurd HA.out (by simp [point_Cut.l0])
  | succ k1 =>
   have H:=HA.out
   clear HA
   simp only [point_Cut.l0] at H
   by_cases c2:x5_1 < (a0.size:Int)
   ·rw [if_pos c2] at H
    have c2b0:decide (x5_1 < (a0.size:Int)) = true:=decide_eq_true c2
    clear c2
    by_cases c3:0≤x5_1
    ·rw [if_pos c3] at H
     have c3b0:decide (0≤x5_1) = true:=decide_eq_true c3
     clear c3
     by_cases c5:(bt a0 x5_1) = 0
     ·rw [if_pos c5] at H
      have c5b0:((bt a0 x5_1) == 0) = true:=beq_iff_eq.mpr c5
      have c5b1:((bt a0 x5_1) != 0) = false:=bne_eq_false_iff_eq.mpr c5
      clear c5
      have c6b0:=eq_true (of_decide_eq_true (by first|(with_reducible assumption)|assumption):0≤x5_1)
      by_cases c7:x5_1≤(a0.size:Int)
      ·rw [if_pos c7] at H
       have c7b0:=eq_true c7
       have c7b1:decide (x5_1≤(a0.size:Int)) = true:=decide_eq_true c7
       clear c7
       replace H:=Option.bind_eq_some_iff.mp H
       obtain ⟨t133,A80,H⟩:=H
       replace H:(if t133 = true then (if 0≤(wrap64 (x5_1 + 1)) then (if (wrap64 (x5_1 + 1))≤(a0.size:Int) then (some (a0.extract 0 (x5_1:Int).toNat,a0.extract ((wrap64 (x5_1 + 1)):Int).toNat a0.size,true)) else (none)) else (none)) else (some ((⟨#[]⟩:ByteArray),(⟨#[]⟩:ByteArray),false))) = some (r1,r2,r3):=H
       have A8:=Aside0.mk A80
       clear A80
       by_cases c9:t133 = true
       ·subst c9
        have H1:(if 0≤(wrap64 (x5_1 + 1)) then (if (wrap64 (x5_1 + 1))≤(a0.size:Int) then (some (a0.extract 0 (x5_1:Int).toNat,a0.extract ((wrap64 (x5_1 + 1)):Int).toNat a0.size,true)) else (none)) else (none)) = some (r1,r2,r3):=by rw [if_pos rfl] at H;exact H
        clear H
        have H:=H1
        clear H1
        obtain ⟨ji10,hji10⟩:∃ j_:Int,(wrap64 (x5_1 + 1)) = j_:=⟨_,rfl⟩
        replace H:(if 0≤(ji10) then (if (ji10)≤(a0.size:Int) then (some (a0.extract 0 (x5_1:Int).toNat,a0.extract ((ji10):Int).toNat a0.size,true)) else (none)) else (none)) = some (r1,r2,r3):=by first|(rw [hji10] at H;exact H)|(simp only [hji10] at H ⊢;exact H)
        (try rw [hji10] at A8)
        have hji10w:(IntKind.i64.wrap (x5_1 + 1)) = ji10:=(i64_w _).trans hji10
        by_cases c11:0≤(ji10)
        ·rw [if_pos c11] at H
         have c11b0:=eq_true c11
         have c11b1:decide (0≤(ji10)) = true:=decide_eq_true c11
         clear c11
         by_cases c12:(ji10)≤(a0.size:Int)
         ·rw [if_pos c12] at H
          have c12b0:=eq_true c12
          have c12b1:decide ((ji10)≤(a0.size:Int)) = true:=decide_eq_true c12
          clear c12
          simp only [Option.some.injEq,Prod.mk.injEq] at H
          obtain ⟨rfl,rfl,rfl⟩:=H
          have p4:0≤(x5_1:Int):=of_decide_eq_true (by first|(with_reducible assumption)|assumption)
          have q4:x5_1 < (a0.size:Int):=of_decide_eq_true (by first|(with_reducible assumption)|assumption)
          have hx4:=bt_at a0 x5_1
          replace p4:=eq_true p4
          replace q4:=eq_true q4
          go_wp2_with (first|(go_at_call 33;(with_reducible refine (name_May.calls k1 (a0.extract 0 (x5_1:Int).toNat) true _ A8.out).mono ?_);rintro e w13 ⟨rfl,hb⟩;have n0_:=Aside0.mk (below_step (by repeat (first|(with_reducible first|exact HB.out|apply below_alloc|apply pw_below_drewN|apply below_drew1)|exact HB.out)) hb);clear HB;have HB:=n0_;clear n0_;(try clear hb);(try clear hb2);(try clear hk);(try clear hi)))
          repeat (go_quiet (fail);go_wp2_with (fail))
          go_ret3
          exact ⟨by first|rfl|(simp [errW_none,errW_some] <;> rfl)|(simp only [← hji10];first|rfl|(simp [errW_none,errW_some] <;> rfl))|(simp [*,errW_none,errW_some] <;> rfl),by repeat (first|(with_reducible first|exact HB.out|apply below_alloc|apply pw_below_drewN|apply below_drew1)|exact HB.out)⟩
         ·rw [if_neg c12] at H
          exact absurd H (by simp)
        ·rw [if_neg c11] at H
         exact absurd H (by simp)
       ·replace c9:=Bool.eq_false_iff.mpr c9
        subst c9
        have H1:(some ((⟨#[]⟩:ByteArray),(⟨#[]⟩:ByteArray),false)) = some (r1,r2,r3):=by rw [if_neg (show ¬ (false = true) by decide)] at H;exact H
        clear H
        have H:=H1
        clear H1
        simp only [Option.some.injEq,Prod.mk.injEq] at H
        obtain ⟨rfl,rfl,rfl⟩:=H
        have p4:0≤(x5_1:Int):=of_decide_eq_true (by first|(with_reducible assumption)|assumption)
        have q4:x5_1 < (a0.size:Int):=of_decide_eq_true (by first|(with_reducible assumption)|assumption)
        have hx4:=bt_at a0 x5_1
        replace p4:=eq_true p4
        replace q4:=eq_true q4
        go_wp2_with (first|(go_at_call 33;(with_reducible refine (name_May.calls k1 (a0.extract 0 (x5_1:Int).toNat) false _ A8.out).mono ?_);rintro e w14 ⟨rfl,hb⟩;have n0_:=Aside0.mk (below_step (by repeat (first|(with_reducible first|exact HB.out|apply below_alloc|apply pw_below_drewN|apply below_drew1)|exact HB.out)) hb);clear HB;have HB:=n0_;clear n0_;(try clear hb);(try clear hb2);(try clear hk);(try clear hi)))
        repeat (go_quiet (fail);go_wp2_with (fail))
        go_ret3
        exact ⟨by first|rfl|(simp [errW_none,errW_some] <;> rfl)|(simp [*,errW_none,errW_some] <;> rfl),by repeat (first|(with_reducible first|exact HB.out|apply below_alloc|apply pw_below_drewN|apply below_drew1)|exact HB.out)⟩
      ·rw [if_neg c7] at H
       exact absurd H (by simp)
     ·rw [if_neg c5] at H
      have c5b0:((bt a0 x5_1) == 0) = false:=beq_eq_false_iff_ne.mpr c5
      have c5b1:((bt a0 x5_1) != 0) = true:=bne_iff_ne.mpr c5
      have H':=Aside0.mk H
      clear H
      have p4:0≤(x5_1:Int):=of_decide_eq_true (by first|(with_reducible assumption)|assumption)
      have q4:x5_1 < (a0.size:Int):=of_decide_eq_true (by first|(with_reducible assumption)|assumption)
      have hx4:=bt_at a0 x5_1
      replace p4:=eq_true p4
      replace q4:=eq_true q4
      have p15:0≤(x5_1:Int):=of_decide_eq_true (by first|(with_reducible assumption)|assumption)
      have q15:x5_1 < (a0.size:Int):=of_decide_eq_true (by first|(with_reducible assumption)|assumption)
      have hx15:=bt_at a0 x5_1
      replace p15:=eq_true p15
      replace q15:=eq_true q15
      go_wp2
      repeat (go_quiet (fail);try go_wp2)
      go_roundg k1
      case measure=>have:=HK1.out;omega
      case rel=>exact ⟨(wrap64 (x5_1 + (wrap64 (1 + (wrap64 (bt a0 x5_1)))))),(by first|rfl|(simp;done)|(simp [*];done)),H',⟨by have:=HK1.out;omega⟩,⟨by repeat (first|(with_reducible first|exact HB.out|apply below_alloc|apply pw_below_drewN|apply below_drew1)|exact HB.out)⟩⟩
    ·rw [if_neg c3] at H
     exact absurd H (by simp)
   ·rw [if_neg c2] at H
    have c2b0:decide (x5_1 < (a0.size:Int)) = false:=decide_eq_false c2
    clear c2
    simp only [Option.some.injEq,Prod.mk.injEq] at H
    obtain ⟨rfl,rfl,rfl⟩:=H
    go_wp2
    repeat (go_quiet (fail);try go_wp2)
    go_ret3
    exact ⟨by first|rfl|(simp [errW_none,errW_some] <;> rfl)|(simp [*,errW_none,errW_some] <;> rfl),by repeat (first|(with_reducible first|exact HB.out|apply below_alloc|apply pw_below_drewN|apply below_drew1)|exact HB.out)⟩
def rdata_soa.f (k:Nat) (a0:ByteArray):Option (ByteArray × ByteArray × ByteArray × Bool):=(point_Cut.f k a0).bind fun bt134=>((point_Cut.f k bt134.2.1).bind fun bt137=>(if bt134.2.2 = true then (if bt137.2.2 = true then (if (bt137.2.1.size:Int) = 20 then (some (bt134.1,bt137.1,bt137.2.1,true)) else (some ((⟨#[]⟩:ByteArray),(⟨#[]⟩:ByteArray),(⟨#[]⟩:ByteArray),false))) else (some ((⟨#[]⟩:ByteArray),(⟨#[]⟩:ByteArray),(⟨#[]⟩:ByteArray),false))) else (some ((⟨#[]⟩:ByteArray),(⟨#[]⟩:ByteArray),(⟨#[]⟩:ByteArray),false))))
theorem rdata_soa.mono:∀ a0 k,LeO (rdata_soa.f k a0) (rdata_soa.f (k + 1) a0):=by
 intro a0 k
 unfold rdata_soa.f
 repeat' first
   | (with_reducible exact point_Cut.mono _ _)
   | (with_reducible exact LeO.refl _)
   | (with_reducible exact LeO.none _)
   | (with_reducible refine LeO.ite ?_ ?_)
   | (with_reducible refine LeO.bind ?_ (fun _=>?_))
   | exact point_Cut.mono _ _
   | exact LeO.none _
   | refine LeO.ite ?_ ?_
   | refine LeO.bind ?_ (fun _=>?_)
set_option maxHeartbeats 8000000 in
set_option maxRecDepth 100000 in
theorem rdata_soa.calls (k:Nat) (a0:ByteArray) (r1:ByteArray) (r2:ByteArray) (r3:ByteArray) (r4:Bool) (w:World) (h:rdata_soa.f k a0 = some (r1,r2,r3,r4)) :
  Calls Tryd.prog 57 #[.string a0] w fun e w'=>e = .returned (.tuple #[.string r1,.string r2,.string r3,.bool r4])∧Below w.heap.size w w':=by
 have HB:=Aside0.mk (Below.refl w.heap.size w)
 have H:((point_Cut.f k a0).bind fun bt134=>((point_Cut.f k bt134.2.1).bind fun bt137=>(if bt134.2.2 = true then (if bt137.2.2 = true then (if (bt137.2.1.size:Int) = 20 then (some (bt134.1,bt137.1,bt137.2.1,true)) else (some ((⟨#[]⟩:ByteArray),(⟨#[]⟩:ByteArray),(⟨#[]⟩:ByteArray),false))) else (some ((⟨#[]⟩:ByteArray),(⟨#[]⟩:ByteArray),(⟨#[]⟩:ByteArray),false))) else (some ((⟨#[]⟩:ByteArray),(⟨#[]⟩:ByteArray),(⟨#[]⟩:ByteArray),false))))) = some (r1,r2,r3,r4):=h
 clear h
 replace H:=Option.bind_eq_some_iff.mp H
 obtain ⟨⟨t134,t135,t136⟩,A20,H⟩:=H
 replace H:((point_Cut.f k t135).bind fun bt137=>(if t136 = true then (if bt137.2.2 = true then (if (bt137.2.1.size:Int) = 20 then (some (t134,bt137.1,bt137.2.1,true)) else (some ((⟨#[]⟩:ByteArray),(⟨#[]⟩:ByteArray),(⟨#[]⟩:ByteArray),false))) else (some ((⟨#[]⟩:ByteArray),(⟨#[]⟩:ByteArray),(⟨#[]⟩:ByteArray),false))) else (some ((⟨#[]⟩:ByteArray),(⟨#[]⟩:ByteArray),(⟨#[]⟩:ByteArray),false)))) = some (r1,r2,r3,r4):=H
 have A2:=Aside0.mk A20
 clear A20
 replace H:=Option.bind_eq_some_iff.mp H
 obtain ⟨⟨t137,t138,t139⟩,A30,H⟩:=H
 replace H:(if t136 = true then (if t139 = true then (if (t138.size:Int) = 20 then (some (t134,t137,t138,true)) else (some ((⟨#[]⟩:ByteArray),(⟨#[]⟩:ByteArray),(⟨#[]⟩:ByteArray),false))) else (some ((⟨#[]⟩:ByteArray),(⟨#[]⟩:ByteArray),(⟨#[]⟩:ByteArray),false))) else (some ((⟨#[]⟩:ByteArray),(⟨#[]⟩:ByteArray),(⟨#[]⟩:ByteArray),false))) = some (r1,r2,r3,r4):=H
 have A3:=Aside0.mk A30
 clear A30
 by_cases c4:t136 = true
 ·subst c4
  have H1:(if t139 = true then (if (t138.size:Int) = 20 then (some (t134,t137,t138,true)) else (some ((⟨#[]⟩:ByteArray),(⟨#[]⟩:ByteArray),(⟨#[]⟩:ByteArray),false))) else (some ((⟨#[]⟩:ByteArray),(⟨#[]⟩:ByteArray),(⟨#[]⟩:ByteArray),false))) = some (r1,r2,r3,r4):=by rw [if_pos rfl] at H;exact H
  clear H
  have H:=H1
  clear H1
  by_cases c5:t139 = true
  ·subst c5
   have H1:(if (t138.size:Int) = 20 then (some (t134,t137,t138,true)) else (some ((⟨#[]⟩:ByteArray),(⟨#[]⟩:ByteArray),(⟨#[]⟩:ByteArray),false))) = some (r1,r2,r3,r4):=by rw [if_pos rfl] at H;exact H
   clear H
   have H:=H1
   clear H1
   by_cases c6:(t138.size:Int) = 20
   ·rw [if_pos c6] at H
    have c6b0:((t138.size:Int) == 20) = true:=beq_iff_eq.mpr c6
    have c6b1:((t138.size:Int) != 20) = false:=bne_eq_false_iff_eq.mpr c6
    clear c6
    simp only [Option.some.injEq,Prod.mk.injEq] at H
    obtain ⟨rfl,rfl,rfl,rfl⟩:=H
    go_enter Tryd.func57,Tryd.ntmps57
    go_wp2_with (first|((with_reducible refine gate_callee (f:=61) rfl ?_);refine goesL_ (some 14) rfl rfl Tryd.func61 (by kernel_rfl) rfl #[.string a0] rfl (by (try simp only [List.map_toArray,List.map_cons,List.map_nil]) <;> first|rfl|(simp only [List.length_drop,List.length_take];rfl)) ?_;(with_reducible refine (point_Cut.calls k a0 t134 t135 true _ A2.out).mono ?_);rintro e w7 ⟨rfl,hb⟩;refine ⟨_,rfl,?_⟩;have n0_:=Aside0.mk (below_step (by repeat (first|(with_reducible first|exact HB.out|apply below_alloc|apply pw_below_drewN|apply below_drew1)|exact HB.out)) hb);clear HB;have HB:=n0_;clear n0_;(try clear hb);(try clear hb2);(try clear hk);(try clear hi))|((with_reducible refine gate_callee (f:=61) rfl ?_);refine goesL_ (some 20) rfl rfl Tryd.func61 (by kernel_rfl) rfl #[.string t135] rfl (by (try simp only [List.map_toArray,List.map_cons,List.map_nil]) <;> first|rfl|(simp only [List.length_drop,List.length_take];rfl)) ?_;(with_reducible refine (point_Cut.calls k t135 t137 t138 true _ A3.out).mono ?_);rintro e w8 ⟨rfl,hb⟩;refine ⟨_,rfl,?_⟩;have n0_:=Aside0.mk (below_step (by repeat (first|(with_reducible first|exact HB.out|apply below_alloc|apply pw_below_drewN|apply below_drew1)|exact HB.out)) hb);clear HB;have HB:=n0_;clear n0_;(try clear hb);(try clear hb2);(try clear hk);(try clear hi)))
    refine bodyPost_ret (results_list (rs:=[.tmp 2,.tmp 3,.tmp 4,.tmp 5]) rfl (by simp) (.tmp (.tmp (.tmp (.tmp .nil))))) rfl ?_
    exact ⟨by first|rfl|(simp [errW_none,errW_some] <;> rfl)|(simp [*,errW_none,errW_some] <;> rfl),by repeat (first|(with_reducible first|exact HB.out|apply below_alloc|apply pw_below_drewN|apply below_drew1)|exact HB.out)⟩
   ·rw [if_neg c6] at H
    have c6b0:((t138.size:Int) == 20) = false:=beq_eq_false_iff_ne.mpr c6
    have c6b1:((t138.size:Int) != 20) = true:=bne_iff_ne.mpr c6
    simp only [Option.some.injEq,Prod.mk.injEq] at H
    obtain ⟨rfl,rfl,rfl,rfl⟩:=H
    go_enter Tryd.func57,Tryd.ntmps57
    go_wp2_with (first|((with_reducible refine gate_callee (f:=61) rfl ?_);refine goesL_ (some 14) rfl rfl Tryd.func61 (by kernel_rfl) rfl #[.string a0] rfl (by (try simp only [List.map_toArray,List.map_cons,List.map_nil]) <;> first|rfl|(simp only [List.length_drop,List.length_take];rfl)) ?_;(with_reducible refine (point_Cut.calls k a0 t134 t135 true _ A2.out).mono ?_);rintro e w9 ⟨rfl,hb⟩;refine ⟨_,rfl,?_⟩;have n0_:=Aside0.mk (below_step (by repeat (first|(with_reducible first|exact HB.out|apply below_alloc|apply pw_below_drewN|apply below_drew1)|exact HB.out)) hb);clear HB;have HB:=n0_;clear n0_;(try clear hb);(try clear hb2);(try clear hk);(try clear hi))|((with_reducible refine gate_callee (f:=61) rfl ?_);refine goesL_ (some 20) rfl rfl Tryd.func61 (by kernel_rfl) rfl #[.string t135] rfl (by (try simp only [List.map_toArray,List.map_cons,List.map_nil]) <;> first|rfl|(simp only [List.length_drop,List.length_take];rfl)) ?_;(with_reducible refine (point_Cut.calls k t135 t137 t138 true _ A3.out).mono ?_);rintro e w10 ⟨rfl,hb⟩;refine ⟨_,rfl,?_⟩;have n0_:=Aside0.mk (below_step (by repeat (first|(with_reducible first|exact HB.out|apply below_alloc|apply pw_below_drewN|apply below_drew1)|exact HB.out)) hb);clear HB;have HB:=n0_;clear n0_;(try clear hb);(try clear hb2);(try clear hk);(try clear hi)))
    refine bodyPost_ret (results_list (rs:=[.tmp 2,.tmp 3,.tmp 4,.tmp 5]) rfl (by simp) (.tmp (.tmp (.tmp (.tmp .nil))))) rfl ?_
    exact ⟨by first|rfl|(simp [errW_none,errW_some] <;> rfl)|(simp [*,errW_none,errW_some] <;> rfl),by repeat (first|(with_reducible first|exact HB.out|apply below_alloc|apply pw_below_drewN|apply below_drew1)|exact HB.out)⟩
  ·replace c5:=Bool.eq_false_iff.mpr c5
   subst c5
   have H1:(some ((⟨#[]⟩:ByteArray),(⟨#[]⟩:ByteArray),(⟨#[]⟩:ByteArray),false)) = some (r1,r2,r3,r4):=by rw [if_neg (show ¬ (false = true) by decide)] at H;exact H
   clear H
   have H:=H1
   clear H1
   simp only [Option.some.injEq,Prod.mk.injEq] at H
   obtain ⟨rfl,rfl,rfl,rfl⟩:=H
   go_enter Tryd.func57,Tryd.ntmps57
   go_wp2_with (first|((with_reducible refine gate_callee (f:=61) rfl ?_);refine goesL_ (some 14) rfl rfl Tryd.func61 (by kernel_rfl) rfl #[.string a0] rfl (by (try simp only [List.map_toArray,List.map_cons,List.map_nil]) <;> first|rfl|(simp only [List.length_drop,List.length_take];rfl)) ?_;(with_reducible refine (point_Cut.calls k a0 t134 t135 true _ A2.out).mono ?_);rintro e w11 ⟨rfl,hb⟩;refine ⟨_,rfl,?_⟩;have n0_:=Aside0.mk (below_step (by repeat (first|(with_reducible first|exact HB.out|apply below_alloc|apply pw_below_drewN|apply below_drew1)|exact HB.out)) hb);clear HB;have HB:=n0_;clear n0_;(try clear hb);(try clear hb2);(try clear hk);(try clear hi))|((with_reducible refine gate_callee (f:=61) rfl ?_);refine goesL_ (some 20) rfl rfl Tryd.func61 (by kernel_rfl) rfl #[.string t135] rfl (by (try simp only [List.map_toArray,List.map_cons,List.map_nil]) <;> first|rfl|(simp only [List.length_drop,List.length_take];rfl)) ?_;(with_reducible refine (point_Cut.calls k t135 t137 t138 false _ A3.out).mono ?_);rintro e w12 ⟨rfl,hb⟩;refine ⟨_,rfl,?_⟩;have n0_:=Aside0.mk (below_step (by repeat (first|(with_reducible first|exact HB.out|apply below_alloc|apply pw_below_drewN|apply below_drew1)|exact HB.out)) hb);clear HB;have HB:=n0_;clear n0_;(try clear hb);(try clear hb2);(try clear hk);(try clear hi)))
   refine bodyPost_ret (results_list (rs:=[.tmp 2,.tmp 3,.tmp 4,.tmp 5]) rfl (by simp) (.tmp (.tmp (.tmp (.tmp .nil))))) rfl ?_
   exact ⟨by first|rfl|(simp [errW_none,errW_some] <;> rfl)|(simp [*,errW_none,errW_some] <;> rfl),by repeat (first|(with_reducible first|exact HB.out|apply below_alloc|apply pw_below_drewN|apply below_drew1)|exact HB.out)⟩
 ·replace c4:=Bool.eq_false_iff.mpr c4
  subst c4
  have H1:(some ((⟨#[]⟩:ByteArray),(⟨#[]⟩:ByteArray),(⟨#[]⟩:ByteArray),false)) = some (r1,r2,r3,r4):=by rw [if_neg (show ¬ (false = true) by decide)] at H;exact H
  clear H
  have H:=H1
  clear H1
  simp only [Option.some.injEq,Prod.mk.injEq] at H
  obtain ⟨rfl,rfl,rfl,rfl⟩:=H
  go_enter Tryd.func57,Tryd.ntmps57
  go_wp2_with (first|((with_reducible refine gate_callee (f:=61) rfl ?_);refine goesL_ (some 14) rfl rfl Tryd.func61 (by kernel_rfl) rfl #[.string a0] rfl (by (try simp only [List.map_toArray,List.map_cons,List.map_nil]) <;> first|rfl|(simp only [List.length_drop,List.length_take];rfl)) ?_;(with_reducible refine (point_Cut.calls k a0 t134 t135 false _ A2.out).mono ?_);rintro e w13 ⟨rfl,hb⟩;refine ⟨_,rfl,?_⟩;have n0_:=Aside0.mk (below_step (by repeat (first|(with_reducible first|exact HB.out|apply below_alloc|apply pw_below_drewN|apply below_drew1)|exact HB.out)) hb);clear HB;have HB:=n0_;clear n0_;(try clear hb);(try clear hb2);(try clear hk);(try clear hi))|((with_reducible refine gate_callee (f:=61) rfl ?_);refine goesL_ (some 20) rfl rfl Tryd.func61 (by kernel_rfl) rfl #[.string t135] rfl (by (try simp only [List.map_toArray,List.map_cons,List.map_nil]) <;> first|rfl|(simp only [List.length_drop,List.length_take];rfl)) ?_;(with_reducible refine (point_Cut.calls k t135 t137 t138 t139 _ A3.out).mono ?_);rintro e w14 ⟨rfl,hb⟩;refine ⟨_,rfl,?_⟩;have n0_:=Aside0.mk (below_step (by repeat (first|(with_reducible first|exact HB.out|apply below_alloc|apply pw_below_drewN|apply below_drew1)|exact HB.out)) hb);clear HB;have HB:=n0_;clear n0_;(try clear hb);(try clear hb2);(try clear hk);(try clear hi)))
  refine bodyPost_ret (results_list (rs:=[.tmp 2,.tmp 3,.tmp 4,.tmp 5]) rfl (by simp) (.tmp (.tmp (.tmp (.tmp .nil))))) rfl ?_
  exact ⟨by first|rfl|(simp [errW_none,errW_some] <;> rfl)|(simp [*,errW_none,errW_some] <;> rfl),by repeat (first|(with_reducible first|exact HB.out|apply below_alloc|apply pw_below_drewN|apply below_drew1)|exact HB.out)⟩
def rdata_texts.l0:Nat→ByteArray→Int→Option (Bool)
 | 0,_,_=>none
 | k + 1,x0,x3=>if x3 ≥ (x0.size:Int) then (if x3 = (x0.size:Int) then (some (decide (x3 > 0))) else (some false)) else (if 0≤x3 then (if x3 < (x0.size:Int) then (rdata_texts.l0 k x0 (wrap64 (x3 + (wrap64 (1 + (wrap64 (bt x0 x3))))))) else (none)) else (none))
def rdata_texts.f (k:Nat) (a0:ByteArray):Option (Bool):=rdata_texts.l0 k a0 0
theorem rdata_texts.mono_l:∀ k,(∀ y0 y1,LeO (rdata_texts.l0 k y0 y1) (rdata_texts.l0 (k + 1) y0 y1))
 | 0=>fun _ _ r h=>by simp [rdata_texts.l0] at h
 | k + 1=>by
  have ih0:=rdata_texts.mono_l k
  ·intro y0 y1
   unfold rdata_texts.l0
   repeat' first
   | (with_reducible exact ih0 _ _)
   | (with_reducible exact LeO.refl _)
   | (with_reducible exact LeO.none _)
   | (with_reducible refine LeO.ite ?_ ?_)
   | (with_reducible refine LeO.bind ?_ (fun _=>?_))
   | exact ih0 _ _
   | exact LeO.none _
   | refine LeO.ite ?_ ?_
   | refine LeO.bind ?_ (fun _=>?_)
theorem rdata_texts.mono:∀ a0 k,LeO (rdata_texts.f k a0) (rdata_texts.f (k + 1) a0):=by
 intro a0 k
 have ih0:=rdata_texts.mono_l k
 unfold rdata_texts.f
 repeat' first
   | (with_reducible exact ih0 _ _)
   | (with_reducible exact LeO.refl _)
   | (with_reducible exact LeO.none _)
   | (with_reducible refine LeO.ite ?_ ?_)
   | (with_reducible refine LeO.bind ?_ (fun _=>?_))
   | exact ih0 _ _
   | exact LeO.none _
   | refine LeO.ite ?_ ?_
   | refine LeO.bind ?_ (fun _=>?_)
set_option maxHeartbeats 8000000 in
set_option maxRecDepth 100000 in
theorem rdata_texts.calls (k:Nat) (a0:ByteArray) (r:Bool) (w:World) (h:rdata_texts.f k a0 = some r) :
  Calls Tryd.prog 58 #[.string a0] w fun e w'=>e = .returned (.bool r)∧Drawn0 w w':=by
 have H:(rdata_texts.l0 k a0 0) = some r:=h
 clear h
 have H':=Aside0.mk H
 clear H
 go_enter Tryd.func58,Tryd.ntmps58
 go_wp2
 go_loopg [3] k (fun kq v3 w'=>∃ (x3_1:Int),v3 = .int .i64 x3_1∧Aside0 (rdata_texts.l0 kq a0 x3_1 = some r)∧Aside0 (kq≤k)∧Drawn0 w w')
 case atStart=>exact ⟨(0),(by first|rfl|(simp;done)|(simp [*];done)),H',⟨Nat.le_refl _⟩,by repeat (first|exact Drawn0.refl _|apply Drawn0.step)⟩
 case round =>
  clear H'
  obtain ⟨x3_1,rfl,HA,HK1,⟨m1,rfl⟩⟩:=hrel
  cases gk with
  | zero=>exact absurd HA.out (by simp [rdata_texts.l0])
  | succ k1 =>
   have H:=HA.out
   clear HA
   simp only [rdata_texts.l0] at H
   by_cases c2:x3_1 ≥ (a0.size:Int)
   ·rw [if_pos c2] at H
    have c2b0:decide ((a0.size:Int)≤x3_1) = true:=decide_eq_true c2
    clear c2
    by_cases c3:x3_1 = (a0.size:Int)
    ·rw [if_pos c3] at H
     have c3b0:(x3_1 == (a0.size:Int)) = true:=beq_iff_eq.mpr c3
     have c3b1:(x3_1 != (a0.size:Int)) = false:=bne_eq_false_iff_eq.mpr c3
     clear c3
     obtain rfl:=Option.some.inj H
     go_wp2
     go_ret
     exact ⟨by first|rfl|(simp;done)|(simp [*];done),by repeat (first|exact Drawn0.refl _|apply Drawn0.step)⟩
    ·rw [if_neg c3] at H
     have c3b0:(x3_1 == (a0.size:Int)) = false:=beq_eq_false_iff_ne.mpr c3
     have c3b1:(x3_1 != (a0.size:Int)) = true:=bne_iff_ne.mpr c3
     obtain rfl:=Option.some.inj H
     go_wp2
     go_ret
     exact ⟨by first|rfl|(simp;done)|(simp [*];done),by repeat (first|exact Drawn0.refl _|apply Drawn0.step)⟩
   ·rw [if_neg c2] at H
    have c2b0:decide ((a0.size:Int)≤x3_1) = false:=decide_eq_false c2
    clear c2
    by_cases c4:0≤x3_1
    ·rw [if_pos c4] at H
     have c4b0:decide (0≤x3_1) = true:=decide_eq_true c4
     clear c4
     by_cases c5:x3_1 < (a0.size:Int)
     ·rw [if_pos c5] at H
      have c5b0:decide (x3_1 < (a0.size:Int)) = true:=decide_eq_true c5
      clear c5
      have H':=Aside0.mk H
      clear H
      have p6:0≤(x3_1:Int):=of_decide_eq_true (by first|(with_reducible assumption)|assumption)
      have q6:x3_1 < (a0.size:Int):=of_decide_eq_true (by first|(with_reducible assumption)|assumption)
      have hx6:=bt_at a0 x3_1
      replace p6:=eq_true p6
      replace q6:=eq_true q6
      go_wp2
      go_roundg k1
      case measure=>have:=HK1.out;omega
      case rel=>exact ⟨(wrap64 (x3_1 + (wrap64 (1 + (wrap64 (bt a0 x3_1)))))),(by first|rfl|(simp;done)|(simp [*];done)),H',⟨by have:=HK1.out;omega⟩,by repeat (first|exact Drawn0.refl _|apply Drawn0.step)⟩
     ·rw [if_neg c5] at H
      exact absurd H (by simp)
    ·rw [if_neg c4] at H
     exact absurd H (by simp)
def rdata_May.j0:Nat→ByteArray→Int→Bool→Option (Bool)
 | 0,_,_,_=>none
 | k + 1,x1,x9,x20=>if x20 = true then ((name_May.f k x1).bind fun t140=>(some t140)) else (if x9 = 6 then ((rdata_soa.f k x1).bind fun bt141=>(some bt141.2.2.2)) else (if x9 = 16 then ((rdata_texts.f k x1).bind fun t145=>(if t145 = true then (some (decide ((x1.size:Int)≤512))) else (some false))) else (some (decide ((x1.size:Int)≤512)))))
def rdata_May.f (k:Nat) (a0:Int) (a1:ByteArray):Option (Bool):=if a0 = 1 then (some ((a1.size:Int) == 4)) else (if a0 = 28 then (some ((a1.size:Int) == 16)) else (if a0 = 2 then (rdata_May.j0 k a1 a0 (a0 == 2)) else (rdata_May.j0 k a1 a0 (a0 == 5))))
theorem rdata_May.mono_l:∀ k,(∀ y0 y1 y2,LeO (rdata_May.j0 k y0 y1 y2) (rdata_May.j0 (k + 1) y0 y1 y2))
 | 0=>fun _ _ _ r h=>by simp [rdata_May.j0] at h
 | k + 1=>by
  have ih0:=rdata_May.mono_l k
  ·intro y0 y1 y2
   unfold rdata_May.j0
   repeat' first
   | (with_reducible exact ih0 _ _ _)
   | (with_reducible exact name_May.mono _ _)
   | (with_reducible exact rdata_soa.mono _ _)
   | (with_reducible exact rdata_texts.mono _ _)
   | (with_reducible exact LeO.refl _)
   | (with_reducible exact LeO.none _)
   | (with_reducible refine LeO.ite ?_ ?_)
   | (with_reducible refine LeO.bind ?_ (fun _=>?_))
   | exact ih0 _ _ _
   | exact name_May.mono _ _
   | exact rdata_soa.mono _ _
   | exact rdata_texts.mono _ _
   | exact LeO.none _
   | refine LeO.ite ?_ ?_
   | refine LeO.bind ?_ (fun _=>?_)
theorem rdata_May.mono:∀ a0 a1 k,LeO (rdata_May.f k a0 a1) (rdata_May.f (k + 1) a0 a1):=by
 intro a0 a1 k
 have ih0:=rdata_May.mono_l k
 unfold rdata_May.f
 repeat' first
   | (with_reducible exact ih0 _ _ _)
   | (with_reducible exact name_May.mono _ _)
   | (with_reducible exact rdata_soa.mono _ _)
   | (with_reducible exact rdata_texts.mono _ _)
   | (with_reducible exact LeO.refl _)
   | (with_reducible exact LeO.none _)
   | (with_reducible refine LeO.ite ?_ ?_)
   | (with_reducible refine LeO.bind ?_ (fun _=>?_))
   | exact ih0 _ _ _
   | exact name_May.mono _ _
   | exact rdata_soa.mono _ _
   | exact rdata_texts.mono _ _
   | exact LeO.none _
   | refine LeO.ite ?_ ?_
   | refine LeO.bind ?_ (fun _=>?_)
set_option maxHeartbeats 8000000 in
set_option maxRecDepth 100000 in
theorem rdata_May.calls (k:Nat) (a0:Int) (a1:ByteArray) (r:Bool) (w:World) (h:rdata_May.f k a0 a1 = some r) :
  Calls Tryd.prog 45 #[.int .u16 a0,.string a1] w fun e w'=>e = .returned (.bool r)∧Below w.heap.size w w':=by
 have HB:=Aside0.mk (Below.refl w.heap.size w)
 have H:(if a0 = 1 then (some ((a1.size:Int) == 4)) else (if a0 = 28 then (some ((a1.size:Int) == 16)) else (if a0 = 2 then (rdata_May.j0 k a1 a0 (a0 == 2)) else (rdata_May.j0 k a1 a0 (a0 == 5))))) = some r:=h
 clear h
 by_cases c3:a0 = 1
 ·rw [if_pos c3] at H
  have c3b0:(a0 == 1) = true:=beq_iff_eq.mpr c3
  have c3b1:(a0 != 1) = false:=bne_eq_false_iff_eq.mpr c3
  clear c3
  obtain rfl:=Option.some.inj H
  go_enter Tryd.func45,Tryd.ntmps45
  go_wp2
  go_ret
  exact ⟨by first|rfl|(simp [errW_none,errW_some] <;> rfl)|(simp [*,errW_none,errW_some] <;> rfl),by repeat (first|(with_reducible first|exact HB.out|apply below_alloc|apply pw_below_drewN|apply below_drew1)|exact HB.out)⟩
 ·rw [if_neg c3] at H
  have c3b0:(a0 == 1) = false:=beq_eq_false_iff_ne.mpr c3
  have c3b1:(a0 != 1) = true:=bne_iff_ne.mpr c3
  by_cases c4:a0 = 28
  ·rw [if_pos c4] at H
   have c4b0:(a0 == 28) = true:=beq_iff_eq.mpr c4
   have c4b1:(a0 != 28) = false:=bne_eq_false_iff_eq.mpr c4
   clear c4
   obtain rfl:=Option.some.inj H
   go_enter Tryd.func45,Tryd.ntmps45
   go_wp2
   go_ret
   exact ⟨by first|rfl|(simp [errW_none,errW_some] <;> rfl)|(simp [*,errW_none,errW_some] <;> rfl),by repeat (first|(with_reducible first|exact HB.out|apply below_alloc|apply pw_below_drewN|apply below_drew1)|exact HB.out)⟩
  ·rw [if_neg c4] at H
   have c4b0:(a0 == 28) = false:=beq_eq_false_iff_ne.mpr c4
   have c4b1:(a0 != 28) = true:=bne_iff_ne.mpr c4
   have HC5:=Aside0.mk H
   clear H
   go_enter Tryd.func45,Tryd.ntmps45
   go_upto_if 20 with (fail)
   go_cut [20] (fun v20 wc=>∃ (kq:Nat) (x20_4:Bool),v20 = .bool x20_4∧Aside0 (rdata_May.j0 kq a1 a0 x20_4 = some r)∧Aside0 (kq≤k)∧Aside0 (Below w.heap.size w wc))
   case first =>
    have H:=HC5.out
    clear HC5
    by_cases c6:a0 = 2
    ·rw [if_pos c6] at H
     have c6b0:(a0 == 2) = true:=beq_iff_eq.mpr c6
     have c6b1:(a0 != 2) = false:=bne_eq_false_iff_eq.mpr c6
     clear c6
     (first|rw [c6b0]|(simp only [i64_w,i32_w];rw [c6b0])|skip)
     have H':=Aside0.mk H
     clear H
     go_wp2
     go_meet
     case rel=>exact ⟨_,((a0 == 2)),(by first|rfl|(simp;done)|(simp [*];done)),H',⟨by first|omega|exact Nat.le_refl _⟩,⟨by repeat (first|(with_reducible first|exact HB.out|apply below_alloc|apply pw_below_drewN|apply below_drew1)|exact HB.out)⟩⟩
    ·rw [if_neg c6] at H
     have c6b0:(a0 == 2) = false:=beq_eq_false_iff_ne.mpr c6
     have c6b1:(a0 != 2) = true:=bne_iff_ne.mpr c6
     (first|rw [c6b0]|(simp only [i64_w,i32_w];rw [c6b0])|skip)
     have H':=Aside0.mk H
     clear H
     go_wp2
     go_meet
     case rel=>exact ⟨_,((a0 == 5)),(by first|rfl|(simp;done)|(simp [*];done)),H',⟨by first|omega|exact Nat.le_refl _⟩,⟨by repeat (first|(with_reducible first|exact HB.out|apply below_alloc|apply pw_below_drewN|apply below_drew1)|exact HB.out)⟩⟩
   case rest =>
    clear HC5
    try clear p2
    try clear c3
    try clear c3b0
    try clear c3b1
    try clear c4
    try clear c4b0
    try clear c4b1
    try clear c6
    try clear c6b0
    try clear c6b1
    obtain ⟨kq,x20_4,rfl,HA,HJ4,HB⟩:=hcut
    cases kq with
    | zero=>exact absurd HA.out (by simp [rdata_May.j0])
    | succ kj4 =>
     have H:=HA.out
     clear HA
     simp only [rdata_May.j0] at H
     by_cases c7:x20_4 = true
     ·subst c7
      have H1:((name_May.f kj4 a1).bind fun t140=>(some t140)) = some r:=by rw [if_pos rfl] at H;exact H
      clear H
      have H:=H1
      clear H1
      replace H:=Option.bind_eq_some_iff.mp H
      obtain ⟨t140,A80,H⟩:=H
      replace H:(some t140) = some r:=H
      have A8:=Aside0.mk A80
      clear A80
      obtain rfl:=Option.some.inj H
      go_wp2_with (first|((with_reducible refine gate_callee (f:=33) rfl ?_);refine goesL_ (some 24) rfl rfl Tryd.func33 (by kernel_rfl) rfl #[.string a1] rfl (by (try simp only [List.map_toArray,List.map_cons,List.map_nil]) <;> first|rfl|(simp only [List.length_drop,List.length_take];rfl)) ?_;(with_reducible refine (name_May.calls kj4 a1 t140 _ A8.out).mono ?_);rintro e w9 ⟨rfl,hb⟩;refine ⟨_,rfl,?_⟩;have n0_:=Aside0.mk (below_step (by repeat (first|(with_reducible first|exact HB.out|apply below_alloc|apply pw_below_drewN|apply below_drew1)|exact HB.out)) hb);clear HB;have HB:=n0_;clear n0_;(try clear hb);(try clear hb2);(try clear hk);(try clear hi)))
      go_ret
      exact ⟨by first|rfl|(simp [errW_none,errW_some] <;> rfl)|(simp [*,errW_none,errW_some] <;> rfl),by repeat (first|(with_reducible first|exact HB.out|apply below_alloc|apply pw_below_drewN|apply below_drew1)|exact HB.out)⟩
     ·replace c7:=Bool.eq_false_iff.mpr c7
      subst c7
      have H1:(if a0 = 6 then ((rdata_soa.f kj4 a1).bind fun bt141=>(some bt141.2.2.2)) else (if a0 = 16 then ((rdata_texts.f kj4 a1).bind fun t145=>(if t145 = true then (some (decide ((a1.size:Int)≤512))) else (some false))) else (some (decide ((a1.size:Int)≤512))))) = some r:=by rw [if_neg (show ¬ (false = true) by decide)] at H;exact H
      clear H
      have H:=H1
      clear H1
      by_cases c10:a0 = 6
      ·rw [if_pos c10] at H
       have c10b0:(a0 == 6) = true:=beq_iff_eq.mpr c10
       have c10b1:(a0 != 6) = false:=bne_eq_false_iff_eq.mpr c10
       clear c10
       replace H:=Option.bind_eq_some_iff.mp H
       obtain ⟨⟨t141,t142,t143,t144⟩,A110,H⟩:=H
       replace H:(some t144) = some r:=H
       have A11:=Aside0.mk A110
       clear A110
       obtain rfl:=Option.some.inj H
       go_wp2_with (first|((with_reducible refine gate_callee (f:=57) rfl ?_);refine goesL_ (some 29) rfl rfl Tryd.func57 (by kernel_rfl) rfl #[.string a1] rfl (by (try simp only [List.map_toArray,List.map_cons,List.map_nil]) <;> first|rfl|(simp only [List.length_drop,List.length_take];rfl)) ?_;(with_reducible refine (rdata_soa.calls kj4 a1 t141 t142 t143 t144 _ A11.out).mono ?_);rintro e w12 ⟨rfl,hb⟩;refine ⟨_,rfl,?_⟩;have n0_:=Aside0.mk (below_step (by repeat (first|(with_reducible first|exact HB.out|apply below_alloc|apply pw_below_drewN|apply below_drew1)|exact HB.out)) hb);clear HB;have HB:=n0_;clear n0_;(try clear hb);(try clear hb2);(try clear hk);(try clear hi)))
       go_ret
       exact ⟨by first|rfl|(simp [errW_none,errW_some] <;> rfl)|(simp [*,errW_none,errW_some] <;> rfl),by repeat (first|(with_reducible first|exact HB.out|apply below_alloc|apply pw_below_drewN|apply below_drew1)|exact HB.out)⟩
      ·rw [if_neg c10] at H
       have c10b0:(a0 == 6) = false:=beq_eq_false_iff_ne.mpr c10
       have c10b1:(a0 != 6) = true:=bne_iff_ne.mpr c10
       by_cases c13:a0 = 16
       ·rw [if_pos c13] at H
        have c13b0:(a0 == 16) = true:=beq_iff_eq.mpr c13
        have c13b1:(a0 != 16) = false:=bne_eq_false_iff_eq.mpr c13
        clear c13
        replace H:=Option.bind_eq_some_iff.mp H
        obtain ⟨t145,A140,H⟩:=H
        replace H:(if t145 = true then (some (decide ((a1.size:Int)≤512))) else (some false)) = some r:=H
        have A14:=Aside0.mk A140
        clear A140
        by_cases c15:t145 = true
        ·subst c15
         have H1:(some (decide ((a1.size:Int)≤512))) = some r:=by rw [if_pos rfl] at H;exact H
         clear H
         have H:=H1
         clear H1
         obtain rfl:=Option.some.inj H
         go_wp2_with (first|((with_reducible refine gate_callee (f:=58) rfl ?_);refine goesL_ (some 38) rfl rfl Tryd.func58 (by kernel_rfl) rfl #[.string a1] rfl (by (try simp only [List.map_toArray,List.map_cons,List.map_nil]) <;> first|rfl|(simp only [List.length_drop,List.length_take];rfl)) ?_;(with_reducible refine (rdata_texts.calls kj4 a1 true _ A14.out).mono ?_);rintro e w' ⟨rfl,⟨nd,rfl⟩⟩;refine ⟨_,rfl,?_⟩))
         go_ret
         exact ⟨by first|rfl|(simp [errW_none,errW_some] <;> rfl)|(simp [*,errW_none,errW_some] <;> rfl),by repeat (first|(with_reducible first|exact HB.out|apply below_alloc|apply pw_below_drewN|apply below_drew1)|exact HB.out)⟩
        ·replace c15:=Bool.eq_false_iff.mpr c15
         subst c15
         have H1:(some false) = some r:=by rw [if_neg (show ¬ (false = true) by decide)] at H;exact H
         clear H
         have H:=H1
         clear H1
         obtain rfl:=Option.some.inj H
         go_wp2_with (first|((with_reducible refine gate_callee (f:=58) rfl ?_);refine goesL_ (some 38) rfl rfl Tryd.func58 (by kernel_rfl) rfl #[.string a1] rfl (by (try simp only [List.map_toArray,List.map_cons,List.map_nil]) <;> first|rfl|(simp only [List.length_drop,List.length_take];rfl)) ?_;(with_reducible refine (rdata_texts.calls kj4 a1 false _ A14.out).mono ?_);rintro e w' ⟨rfl,⟨nd,rfl⟩⟩;refine ⟨_,rfl,?_⟩))
         go_ret
         exact ⟨by first|rfl|(simp [errW_none,errW_some] <;> rfl)|(simp [*,errW_none,errW_some] <;> rfl),by repeat (first|(with_reducible first|exact HB.out|apply below_alloc|apply pw_below_drewN|apply below_drew1)|exact HB.out)⟩
       ·rw [if_neg c13] at H
        have c13b0:(a0 == 16) = false:=beq_eq_false_iff_ne.mpr c13
        have c13b1:(a0 != 16) = true:=bne_iff_ne.mpr c13
        obtain rfl:=Option.some.inj H
        go_wp2
        go_ret
        exact ⟨by first|rfl|(simp [errW_none,errW_some] <;> rfl)|(simp [*,errW_none,errW_some] <;> rfl),by repeat (first|(with_reducible first|exact HB.out|apply below_alloc|apply pw_below_drewN|apply below_drew1)|exact HB.out)⟩
def message_MayRecord.f (k:Nat) (a0_0:ByteArray) (a0_1:Int) (a0_2:Int) (a0_3:ByteArray):Option (Bool):=(name_May.f k a0_0).bind fun t147=>(if t147 = true then (if a0_1 = 41 then (some false) else ((rdata_May.f k a0_1 a0_3).bind fun t148=>(some t148))) else (some false))
theorem message_MayRecord.mono:∀ a0 a1 a2 a3 k,LeO (message_MayRecord.f k a0 a1 a2 a3) (message_MayRecord.f (k + 1) a0 a1 a2 a3):=by
 intro a0 a1 a2 a3 k
 unfold message_MayRecord.f
 repeat' first
   | (with_reducible exact name_May.mono _ _)
   | (with_reducible exact rdata_May.mono _ _ _)
   | (with_reducible exact LeO.refl _)
   | (with_reducible exact LeO.none _)
   | (with_reducible refine LeO.ite ?_ ?_)
   | (with_reducible refine LeO.bind ?_ (fun _=>?_))
   | exact name_May.mono _ _
   | exact rdata_May.mono _ _ _
   | exact LeO.none _
   | refine LeO.ite ?_ ?_
   | refine LeO.bind ?_ (fun _=>?_)
set_option maxHeartbeats 8000000 in
set_option maxRecDepth 100000 in
theorem message_MayRecord.calls (k:Nat) (a0_0:ByteArray) (a0_1:Int) (a0_2:Int) (a0_3:ByteArray) (r:Bool) (w:World) (h:message_MayRecord.f k a0_0 a0_1 a0_2 a0_3 = some r) :
  Calls Tryd.prog 31 #[.agg #[.string a0_0,.int .u16 a0_1,.int .u32 a0_2,.string a0_3]] w fun e w'=>e = .returned (.bool r)∧Below w.heap.size w w':=by
 have hu32:=Tryd.underlying32
 have HB:=Aside0.mk (Below.refl w.heap.size w)
 have H:((name_May.f k a0_0).bind fun t147=>(if t147 = true then (if a0_1 = 41 then (some false) else ((rdata_May.f k a0_1 a0_3).bind fun t148=>(some t148))) else (some false))) = some r:=h
 clear h
 replace H:=Option.bind_eq_some_iff.mp H
 obtain ⟨t147,A20,H⟩:=H
 replace H:(if t147 = true then (if a0_1 = 41 then (some false) else ((rdata_May.f k a0_1 a0_3).bind fun t148=>(some t148))) else (some false)) = some r:=H
 have A2:=Aside0.mk A20
 clear A20
 by_cases c3:t147 = true
 ·subst c3
  have H1:(if a0_1 = 41 then (some false) else ((rdata_May.f k a0_1 a0_3).bind fun t148=>(some t148))) = some r:=by rw [if_pos rfl] at H;exact H
  clear H
  have H:=H1
  clear H1
  by_cases c4:a0_1 = 41
  ·rw [if_pos c4] at H
   have c4b0:(a0_1 == 41) = true:=beq_iff_eq.mpr c4
   have c4b1:(a0_1 != 41) = false:=bne_eq_false_iff_eq.mpr c4
   clear c4
   obtain rfl:=Option.some.inj H
   go_enter Tryd.func31,Tryd.ntmps31
   go_wp2_with (first|((with_reducible refine gate_dst (N:=1) rfl ?_);refine box_event ?hg (N:=1) ?hd (cs:=#[.string a0_0,.int .u16 a0_1,.int .u32 a0_2,.string a0_3]) (t:=32) ?hr ?_;(case hd=>rfl);(case hg=>rfl);(case hr=>first|(go_simp;done)|(go_simp;rfl));intro gb146 hg w5 hbox hb;have n0_:=Aside0.mk (below_step (by repeat (first|(with_reducible first|exact HB.out|apply below_alloc|apply pw_below_drewN|apply below_drew1)|exact HB.out)) hb);have n1_:=Aside0.mk (hbox);have n2_:=Aside0.mk ((by rw [hg];exact (below_size (by repeat (first|(with_reducible first|exact HB.out|apply below_alloc|apply pw_below_drewN|apply below_drew1)|exact HB.out))):w.heap.size≤gb146));have n3_:=Aside0.mk ((by rw [hg];exact (below_size (by repeat (first|(with_reducible first|exact HB.out|apply below_alloc|apply pw_below_drewN|apply below_drew1)|exact HB.out))):w.heap.size≤gb146));clear HB;have HB:=n0_;have BK146:=n1_;have GW146:=n2_;have GE146:=n3_;clear n0_ n1_ n2_ n3_;clear hb hbox hg;have hcz6_0:w5.cell? ⟨gb146,0,none⟩ = some (.string a0_0):=(blk_cell BK146.out 0).trans rfl;have hcz6_1:w5.cell? ⟨gb146,1,none⟩ = some (.int .u16 a0_1):=(blk_cell BK146.out 1).trans rfl;have hcz6_2:w5.cell? ⟨gb146,2,none⟩ = some (.int .u32 a0_2):=(blk_cell BK146.out 2).trans rfl;have hcz6_3:w5.cell? ⟨gb146,3,none⟩ = some (.string a0_3):=(blk_cell BK146.out 3).trans rfl;have hfz6_0:=blk_frozen BK146.out 0;have hfz6_1:=blk_frozen BK146.out 1;have hfz6_2:=blk_frozen BK146.out 2;have hfz6_3:=blk_frozen BK146.out 3)|((with_reducible refine gate_callee (f:=33) rfl ?_);refine goesL_ (some 5) rfl rfl Tryd.func33 (by kernel_rfl) rfl #[.string a0_0] rfl (by (try simp only [List.map_toArray,List.map_cons,List.map_nil]) <;> first|rfl|(simp only [List.length_drop,List.length_take];rfl)) ?_;(with_reducible refine (name_May.calls k a0_0 true _ A2.out).mono ?_);rintro e w7 ⟨rfl,hb⟩;refine ⟨_,rfl,?_⟩;have n0_:=Aside0.mk (blk_below (g:=gb146) (o:=.cells #[.string a0_0,.int .u16 a0_1,.int .u32 a0_2,.string a0_3] 32 (0,0)) (by (with_reducible repeat (first|apply blk_drewN|apply blk_drew|apply blk_alloc));exact BK146.out) hb);have n1_:=Aside0.mk (below_step (by repeat (first|(with_reducible first|exact HB.out|apply below_alloc|apply pw_below_drewN|apply below_drew1|refine below_set ?_ GE146.out)|exact HB.out)) hb);clear BK146;clear HB;have BK146:=n0_;have HB:=n1_;clear n0_ n1_;(try clear hb);(try clear hb2);(try clear hk);(try clear hi);have hcz8_0:w7.cell? ⟨gb146,0,none⟩ = some (.string a0_0):=(blk_cell BK146.out 0).trans rfl;have hcz8_1:w7.cell? ⟨gb146,1,none⟩ = some (.int .u16 a0_1):=(blk_cell BK146.out 1).trans rfl;have hcz8_2:w7.cell? ⟨gb146,2,none⟩ = some (.int .u32 a0_2):=(blk_cell BK146.out 2).trans rfl;have hcz8_3:w7.cell? ⟨gb146,3,none⟩ = some (.string a0_3):=(blk_cell BK146.out 3).trans rfl;have hfz8_0:=blk_frozen BK146.out 0;have hfz8_1:=blk_frozen BK146.out 1;have hfz8_2:=blk_frozen BK146.out 2;have hfz8_3:=blk_frozen BK146.out 3))
   go_ret
   exact ⟨by first|rfl|(simp [errW_none,errW_some] <;> rfl)|(simp [*,errW_none,errW_some] <;> rfl),by repeat (first|(with_reducible first|exact HB.out|apply below_alloc|apply pw_below_drewN|apply below_drew1|refine below_set ?_ GE146.out)|exact HB.out)⟩
  ·rw [if_neg c4] at H
   have c4b0:(a0_1 == 41) = false:=beq_eq_false_iff_ne.mpr c4
   have c4b1:(a0_1 != 41) = true:=bne_iff_ne.mpr c4
   replace H:=Option.bind_eq_some_iff.mp H
   obtain ⟨t148,A90,H⟩:=H
   replace H:(some t148) = some r:=H
   have A9:=Aside0.mk A90
   clear A90
   obtain rfl:=Option.some.inj H
   go_enter Tryd.func31,Tryd.ntmps31
   go_wp2_with (first|((with_reducible refine gate_dst (N:=1) rfl ?_);refine box_event ?hg (N:=1) ?hd (cs:=#[.string a0_0,.int .u16 a0_1,.int .u32 a0_2,.string a0_3]) (t:=32) ?hr ?_;(case hd=>rfl);(case hg=>rfl);(case hr=>first|(go_simp;done)|(go_simp;rfl));intro gb146 hg w10 hbox hb;have n0_:=Aside0.mk (below_step (by repeat (first|(with_reducible first|exact HB.out|apply below_alloc|apply pw_below_drewN|apply below_drew1)|exact HB.out)) hb);have n1_:=Aside0.mk (hbox);have n2_:=Aside0.mk ((by rw [hg];exact (below_size (by repeat (first|(with_reducible first|exact HB.out|apply below_alloc|apply pw_below_drewN|apply below_drew1)|exact HB.out))):w.heap.size≤gb146));have n3_:=Aside0.mk ((by rw [hg];exact (below_size (by repeat (first|(with_reducible first|exact HB.out|apply below_alloc|apply pw_below_drewN|apply below_drew1)|exact HB.out))):w.heap.size≤gb146));clear HB;have HB:=n0_;have BK146:=n1_;have GW146:=n2_;have GE146:=n3_;clear n0_ n1_ n2_ n3_;clear hb hbox hg;have hcz11_0:w10.cell? ⟨gb146,0,none⟩ = some (.string a0_0):=(blk_cell BK146.out 0).trans rfl;have hcz11_1:w10.cell? ⟨gb146,1,none⟩ = some (.int .u16 a0_1):=(blk_cell BK146.out 1).trans rfl;have hcz11_2:w10.cell? ⟨gb146,2,none⟩ = some (.int .u32 a0_2):=(blk_cell BK146.out 2).trans rfl;have hcz11_3:w10.cell? ⟨gb146,3,none⟩ = some (.string a0_3):=(blk_cell BK146.out 3).trans rfl;have hfz11_0:=blk_frozen BK146.out 0;have hfz11_1:=blk_frozen BK146.out 1;have hfz11_2:=blk_frozen BK146.out 2;have hfz11_3:=blk_frozen BK146.out 3)|((with_reducible refine gate_callee (f:=33) rfl ?_);refine goesL_ (some 5) rfl rfl Tryd.func33 (by kernel_rfl) rfl #[.string a0_0] rfl (by (try simp only [List.map_toArray,List.map_cons,List.map_nil]) <;> first|rfl|(simp only [List.length_drop,List.length_take];rfl)) ?_;(with_reducible refine (name_May.calls k a0_0 true _ A2.out).mono ?_);rintro e w12 ⟨rfl,hb⟩;refine ⟨_,rfl,?_⟩;have n0_:=Aside0.mk (blk_below (g:=gb146) (o:=.cells #[.string a0_0,.int .u16 a0_1,.int .u32 a0_2,.string a0_3] 32 (0,0)) (by (with_reducible repeat (first|apply blk_drewN|apply blk_drew|apply blk_alloc));exact BK146.out) hb);have n1_:=Aside0.mk (below_step (by repeat (first|(with_reducible first|exact HB.out|apply below_alloc|apply pw_below_drewN|apply below_drew1|refine below_set ?_ GE146.out)|exact HB.out)) hb);clear BK146;clear HB;have BK146:=n0_;have HB:=n1_;clear n0_ n1_;(try clear hb);(try clear hb2);(try clear hk);(try clear hi);have hcz13_0:w12.cell? ⟨gb146,0,none⟩ = some (.string a0_0):=(blk_cell BK146.out 0).trans rfl;have hcz13_1:w12.cell? ⟨gb146,1,none⟩ = some (.int .u16 a0_1):=(blk_cell BK146.out 1).trans rfl;have hcz13_2:w12.cell? ⟨gb146,2,none⟩ = some (.int .u32 a0_2):=(blk_cell BK146.out 2).trans rfl;have hcz13_3:w12.cell? ⟨gb146,3,none⟩ = some (.string a0_3):=(blk_cell BK146.out 3).trans rfl;have hfz13_0:=blk_frozen BK146.out 0;have hfz13_1:=blk_frozen BK146.out 1;have hfz13_2:=blk_frozen BK146.out 2;have hfz13_3:=blk_frozen BK146.out 3)|(go_at_call 45;(with_reducible refine (rdata_May.calls k a0_1 a0_3 t148 _ A9.out).mono ?_);rintro e w14 ⟨rfl,hb⟩;have n0_:=Aside0.mk (blk_below (g:=gb146) (o:=.cells #[.string a0_0,.int .u16 a0_1,.int .u32 a0_2,.string a0_3] 32 (0,0)) (by (with_reducible repeat (first|apply blk_drewN|apply blk_drew|apply blk_alloc));exact BK146.out) hb);have n1_:=Aside0.mk (below_step (by repeat (first|(with_reducible first|exact HB.out|apply below_alloc|apply pw_below_drewN|apply below_drew1|refine below_set ?_ GE146.out)|exact HB.out)) hb);clear BK146;clear HB;have BK146:=n0_;have HB:=n1_;clear n0_ n1_;(try clear hb);(try clear hb2);(try clear hk);(try clear hi)))
   go_ret
   exact ⟨by first|rfl|(simp [errW_none,errW_some] <;> rfl)|(simp [*,errW_none,errW_some] <;> rfl),by repeat (first|(with_reducible first|exact HB.out|apply below_alloc|apply pw_below_drewN|apply below_drew1|refine below_set ?_ GE146.out)|exact HB.out)⟩
 ·replace c3:=Bool.eq_false_iff.mpr c3
  subst c3
  have H1:(some false) = some r:=by rw [if_neg (show ¬ (false = true) by decide)] at H;exact H
  clear H
  have H:=H1
  clear H1
  obtain rfl:=Option.some.inj H
  go_enter Tryd.func31,Tryd.ntmps31
  go_wp2_with (first|((with_reducible refine gate_dst (N:=1) rfl ?_);refine box_event ?hg (N:=1) ?hd (cs:=#[.string a0_0,.int .u16 a0_1,.int .u32 a0_2,.string a0_3]) (t:=32) ?hr ?_;(case hd=>rfl);(case hg=>rfl);(case hr=>first|(go_simp;done)|(go_simp;rfl));intro gb146 hg w15 hbox hb;have n0_:=Aside0.mk (below_step (by repeat (first|(with_reducible first|exact HB.out|apply below_alloc|apply pw_below_drewN|apply below_drew1)|exact HB.out)) hb);have n1_:=Aside0.mk (hbox);have n2_:=Aside0.mk ((by rw [hg];exact (below_size (by repeat (first|(with_reducible first|exact HB.out|apply below_alloc|apply pw_below_drewN|apply below_drew1)|exact HB.out))):w.heap.size≤gb146));have n3_:=Aside0.mk ((by rw [hg];exact (below_size (by repeat (first|(with_reducible first|exact HB.out|apply below_alloc|apply pw_below_drewN|apply below_drew1)|exact HB.out))):w.heap.size≤gb146));clear HB;have HB:=n0_;have BK146:=n1_;have GW146:=n2_;have GE146:=n3_;clear n0_ n1_ n2_ n3_;clear hb hbox hg;have hcz16_0:w15.cell? ⟨gb146,0,none⟩ = some (.string a0_0):=(blk_cell BK146.out 0).trans rfl;have hcz16_1:w15.cell? ⟨gb146,1,none⟩ = some (.int .u16 a0_1):=(blk_cell BK146.out 1).trans rfl;have hcz16_2:w15.cell? ⟨gb146,2,none⟩ = some (.int .u32 a0_2):=(blk_cell BK146.out 2).trans rfl;have hcz16_3:w15.cell? ⟨gb146,3,none⟩ = some (.string a0_3):=(blk_cell BK146.out 3).trans rfl;have hfz16_0:=blk_frozen BK146.out 0;have hfz16_1:=blk_frozen BK146.out 1;have hfz16_2:=blk_frozen BK146.out 2;have hfz16_3:=blk_frozen BK146.out 3)|((with_reducible refine gate_callee (f:=33) rfl ?_);refine goesL_ (some 5) rfl rfl Tryd.func33 (by kernel_rfl) rfl #[.string a0_0] rfl (by (try simp only [List.map_toArray,List.map_cons,List.map_nil]) <;> first|rfl|(simp only [List.length_drop,List.length_take];rfl)) ?_;(with_reducible refine (name_May.calls k a0_0 false _ A2.out).mono ?_);rintro e w17 ⟨rfl,hb⟩;refine ⟨_,rfl,?_⟩;have n0_:=Aside0.mk (blk_below (g:=gb146) (o:=.cells #[.string a0_0,.int .u16 a0_1,.int .u32 a0_2,.string a0_3] 32 (0,0)) (by (with_reducible repeat (first|apply blk_drewN|apply blk_drew|apply blk_alloc));exact BK146.out) hb);have n1_:=Aside0.mk (below_step (by repeat (first|(with_reducible first|exact HB.out|apply below_alloc|apply pw_below_drewN|apply below_drew1|refine below_set ?_ GE146.out)|exact HB.out)) hb);clear BK146;clear HB;have BK146:=n0_;have HB:=n1_;clear n0_ n1_;(try clear hb);(try clear hb2);(try clear hk);(try clear hi)))
  go_ret
  exact ⟨by first|rfl|(simp [errW_none,errW_some] <;> rfl)|(simp [*,errW_none,errW_some] <;> rfl),by repeat (first|(with_reducible first|exact HB.out|apply below_alloc|apply pw_below_drewN|apply below_drew1|refine below_set ?_ GE146.out)|exact HB.out)⟩
def name_Parent.f (k:Nat) (a0:ByteArray):Option (ByteArray × Bool):=if (a0.size:Int) = 0 then (some ((⟨#[]⟩:ByteArray),false)) else ((name_May.f k a0).bind fun t149=>(if t149 = true then (if 0 < (a0.size:Int) then (if 0≤(wrap64 (1 + (wrap64 (bt a0 0)))) then (if (wrap64 (1 + (wrap64 (bt a0 0))))≤(a0.size:Int) then (some (a0.extract ((wrap64 (1 + (wrap64 (bt a0 0)))):Int).toNat a0.size,true)) else (none)) else (none)) else (none)) else (some ((⟨#[]⟩:ByteArray),false))))
theorem name_Parent.mono:∀ a0 k,LeO (name_Parent.f k a0) (name_Parent.f (k + 1) a0):=by
 intro a0 k
 unfold name_Parent.f
 repeat' first
   | (with_reducible exact name_May.mono _ _)
   | (with_reducible exact LeO.refl _)
   | (with_reducible exact LeO.none _)
   | (with_reducible refine LeO.ite ?_ ?_)
   | (with_reducible refine LeO.bind ?_ (fun _=>?_))
   | exact name_May.mono _ _
   | exact LeO.none _
   | refine LeO.ite ?_ ?_
   | refine LeO.bind ?_ (fun _=>?_)
set_option maxHeartbeats 8000000 in
set_option maxRecDepth 100000 in
theorem name_Parent.calls (k:Nat) (a0:ByteArray) (r1:ByteArray) (r2:Bool) (w:World) (h:name_Parent.f k a0 = some (r1,r2)) :
  Calls Tryd.prog 46 #[.string a0] w fun e w'=>e = .returned (.tuple #[.string r1,.bool r2])∧Below w.heap.size w w':=by
 have HB:=Aside0.mk (Below.refl w.heap.size w)
 have H:(if (a0.size:Int) = 0 then (some ((⟨#[]⟩:ByteArray),false)) else ((name_May.f k a0).bind fun t149=>(if t149 = true then (if 0 < (a0.size:Int) then (if 0≤(wrap64 (1 + (wrap64 (bt a0 0)))) then (if (wrap64 (1 + (wrap64 (bt a0 0))))≤(a0.size:Int) then (some (a0.extract ((wrap64 (1 + (wrap64 (bt a0 0)))):Int).toNat a0.size,true)) else (none)) else (none)) else (none)) else (some ((⟨#[]⟩:ByteArray),false))))) = some (r1,r2):=h
 clear h
 by_cases c2:(a0.size:Int) = 0
 ·rw [if_pos c2] at H
  have c2b0:((a0.size:Int) == 0) = true:=beq_iff_eq.mpr c2
  have c2b1:((a0.size:Int) != 0) = false:=bne_eq_false_iff_eq.mpr c2
  clear c2
  simp only [Option.some.injEq,Prod.mk.injEq] at H
  obtain ⟨rfl,rfl⟩:=H
  go_enter Tryd.func46,Tryd.ntmps46
  go_wp2
  go_ret2
  exact ⟨by first|rfl|(simp [errW_none,errW_some] <;> rfl)|(simp [*,errW_none,errW_some] <;> rfl),by repeat (first|(with_reducible first|exact HB.out|apply below_alloc|apply pw_below_drewN|apply below_drew1)|exact HB.out)⟩
 ·rw [if_neg c2] at H
  have c2b0:((a0.size:Int) == 0) = false:=beq_eq_false_iff_ne.mpr c2
  have c2b1:((a0.size:Int) != 0) = true:=bne_iff_ne.mpr c2
  replace H:=Option.bind_eq_some_iff.mp H
  obtain ⟨t149,A30,H⟩:=H
  replace H:(if t149 = true then (if 0 < (a0.size:Int) then (if 0≤(wrap64 (1 + (wrap64 (bt a0 0)))) then (if (wrap64 (1 + (wrap64 (bt a0 0))))≤(a0.size:Int) then (some (a0.extract ((wrap64 (1 + (wrap64 (bt a0 0)))):Int).toNat a0.size,true)) else (none)) else (none)) else (none)) else (some ((⟨#[]⟩:ByteArray),false))) = some (r1,r2):=H
  have A3:=Aside0.mk A30
  clear A30
  by_cases c4:t149 = true
  ·subst c4
   have H1:(if 0 < (a0.size:Int) then (if 0≤(wrap64 (1 + (wrap64 (bt a0 0)))) then (if (wrap64 (1 + (wrap64 (bt a0 0))))≤(a0.size:Int) then (some (a0.extract ((wrap64 (1 + (wrap64 (bt a0 0)))):Int).toNat a0.size,true)) else (none)) else (none)) else (none)) = some (r1,r2):=by rw [if_pos rfl] at H;exact H
   clear H
   have H:=H1
   clear H1
   by_cases c5:0 < (a0.size:Int)
   ·rw [if_pos c5] at H
    have c5b0:decide (0 < (a0.size:Int)) = true:=decide_eq_true c5
    have c5b1:decide (0 < a0.size) = true:=decide_eq_true (by omega)
    clear c5
    obtain ⟨ji7,hji7⟩:∃ j_:Int,(wrap64 (1 + (wrap64 (bt a0 0)))) = j_:=⟨_,rfl⟩
    replace H:(if 0≤(ji7) then (if (ji7)≤(a0.size:Int) then (some (a0.extract ((ji7):Int).toNat a0.size,true)) else (none)) else (none)) = some (r1,r2):=by first|(rw [hji7] at H;exact H)|(simp only [hji7] at H ⊢;exact H)
    (try rw [hji7] at A3)
    have hji7w:(IntKind.i64.wrap (1 + (wrap64 (bt a0 0)))) = ji7:=(i64_w _).trans hji7
    by_cases c8:0≤(ji7)
    ·rw [if_pos c8] at H
     have c8b0:=eq_true c8
     have c8b1:decide (0≤(ji7)) = true:=decide_eq_true c8
     clear c8
     by_cases c9:(ji7)≤(a0.size:Int)
     ·rw [if_pos c9] at H
      have c9b0:=eq_true c9
      have c9b1:decide ((ji7)≤(a0.size:Int)) = true:=decide_eq_true c9
      clear c9
      simp only [Option.some.injEq,Prod.mk.injEq] at H
      obtain ⟨rfl,rfl⟩:=H
      go_enter Tryd.func46,Tryd.ntmps46
      go_wp2_with (first|(go_at_call 33;(with_reducible refine (name_May.calls k a0 true _ A3.out).mono ?_);rintro e w10 ⟨rfl,hb⟩;have n0_:=Aside0.mk (below_step (by repeat (first|(with_reducible first|exact HB.out|apply below_alloc|apply pw_below_drewN|apply below_drew1)|exact HB.out)) hb);clear HB;have HB:=n0_;clear n0_;(try clear hb);(try clear hb2);(try clear hk);(try clear hi);have p6:0≤(0:Int):=(by omega);have q6:0 < a0.size:=(by have:(0:Int) < (a0.size:Int):=of_decide_eq_true (by first|(with_reducible assumption)|assumption);omega);have hx6:∀ h:0 < a0.size,((a0[0]'h).toNat:Int) = bt a0 0:=bt_at a0 0;clear p6;have qi6:(0 < (a0.size:Int)) = True:=eq_true (of_decide_eq_true (by first|(with_reducible assumption)|assumption));replace q6:=eq_true q6))
      go_ret2
      exact ⟨by first|rfl|(simp [errW_none,errW_some] <;> rfl)|(simp only [← hji7];first|rfl|(simp [errW_none,errW_some] <;> rfl))|(simp [*,errW_none,errW_some] <;> rfl),by repeat (first|(with_reducible first|exact HB.out|apply below_alloc|apply pw_below_drewN|apply below_drew1)|exact HB.out)⟩
     ·rw [if_neg c9] at H
      exact absurd H (by simp)
    ·rw [if_neg c8] at H
     exact absurd H (by simp)
   ·rw [if_neg c5] at H
    exact absurd H (by simp)
  ·replace c4:=Bool.eq_false_iff.mpr c4
   subst c4
   have H1:(some ((⟨#[]⟩:ByteArray),false)) = some (r1,r2):=by rw [if_neg (show ¬ (false = true) by decide)] at H;exact H
   clear H
   have H:=H1
   clear H1
   simp only [Option.some.injEq,Prod.mk.injEq] at H
   obtain ⟨rfl,rfl⟩:=H
   go_enter Tryd.func46,Tryd.ntmps46
   go_wp2_with (first|(go_at_call 33;(with_reducible refine (name_May.calls k a0 false _ A3.out).mono ?_);rintro e w11 ⟨rfl,hb⟩;have n0_:=Aside0.mk (below_step (by repeat (first|(with_reducible first|exact HB.out|apply below_alloc|apply pw_below_drewN|apply below_drew1)|exact HB.out)) hb);clear HB;have HB:=n0_;clear n0_;(try clear hb);(try clear hb2);(try clear hk);(try clear hi)))
   go_ret2
   exact ⟨by first|rfl|(simp [errW_none,errW_some] <;> rfl)|(simp [*,errW_none,errW_some] <;> rfl),by repeat (first|(with_reducible first|exact HB.out|apply below_alloc|apply pw_below_drewN|apply below_drew1)|exact HB.out)⟩
end Go.Proofs.YtlobjcokopfbkaaDoor.PY
