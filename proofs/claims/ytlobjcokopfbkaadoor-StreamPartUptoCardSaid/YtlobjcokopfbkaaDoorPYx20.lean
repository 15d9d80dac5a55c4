/- part of a proof; what it has no use for was struck out -/
import Derived.Test.YtlobjcokopfbkaaDoorPYx18
import Derived.Test.YtlobjcokopfbkaaDoorPrt
namespace Go.Proofs.YtlobjcokopfbkaaDoor.PY
open Go.RowKit Go.Proofs.YtlobjcokopfbkaaDoorW Go.Proofs.YtlobjcokopfbkaaDoorW.PrintWords Go.Proofs.YtlobjcokopfbkaaDoorW.PrintLast Go.Proofs.YtlobjcokopfbkaaDoorW.PrintMore Go.Proofs.YtlobjcokopfbkaaDoor.Base Go.Proofs.YtlobjcokopfbkaaDoor.Nam Go.Proofs.YtlobjcokopfbkaaDoor.Soa Go.Proofs.YtlobjcokopfbkaaDoor.QY Go.Proofs.YtlobjcokopfbkaaDoor.Str
set_option linter.unusedVariables false
set_option linter.unusedSimpArgs false
set_option maxRecDepth 100000
attribute [local go_sem] errW_none errW_some max2_int min2_int max_two min_two
def spart_T6:Bool × List (List Nat × List Nat):=(true,[([],[]),([],[]),([1],[1]),([2],[2]),([3],[3]),([4],[4]),([0,5],[0,5]),([6],[6]),([],[]),([],[]),([],[]),([10],[10]),([11],[11]),([12],[12]),([13],[13]),([9,14,6],[9,14]),([15],[15]),([8,16,15],[8,16]),([7,17,17],[7,17]),([18,18,0,1,2,3,4,5,6,7,8,9,10,11,12,13,14,15,16,17,18],[8,18])])
def spart_B6:List Nat:=[0,0,2,6,14,30,63,127,0,0,0,1024,3072,7168,15360,32383,65151,130943,262143,524287]
theorem spart_tab6:rtab .any (opsOf Tryd.f4 6) = spart_T6:=by kernel_rfl
theorem spart_bits6:waitsOk spart_T6.2 spart_B6 = true:=by kernel_rfl
theorem R_less2 {w:World} {b1 b2:Nat} {v:Value} {xs:List R} (h:Kd.R k32 32 w b1 (fun _=>True) v xs) (hb:b2≤b1):Kd.R k32 32 w b2 (fun _=>True) v xs:=by
 obtain ⟨h0,inner,⟨hl,ho⟩,hr⟩:=h
 refine ⟨h0,inner,⟨hl,?_⟩,hr⟩
 rcases ho with ho|⟨g,cap,cur,h1,h2,h3⟩
 ·exact Or.inl ho
 ·exact Or.inr ⟨g,cap,cur,h1,Nat.le_trans hb h2,h3⟩
theorem right_ne {x:ByteArray} {rs:List R} {b:Bool} (h:Ev (fun k=>stream_right.f k x rs) b) (hb:b = true):rs≠[]:=fun hn=>by
 obtain ⟨K,g⟩:=h
 have e:=g (K + 1) (by omega)
 subst hn
 subst hb
 revert e
 show stream_right.f (K + 1) x [] = some true→False
 unfold stream_right.f
 simp only [stream_right.l0]
 intro e
 cases e
theorem deltasL_form:∀ (n:Nat) (fr:Int) (rest:List R) (out:List DL) (last:R),deltasL n fr rest out last = err 4∨deltasL n fr rest out last = err 5∨∃ o,deltasL n fr rest out last = (false,[],o,none):=by
 intro n
 induction n with
 | zero=>intro fr rest out last;exact .inl rfl
 | succ n ih =>
  intro fr rest out last
  unfold deltasL
  split
  ·cases rest with
   | nil=>exact .inl rfl
   | cons r0 t =>
    simp only
    split
    ·split
     ·cases (runL t).2 with
      | nil=>exact .inl rfl
      | cons r1 t1=>exact ih _ _ _ _
     ·exact .inr (.inl rfl)
    ·exact .inl rfl
  ·split
   ·split
    ·exact .inr (.inr ⟨_,rfl⟩)
    ·exact .inl rfl
   ·exact .inl rfl
theorem partL_form (b:Bool) (fr:Int) (rs:List R):partL b fr rs = err 4∨partL b fr rs = err 5∨partL b fr rs = (true,[],[],none)∨(∃ a,a≠[]∧partL b fr rs = (false,a,[],none))∨∃ o,partL b fr rs = (false,[],o,none):=by
 unfold partL
 split
 ·match rs with
  | []=>exact .inl rfl
  | [r] =>
   simp only
   split
   ·exact .inr (.inr (.inl rfl))
   ·exact .inr (.inl rfl)
  | r :: r1 :: t =>
   simp only
   split
   ·exact .inr (.inr (.inr (.inl ⟨_,by simp,rfl⟩)))
   ·rcases deltasL_form ((r1 :: t).length + 1) fr (r1 :: t) [] r with h|h|⟨o,h⟩
    ·exact .inl h
    ·exact .inr (.inl h)
    ·exact .inr (.inr (.inr (.inr ⟨o,h⟩)))
 ·exact .inl rfl
open Classical in
noncomputable def bolterlaw09_StreamPart.f (a0 a1:Int) (l2:List LA):Option Bool:=if (0≤a0∧a0 < 256)∧(0≤a1∧a1 < 256)∧(∀ a ∈ l2,WfL a)∧l2.length≤1048576 then some true else none
set_option maxHeartbeats 16000000 in
theorem bolterlaw09_StreamPart.calls (a0 a1:Int) (A2:Option Addr) (c2:Nat) (l2:List LA) (r:Bool) (w:World) (hr2:Kd.C k45 w A2 l2.length l2) (hc2:l2.length≤c2) (hE:Num.ErrT w) (h:bolterlaw09_StreamPart.f a0 a1 l2 = some r) :
  Calls Tryd.prog 4 #[.int .u8 a0,.int .u8 a1,.slice A2 l2.length c2] w fun e w'=>e = .returned (.bool r)∧Below w.heap.size w w':=by
 unfold bolterlaw09_StreamPart.f at h
 by_cases hc:(0≤a0∧a0 < 256)∧(0≤a1∧a1 < 256)∧(∀ a ∈ l2,WfL a)∧l2.length≤1048576
 case neg=>rw [if_neg hc] at h;cases h
 rw [if_pos hc] at h
 obtain rfl:=Option.some.inj h
 clear h
 obtain ⟨ha0,ha1,hwl,hl⟩:=hc
 have HR1:=Lib.hid hr2
 have HWL:=Lib.hid hwl
 have HE:=Lib.hid hE
 obtain ⟨k0,hk0⟩:=Ev.rounds (Origin_ev a0 ha0.1)
 obtain ⟨x,hx⟩:∃ x,strOfNums (nameL [a0 % 6]) = x:=⟨_,rfl⟩
 have hxs:x.size≤1000:=by rw [← hx,str_size];have:=nameL_len [a0 % 6];omega
 rw [hx] at hk0
 have HK0:=Lib.hid hk0
 clear hr2 hwl hk0 hx hE
 go_enter Tryd.func4,Tryd.ntmps4
 go_wp2_with fail
 refine (bolterlaw09_awake.calls 0 true w rfl).mono ?_
 rintro e w1 ⟨rfl,hb⟩
 have HB1:=Lib.hid hb
 clear hb
 go_wp2_with fail
 with_reducible refine (bolterlaw09_Origin.calls k0 a0 x w1 HK0.out).mono ?_
 rintro e w2 ⟨rfl,hb⟩
 have HB2:=Lib.hid (HB1.out.trans (hb.mono HB1.out.size))
 clear hb HB1
 go_wp2_with fail
 have key:=under_ x hxs A2 c2 l2 30 true w2 (Kd.C_below HR1.out HB2.out) hc2 hl (by decide) HWL.out
 rw [show ((30:Nat):Int) = 30 from rfl] at key
 with_reducible refine key.mono ?_
 clear key
 rintro e w9 ⟨v8,rfl,hR,hb⟩
 have hrl:=underL_len x l2 30 true
 have hsz:=und_sz x hxs l2 30 true
 obtain ⟨L,hrs⟩:∃ L,underL x l2 30 true = L:=⟨_,rfl⟩
 rw [hrs] at hR hrl hsz
 obtain ⟨A9,c9,rfl,hc9,hC⟩:=Kd.R_reads hR
 have HO9:=Lib.hid (R_less2 hR HB2.out.size)
 have HC9:=Lib.hid hC
 have HB9:=Lib.hid (HB2.out.trans (hb.mono HB2.out.size))
 have HSZ:=Lib.hid hsz
 have HTL:Hid (L.length≤30):=Lib.hid (by omega)
 clear hR hC hb HB2 hrs hsz hrl
 by_cases hp:0 < l2.length
 rotate_left
 focus
  have dp:decide (0 < l2.length) = false:=decide_eq_false hp
  have dp2:decide ((l2.length:Int) > 0) = false:=decide_eq_false (by omega)
  have dp3:decide (0 < (l2.length:Int)) = false:=decide_eq_false (by omega)
  clear hp HO9
  go_upto_region 7 with fail
  clear dp dp2 dp3
 rotate_left
 focus
  have dp:decide (0 < l2.length) = true:=decide_eq_true hp
  have dp2:decide ((l2.length:Int) > 0) = true:=decide_eq_true (by omega)
  have dp3:decide (0 < (l2.length:Int)) = true:=decide_eq_true (by omega)
  obtain ⟨a,ha⟩:∃ a,l2[0]? = some a:=⟨_,List.getElem?_eq_getElem hp⟩
  have e0:rd_T45 l2 0 = a:=rd_LA (i:=0) ha
  have hwa:=HWL.out a (List.mem_of_getElem? ha)
  have htm3:Int.tmod a.f2 3 = a.f2 % 3:=Int.tmod_eq_emod_of_nonneg hwa.2.2.1.1
  have htm6:Int.tmod a.f2 6 = a.f2 % 6:=Int.tmod_eq_emod_of_nonneg hwa.2.2.1.1
  obtain ⟨ad1,B0,d0,B3,d3,hA,q0,q1,q2,q3,q4,hd0,hC0,hd3,hC3⟩:=at_T45 (Kd.C_below HR1.out HB9.out) 0 (by omega) (by omega)
  subst hA
  have HA0:=Lib.hid e0
  rw [e0,show ((0:Int)).toNat * 5 = 0 from rfl,Addr.add_zero'] at q0 q1 q2 q3 q4
  have HTM:=Lib.hid htm6
  have HP1:=Lib.hid hp
  clear ha e0 hwa htm6 hC0 hC3 hd0 hd3
  by_cases hq:0 < a.f2 % 3
  rotate_left
  focus
   have dq:decide (a.f2 % 3 > 0) = false:=decide_eq_false (by omega)
   have dq2:decide (0 < a.f2 % 3) = false:=decide_eq_false hq
   clear hq HO9
   go_upto_region 7 with fail
   clear dp dp2 dp3 dq dq2 hp q0 q1 q2 q3 q4 htm3 HA0 HTM HP1
  rotate_left
  focus
   have dq:decide (a.f2 % 3 > 0) = true:=decide_eq_true (by omega)
   have dq2:decide (0 < a.f2 % 3) = true:=decide_eq_true hq
   clear hq
   go_upto_region 6 with fail
   clear dp dp2 dp3 dq dq2 q0 q1 q2 q3 q4 htm3
   obtain ⟨N0,hN0⟩:∃ n,n = w9.heap.size:=⟨_,rfl⟩
   have HV8:Hid (∀ k,(Value.slice A9 L.length c9).ownBlock = some k→k < N0):=Lib.hid (fun k hk=>by rw [hN0];exact Kd.R_lt HO9.out k hk)
   have HN0:=Lib.hid hN0.symm
   obtain ⟨kS,hkS⟩:=Ev.rounds (Soa_ev x (a.f2 % 6))
   obtain ⟨sd,hsd⟩:∃ sd,strOfNums (soaMake [] (a.f2 % 6) 10 3 40) = sd:=⟨_,rfl⟩
   have HSD:Hid (sR x (a.f2 % 6) = (⟨x,6,9,sd⟩:R)):=Lib.hid (by rw [← hsd];rfl)
   have HKS:Hid (bolterlaw09_Soa.f kS x (a.f2 % 6) = some (x,6,9,sd)):=Lib.hid (by rw [← hsd];exact hkS)
   clear hN0 hkS hsd
   refine start_ (n:=20) (ds:=([]:List Nat)) (S:=fun W=>Below w.heap.size w W∧N0≤W.heap.size) #[false,false,false,false,false,false,false,false,false,false,false,false,false,false,false,false,false,false,false,false] (by kernel_rfl) rfl rfl ⟨below_drew1 HB9.out,Nat.le_of_eq HN0.out.symm⟩ (fun hHeld=>?_)
   refine with_tabW spart_tab6 spart_bits6 (fun HT_ HW_=>?_)
   obtain ⟨w4,hw4⟩:∃ w4,w9.drew = w4:=⟨_,rfl⟩
   have HO8:=Lib.hid (Kd.R_below HO9.out (below_drew1 (Below.refl w9.heap.size w9)))
   rw [hw4] at hHeld HO8 ⊢
   clear hw4 HB9 HO9 HC9
   refine pure_ (i:=0) (N:=(some 31)) (v:=?_) (a':=?_) #[true,false,false,false,false,false,false,false,false,false,false,false,false,false,false,false,false,false,false,false] rfl rfl (any_of HT_.out (by kernel_rfl)) (fun _ _ _ h=>h) (Or.inl ⟨by rfl,?_⟩) ?_ ?_
   rotate_left
   ·intro w'
    go_simp
    with_reducible rfl
   rotate_left
   ·simp only [Act.put,List.setIfInBounds_toArray,List.set_cons_zero,List.set_cons_succ,i64_w,i32_w]
    rfl
   refine pure_ (i:=1) (N:=(some 32)) (v:=?_) (a':=?_) #[true,true,false,false,false,false,false,false,false,false,false,false,false,false,false,false,false,false,false,false] rfl rfl (any_of HT_.out (by kernel_rfl)) (fun _ _ _ h=>h) (Or.inl ⟨by rfl,?_⟩) ?_ ?_
   rotate_left
   ·intro w'
    go_simp
    with_reducible rfl
   rotate_left
   ·simp only [Act.put,List.setIfInBounds_toArray,List.set_cons_zero,List.set_cons_succ,i64_w,i32_w]
    rfl
   refine pure_ (i:=8) (N:=(some 39)) (v:=?_) (a':=?_) #[true,true,false,false,false,false,false,false,true,false,false,false,false,false,false,false,false,false,false,false] rfl rfl (any_of HT_.out (by kernel_rfl)) (fun _ _ _ h=>h) (Or.inl ⟨by rfl,?_⟩) ?_ ?_
   rotate_left
   ·intro w'
    go_simp
    with_reducible rfl
   rotate_left
   ·simp only [Act.put,List.setIfInBounds_toArray,List.set_cons_zero,List.set_cons_succ,i64_w,i32_w]
    rfl
   refine pure_ (i:=9) (N:=(some 40)) (v:=?_) (a':=?_) #[true,true,false,false,false,false,false,false,true,true,false,false,false,false,false,false,false,false,false,false] rfl rfl (any_of HT_.out (by kernel_rfl)) (fun _ _ _ h=>h) (Or.inl ⟨by rfl,?_⟩) ?_ ?_
   rotate_left
   ·intro w'
    go_simp
    with_reducible rfl
   rotate_left
   ·simp only [Act.put,List.setIfInBounds_toArray,List.set_cons_zero,List.set_cons_succ,i64_w,i32_w]
    rfl
   refine pure_ (i:=10) (N:=(some 41)) (v:=?_) (a':=?_) #[true,true,false,false,false,false,false,false,true,true,true,false,false,false,false,false,false,false,false,false] rfl rfl (any_of HT_.out (by kernel_rfl)) (fun _ _ _ h=>h) (Or.inl ⟨by rfl,?_⟩) ?_ ?_
   rotate_left
   ·intro w'
    go_simp
    with_reducible rfl
   rotate_left
   ·simp only [Act.put,List.setIfInBounds_toArray,List.set_cons_zero,List.set_cons_succ,i64_w,i32_w]
    rfl
   refine pure_ (i:=2) (N:=(some 33)) (v:=?_) (a':=?_) #[true,true,true,false,false,false,false,false,true,true,true,false,false,false,false,false,false,false,false,false] rfl rfl (any_of HT_.out (by kernel_rfl)) (fun _ _ _ h=>h) (Or.inl ⟨by rfl,?_⟩) ?_ ?_
   rotate_left
   ·intro w'
    go_simp
    with_reducible rfl
   rotate_left
   ·simp only [Act.put,List.setIfInBounds_toArray,List.set_cons_zero,List.set_cons_succ,i64_w,i32_w]
    rfl
   refine pure_ (i:=11) (N:=(some 42)) (v:=?_) (a':=?_) #[true,true,true,false,false,false,false,false,true,true,true,true,false,false,false,false,false,false,false,false] rfl rfl (any_of HT_.out (by kernel_rfl)) (fun _ _ _ h=>h) (Or.inl ⟨by rfl,?_⟩) ?_ ?_
   rotate_left
   ·intro w'
    go_simp
    with_reducible rfl
   rotate_left
   ·simp only [Act.put,List.setIfInBounds_toArray,List.set_cons_zero,List.set_cons_succ,i64_w,i32_w]
    rfl
   refine pure_ (i:=3) (N:=(some 34)) (v:=?_) (a':=?_) #[true,true,true,true,false,false,false,false,true,true,true,true,false,false,false,false,false,false,false,false] rfl rfl (any_of HT_.out (by kernel_rfl)) (fun _ _ _ h=>h) (Or.inl ⟨by rfl,?_⟩) ?_ ?_
   rotate_left
   ·intro w'
    go_simp
    with_reducible rfl
   rotate_left
   ·simp only [Act.put,List.setIfInBounds_toArray,List.set_cons_zero,List.set_cons_succ,i64_w,i32_w]
    rfl
   refine pure_ (i:=12) (N:=(some 43)) (v:=?_) (a':=?_) #[true,true,true,true,false,false,false,false,true,true,true,true,true,false,false,false,false,false,false,false] rfl rfl (any_of HT_.out (by kernel_rfl)) (fun _ _ _ h=>h) (Or.inl ⟨by rfl,?_⟩) ?_ ?_
   rotate_left
   ·intro w'
    go_simp
    with_reducible rfl
   rotate_left
   ·simp only [Act.put,List.setIfInBounds_toArray,List.set_cons_zero,List.set_cons_succ,i64_w,i32_w]
    rfl
   refine take_ (i:=4) (N:=(some 35)) (v:=?_) (a':=?_) #[true,true,true,true,true,false,false,false,true,true,true,true,true,false,false,false,false,false,false,false] rfl rfl (take_ofW HT_.out HW_.out (by kernel_rfl)) (fun _ _ _ h=>h) (Or.inl ⟨by rfl,?_⟩) hHeld ?_ ?_
   rotate_left
   ·intro w' hS
    obtain ⟨ad2,B0,d0,B3,d3,hA,q0,q1,q2,q3,q4,hd0,hC0,hd3,hC3⟩:=at_T45 (Kd.C_below HR1.out hS.1) 0 (by have:=HP1.out;omega) (by have:=HP1.out;omega)
    obtain rfl:ad1 = ad2:=by injection hA
    rw [HA0.out,show ((0:Int)).toNat * 5 = 0 from rfl,Addr.add_zero'] at q2
    go_simp
    with_reducible rfl
   rotate_left
   ·simp only [Act.put,List.setIfInBounds_toArray,List.set_cons_zero,List.set_cons_succ,i64_w,i32_w]
    rfl
   refine take_ (i:=13) (N:=(some 44)) (v:=?_) (a':=?_) #[true,true,true,true,true,false,false,false,true,true,true,true,true,true,false,false,false,false,false,false] rfl rfl (take_ofW HT_.out HW_.out (by kernel_rfl)) (fun _ _ _ h=>h) (Or.inl ⟨by rfl,?_⟩) hHeld ?_ ?_
   rotate_left
   ·intro w' hS
    obtain ⟨ad2,B0,d0,B3,d3,hA,q0,q1,q2,q3,q4,hd0,hC0,hd3,hC3⟩:=at_T45 (Kd.C_below HR1.out hS.1) 0 (by have:=HP1.out;omega) (by have:=HP1.out;omega)
    obtain rfl:ad1 = ad2:=by injection hA
    rw [HA0.out,show ((0:Int)).toNat * 5 = 0 from rfl,Addr.add_zero'] at q2
    go_simp
    with_reducible rfl
   rotate_left
   ·simp only [Act.put,List.setIfInBounds_toArray,List.set_cons_zero,List.set_cons_succ,i64_w,i32_w]
    rfl
   refine pure_ (i:=5) (N:=(some 36)) (v:=?_) (a':=?_) #[true,true,true,true,true,true,false,false,true,true,true,true,true,true,false,false,false,false,false,false] rfl rfl (any_of HT_.out (by kernel_rfl)) (fun _ _ _ h=>h) (Or.inl ⟨by rfl,?_⟩) ?_ ?_
   rotate_left
   ·intro w'
    go_simp
    try simp only [HTM.out]
    with_reducible rfl
   rotate_left
   ·simp only [Act.put,List.setIfInBounds_toArray,List.set_cons_zero,List.set_cons_succ,i64_w,i32_w]
    rfl
   refine pure_ (i:=14) (N:=(some 45)) (v:=?_) (a':=?_) #[true,true,true,true,true,true,false,false,true,true,true,true,true,true,true,false,false,false,false,false] rfl rfl (any_of HT_.out (by kernel_rfl)) (fun _ _ _ h=>h) (Or.inl ⟨by rfl,?_⟩) ?_ ?_
   rotate_left
   ·intro w'
    go_simp
    try simp only [HTM.out]
    with_reducible rfl
   rotate_left
   ·simp only [Act.put,List.setIfInBounds_toArray,List.set_cons_zero,List.set_cons_succ,i64_w,i32_w]
    rfl
   refine one_ (i:=6) (N:=(some 37)) #[true,true,true,true,true,true,true,false,true,true,true,true,true,true,true,false,false,false,false,false] rfl rfl (one_of HT_.out (by kernel_rfl)) (by decide) (fun K hK=>?_)
   refine goes_ Tryd.func10 (by kernel_rfl) rfl #[.string x,.int .u32 (a.f2 % 6)] (by rfl) rfl rfl (by (try simp only [List.map_toArray,List.map_cons,List.map_nil]);first|rfl|(simp only [HTM.out];rfl)) ?_
   with_reducible refine (bolterlaw09_Soa.calls kS x _ x 6 9 sd _ HKS.out).mono ?_
   rintro e wq ⟨rfl,hb⟩
   have HO8:=Lib.hid (Kd.R_below HO8.out hb)
   refine ⟨_,rfl,?_⟩
   refine hK.out _ _ ⟨hHeld.1.trans (hb.mono hHeld.1.size),Nat.le_trans hHeld.2 hb.size⟩ (fun hHeld=>?_)
   clear hb
   clear hK K
   refine norm_ (a':=?_) ?_ ?_
   rotate_left
   ·show Act.put _ (some 37) _ = _
    simp only [Act.put,List.setIfInBounds_toArray,List.set_cons_zero,List.set_cons_succ,i64_w,i32_w]
    rfl
   refine two_ (i:=7) (j:=15) (Ni:=(some 38)) (Nj:=(some 46)) #[true,true,true,true,true,true,true,true,true,true,true,true,true,true,true,false,false,false,false,false] #[true,true,true,true,true,true,true,false,true,true,true,true,true,true,true,true,false,false,false,false] rfl rfl rfl rfl (two_of HT_.out (by kernel_rfl)) (by decide) (by decide) (fun K hK=>?_) (fun K hK=>?_)
   focus
    refine Kd.R_lit_step k32 (w0:=w) w.heap.size 32 (by rfl) (N:=38) rfl (xs:=[(⟨x,6,9,sd⟩:R)]) (inner:=[.string x,.int .u16 6,.int .u32 9,.string sd]) (ok:=fun k=>N0≤k) (okp:=fun _=>False) ?hr ?hp (fun _ hk=>hk.elim) hHeld.2 hHeld.1 hHeld.1.size (by simp) ?_
    case hr=>first|(go_simp;done)|(go_simp;rfl)
    case hp=>exact Reps.c4 (k32_mkM _ _ _ (⟨x,6,9,sd⟩:R)) (Reps.none _ _)
    intro v38 wq hR hB hg hbq
    have HO8:=Lib.hid (Kd.R_grown HO8.out hg (fun k hk=>by simp))
    have HL38:=Lib.hid hR
    have hsz:=hg.size
    refine hK.out _ _ ⟨hB,Nat.le_trans hHeld.2 hsz⟩ (fun hHeld=>?_)
    clear hR hB hg hbq hsz
    clear hK K
    refine norm_ (a':=?_) ?_ ?_
    rotate_left
    ·show Act.put _ (some 38) _ = _
     simp only [Act.put,List.setIfInBounds_toArray,List.set_cons_zero,List.set_cons_succ,i64_w,i32_w]
     rfl
    refine one_ (i:=15) (N:=(some 46)) #[true,true,true,true,true,true,true,true,true,true,true,true,true,true,true,true,false,false,false,false] rfl rfl (one_of HT_.out (by kernel_rfl)) (by decide) (fun K hK=>?_)
    refine goes_ Tryd.func10 (by kernel_rfl) rfl #[.string x,.int .u32 (a.f2 % 6)] (by rfl) rfl rfl (by (try simp only [List.map_toArray,List.map_cons,List.map_nil]);first|rfl|(simp only [HTM.out];rfl)) ?_
    with_reducible refine (bolterlaw09_Soa.calls kS x _ x 6 9 sd _ HKS.out).mono ?_
    rintro e wq ⟨rfl,hb⟩
    have HO8:=Lib.hid (Kd.R_below HO8.out hb)
    have HL38:=Lib.hid (Kd.R_below HL38.out hb)
    refine ⟨_,rfl,?_⟩
    refine hK.out _ _ ⟨hHeld.1.trans (hb.mono hHeld.1.size),Nat.le_trans hHeld.2 hb.size⟩ (fun hHeld=>?_)
    clear hb
    clear hK K
    refine norm_ (a':=?_) ?_ ?_
    rotate_left
    ·show Act.put _ (some 46) _ = _
     simp only [Act.put,List.setIfInBounds_toArray,List.set_cons_zero,List.set_cons_succ,i64_w,i32_w]
     rfl
    refine one_ (i:=16) (N:=(some 47)) #[true,true,true,true,true,true,true,true,true,true,true,true,true,true,true,true,true,false,false,false] rfl rfl (one_of HT_.out (by kernel_rfl)) (by decide) (fun K hK=>?_)
    refine Kd.R_lit_step k32 (w0:=w) w.heap.size 32 (by rfl) (N:=47) rfl (xs:=[(⟨x,6,9,sd⟩:R)]) (inner:=[.string x,.int .u16 6,.int .u32 9,.string sd]) (ok:=fun k=>N0≤k) (okp:=fun _=>False) ?hr ?hp (fun _ hk=>hk.elim) hHeld.2 hHeld.1 hHeld.1.size (by simp) ?_
    case hr=>first|(go_simp;done)|(go_simp;rfl)
    case hp=>exact Reps.c4 (k32_mkM _ _ _ (⟨x,6,9,sd⟩:R)) (Reps.none _ _)
    intro v47 wq hR hB hg hbq
    have HO8:=Lib.hid (Kd.R_grown HO8.out hg (fun k hk=>by simp))
    have HL38:=Lib.hid (Kd.R_grown HL38.out hg (fun k hk=>by simp))
    have HL47:=Lib.hid hR
    have hsz:=hg.size
    refine hK.out _ _ ⟨hB,Nat.le_trans hHeld.2 hsz⟩ (fun hHeld=>?_)
    clear hR hB hg hbq hsz
    clear hK K
    refine norm_ (a':=?_) ?_ ?_
    rotate_left
    ·show Act.put _ (some 47) _ = _
     simp only [Act.put,List.setIfInBounds_toArray,List.set_cons_zero,List.set_cons_succ,i64_w,i32_w]
     rfl
    refine one_ (i:=17) (N:=(some 48)) #[true,true,true,true,true,true,true,true,true,true,true,true,true,true,true,true,true,true,false,false] rfl rfl (one_of HT_.out (by kernel_rfl)) (by decide) (fun K hK=>?_)
    obtain ⟨B7,d7,hv7,hd7,hC7⟩:=Kd.R_reads HL47.out
    subst hv7
    refine Kd.R_append_rows_step k32 (w0:=w) w.heap.size (by rfl) (.tmp 39) (.tmp 47) 26 32 (.agg #[(.string ⟨#[]⟩),(.int .u16 0),(.int .u32 0),(.string ⟨#[]⟩)]) 40 rfl Tryd.underlying26 info32 rfl (by decide) (by omega) (.slice A9 L.length c9) L [(⟨x,6,9,sd⟩:R)] _ _ _ (fun _=>True) (fun _=>False) rfl rfl HO8.out hC7 (fun _ _ h=>h) (fun _ h=>h.elim) (fun k hk=>trivial) hHeld.1 hHeld.1.size (by have hu:=HTL.out;exact Nat.le_trans (Nat.mul_le_mul_right 40 (show _≤100 by simp only [List.length_cons,List.length_nil];omega)) (by decide)) ?_
    intro v48 wq hR hB hg hat
    have HL38:=Lib.hid (Kd.R_grown HL38.out hg (fun k hk he=>by have:=HV8.out k he.symm;omega))
    have HO48:=Lib.hid hR
    have hsz:=hg.size
    refine hK.out _ _ ⟨hB,Nat.le_trans hHeld.2 hsz⟩ (fun hHeld=>?_)
    clear hR hB hg hat hsz hC7 HL47 HO8
    clear hK K
    refine norm_ (a':=?_) ?_ ?_
    rotate_left
    ·show Act.put _ (some 48) _ = _
     simp only [Act.put,List.setIfInBounds_toArray,List.set_cons_zero,List.set_cons_succ,i64_w,i32_w]
     rfl
    refine one_ (i:=18) (N:=(some 49)) #[true,true,true,true,true,true,true,true,true,true,true,true,true,true,true,true,true,true,true,false] rfl rfl (one_of HT_.out (by kernel_rfl)) (by decide) (fun K hK=>?_)
    obtain ⟨B8,d8,hv8,hd8,hC8⟩:=Kd.R_reads HO48.out
    subst hv8
    refine Kd.R_append_rows_step k32 (w0:=w) w.heap.size (by rfl) (.tmp 38) (.tmp 48) 26 32 (.agg #[(.string ⟨#[]⟩),(.int .u16 0),(.int .u32 0),(.string ⟨#[]⟩)]) 40 rfl Tryd.underlying26 info32 rfl (by decide) (by omega) v38 [(⟨x,6,9,sd⟩:R)] _ _ _ _ (fun k=>N0≤k) (fun _=>False) rfl rfl HL38.out hC8 (fun _ _ h=>h) (fun _ h=>h.elim) (fun k hk=>Nat.le_trans hHeld.2 hk) hHeld.1 hHeld.1.size (by have hu:=HTL.out;exact Nat.le_trans (Nat.mul_le_mul_right 40 (show _≤100 by simp only [List.length_append,List.length_cons,List.length_nil];omega)) (by decide)) ?_
    intro v49 wq hR hB hg hat
    have HO49:=Lib.hid hR
    have hsz:=hg.size
    refine hK.out _ _ ⟨hB,Nat.le_trans hHeld.2 hsz⟩ (fun hHeld=>?_)
    clear hR hB hg hat hsz hC8 HO48 HL38
    clear hK K
    refine norm_ (a':=?_) ?_ ?_
    rotate_left
    ·show Act.put _ (some 49) _ = _
     simp only [Act.put,List.setIfInBounds_toArray,List.set_cons_zero,List.set_cons_succ,i64_w,i32_w]
     rfl
    refine pure_ (i:=19) (N:=(some 8)) (v:=?_) (a':=?_) #[true,true,true,true,true,true,true,true,true,true,true,true,true,true,true,true,true,true,true,true] rfl rfl (any_of HT_.out (by kernel_rfl)) (fun _ _ _ h=>h) (Or.inl ⟨by rfl,?_⟩) ?_ ?_
    rotate_left
    ·intro w'
     go_simp
     with_reducible rfl
    rotate_left
    ·simp only [Act.put,List.setIfInBounds_toArray,List.set_cons_zero,List.set_cons_succ,i64_w,i32_w]
     rfl
    refine done_ (done_of HT_.out (by kernel_rfl)) ?_
   rotate_left
   focus
    refine goes_ Tryd.func10 (by kernel_rfl) rfl #[.string x,.int .u32 (a.f2 % 6)] (by rfl) rfl rfl (by (try simp only [List.map_toArray,List.map_cons,List.map_nil]);first|rfl|(simp only [HTM.out];rfl)) ?_
    with_reducible refine (bolterlaw09_Soa.calls kS x _ x 6 9 sd _ HKS.out).mono ?_
    rintro e wq ⟨rfl,hb⟩
    have HO8:=Lib.hid (Kd.R_below HO8.out hb)
    refine ⟨_,rfl,?_⟩
    refine hK.out _ _ ⟨hHeld.1.trans (hb.mono hHeld.1.size),Nat.le_trans hHeld.2 hb.size⟩ (fun hHeld=>?_)
    clear hb
    clear hK K
    refine norm_ (a':=?_) ?_ ?_
    rotate_left
    ·show Act.put _ (some 46) _ = _
     simp only [Act.put,List.setIfInBounds_toArray,List.set_cons_zero,List.set_cons_succ,i64_w,i32_w]
     rfl
    refine two_ (i:=7) (j:=16) (Ni:=(some 38)) (Nj:=(some 47)) #[true,true,true,true,true,true,true,true,true,true,true,true,true,true,true,true,false,false,false,false] #[true,true,true,true,true,true,true,false,true,true,true,true,true,true,true,true,true,false,false,false] rfl rfl rfl rfl (two_of HT_.out (by kernel_rfl)) (by decide) (by decide) (fun K hK=>?_) (fun K hK=>?_)
    focus
     refine Kd.R_lit_step k32 (w0:=w) w.heap.size 32 (by rfl) (N:=38) rfl (xs:=[(⟨x,6,9,sd⟩:R)]) (inner:=[.string x,.int .u16 6,.int .u32 9,.string sd]) (ok:=fun k=>N0≤k) (okp:=fun _=>False) ?hr ?hp (fun _ hk=>hk.elim) hHeld.2 hHeld.1 hHeld.1.size (by simp) ?_
     case hr=>first|(go_simp;done)|(go_simp;rfl)
     case hp=>exact Reps.c4 (k32_mkM _ _ _ (⟨x,6,9,sd⟩:R)) (Reps.none _ _)
     intro v38 wq hR hB hg hbq
     have HO8:=Lib.hid (Kd.R_grown HO8.out hg (fun k hk=>by simp))
     have HL38:=Lib.hid hR
     have hsz:=hg.size
     refine hK.out _ _ ⟨hB,Nat.le_trans hHeld.2 hsz⟩ (fun hHeld=>?_)
     clear hR hB hg hbq hsz
     clear hK K
     refine norm_ (a':=?_) ?_ ?_
     rotate_left
     ·show Act.put _ (some 38) _ = _
      simp only [Act.put,List.setIfInBounds_toArray,List.set_cons_zero,List.set_cons_succ,i64_w,i32_w]
      rfl
     refine one_ (i:=16) (N:=(some 47)) #[true,true,true,true,true,true,true,true,true,true,true,true,true,true,true,true,true,false,false,false] rfl rfl (one_of HT_.out (by kernel_rfl)) (by decide) (fun K hK=>?_)
     refine Kd.R_lit_step k32 (w0:=w) w.heap.size 32 (by rfl) (N:=47) rfl (xs:=[(⟨x,6,9,sd⟩:R)]) (inner:=[.string x,.int .u16 6,.int .u32 9,.string sd]) (ok:=fun k=>N0≤k) (okp:=fun _=>False) ?hr ?hp (fun _ hk=>hk.elim) hHeld.2 hHeld.1 hHeld.1.size (by simp) ?_
     case hr=>first|(go_simp;done)|(go_simp;rfl)
     case hp=>exact Reps.c4 (k32_mkM _ _ _ (⟨x,6,9,sd⟩:R)) (Reps.none _ _)
     intro v47 wq hR hB hg hbq
     have HO8:=Lib.hid (Kd.R_grown HO8.out hg (fun k hk=>by simp))
     have HL38:=Lib.hid (Kd.R_grown HL38.out hg (fun k hk=>by simp))
     have HL47:=Lib.hid hR
     have hsz:=hg.size
     refine hK.out _ _ ⟨hB,Nat.le_trans hHeld.2 hsz⟩ (fun hHeld=>?_)
     clear hR hB hg hbq hsz
     clear hK K
     refine norm_ (a':=?_) ?_ ?_
     rotate_left
     ·show Act.put _ (some 47) _ = _
      simp only [Act.put,List.setIfInBounds_toArray,List.set_cons_zero,List.set_cons_succ,i64_w,i32_w]
      rfl
     refine one_ (i:=17) (N:=(some 48)) #[true,true,true,true,true,true,true,true,true,true,true,true,true,true,true,true,true,true,false,false] rfl rfl (one_of HT_.out (by kernel_rfl)) (by decide) (fun K hK=>?_)
     obtain ⟨B7,d7,hv7,hd7,hC7⟩:=Kd.R_reads HL47.out
     subst hv7
     refine Kd.R_append_rows_step k32 (w0:=w) w.heap.size (by rfl) (.tmp 39) (.tmp 47) 26 32 (.agg #[(.string ⟨#[]⟩),(.int .u16 0),(.int .u32 0),(.string ⟨#[]⟩)]) 40 rfl Tryd.underlying26 info32 rfl (by decide) (by omega) (.slice A9 L.length c9) L [(⟨x,6,9,sd⟩:R)] _ _ _ (fun _=>True) (fun _=>False) rfl rfl HO8.out hC7 (fun _ _ h=>h) (fun _ h=>h.elim) (fun k hk=>trivial) hHeld.1 hHeld.1.size (by have hu:=HTL.out;exact Nat.le_trans (Nat.mul_le_mul_right 40 (show _≤100 by simp only [List.length_cons,List.length_nil];omega)) (by decide)) ?_
     intro v48 wq hR hB hg hat
     have HL38:=Lib.hid (Kd.R_grown HL38.out hg (fun k hk he=>by have:=HV8.out k he.symm;omega))
     have HO48:=Lib.hid hR
     have hsz:=hg.size
     refine hK.out _ _ ⟨hB,Nat.le_trans hHeld.2 hsz⟩ (fun hHeld=>?_)
     clear hR hB hg hat hsz hC7 HL47 HO8
     clear hK K
     refine norm_ (a':=?_) ?_ ?_
     rotate_left
     ·show Act.put _ (some 48) _ = _
      simp only [Act.put,List.setIfInBounds_toArray,List.set_cons_zero,List.set_cons_succ,i64_w,i32_w]
      rfl
     refine one_ (i:=18) (N:=(some 49)) #[true,true,true,true,true,true,true,true,true,true,true,true,true,true,true,true,true,true,true,false] rfl rfl (one_of HT_.out (by kernel_rfl)) (by decide) (fun K hK=>?_)
     obtain ⟨B8,d8,hv8,hd8,hC8⟩:=Kd.R_reads HO48.out
     subst hv8
     refine Kd.R_append_rows_step k32 (w0:=w) w.heap.size (by rfl) (.tmp 38) (.tmp 48) 26 32 (.agg #[(.string ⟨#[]⟩),(.int .u16 0),(.int .u32 0),(.string ⟨#[]⟩)]) 40 rfl Tryd.underlying26 info32 rfl (by decide) (by omega) v38 [(⟨x,6,9,sd⟩:R)] _ _ _ _ (fun k=>N0≤k) (fun _=>False) rfl rfl HL38.out hC8 (fun _ _ h=>h) (fun _ h=>h.elim) (fun k hk=>Nat.le_trans hHeld.2 hk) hHeld.1 hHeld.1.size (by have hu:=HTL.out;exact Nat.le_trans (Nat.mul_le_mul_right 40 (show _≤100 by simp only [List.length_append,List.length_cons,List.length_nil];omega)) (by decide)) ?_
     intro v49 wq hR hB hg hat
     have HO49:=Lib.hid hR
     have hsz:=hg.size
     refine hK.out _ _ ⟨hB,Nat.le_trans hHeld.2 hsz⟩ (fun hHeld=>?_)
     clear hR hB hg hat hsz hC8 HO48 HL38
     clear hK K
     refine norm_ (a':=?_) ?_ ?_
     rotate_left
     ·show Act.put _ (some 49) _ = _
      simp only [Act.put,List.setIfInBounds_toArray,List.set_cons_zero,List.set_cons_succ,i64_w,i32_w]
      rfl
     refine pure_ (i:=19) (N:=(some 8)) (v:=?_) (a':=?_) #[true,true,true,true,true,true,true,true,true,true,true,true,true,true,true,true,true,true,true,true] rfl rfl (any_of HT_.out (by kernel_rfl)) (fun _ _ _ h=>h) (Or.inl ⟨by rfl,?_⟩) ?_ ?_
     rotate_left
     ·intro w'
      go_simp
      with_reducible rfl
     rotate_left
     ·simp only [Act.put,List.setIfInBounds_toArray,List.set_cons_zero,List.set_cons_succ,i64_w,i32_w]
      rfl
     refine done_ (done_of HT_.out (by kernel_rfl)) ?_
    rotate_left
    focus
     refine Kd.R_lit_step k32 (w0:=w) w.heap.size 32 (by rfl) (N:=47) rfl (xs:=[(⟨x,6,9,sd⟩:R)]) (inner:=[.string x,.int .u16 6,.int .u32 9,.string sd]) (ok:=fun k=>N0≤k) (okp:=fun _=>False) ?hr ?hp (fun _ hk=>hk.elim) hHeld.2 hHeld.1 hHeld.1.size (by simp) ?_
     case hr=>first|(go_simp;done)|(go_simp;rfl)
     case hp=>exact Reps.c4 (k32_mkM _ _ _ (⟨x,6,9,sd⟩:R)) (Reps.none _ _)
     intro v47 wq hR hB hg hbq
     have HO8:=Lib.hid (Kd.R_grown HO8.out hg (fun k hk=>by simp))
     have HL47:=Lib.hid hR
     have hsz:=hg.size
     refine hK.out _ _ ⟨hB,Nat.le_trans hHeld.2 hsz⟩ (fun hHeld=>?_)
     clear hR hB hg hbq hsz
     clear hK K
     refine norm_ (a':=?_) ?_ ?_
     rotate_left
     ·show Act.put _ (some 47) _ = _
      simp only [Act.put,List.setIfInBounds_toArray,List.set_cons_zero,List.set_cons_succ,i64_w,i32_w]
      rfl
     refine two_ (i:=7) (j:=17) (Ni:=(some 38)) (Nj:=(some 48)) #[true,true,true,true,true,true,true,true,true,true,true,true,true,true,true,true,true,false,false,false] #[true,true,true,true,true,true,true,false,true,true,true,true,true,true,true,true,true,true,false,false] rfl rfl rfl rfl (two_of HT_.out (by kernel_rfl)) (by decide) (by decide) (fun K hK=>?_) (fun K hK=>?_)
     focus
      refine Kd.R_lit_step k32 (w0:=w) w.heap.size 32 (by rfl) (N:=38) rfl (xs:=[(⟨x,6,9,sd⟩:R)]) (inner:=[.string x,.int .u16 6,.int .u32 9,.string sd]) (ok:=fun k=>N0≤k) (okp:=fun _=>False) ?hr ?hp (fun _ hk=>hk.elim) hHeld.2 hHeld.1 hHeld.1.size (by simp) ?_
      case hr=>first|(go_simp;done)|(go_simp;rfl)
      case hp=>exact Reps.c4 (k32_mkM _ _ _ (⟨x,6,9,sd⟩:R)) (Reps.none _ _)
      intro v38 wq hR hB hg hbq
      have HO8:=Lib.hid (Kd.R_grown HO8.out hg (fun k hk=>by simp))
      have HL47:=Lib.hid (Kd.R_grown HL47.out hg (fun k hk=>by simp))
      have HL38:=Lib.hid hR
      have hsz:=hg.size
      refine hK.out _ _ ⟨hB,Nat.le_trans hHeld.2 hsz⟩ (fun hHeld=>?_)
      clear hR hB hg hbq hsz
      clear hK K
      refine norm_ (a':=?_) ?_ ?_
      rotate_left
      ·show Act.put _ (some 38) _ = _
       simp only [Act.put,List.setIfInBounds_toArray,List.set_cons_zero,List.set_cons_succ,i64_w,i32_w]
       rfl
      refine one_ (i:=17) (N:=(some 48)) #[true,true,true,true,true,true,true,true,true,true,true,true,true,true,true,true,true,true,false,false] rfl rfl (one_of HT_.out (by kernel_rfl)) (by decide) (fun K hK=>?_)
      obtain ⟨B7,d7,hv7,hd7,hC7⟩:=Kd.R_reads HL47.out
      subst hv7
      refine Kd.R_append_rows_step k32 (w0:=w) w.heap.size (by rfl) (.tmp 39) (.tmp 47) 26 32 (.agg #[(.string ⟨#[]⟩),(.int .u16 0),(.int .u32 0),(.string ⟨#[]⟩)]) 40 rfl Tryd.underlying26 info32 rfl (by decide) (by omega) (.slice A9 L.length c9) L [(⟨x,6,9,sd⟩:R)] _ _ _ (fun _=>True) (fun _=>False) rfl rfl HO8.out hC7 (fun _ _ h=>h) (fun _ h=>h.elim) (fun k hk=>trivial) hHeld.1 hHeld.1.size (by have hu:=HTL.out;exact Nat.le_trans (Nat.mul_le_mul_right 40 (show _≤100 by simp only [List.length_cons,List.length_nil];omega)) (by decide)) ?_
      intro v48 wq hR hB hg hat
      have HL38:=Lib.hid (Kd.R_grown HL38.out hg (fun k hk he=>by have:=HV8.out k he.symm;omega))
      have HO48:=Lib.hid hR
      have hsz:=hg.size
      refine hK.out _ _ ⟨hB,Nat.le_trans hHeld.2 hsz⟩ (fun hHeld=>?_)
      clear hR hB hg hat hsz hC7 HL47 HO8
      clear hK K
      refine norm_ (a':=?_) ?_ ?_
      rotate_left
      ·show Act.put _ (some 48) _ = _
       simp only [Act.put,List.setIfInBounds_toArray,List.set_cons_zero,List.set_cons_succ,i64_w,i32_w]
       rfl
      refine one_ (i:=18) (N:=(some 49)) #[true,true,true,true,true,true,true,true,true,true,true,true,true,true,true,true,true,true,true,false] rfl rfl (one_of HT_.out (by kernel_rfl)) (by decide) (fun K hK=>?_)
      obtain ⟨B8,d8,hv8,hd8,hC8⟩:=Kd.R_reads HO48.out
      subst hv8
      refine Kd.R_append_rows_step k32 (w0:=w) w.heap.size (by rfl) (.tmp 38) (.tmp 48) 26 32 (.agg #[(.string ⟨#[]⟩),(.int .u16 0),(.int .u32 0),(.string ⟨#[]⟩)]) 40 rfl Tryd.underlying26 info32 rfl (by decide) (by omega) v38 [(⟨x,6,9,sd⟩:R)] _ _ _ _ (fun k=>N0≤k) (fun _=>False) rfl rfl HL38.out hC8 (fun _ _ h=>h) (fun _ h=>h.elim) (fun k hk=>Nat.le_trans hHeld.2 hk) hHeld.1 hHeld.1.size (by have hu:=HTL.out;exact Nat.le_trans (Nat.mul_le_mul_right 40 (show _≤100 by simp only [List.length_append,List.length_cons,List.length_nil];omega)) (by decide)) ?_
      intro v49 wq hR hB hg hat
      have HO49:=Lib.hid hR
      have hsz:=hg.size
      refine hK.out _ _ ⟨hB,Nat.le_trans hHeld.2 hsz⟩ (fun hHeld=>?_)
      clear hR hB hg hat hsz hC8 HO48 HL38
      clear hK K
      refine norm_ (a':=?_) ?_ ?_
      rotate_left
      ·show Act.put _ (some 49) _ = _
       simp only [Act.put,List.setIfInBounds_toArray,List.set_cons_zero,List.set_cons_succ,i64_w,i32_w]
       rfl
      refine pure_ (i:=19) (N:=(some 8)) (v:=?_) (a':=?_) #[true,true,true,true,true,true,true,true,true,true,true,true,true,true,true,true,true,true,true,true] rfl rfl (any_of HT_.out (by kernel_rfl)) (fun _ _ _ h=>h) (Or.inl ⟨by rfl,?_⟩) ?_ ?_
      rotate_left
      ·intro w'
       go_simp
       with_reducible rfl
      rotate_left
      ·simp only [Act.put,List.setIfInBounds_toArray,List.set_cons_zero,List.set_cons_succ,i64_w,i32_w]
       rfl
      refine done_ (done_of HT_.out (by kernel_rfl)) ?_
     rotate_left
     focus
      obtain ⟨B7,d7,hv7,hd7,hC7⟩:=Kd.R_reads HL47.out
      subst hv7
      refine Kd.R_append_rows_step k32 (w0:=w) w.heap.size (by rfl) (.tmp 39) (.tmp 47) 26 32 (.agg #[(.string ⟨#[]⟩),(.int .u16 0),(.int .u32 0),(.string ⟨#[]⟩)]) 40 rfl Tryd.underlying26 info32 rfl (by decide) (by omega) (.slice A9 L.length c9) L [(⟨x,6,9,sd⟩:R)] _ _ _ (fun _=>True) (fun _=>False) rfl rfl HO8.out hC7 (fun _ _ h=>h) (fun _ h=>h.elim) (fun k hk=>trivial) hHeld.1 hHeld.1.size (by have hu:=HTL.out;exact Nat.le_trans (Nat.mul_le_mul_right 40 (show _≤100 by simp only [List.length_cons,List.length_nil];omega)) (by decide)) ?_
      intro v48 wq hR hB hg hat
      have HO48:=Lib.hid hR
      have hsz:=hg.size
      refine hK.out _ _ ⟨hB,Nat.le_trans hHeld.2 hsz⟩ (fun hHeld=>?_)
      clear hR hB hg hat hsz hC7 HL47 HO8
      clear hK K
      refine norm_ (a':=?_) ?_ ?_
      rotate_left
      ·show Act.put _ (some 48) _ = _
       simp only [Act.put,List.setIfInBounds_toArray,List.set_cons_zero,List.set_cons_succ,i64_w,i32_w]
       rfl
      refine one_ (i:=7) (N:=(some 38)) #[true,true,true,true,true,true,true,true,true,true,true,true,true,true,true,true,true,true,false,false] rfl rfl (one_of HT_.out (by kernel_rfl)) (by decide) (fun K hK=>?_)
      refine Kd.R_lit_step k32 (w0:=w) w.heap.size 32 (by rfl) (N:=38) rfl (xs:=[(⟨x,6,9,sd⟩:R)]) (inner:=[.string x,.int .u16 6,.int .u32 9,.string sd]) (ok:=fun k=>N0≤k) (okp:=fun _=>False) ?hr ?hp (fun _ hk=>hk.elim) hHeld.2 hHeld.1 hHeld.1.size (by simp) ?_
      case hr=>first|(go_simp;done)|(go_simp;rfl)
      case hp=>exact Reps.c4 (k32_mkM _ _ _ (⟨x,6,9,sd⟩:R)) (Reps.none _ _)
      intro v38 wq hR hB hg hbq
      have HO48:=Lib.hid (Kd.R_grown HO48.out hg (fun k hk=>by simp))
      have HL38:=Lib.hid hR
      have hsz:=hg.size
      refine hK.out _ _ ⟨hB,Nat.le_trans hHeld.2 hsz⟩ (fun hHeld=>?_)
      clear hR hB hg hbq hsz
      clear hK K
      refine norm_ (a':=?_) ?_ ?_
      rotate_left
      ·show Act.put _ (some 38) _ = _
       simp only [Act.put,List.setIfInBounds_toArray,List.set_cons_zero,List.set_cons_succ,i64_w,i32_w]
       rfl
      refine one_ (i:=18) (N:=(some 49)) #[true,true,true,true,true,true,true,true,true,true,true,true,true,true,true,true,true,true,true,false] rfl rfl (one_of HT_.out (by kernel_rfl)) (by decide) (fun K hK=>?_)
      obtain ⟨B8,d8,hv8,hd8,hC8⟩:=Kd.R_reads HO48.out
      subst hv8
      refine Kd.R_append_rows_step k32 (w0:=w) w.heap.size (by rfl) (.tmp 38) (.tmp 48) 26 32 (.agg #[(.string ⟨#[]⟩),(.int .u16 0),(.int .u32 0),(.string ⟨#[]⟩)]) 40 rfl Tryd.underlying26 info32 rfl (by decide) (by omega) v38 [(⟨x,6,9,sd⟩:R)] _ _ _ _ (fun k=>N0≤k) (fun _=>False) rfl rfl HL38.out hC8 (fun _ _ h=>h) (fun _ h=>h.elim) (fun k hk=>Nat.le_trans hHeld.2 hk) hHeld.1 hHeld.1.size (by have hu:=HTL.out;exact Nat.le_trans (Nat.mul_le_mul_right 40 (show _≤100 by simp only [List.length_append,List.length_cons,List.length_nil];omega)) (by decide)) ?_
      intro v49 wq hR hB hg hat
      have HO49:=Lib.hid hR
      have hsz:=hg.size
      refine hK.out _ _ ⟨hB,Nat.le_trans hHeld.2 hsz⟩ (fun hHeld=>?_)
      clear hR hB hg hat hsz hC8 HO48 HL38
      clear hK K
      refine norm_ (a':=?_) ?_ ?_
      rotate_left
      ·show Act.put _ (some 49) _ = _
       simp only [Act.put,List.setIfInBounds_toArray,List.set_cons_zero,List.set_cons_succ,i64_w,i32_w]
       rfl
      refine pure_ (i:=19) (N:=(some 8)) (v:=?_) (a':=?_) #[true,true,true,true,true,true,true,true,true,true,true,true,true,true,true,true,true,true,true,true] rfl rfl (any_of HT_.out (by kernel_rfl)) (fun _ _ _ h=>h) (Or.inl ⟨by rfl,?_⟩) ?_ ?_
      rotate_left
      ·intro w'
       go_simp
       with_reducible rfl
      rotate_left
      ·simp only [Act.put,List.setIfInBounds_toArray,List.set_cons_zero,List.set_cons_succ,i64_w,i32_w]
       rfl
      refine done_ (done_of HT_.out (by kernel_rfl)) ?_
   all_goals
    obtain ⟨w5,hw5⟩:∃ w5,wq = w5:=⟨_,rfl⟩
    obtain ⟨ts,hts⟩:∃ ts:List R,[(⟨x,6,9,sd⟩:R)] ++ (L ++ [(⟨x,6,9,sd⟩:R)]) = ts:=⟨_,rfl⟩
    have hR2:=HO49.out
    rw [hts] at hR2
    have htl:ts.length≤100:=by rw [← hts];simp only [List.length_append,List.length_cons,List.length_nil];have:=HTL.out;omega
    have htz:∀ y ∈ ts,Sz y:=by
     have h9:Sz (⟨x,6,9,sd⟩:R):=by rw [← HSD.out];exact sR_sz x _ hxs
     rw [← hts]
     intro y hy
     rcases List.mem_append.1 hy with hy|hy
     ·rw [List.mem_singleton.1 hy];exact h9
     rcases List.mem_append.1 hy with hy|hy
     ·exact HSZ.out y hy
     ·rw [List.mem_singleton.1 hy];exact h9
    obtain ⟨Az,cz,hvz,hcz,hCz⟩:=Kd.R_reads hR2
    subst hvz
    have HCz:=Lib.hid hCz
    have HBz:=Lib.hid hHeld.1
    clear HTL HSZ hc9 hR2 hts hCz HO49 hHeld HN0 HV8
    rw [hw5] at HCz HBz ⊢
    clear hw5
    have HTL:=Lib.hid htl
    have HSZ:=Lib.hid htz
    clear htl htz
    go_upto_region 7 with fail
    clear HA0 HP1 HTM HKS HSD
    revert HCz HBz HTL HSZ hcz
    generalize ts = L
    generalize Az = A9
    generalize cz = c9
    generalize w5 = w9
    intro hc9 HC9 HB9 HTL HSZ
 all_goals
  obtain ⟨b,hbR,hbM⟩:=right_tot x hxs L (by have:=HTL.out;omega) HSZ.out
  have hne:=right_ne hbR
  obtain ⟨_,hf⟩:=both_full x L (by have:=HTL.out;omega) b hbR hbM
  obtain ⟨kP,hkP⟩:=Ev.rounds (Part_ev x (a1 % 6) L (by have:=HTL.out;omega) HSZ.out b hbR hne hbM)
  have hform:=partL_form b (a1 % 6) L
  obtain ⟨q,hq⟩:∃ q,partL b (a1 % 6) L = q:=⟨_,rfl⟩
  rw [hq] at hkP hform
  have HQ:=Lib.hid hq
  have HKP:=Lib.hid hkP
  have HNE:=Lib.hid hne
  have HBM:=Lib.hid hbM
  have HFB:=Lib.hid hf
  clear hq hkP hne hbM hbR hf
  have ht6:Int.tmod a1 6 = a1 % 6:=Int.tmod_eq_emod_of_nonneg ha1.1
  have hcv:IntKind.u32.wrap (a1 % 6) = a1 % 6:=by rw [IntKind.wrap_u32];omega
  rcases hform with rfl|rfl|rfl|⟨a,ha,rfl⟩|⟨o,rfl⟩
  ·have hk:stream_Part.f kP x (a1 % 6) L = some (false,[],[],(some 4)):=HKP.out
   have HK:=Lib.hid hk
   clear hk HKP
   go_wp2_with fail
   refine (stream_Part.calls kP x (a1 % 6) A9 c9 L false [] [] (some 4) w9 HC9.out hc9 HK.out).mono ?_
   rintro e wB ⟨vB1,vB2,rfl,hRB,hSB,hb⟩
   obtain ⟨B1,d1,rfl,hd1,hC1⟩:=Kd.R_reads hRB
   obtain ⟨B2,d2,rfl,hd2,hC2⟩:=Kd.S_reads hSB
   have HBB:=Lib.hid (HB9.out.trans (hb.mono HB9.out.size))
   have HCB:=Lib.hid (Kd.C_below HC9.out hb)
   clear hC1 hC2 hb hRB hSB HB9 HC9 hd1 hd2
   obtain ⟨n1,hn1⟩:∃ n1,List.length ([]:List R) = n1:=⟨_,rfl⟩
   obtain ⟨n2,hn2⟩:∃ n2,List.length ([]:List DL) = n2:=⟨_,rfl⟩
   rw [hn1,hn2]
   have z1:((n1:Int) == 0) = true:=by rw [← hn1];rfl
   have z2:((n2:Int) == 0) = true:=by rw [← hn2];rfl
   clear hn1 hn2
   go_upto_region 8 with fail
   obtain ⟨gD,hgD⟩:∃ gD,wB.heap.size = gD:=⟨_,rfl⟩
   obtain ⟨wD,hwD⟩:∃ wD,wB.alloc (Obj.cells #[.bool false,.slice B1 n1 d1,.slice B2 n2 d2] 48) = wD:=⟨_,rfl⟩
   have hbD:=below_alloc (Below.refl wB.heap.size wB) (Obj.cells #[.bool false,.slice B1 n1 d1,.slice B2 n2 d2] 48)
   have hBK:wD.heap[gD]? = some (Obj.cells #[.bool false,.slice B1 n1 d1,.slice B2 n2 d2] 48 (0,0)):=by rw [← hwD,← hgD];exact blk_new wB _
   rw [hwD] at hbD ⊢
   rw [hgD]
   have HBD:=Lib.hid (HBB.out.trans (hbD.mono HBB.out.size))
   have HCD:=Lib.hid (Kd.C_below HCB.out hbD)
   have HBK:=Lib.hid hBK
   clear hbD hwD HBB HCB hgD hBK
   go_wp2_with fail
   refine (part_ x (a1 % 6) A9 c9 L wD HCD.out hc9 (by have:=HTL.out;omega) HSZ.out b HBM.out HFB.out HNE.out).mono ?_
   rintro e wE ⟨rfl,hb⟩
   have HBE:=Lib.hid (HBD.out.trans (hb.mono HBD.out.size))
   have HBKE:=Lib.hid (blk_below HBK.out hb)
   rw [HQ.out]
   clear hb HBD HCD HBK
   rw [show nOf (err 4) = (4,0) from rfl]
   go_wp2_with fail
   refine (Num.number_ 4 wE (HE.out.below HBE.out)).mono ?_
   rintro e wF ⟨rfl,hb⟩
   have HBF:=Lib.hid (HBE.out.trans (hb.mono HBE.out.size))
   have HBKF:=Lib.hid (blk_below HBKE.out hb)
   clear hb HBE HBKE
   have p0:=(blk_cell HBKF.out 0).trans rfl
   have p1:=(blk_cell HBKF.out 1).trans rfl
   have p2:=(blk_cell HBKF.out 2).trans rfl
   go_wp2
   go_ret
   exact ⟨rfl,HBF.out⟩
  ·have hk:stream_Part.f kP x (a1 % 6) L = some (false,[],[],(some 5)):=HKP.out
   have HK:=Lib.hid hk
   clear hk HKP
   go_wp2_with fail
   refine (stream_Part.calls kP x (a1 % 6) A9 c9 L false [] [] (some 5) w9 HC9.out hc9 HK.out).mono ?_
   rintro e wB ⟨vB1,vB2,rfl,hRB,hSB,hb⟩
   obtain ⟨B1,d1,rfl,hd1,hC1⟩:=Kd.R_reads hRB
   obtain ⟨B2,d2,rfl,hd2,hC2⟩:=Kd.S_reads hSB
   have HBB:=Lib.hid (HB9.out.trans (hb.mono HB9.out.size))
   have HCB:=Lib.hid (Kd.C_below HC9.out hb)
   clear hC1 hC2 hb hRB hSB HB9 HC9 hd1 hd2
   obtain ⟨n1,hn1⟩:∃ n1,List.length ([]:List R) = n1:=⟨_,rfl⟩
   obtain ⟨n2,hn2⟩:∃ n2,List.length ([]:List DL) = n2:=⟨_,rfl⟩
   rw [hn1,hn2]
   have z1:((n1:Int) == 0) = true:=by rw [← hn1];rfl
   have z2:((n2:Int) == 0) = true:=by rw [← hn2];rfl
   clear hn1 hn2
   go_upto_region 8 with fail
   obtain ⟨gD,hgD⟩:∃ gD,wB.heap.size = gD:=⟨_,rfl⟩
   obtain ⟨wD,hwD⟩:∃ wD,wB.alloc (Obj.cells #[.bool false,.slice B1 n1 d1,.slice B2 n2 d2] 48) = wD:=⟨_,rfl⟩
   have hbD:=below_alloc (Below.refl wB.heap.size wB) (Obj.cells #[.bool false,.slice B1 n1 d1,.slice B2 n2 d2] 48)
   have hBK:wD.heap[gD]? = some (Obj.cells #[.bool false,.slice B1 n1 d1,.slice B2 n2 d2] 48 (0,0)):=by rw [← hwD,← hgD];exact blk_new wB _
   rw [hwD] at hbD ⊢
   rw [hgD]
   have HBD:=Lib.hid (HBB.out.trans (hbD.mono HBB.out.size))
   have HCD:=Lib.hid (Kd.C_below HCB.out hbD)
   have HBK:=Lib.hid hBK
   clear hbD hwD HBB HCB hgD hBK
   go_wp2_with fail
   refine (part_ x (a1 % 6) A9 c9 L wD HCD.out hc9 (by have:=HTL.out;omega) HSZ.out b HBM.out HFB.out HNE.out).mono ?_
   rintro e wE ⟨rfl,hb⟩
   have HBE:=Lib.hid (HBD.out.trans (hb.mono HBD.out.size))
   have HBKE:=Lib.hid (blk_below HBK.out hb)
   rw [HQ.out]
   clear hb HBD HCD HBK
   rw [show nOf (err 5) = (5,0) from rfl]
   go_wp2_with fail
   refine (Num.number_ 5 wE (HE.out.below HBE.out)).mono ?_
   rintro e wF ⟨rfl,hb⟩
   have HBF:=Lib.hid (HBE.out.trans (hb.mono HBE.out.size))
   have HBKF:=Lib.hid (blk_below HBKE.out hb)
   clear hb HBE HBKE
   have p0:=(blk_cell HBKF.out 0).trans rfl
   have p1:=(blk_cell HBKF.out 1).trans rfl
   have p2:=(blk_cell HBKF.out 2).trans rfl
   go_wp2
   go_ret
   exact ⟨rfl,HBF.out⟩
  ·have hk:stream_Part.f kP x (a1 % 6) L = some (true,[],[],none):=HKP.out
   have HK:=Lib.hid hk
   clear hk HKP
   go_wp2_with fail
   refine (stream_Part.calls kP x (a1 % 6) A9 c9 L true [] [] none w9 HC9.out hc9 HK.out).mono ?_
   rintro e wB ⟨vB1,vB2,rfl,hRB,hSB,hb⟩
   obtain ⟨B1,d1,rfl,hd1,hC1⟩:=Kd.R_reads hRB
   obtain ⟨B2,d2,rfl,hd2,hC2⟩:=Kd.S_reads hSB
   have HBB:=Lib.hid (HB9.out.trans (hb.mono HB9.out.size))
   have HCB:=Lib.hid (Kd.C_below HC9.out hb)
   clear hC1 hC2 hb hRB hSB HB9 HC9 hd1 hd2
   obtain ⟨n1,hn1⟩:∃ n1,List.length ([]:List R) = n1:=⟨_,rfl⟩
   obtain ⟨n2,hn2⟩:∃ n2,List.length ([]:List DL) = n2:=⟨_,rfl⟩
   rw [hn1,hn2]
   have z1:decide ((n1:Int) > 0) = false:=by rw [← hn1];rfl
   have z3:decide (0 < (n1:Int)) = false:=by rw [← hn1];rfl
   have z4:decide (0 < n1) = false:=by rw [← hn1];rfl
   have z2:((n2:Int) == 0) = true:=by rw [← hn2];rfl
   clear hn1 hn2
   go_upto_region 8 with fail
   obtain ⟨gD,hgD⟩:∃ gD,wB.heap.size = gD:=⟨_,rfl⟩
   obtain ⟨wD,hwD⟩:∃ wD,wB.alloc (Obj.cells #[.bool true,.slice B1 n1 d1,.slice B2 n2 d2] 48) = wD:=⟨_,rfl⟩
   have hbD:=below_alloc (Below.refl wB.heap.size wB) (Obj.cells #[.bool true,.slice B1 n1 d1,.slice B2 n2 d2] 48)
   have hBK:wD.heap[gD]? = some (Obj.cells #[.bool true,.slice B1 n1 d1,.slice B2 n2 d2] 48 (0,0)):=by rw [← hwD,← hgD];exact blk_new wB _
   rw [hwD] at hbD ⊢
   rw [hgD]
   have HBD:=Lib.hid (HBB.out.trans (hbD.mono HBB.out.size))
   have HCD:=Lib.hid (Kd.C_below HCB.out hbD)
   have HBK:=Lib.hid hBK
   clear hbD hwD HBB HCB hgD hBK
   go_wp2_with fail
   refine (part_ x (a1 % 6) A9 c9 L wD HCD.out hc9 (by have:=HTL.out;omega) HSZ.out b HBM.out HFB.out HNE.out).mono ?_
   rintro e wE ⟨rfl,hb⟩
   have HBE:=Lib.hid (HBD.out.trans (hb.mono HBD.out.size))
   have HBKE:=Lib.hid (blk_below HBK.out hb)
   rw [HQ.out]
   clear hb HBD HCD HBK
   rw [show nOf ((true,[],[],none):Res) = (0, -2) from rfl]
   have p0:=(blk_cell HBKE.out 0).trans rfl
   have p1:=(blk_cell HBKE.out 1).trans rfl
   have p2:=(blk_cell HBKE.out 2).trans rfl
   go_wp2
   go_ret
   exact ⟨rfl,HBE.out⟩
  ·have HAN:=Lib.hid ha
   clear ha
   have hk:stream_Part.f kP x (a1 % 6) L = some (false,a,[],none):=HKP.out
   have HK:=Lib.hid hk
   clear hk HKP
   go_wp2_with fail
   refine (stream_Part.calls kP x (a1 % 6) A9 c9 L false a [] none w9 HC9.out hc9 HK.out).mono ?_
   rintro e wB ⟨vB1,vB2,rfl,hRB,hSB,hb⟩
   obtain ⟨B1,d1,rfl,hd1,hC1⟩:=Kd.R_reads hRB
   obtain ⟨B2,d2,rfl,hd2,hC2⟩:=Kd.S_reads hSB
   have HBB:=Lib.hid (HB9.out.trans (hb.mono HB9.out.size))
   have HCB:=Lib.hid (Kd.C_below HC9.out hb)
   clear hC1 hC2 hb hRB hSB HB9 HC9 hd1 hd2
   obtain ⟨n1,hn1⟩:∃ n1,List.length (a:List R) = n1:=⟨_,rfl⟩
   obtain ⟨n2,hn2⟩:∃ n2,List.length ([]:List DL) = n2:=⟨_,rfl⟩
   rw [hn1,hn2]
   have hz:0 < n1:=by
    rw [← hn1]
    cases a with
    | nil=>exact absurd rfl HAN.out
    | cons y l=>simp
   have z1:decide ((n1:Int) > 0) = true:=decide_eq_true (by omega)
   have z3:decide (0 < (n1:Int)) = true:=decide_eq_true (by omega)
   have z4:decide (0 < n1) = true:=decide_eq_true hz
   clear hz
   have z2:((n2:Int) == 0) = true:=by rw [← hn2];rfl
   clear hn1 hn2
   go_upto_region 8 with fail
   obtain ⟨gD,hgD⟩:∃ gD,wB.heap.size = gD:=⟨_,rfl⟩
   obtain ⟨wD,hwD⟩:∃ wD,wB.alloc (Obj.cells #[.bool false,.slice B1 n1 d1,.slice B2 n2 d2] 48) = wD:=⟨_,rfl⟩
   have hbD:=below_alloc (Below.refl wB.heap.size wB) (Obj.cells #[.bool false,.slice B1 n1 d1,.slice B2 n2 d2] 48)
   have hBK:wD.heap[gD]? = some (Obj.cells #[.bool false,.slice B1 n1 d1,.slice B2 n2 d2] 48 (0,0)):=by rw [← hwD,← hgD];exact blk_new wB _
   rw [hwD] at hbD ⊢
   rw [hgD]
   have HBD:=Lib.hid (HBB.out.trans (hbD.mono HBB.out.size))
   have HCD:=Lib.hid (Kd.C_below HCB.out hbD)
   have HBK:=Lib.hid hBK
   clear hbD hwD HBB HCB hgD hBK
   go_wp2_with fail
   refine (part_ x (a1 % 6) A9 c9 L wD HCD.out hc9 (by have:=HTL.out;omega) HSZ.out b HBM.out HFB.out HNE.out).mono ?_
   rintro e wE ⟨rfl,hb⟩
   have HBE:=Lib.hid (HBD.out.trans (hb.mono HBD.out.size))
   have HBKE:=Lib.hid (blk_below HBK.out hb)
   rw [HQ.out]
   clear hb HBD HCD HBK
   rw [show nOf ((false,a,[],none):Res) = (0, -1) from by unfold nOf;simp [HAN.out]]
   have p0:=(blk_cell HBKE.out 0).trans rfl
   have p1:=(blk_cell HBKE.out 1).trans rfl
   have p2:=(blk_cell HBKE.out 2).trans rfl
   go_wp2
   go_ret
   exact ⟨rfl,HBE.out⟩
  ·have hk:stream_Part.f kP x (a1 % 6) L = some (false,[],o,none):=HKP.out
   have HK:=Lib.hid hk
   clear hk HKP
   go_wp2_with fail
   refine (stream_Part.calls kP x (a1 % 6) A9 c9 L false [] o none w9 HC9.out hc9 HK.out).mono ?_
   rintro e wB ⟨vB1,vB2,rfl,hRB,hSB,hb⟩
   obtain ⟨B1,d1,rfl,hd1,hC1⟩:=Kd.R_reads hRB
   obtain ⟨B2,d2,rfl,hd2,hC2⟩:=Kd.S_reads hSB
   have HBB:=Lib.hid (HB9.out.trans (hb.mono HB9.out.size))
   have HCB:=Lib.hid (Kd.C_below HC9.out hb)
   clear hC1 hC2 hb hRB hSB HB9 HC9 hd1 hd2
   obtain ⟨n1,hn1⟩:∃ n1,List.length ([]:List R) = n1:=⟨_,rfl⟩
   obtain ⟨n2,hn2⟩:∃ n2,List.length (o:List DL) = n2:=⟨_,rfl⟩
   rw [hn1,hn2]
   have z1:decide ((n1:Int) > 0) = false:=by rw [← hn1];rfl
   have z3:decide (0 < (n1:Int)) = false:=by rw [← hn1];rfl
   have z4:decide (0 < n1) = false:=by rw [← hn1];rfl
   have z5:((n2:Int) == -2) = false:=beq_eq_false_iff_ne.2 (by omega)
   have z6:((n2:Int) == -1) = false:=beq_eq_false_iff_ne.2 (by omega)
   have z7:(if (0:Int) < (n2:Int) then (n2:Int) else 0) = (n2:Int):=by split <;> omega
   have z8:(if (n2:Int) < 0 then (0:Int) else (n2:Int)) = (n2:Int):=by split <;> omega
   have HN2:=Lib.hid hn2
   clear hn1 hn2
   go_upto_region 8 with fail
   obtain ⟨gD,hgD⟩:∃ gD,wB.heap.size = gD:=⟨_,rfl⟩
   obtain ⟨wD,hwD⟩:∃ wD,wB.alloc (Obj.cells #[.bool false,.slice B1 n1 d1,.slice B2 n2 d2] 48) = wD:=⟨_,rfl⟩
   have hbD:=below_alloc (Below.refl wB.heap.size wB) (Obj.cells #[.bool false,.slice B1 n1 d1,.slice B2 n2 d2] 48)
   have hBK:wD.heap[gD]? = some (Obj.cells #[.bool false,.slice B1 n1 d1,.slice B2 n2 d2] 48 (0,0)):=by rw [← hwD,← hgD];exact blk_new wB _
   rw [hwD] at hbD ⊢
   rw [hgD]
   have HBD:=Lib.hid (HBB.out.trans (hbD.mono HBB.out.size))
   have HCD:=Lib.hid (Kd.C_below HCB.out hbD)
   have HBK:=Lib.hid hBK
   clear hbD hwD HBB HCB hgD hBK
   go_wp2_with fail
   refine (part_ x (a1 % 6) A9 c9 L wD HCD.out hc9 (by have:=HTL.out;omega) HSZ.out b HBM.out HFB.out HNE.out).mono ?_
   rintro e wE ⟨rfl,hb⟩
   have HBE:=Lib.hid (HBD.out.trans (hb.mono HBD.out.size))
   have HBKE:=Lib.hid (blk_below HBK.out hb)
   rw [HQ.out]
   clear hb HBD HCD HBK
   rw [show nOf ((false,[],o,none):Res) = (0,(n2:Int)) from by rw [← HN2.out];rfl]
   have p0:=(blk_cell HBKE.out 0).trans rfl
   have p1:=(blk_cell HBKE.out 1).trans rfl
   have p2:=(blk_cell HBKE.out 2).trans rfl
   go_wp2
   all_goals go_ret
   all_goals exact ⟨by first|rfl|(obtain rfl:n2 = 0:=(by omega);rfl),HBE.out⟩
end Go.Proofs.YtlobjcokopfbkaaDoor.PY
