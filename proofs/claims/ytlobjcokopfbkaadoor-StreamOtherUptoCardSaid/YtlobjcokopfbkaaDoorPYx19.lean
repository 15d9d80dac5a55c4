/- part of a proof; what it has no use for was struck out -/
import Derived.Test.YtlobjcokopfbkaaDoorPYx18
import Derived.Test.YtlobjcokopfbkaaDoorStrP
namespace Go.Proofs.YtlobjcokopfbkaaDoor.PY
open Go.RowKit Go.Proofs.YtlobjcokopfbkaaDoorW Go.Proofs.YtlobjcokopfbkaaDoorW.PrintWords Go.Proofs.YtlobjcokopfbkaaDoorW.PrintLast Go.Proofs.YtlobjcokopfbkaaDoorW.PrintMore Go.Proofs.YtlobjcokopfbkaaDoor.Base Go.Proofs.YtlobjcokopfbkaaDoor.Nam Go.Proofs.YtlobjcokopfbkaaDoor.Soa Go.Proofs.YtlobjcokopfbkaaDoor.QY Go.Proofs.YtlobjcokopfbkaaDoor.Str
set_option linter.unusedVariables false
set_option linter.unusedSimpArgs false
set_option maxRecDepth 100000
attribute [local go_sem] errW_none errW_some max2_int min2_int max_two min_two
def sother_T4:Bool × List (List Nat × List Nat):=(true,[([],[]),([],[]),([0,1],[0,1]),([],[]),([],[]),([4],[4]),([5],[5]),([3,6],[3,6]),([2,7,2],[2,7]),([8,8,0,1,2,3,4,5,6,7,8],[8])])
def sother_B4:List Nat:=[0,0,3,0,0,16,48,120,255,511]
theorem sother_tab4:rtab .any (opsOf Tryd.f6 4) = sother_T4:=by kernel_rfl
theorem sother_bits4:waitsOk sother_T4.2 sother_B4 = true:=by kernel_rfl
theorem R_less_ {w:World} {b1 b2:Nat} {v:Value} {xs:List R} (h:Kd.R k32 32 w b1 (fun _=>True) v xs) (hb:b2≤b1):Kd.R k32 32 w b2 (fun _=>True) v xs:=by
 obtain ⟨h0,inner,⟨hl,ho⟩,hr⟩:=h
 refine ⟨h0,inner,⟨hl,?_⟩,hr⟩
 rcases ho with ho|⟨g,cap,cur,h1,h2,h3⟩
 ·exact Or.inl ho
 ·exact Or.inr ⟨g,cap,cur,h1,Nat.le_trans hb h2,h3⟩
open Classical in
noncomputable def bolterlaw09_StreamOther.f (a0:Int) (l1:List LA) (l2:List R):Option Bool:=if (0≤a0∧a0 < 256)∧(∀ a ∈ l1,WfL a)∧l1.length≤1048576∧(∀ a ∈ l2,Sz a) then some true else none
set_option maxHeartbeats 4000000 in
theorem bolterlaw09_StreamOther.calls (a0:Int) (A1:Option Addr) (c1:Nat) (l1:List LA) (A2:Option Addr) (c2:Nat) (l2:List R) (r:Bool) (w:World) (hr1:Kd.C k45 w A1 l1.length l1) (hc1:l1.length≤c1) (hr2:Kd.C k32 w A2 l2.length l2) (hc2:l2.length≤c2) (hE:Num.ErrT w) (h:bolterlaw09_StreamOther.f a0 l1 l2 = some r) :
  Calls Tryd.prog 6 #[.int .u8 a0,.slice A1 l1.length c1,.slice A2 l2.length c2] w fun e w'=>e = .returned (.bool r)∧Below w.heap.size w w':=by
 unfold bolterlaw09_StreamOther.f at h
 by_cases hc:(0≤a0∧a0 < 256)∧(∀ a ∈ l1,WfL a)∧l1.length≤1048576∧(∀ a ∈ l2,Sz a)
 case neg=>rw [if_neg hc] at h;cases h
 rw [if_pos hc] at h
 obtain rfl:=Option.some.inj h
 clear h
 obtain ⟨ha0,hwl,hl1,hz2⟩:=hc
 have HR1:=Lib.hid hr1
 have HR2:=Lib.hid hr2
 have HWL:=Lib.hid hwl
 have HZ2:=Lib.hid hz2
 have HE:=Lib.hid hE
 obtain ⟨k0,hk0⟩:=Ev.rounds (Origin_ev a0 ha0.1)
 obtain ⟨x,hx⟩:∃ x,strOfNums (nameL [a0 % 6]) = x:=⟨_,rfl⟩
 have hxs:x.size≤1000:=by rw [← hx,str_size];have:=nameL_len [a0 % 6];omega
 rw [hx] at hk0
 have HK0:=Lib.hid hk0
 obtain ⟨m,hm⟩:∃ m,min l2.length 10 = m:=⟨_,rfl⟩
 have hmn:(if (10:Int) < (l2.length:Int) then (10:Int) else (l2.length:Int)) = (m:Int):=by split <;> omega
 have HM:Hid (m≤l2.length∧m≤10):=Lib.hid (by omega)
 have htm:(l2.take m).length = m:=by rw [List.length_take];omega
 have hcut:∀ W,(Instr.slice 26 (.slice A2 l2.length c2) none (some (.int .i64 (m:Int))) none).run Tryd.prog W = .ok (.slice A2 m c2) W:=fun W=>cut_R A2 l2.length c2 m (by omega) (by omega) W
 have HUL:Hid ((underL x l1 10 true).length≤10):=Lib.hid (underL_len x l1 10 true)
 clear hr1 hr2 hwl hz2 hk0 hx hE hm
 go_enter Tryd.func6,Tryd.ntmps6
 go_wp2_with fail
 refine (bolterlaw09_awake.calls 0 true w rfl).mono ?_
 rintro e w1 ⟨rfl,hb⟩
 have HB1:=Lib.hid hb
 clear hb
 go_wp2_with fail
 with_reducible refine (bolterlaw09_Origin.calls k0 a0 x w1 HK0.out).mono ?_
 rintro e w2 ⟨rfl,hb⟩
 have HB2:=Lib.hid (HB1.out.trans (hb.mono HB1.out.size))
 clear hb HB1
 go_upto_region 4 with fail
 refine start_ (n:=10) (ds:=([]:List Nat)) (S:=fun W=>Below w.heap.size w W) #[false,false,false,false,false,false,false,false,false,false] (by kernel_rfl) rfl rfl (below_drew1 HB2.out) (fun hHeld=>?_)
 refine with_tabW sother_tab4 sother_bits4 (fun HT_ HW_=>?_)
 obtain ⟨w3,hw3⟩:∃ w3,w2.drew = w3:=⟨_,rfl⟩
 rw [hw3] at hHeld ⊢
 clear hw3 HB2
 refine pure_ (i:=0) (N:=(some 17)) (v:=?_) (a':=?_) #[true,false,false,false,false,false,false,false,false,false] rfl rfl (any_of HT_.out (by kernel_rfl)) (fun _ _ _ h=>h) (Or.inl ⟨by rfl,?_⟩) ?_ ?_
 rotate_left
 ·intro w'
  go_simp
  with_reducible rfl
 rotate_left
 ·simp only [Act.put,List.setIfInBounds_toArray,List.set_cons_zero,List.set_cons_succ,i64_w,i32_w]
  rfl
 refine pure_ (i:=1) (N:=(some 18)) (v:=?_) (a':=?_) #[true,true,false,false,false,false,false,false,false,false] rfl rfl (any_of HT_.out (by kernel_rfl)) (fun _ _ _ h=>h) (Or.inl ⟨by rfl,?_⟩) ?_ ?_
 rotate_left
 ·intro w'
  go_simp
  with_reducible rfl
 rotate_left
 ·simp only [Act.put,List.setIfInBounds_toArray,List.set_cons_zero,List.set_cons_succ,i64_w,i32_w]
  rfl
 refine pure_ (i:=3) (N:=(some 20)) (v:=?_) (a':=?_) #[true,true,false,true,false,false,false,false,false,false] rfl rfl (any_of HT_.out (by kernel_rfl)) (fun _ _ _ h=>h) (Or.inl ⟨by rfl,?_⟩) ?_ ?_
 rotate_left
 ·intro w'
  go_simp
  with_reducible rfl
 rotate_left
 ·simp only [Act.put,List.setIfInBounds_toArray,List.set_cons_zero,List.set_cons_succ,i64_w,i32_w]
  rfl
 refine pure_ (i:=4) (N:=(some 21)) (v:=?_) (a':=?_) #[true,true,false,true,true,false,false,false,false,false] rfl rfl (any_of HT_.out (by kernel_rfl)) (fun _ _ _ h=>h) (Or.inl ⟨by rfl,?_⟩) ?_ ?_
 rotate_left
 ·intro w'
  go_simp
  with_reducible rfl
 rotate_left
 ·simp only [Act.put,List.setIfInBounds_toArray,List.set_cons_zero,List.set_cons_succ,i64_w,i32_w]
  rfl
 refine pure_ (i:=5) (N:=(some 22)) (v:=?_) (a':=?_) #[true,true,false,true,true,true,false,false,false,false] rfl rfl (any_of HT_.out (by kernel_rfl)) (fun _ _ _ h=>h) (Or.inl ⟨by rfl,?_⟩) ?_ ?_
 rotate_left
 ·intro w'
  go_simp
  with_reducible rfl
 rotate_left
 ·simp only [Act.put,List.setIfInBounds_toArray,List.set_cons_zero,List.set_cons_succ,i64_w,i32_w]
  rfl
 refine pure_ (i:=6) (N:=(some 23)) (v:=?_) (a':=?_) #[true,true,false,true,true,true,true,false,false,false] rfl rfl (any_of HT_.out (by kernel_rfl)) (fun _ _ _ h=>h) (Or.inl ⟨by rfl,?_⟩) ?_ ?_
 rotate_left
 ·intro w'
  go_simp
  try simp only [hmn]
  with_reducible rfl
 rotate_left
 ·simp only [Act.put,List.setIfInBounds_toArray,List.set_cons_zero,List.set_cons_succ,i64_w,i32_w]
  rfl
 refine pure_ (i:=7) (N:=(some 24)) (v:=?_) (a':=?_) #[true,true,false,true,true,true,true,true,false,false] rfl rfl (any_of HT_.out (by kernel_rfl)) (fun _ _ _ h=>h) (Or.inl ⟨by rfl,?_⟩) ?_ ?_
 rotate_left
 ·intro w'
  go_simp
  try simp only [hcut]
  with_reducible rfl
 rotate_left
 ·simp only [Act.put,List.setIfInBounds_toArray,List.set_cons_zero,List.set_cons_succ,i64_w,i32_w]
  rfl
 refine one_ (i:=2) (N:=(some 19)) #[true,true,true,true,true,true,true,true,false,false] rfl rfl (one_of HT_.out (by kernel_rfl)) (by decide) (fun K hK=>?_)
 refine goes_ Tryd.func9 (by kernel_rfl) rfl #[.string x,.slice A1 l1.length c1,.int .i64 10,.bool true] (by rfl) rfl rfl (by (try simp only [List.map_toArray,List.map_cons,List.map_nil]);rfl) ?_
 have key:=under_ x hxs A1 c1 l1 10 true w3 (Kd.C_below HR1.out hHeld) hc1 hl1 (by decide) HWL.out
 rw [show ((10:Nat):Int) = 10 from rfl] at key
 with_reducible refine key.mono ?_
 clear key
 rintro e w4 ⟨v19,rfl,hR,hb⟩
 have HO4:=Lib.hid (R_less_ hR hHeld.size)
 refine ⟨_,rfl,?_⟩
 refine hK.out _ _ (hHeld.trans (hb.mono hHeld.size)) (fun hHeld=>?_)
 clear hR hb
 clear hK K
 refine norm_ (a':=?_) ?_ ?_
 rotate_left
 ·show Act.put _ (some 19) _ = _
  simp only [Act.put,List.setIfInBounds_toArray,List.set_cons_zero,List.set_cons_succ,i64_w,i32_w]
  rfl
 refine one_ (i:=8) (N:=(some 25)) #[true,true,true,true,true,true,true,true,true,false] rfl rfl (one_of HT_.out (by kernel_rfl)) (by decide) (fun K hK=>?_)
 refine Kd.R_append_rows_step k32 (w0:=w) w.heap.size (by rfl) (.tmp 19) (.tmp 24) 26 32 (.agg #[(.string ⟨#[]⟩),(.int .u16 0),(.int .u32 0),(.string ⟨#[]⟩)]) 40 rfl Tryd.underlying26 info32 rfl (by decide) (by omega) v19 _ (l2.take m) _ _ _ (fun _=>True) (fun _=>False) rfl rfl HO4.out (by have h:=Kd.C_take (Kd.C_below HR2.out hHeld) HM.out.1;rw [htm] at h;exact h) (fun _ _ h=>h) (fun _ h=>h.elim) (fun k hk=>trivial) hHeld hHeld.size (by have hu:=HUL.out;exact Nat.le_trans (Nat.mul_le_mul_right 40 (show _≤100 by have:=HM.out;omega)) (by decide)) ?_
 intro v8 w5 hR hB hg hat
 have HO5:=Lib.hid hR
 clear hR hg hat HO4
 refine hK.out _ _ hB (fun hHeld=>?_)
 clear hB
 clear hK K
 refine norm_ (a':=?_) ?_ ?_
 rotate_left
 ·show Act.put _ (some 25) _ = _
  simp only [Act.put,List.setIfInBounds_toArray,List.set_cons_zero,List.set_cons_succ,i64_w,i32_w]
  rfl
 refine pure_ (i:=9) (N:=(some 8)) (v:=?_) (a':=?_) #[true,true,true,true,true,true,true,true,true,true] rfl rfl (any_of HT_.out (by kernel_rfl)) (fun _ _ _ h=>h) (Or.inl ⟨by rfl,?_⟩) ?_ ?_
 rotate_left
 ·intro w'
  go_simp
  with_reducible rfl
 rotate_left
 ·simp only [Act.put,List.setIfInBounds_toArray,List.set_cons_zero,List.set_cons_succ,i64_w,i32_w]
  rfl
 refine done_ (done_of HT_.out (by kernel_rfl)) ?_
 obtain ⟨A8,c8,hv8,hc8,hC8⟩:=Kd.R_reads HO5.out
 subst hv8
 have HC8:=Lib.hid hC8
 have HB5:=Lib.hid hHeld
 obtain ⟨rs,hrs⟩:∃ rs,underL x l1 10 true ++ l2.take m = rs:=⟨_,rfl⟩
 have hrl:rs.length≤20:=by rw [← hrs,List.length_append,htm];have:=HUL.out;have:=HM.out;omega
 have hsz:∀ y ∈ rs,Sz y:=by
  rw [← hrs]
  intro y hy
  rcases List.mem_append.1 hy with hy|hy
  ·exact und_sz x hxs l1 10 true y hy
  ·exact HZ2.out y (List.mem_of_mem_take hy)
 rw [hrs] at hc8 HC8
 try rw [hrs]
 obtain ⟨b,hbR,hbM⟩:=right_tot x hxs rs (by omega) hsz
 have hne:b = true→rs≠[]:=fun hb0 hn=>by
  obtain ⟨K,g⟩:=hbR
  have e:=g (K + 1) (by omega)
  subst hn
  subst hb0
  revert e
  show stream_right.f (K + 1) x [] = some true→False
  unfold stream_right.f
  simp only [stream_right.l0]
  intro e
  cases e
 obtain ⟨hF,_⟩:=both_full x rs (by omega) b hbR hbM
 have hP:=Part_ev x 3 rs (by omega) hsz b hbR hne hbM
 obtain ⟨kF,hkF⟩:=Ev.rounds hF
 obtain ⟨kP,hkP⟩:=Ev.rounds hP
 obtain ⟨kM,hkM⟩:=Ev.rounds hbM
 obtain ⟨rF,hrF⟩:∃ q:List R × Option Int,(if fullB b rs = true then (rs.take (rs.length - 1),none) else ([],some 4)) = q:=⟨_,rfl⟩
 obtain ⟨rP,hrP⟩:∃ q:Res,partL b 3 rs = q:=⟨_,rfl⟩
 have hbF:b = false→rF.2 = some 4∧rP.2.2.2 = some 4:=fun hb0=>by
  subst hb0
  have h0:fullB false rs = false:=by unfold fullB;split <;> rfl
  rw [← hrF,← hrP,h0]
  exact ⟨rfl,rfl⟩
 have HBF:=Lib.hid hbF
 rw [hrF] at hkF
 rw [hrP] at hkP
 obtain ⟨f1,f2⟩:=rF
 obtain ⟨p1,p2,p3,p4⟩:=rP
 have HKF:Hid (stream_Full.f kF x rs = some (f1,f2)):=Lib.hid hkF
 have HKP:Hid (stream_Part.f kP x 3 rs = some (p1,p2,p3,p4)):=Lib.hid hkP
 have HKM:=Lib.hid hkM
 clear hbR hbM hF hP hkF hkP hkM hrF hrP hbF hne hrs hsz hC8 HO5 hHeld HUL HZ2 HR2 hcut hmn htm HM HR1 HWL hl1
 go_wp2_with fail
 refine (stream_Full.calls kF x A8 c8 rs f1 f2 w5 HC8.out (by omega) HKF.out).mono ?_
 rintro e wA ⟨vA,rfl,hRA,hb⟩
 have HBA:=Lib.hid (HB5.out.trans (hb.mono HB5.out.size))
 have HCA:=Lib.hid (Kd.C_below HC8.out hb)
 clear hb hRA HB5 HC8
 go_wp2_with fail
 refine (stream_Part.calls kP x 3 A8 c8 rs p1 p2 p3 p4 wA HCA.out (by omega) HKP.out).mono ?_
 rintro e wB ⟨vB1,vB2,rfl,hRB,hSB,hb⟩
 obtain ⟨B1,d1,rfl,hd1,hC1⟩:=Kd.R_reads hRB
 obtain ⟨B2,d2,rfl,hd2,hC2⟩:=Kd.S_reads hSB
 have HBB:=Lib.hid (HBA.out.trans (hb.mono HBA.out.size))
 have HCB:=Lib.hid (Kd.C_below HCA.out hb)
 clear hC1 hC2 hb hRB hSB HBA HCA
 go_upto_region 7 with fail
 obtain ⟨wD,hwD⟩:∃ wD,wB.alloc (Obj.cells #[.bool p1,.slice B1 p2.length d1,.slice B2 p3.length d2] 48) = wD:=⟨_,rfl⟩
 have hbD:=below_alloc (Below.refl wB.heap.size wB) (Obj.cells #[.bool p1,.slice B1 p2.length d1,.slice B2 p3.length d2] 48)
 rw [hwD] at hbD ⊢
 have HBD:=Lib.hid (HBB.out.trans (hbD.mono HBB.out.size))
 have HCD:=Lib.hid (Kd.C_below HCB.out hbD)
 clear hbD hwD HBB HCB
 go_wp2_with fail
 refine (bolterlaw09_may.calls kM x A8 c8 rs b wD HCD.out (by omega) HKM.out).mono ?_
 rintro e wM ⟨rfl,hb⟩
 have HBM:=Lib.hid (HBD.out.trans (hb.mono HBD.out.size))
 clear hb HBD HCD
 cases b with
 | true =>
  go_wp2
  go_ret
  exact ⟨rfl,HBM.out⟩
 | false =>
  obtain ⟨hf2,hp4⟩:=HBF.out rfl
  subst hf2
  subst hp4
  go_wp2_with fail
  refine (Num.number_ 4 wM (HE.out.below HBM.out)).mono ?_
  rintro e wN ⟨rfl,hb⟩
  have HBN:=Lib.hid (HBM.out.trans (hb.mono HBM.out.size))
  clear hb
  go_wp2_with fail
  refine (Num.number_ 4 wN (HE.out.below HBN.out)).mono ?_
  rintro e wO ⟨rfl,hb⟩
  have HBO:=Lib.hid (HBN.out.trans (hb.mono HBN.out.size))
  clear hb
  go_wp2
  go_ret
  exact ⟨rfl,HBO.out⟩
end Go.Proofs.YtlobjcokopfbkaaDoor.PY
