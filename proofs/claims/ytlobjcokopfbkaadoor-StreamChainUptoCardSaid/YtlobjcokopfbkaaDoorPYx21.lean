/- part of a proof; what it has no use for was struck out -/
import Derived.Test.YtlobjcokopfbkaaDoorChnP
import Derived.Test.YtlobjcokopfbkaaDoorNum
import Derived.Test.YtlobjcokopfbkaaDoorPYx15
namespace Go.Proofs.YtlobjcokopfbkaaDoor.PY
open Go.RowKit Go.Proofs.YtlobjcokopfbkaaDoorW Go.Proofs.YtlobjcokopfbkaaDoorW.PrintWords Go.Proofs.YtlobjcokopfbkaaDoorW.PrintLast Go.Proofs.YtlobjcokopfbkaaDoorW.PrintMore Go.Proofs.YtlobjcokopfbkaaDoor.Base Go.Proofs.YtlobjcokopfbkaaDoor.Nam Go.Proofs.YtlobjcokopfbkaaDoor.Soa Go.Proofs.YtlobjcokopfbkaaDoor.QY Go.Proofs.YtlobjcokopfbkaaDoor.Str
set_option linter.unusedVariables false
set_option linter.unusedSimpArgs false
set_option maxRecDepth 100000
attribute [local go_sem] errW_none errW_some max2_int min2_int max_two min_two
def schain_T15:Bool × List (List Nat × List Nat):=(true,[([],[]),([0],[0]),([],[]),([],[]),([],[]),([4],[4]),([3,5],[3,5]),([2,6],[2,6]),([1,7],[1,7]),([8,7],[8]),([9],[9]),([10,9],[9,10]),([9],[9]),([9],[9]),([9],[9]),([14,9],[9,14]),([13,15,9],[9,13,15]),([16,9],[9,16]),([12,17,9,9],[9,12,17]),([11,18,9],[9,11,18]),([9,19],[9,19]),([20,18],[20]),([21],[21]),([22,21],[21,22]),([21],[21]),([21],[21]),([21],[21]),([26,21],[21,26]),([25,27,21],[21,25,27]),([28,21],[21,28]),([24,29,21,21],[21,24,29]),([23,30,30,21],[21,23,30]),([31,21],[21,31]),([21,32],[21,32]),([33,31],[33]),([34],[34]),([35,34],[34,35]),([34],[34]),([34],[34]),([34],[34]),([39,34],[34,39]),([40,34],[34,40]),([38,41,34],[34,38,41]),([42,34],[34,42]),([37,43,34,34],[34,37,43]),([36,44,44,34],[34,36,44]),([45,34],[34,45]),([34,46],[34,46])])
def schain_B15:List Nat:=[0,1,0,0,0,16,56,124,255,511,1023,2047,1023,1023,1023,17407,58367,123903,259071,524287,1048575,2097151,4194303,8388607,4194303,4194303,4194303,71303167,239075327,507510783,1061158911,2147483647,4294967295,8589934591,17179869183,34359738367,68719476735,34359738367,34359738367,34359738367,584115552255,1683627180031,4157528342527,8555574853631,17489106829311,35184372088831,70368744177663,140737488355327]
theorem schain_tab15:rtab .any (opsOf Tryd.f5 15) = schain_T15:=by kernel_rfl
theorem schain_bits15:waitsOk schain_T15.2 schain_B15 = true:=by kernel_rfl
open Classical in
noncomputable def bolterlaw09_StreamChain.f (a0 a1:Int) (l2:List (List LA)):Option Bool:=if (0≤a0∧a0 < 256)∧(0≤a1∧a1 < 4294967296)∧(∀ p ∈ l2,(∀ a ∈ p,WfL a)∧p.length≤1048576)∧l2.length≤1048576 then some true else none
set_option maxHeartbeats 16000000 in
theorem bolterlaw09_StreamChain.calls (a0 a1:Int) (A2:Option Addr) (c2:Nat) (l2:List (List LA)) (r:Bool) (w:World) (hr2:Kd.C (Kd.slice 45 k45) w A2 l2.length l2) (hc2:l2.length≤c2) (hE:Num.ErrT w) (h:bolterlaw09_StreamChain.f a0 a1 l2 = some r) :
  Calls Tryd.prog 5 #[.int .u8 a0,.int .u32 a1,.slice A2 l2.length c2] w fun e w'=>e = .returned (.bool r)∧Below w.heap.size w w':=by
 unfold bolterlaw09_StreamChain.f at h
 by_cases hc:(0≤a0∧a0 < 256)∧(0≤a1∧a1 < 4294967296)∧(∀ p ∈ l2,(∀ a ∈ p,WfL a)∧p.length≤1048576)∧l2.length≤1048576
 case neg=>rw [if_neg hc] at h;cases h
 rw [if_pos hc] at h
 obtain rfl:=Option.some.inj h
 clear h
 obtain ⟨ha0,ha1,hwl,hl⟩:=hc
 have HR1:=Lib.hid hr2
 have HWL:=Lib.hid hwl
 have HE:=Lib.hid hE
 obtain ⟨k0,hk0⟩:=Ev.rounds (Origin_ev a0 ha0.1)
 obtain ⟨f2,hf2⟩:∃ f2,(a1 + 9) % 4294967296 = f2:=⟨_,rfl⟩
 have hw9:IntKind.u32.wrap (a1 + 9) = f2:=by rw [IntKind.wrap_u32];exact hf2
 have hne:a1≠f2:=by omega
 obtain ⟨kP,hkP⟩:=Ev.rounds (chain_ev [a0 % 6] a1 a1 l2)
 obtain ⟨kQ,hkQ⟩:=Ev.rounds (chain_ev [a0 % 6] a1 f2 l2)
 have hcp:=chain_part [a0 % 6] a1 ha1 l2
 have hco:=chain_other (strOfNums (nameL [a0 % 6])) a1 f2 ha1 hne l2
 have hcf:=fun f=>chain_full (strOfNums (nameL [a0 % 6])) a1 f l2
 obtain ⟨x,hx⟩:∃ x,strOfNums (nameL [a0 % 6]) = x:=⟨_,rfl⟩
 have hxs:x.size≤1000:=by rw [← hx,str_size];have:=nameL_len [a0 % 6];omega
 rw [hx] at hk0 hkP hkQ hcp hco
 simp only [hx] at hcf
 obtain ⟨n,hn⟩:∃ n,chN l2 = n:=⟨_,rfl⟩
 have hn':min (l2.length / 2) 4 = n:=hn
 have hn4:n≤4:=by omega
 obtain ⟨q,hq⟩:∃ q,l2.length / 2 = q:=⟨_,rfl⟩
 have hqn:min q 4 = n:=by omega
 have hmn:(if (4:Int) < (q:Int) then (4:Int) else (q:Int)) = (n:Int):=by split <;> omega
 have hdv:Int.tdiv (l2.length:Int) 2 = (q:Int):=by rw [← hq];rfl
 have hdv2:(l2.length:Int) / 2 = (q:Int):=by omega
 rw [hn] at hcp hco
 simp only [hn] at hcf
 obtain ⟨L,hL⟩:∃ L,chainL x a1 l2 = L:=⟨_,rfl⟩
 rw [hL] at hkP hkQ hcp hco
 simp only [hL] at hcf
 have HLL:=Lib.hid hL
 have HK0:=Lib.hid hk0
 have HQ:Hid (q = l2.length / 2∧min q 4 = n):=Lib.hid ⟨hq.symm,hqn⟩
 have HN4:=Lib.hid hn4
 obtain ⟨P2,P3,Q2,Q4,hP,hQ,hcs⟩:∃ (P2:List R) (P3:List DL) (Q2:List R) (Q4:Option Int),partL true a1 L = (false,P2,P3,none)∧partL true f2 L = (false,Q2,[],Q4)∧((n = 0∧P2.length = 1∧Q4 = none)∨(n≠0∧P3 = (List.range n).map (dlL x a1 l2)∧Q4 = some 5)):=by
  by_cases h0:n = 0
  ·exact ⟨_,_,_,_,hcf a1 h0,hcf f2 h0,.inl ⟨h0,rfl,rfl⟩⟩
  ·exact ⟨_,_,_,_,hcp h0,hco h0,.inr ⟨h0,rfl,rfl⟩⟩
 rw [hP] at hkP
 rw [hQ] at hkQ
 have HKP:=Lib.hid hkP
 have HKQ:=Lib.hid hkQ
 have HCS:=Lib.hid hcs
 have HW9:=Lib.hid hw9
 clear hr2 hwl hE hk0 hkP hkQ hcp hco hcf hP hQ hcs hn hn' hqn hx hf2 hne hL hq
 go_enter Tryd.func5,Tryd.ntmps5
 go_wp2_with fail
 refine (bolterlaw09_awake.calls 0 true w rfl).mono ?_
 rintro e w1 ⟨rfl,hb⟩
 have HB1:=Lib.hid hb
 clear hb
 go_wp2_with fail
 with_reducible refine (bolterlaw09_Origin.calls k0 a0 x w1 HK0.out).mono ?_
 rintro e w2 ⟨rfl,hb⟩
 have HB2:=Lib.hid (HB1.out.trans (hb.mono HB1.out.size))
 clear hb HB1
 go_wp2_with fail
 clear hmn hdv hdv2
 have key:=chain_ x hxs a1 ha1 A2 c2 l2 w2 (Kd.C_below HR1.out HB2.out) hc2 hl HWL.out
 with_reducible refine key.mono ?_
 clear key
 rintro e w9 ⟨v9,rfl,hR,hb⟩
 rw [HLL.out] at hR
 obtain ⟨A9,c9,rfl,hc9,hC⟩:=Kd.R_reads hR
 have HC9:=Lib.hid hC
 have HB9:=Lib.hid (HB2.out.trans (hb.mono HB2.out.size))
 clear hR hC hb HB2
 go_wp2_with fail
 refine (stream_Part.calls kP x a1 A9 c9 L false P2 P3 none w9 HC9.out hc9 HKP.out).mono ?_
 rintro e wB ⟨vB1,vB2,rfl,hRB,hSB,hb⟩
 obtain ⟨B1,d1,rfl,hd1,hC1⟩:=Kd.R_reads hRB
 obtain ⟨B2,d2,rfl,hd2,hC2⟩:=Kd.S_reads hSB
 have HBB:=Lib.hid (HB9.out.trans (hb.mono HB9.out.size))
 have HCB:=Lib.hid (Kd.C_below HC9.out hb)
 have HDB:=Lib.hid hC2
 have HD2:=Lib.hid hd2
 clear hC1 hC2 hb hRB hSB HB9 HC9 hd1 hd2 HKP
 obtain ⟨n1,hn1⟩:∃ n1,P2.length = n1:=⟨_,rfl⟩
 obtain ⟨n2,hn2⟩:∃ n2,P3.length = n2:=⟨_,rfl⟩
 rw [hn1,hn2]
 have HN12:Hid (P2.length = n1∧P3.length = n2):=Lib.hid ⟨hn1,hn2⟩
 clear hn1 hn2
 go_upto_region 7 with fail
 obtain ⟨gD,hgD⟩:∃ gD,wB.heap.size = gD:=⟨_,rfl⟩
 obtain ⟨wD,hwD⟩:∃ wD,wB.alloc (Obj.cells #[.bool false,.slice B1 n1 d1,.slice B2 n2 d2] 48) = wD:=⟨_,rfl⟩
 have hbD:=below_alloc (Below.refl wB.heap.size wB) (Obj.cells #[.bool false,.slice B1 n1 d1,.slice B2 n2 d2] 48)
 have hBK:wD.heap[gD]? = some (Obj.cells #[.bool false,.slice B1 n1 d1,.slice B2 n2 d2] 48 (0,0)):=by rw [← hwD,← hgD];exact blk_new wB _
 rw [hwD] at hbD ⊢
 rw [hgD]
 have HBD:=Lib.hid (HBB.out.trans (hbD.mono HBB.out.size))
 have HCD:=Lib.hid (Kd.C_below HCB.out hbD)
 have HDD:=Lib.hid (Kd.C_below HDB.out hbD)
 have HBK:=Lib.hid hBK
 clear hbD hwD HBB HCB hgD hBK HDB
 have hw9:=HW9.out
 go_wp2_with fail
 clear hw9
 refine (stream_Part.calls kQ x f2 A9 c9 L false Q2 [] Q4 wD HCD.out hc9 HKQ.out).mono ?_
 rintro e wE ⟨vE1,vE2,rfl,hRB,hSB,hb⟩
 obtain ⟨B3,d3,rfl,hd3,hC3⟩:=Kd.R_reads hRB
 obtain ⟨B4,d4,rfl,hd4,hC4⟩:=Kd.S_reads hSB
 have HBE:=Lib.hid (HBD.out.trans (hb.mono HBD.out.size))
 have HDE:=Lib.hid (Kd.C_below HDD.out hb)
 have HBKE:=Lib.hid (blk_below HBK.out hb)
 clear hC3 hC4 hb hRB hSB HBD HCD HDD HBK hd3 hd4 HKQ
 obtain ⟨n3,hn3⟩:∃ n3,Q2.length = n3:=⟨_,rfl⟩
 obtain ⟨n4,hn4⟩:∃ n4,([]:List DL).length = n4:=⟨_,rfl⟩
 rw [hn3,hn4]
 clear hn3 hn4
 go_upto_region 8 with fail
 obtain ⟨gF,hgF⟩:∃ gF,wE.heap.size = gF:=⟨_,rfl⟩
 obtain ⟨wF,hwF⟩:∃ wF,wE.alloc (Obj.cells #[.bool false,.slice B3 n3 d3,.slice B4 n4 d4] 48) = wF:=⟨_,rfl⟩
 have hbF:=below_alloc (Below.refl wE.heap.size wE) (Obj.cells #[.bool false,.slice B3 n3 d3,.slice B4 n4 d4] 48)
 rw [hwF] at hbF ⊢
 rw [hgF]
 have HBF:=Lib.hid (HBE.out.trans (hbF.mono HBE.out.size))
 have HDF:=Lib.hid (Kd.C_below HDE.out hbF)
 have HBKF:=Lib.hid (blk_below HBKE.out hbF)
 clear hbF hwF HBE HDE HBKE hgF
 rcases HCS.out with ⟨h0,hP1,hQ4⟩|⟨h0,hP3,hQ4⟩
 ·subst hQ4
  have z1:((n:Int) == 0) = true:=by rw [h0];rfl
  have z2:((n1:Int) == 1) = true:=by rw [← HN12.out.1,hP1];rfl
  clear h0 hP1
  have p0:=(blk_cell HBKF.out 0).trans rfl
  have p1:=(blk_cell HBKF.out 1).trans rfl
  have p2:=(blk_cell HBKF.out 2).trans rfl
  go_wp2
  go_ret
  exact ⟨rfl,HBF.out⟩
 ·subst hQ4
  have z1:((n:Int) == 0) = false:=beq_eq_false_iff_ne.2 (by omega)
  have hnn:n2 = n:=by rw [← HN12.out.2,hP3,List.length_map,List.length_range]
  subst hnn
  have HP3:=Lib.hid hP3
  have HN0:=Lib.hid h0
  clear h0 hP3
  go_wp2_with fail
  refine (Num.number_ 5 wF (HE.out.below HBF.out)).mono ?_
  rintro e wG ⟨rfl,hb⟩
  have HBG:=Lib.hid (HBF.out.trans (hb.mono HBF.out.size))
  have HDG:=Lib.hid (Kd.C_below HDF.out hb)
  have HBKG:=Lib.hid (blk_below HBKF.out hb)
  clear hb HBF HDF HBKF
  have p0:=(blk_cell HBKG.out 0).trans rfl
  have p1:=(blk_cell HBKG.out 1).trans rfl
  have p2:=(blk_cell HBKG.out 2).trans rfl
  have z3:((n2:Int) != (n2:Int)) = false:=by simp
  go_wp2_with fail
  clear p0 p1 p2 z1 z3
  go_loopw [74] (fun i wx=>∃ j:Nat,j≤n2∧i = .int .i64 j∧Aside0 (Below wG.heap.size wG wx))
   (fun i _=>n2 - (intOf i).toNat)
  case atStart=>exact ⟨0,Nat.zero_le _,rfl,⟨Below.refl wG.heap.size wG⟩⟩
  case round =>
   obtain ⟨j,hj,rfl,HB⟩:=hrel
   have HB4:=Lib.hid HB.out
   clear HB
   by_cases hlt:j < n2
   ·obtain ⟨p1,hp1⟩:∃ p,l2[2 * j]? = some p:=⟨_,List.getElem?_eq_getElem (by have:=HQ.out;omega)⟩
    obtain ⟨p2,hp2⟩:∃ p,l2[2 * j + 1]? = some p:=⟨_,List.getElem?_eq_getElem (by have:=HQ.out;omega)⟩
    have HWp1:=Lib.hid (HWL.out p1 (List.mem_of_getElem? hp1))
    have HWp2:=Lib.hid (HWL.out p2 (List.mem_of_getElem? hp2))
    obtain ⟨kA,hkA⟩:=Ev.rounds (Soa_ev x ((a1 + j) % 4294967296))
    obtain ⟨sA,hsA⟩:∃ z,strOfNums (soaMake [] ((a1 + j) % 4294967296) 10 3 40) = z:=⟨_,rfl⟩
    have hSA:sR x ((a1 + j) % 4294967296) = (⟨x,6,9,sA⟩:R):=by rw [← hsA];rfl
    have HKA:Hid (bolterlaw09_Soa.f kA x ((a1 + j) % 4294967296) = some (x,6,9,sA)):=Lib.hid (by rw [← hsA];exact hkA)
    obtain ⟨kB,hkB⟩:=Ev.rounds (Soa_ev x ((a1 + j + 1) % 4294967296))
    obtain ⟨sB,hsB⟩:∃ z,strOfNums (soaMake [] ((a1 + j + 1) % 4294967296) 10 3 40) = z:=⟨_,rfl⟩
    have hSB:sR x ((a1 + j + 1) % 4294967296) = (⟨x,6,9,sB⟩:R):=by rw [← hsB];rfl
    have HKB:Hid (bolterlaw09_Soa.f kB x ((a1 + j + 1) % 4294967296) = some (x,6,9,sB)):=Lib.hid (by rw [← hsB];exact hkB)
    obtain ⟨U1,hU1⟩:∃ U,underL x p1 5 false = U:=⟨_,rfl⟩
    obtain ⟨U2,hU2⟩:∃ U,underL x p2 5 false = U:=⟨_,rfl⟩
    have HU1:Hid (underL x p1 5 false = U1):=Lib.hid hU1
    have HU2:Hid (underL x p2 5 false = U2):=Lib.hid hU2
    have hrd:rd_T57 P3 (j:Int) = (⟨⟨x,6,9,sA⟩,⟨x,6,9,sB⟩,U1,U2⟩:DL):=by
     refine rd_D ?_
     rw [HP3.out,List.getElem?_map,List.getElem?_range hlt]
     show some (dlL x a1 l2 j) = _
     unfold dlL
     rw [hSA,hSB,List.getD_eq_getElem?_getD,hp1,List.getD_eq_getElem?_getD,hp2]
     rw [← hU1,← hU2]
     rfl
    obtain ⟨ad3,A5,c5,A6,c6,hA,q0,q1,q2,q3,q4,q5,q6,q7,q8,q9,hc5,hC5,hc6,hC6⟩:=at_T57 (Kd.C_below HDG.out HB4.out) (j:Int) (by omega) (by have:=HN12.out;omega)
    simp only [Int.toNat_natCast] at q0 q1 q2 q3 q4 q5 q6 q7 q8 q9
    rw [hrd] at q0 q1 q2 q3 q4 q5 q6 q7 q8 q9 hc5 hC5 hc6 hC6
    first|subst hA|obtain rfl:=Option.some.inj hA
    have HC5:=Lib.hid hC5
    have HC6:=Lib.hid hC6
    have HIp1:=Lib.hid hp1
    have HIp2:=Lib.hid hp2
    have HJ4:Hid (j≤4):=Lib.hid (by have:=HN4.out;omega)
    obtain ⟨m1,hm1⟩:∃ m,U1.length = m:=⟨_,rfl⟩
    obtain ⟨m2,hm2⟩:∃ m,U2.length = m:=⟨_,rfl⟩
    simp only [hm1,hm2] at q8 q9 HC5 HC6
    have HM12:Hid (U1.length = m1∧U2.length = m2):=Lib.hid ⟨hm1,hm2⟩
    have hc1L:Hid (m1≤1000000∧m1≤c5):=Lib.hid ⟨by have:=underL_len5 x p1;rw [hU1,hm1] at this;omega,by rw [← hm1];exact hc5⟩
    have hc2L:Hid (m2≤1000000∧m2≤c6):=Lib.hid ⟨by have:=underL_len5 x p2;rw [hU2,hm2] at this;omega,by rw [← hm2];exact hc6⟩
    clear hkA hsA hSA hkB hsB hSB hU1 hU2 hrd hp1 hp2 hC5 hC6 hc5 hc6 hm1 hm2
    go_upto_region 15 with fail
    obtain ⟨gX,hgX⟩:∃ g,wr.heap.size = g:=⟨_,rfl⟩
    obtain ⟨wX,hwX⟩:∃ wX,wr.alloc (Obj.cells #[.string x,.int .u16 6,.int .u32 9,.string sA,.string x,.int .u16 6,.int .u32 9,.string sB,.slice A5 m1 c5,.slice A6 m2 c6] 57) = wX:=⟨_,rfl⟩
    have hbX:=below_alloc (Below.refl wr.heap.size wr) (Obj.cells #[.string x,.int .u16 6,.int .u32 9,.string sA,.string x,.int .u16 6,.int .u32 9,.string sB,.slice A5 m1 c5,.slice A6 m2 c6] 57)
    have hBK:wX.heap[gX]? = some (Obj.cells #[.string x,.int .u16 6,.int .u32 9,.string sA,.string x,.int .u16 6,.int .u32 9,.string sB,.slice A5 m1 c5,.slice A6 m2 c6] 57 (0,0)):=by rw [← hwX,← hgX];exact blk_new wr _
    rw [hwX] at hbX ⊢
    rw [hgX]
    have HBX:=Lib.hid (HB4.out.trans (hbX.mono HB4.out.size))
    have HBWX:=Lib.hid (HBG.out.trans (HBX.out.mono HBG.out.size))
    have HC5X:=Lib.hid (Kd.C_below HC5.out hbX)
    have HC6X:=Lib.hid (Kd.C_below HC6.out hbX)
    have HBKX:=Lib.hid hBK
    clear hbX hwX hgX hBK HC5 HC6 q0 q1 q2 q3 q4 q5 q6 q7 q8 q9 HB4
    obtain ⟨adP,E1,e1,hA2,hcell1,hce1,hCp1⟩:=rows_at (Kd.C_below HR1.out HBWX.out) (2 * j) p1 HIp1.out
    obtain ⟨adQ,E2,e2,hAQ,hcell2,hce2,hCp2⟩:=rows_at (Kd.C_below HR1.out HBWX.out) (2 * j + 1) p2 HIp2.out
    subst hA2
    obtain rfl:adP = adQ:=by injection hAQ
    rw [add_odd] at hcell2
    have HL1:=Lib.hid hcell1
    have HL2:=Lib.hid hcell2
    have HCP1:=Lib.hid hCp1
    have HCP2:=Lib.hid hCp2
    have h2:2 * j + 1 < l2.length:=by have:=HQ.out;omega
    have HJ32:Hid (IntKind.u32.wrap (j:Int) = (j:Int)):=Lib.hid (by have:=HJ4.out;rw [IntKind.wrap_u32];omega)
    have HWA:Hid (IntKind.u32.wrap (a1 + (j:Int)) = (a1 + j) % 4294967296):=Lib.hid (by rw [IntKind.wrap_u32])
    have HWB:Hid (IntKind.u32.wrap ((a1 + (j:Int)) % 4294967296 + 1) = (a1 + j + 1) % 4294967296):=Lib.hid (by rw [IntKind.wrap_u32];omega)
    have HMM:=Lib.hid (w_two2 j (Nat.le_trans HJ4.out (by decide)))
    have qi1:(0:Int)≤2 * (j:Int):=by omega
    have qi2:2 * (j:Int) < (l2.length:Int):=by omega
    have qi3:2 * (j:Int) + 1 < (l2.length:Int):=by omega
    have qi4:(0:Int)≤2 * (j:Int) + 1:=by omega
    have qi5:(2 * (j:Int) + 1).toNat = 2 * j + 1:=by omega
    have qi6:(2 * (j:Int)).toNat = 2 * j:=by omega
    have qi7:2 * j + 1 < l2.length:=h2
    have qi8:2 * j < l2.length:=by omega
    clear hcell1 hcell2 hCp1 hCp2 h2 hAQ
    refine start_ (n:=48) (ds:=([]:List Nat)) (S:=fun W=>Below wX.heap.size wX W) #[false,false,false,false,false,false,false,false,false,false,false,false,false,false,false,false,false,false,false,false,false,false,false,false,false,false,false,false,false,false,false,false,false,false,false,false,false,false,false,false,false,false,false,false,false,false,false,false] (by kernel_rfl) rfl rfl (below_drew1 (Below.refl wX.heap.size wX)) (fun hHeld=>?_)
    refine with_tabW schain_tab15 schain_bits15 (fun HT_ HW_=>?_)
    refine pure_ (i:=0) (N:=(some 79)) (v:=?_) (a':=?_) #[true,false,false,false,false,false,false,false,false,false,false,false,false,false,false,false,false,false,false,false,false,false,false,false,false,false,false,false,false,false,false,false,false,false,false,false,false,false,false,false,false,false,false,false,false,false,false,false] rfl rfl (any_of HT_.out (by kernel_rfl)) (fun _ _ _ h=>h) (Or.inl ⟨by rfl,?_⟩) ?_ ?_
    rotate_left
    ·intro w'
     go_simp
     with_reducible rfl
    rotate_left
    ·simp only [Act.put,List.setIfInBounds_toArray,List.set_cons_zero,List.set_cons_succ,i64_w,i32_w]
     rfl
    refine take_ (i:=1) (N:=(some 80)) (v:=?_) (a':=?_) #[true,true,false,false,false,false,false,false,false,false,false,false,false,false,false,false,false,false,false,false,false,false,false,false,false,false,false,false,false,false,false,false,false,false,false,false,false,false,false,false,false,false,false,false,false,false,false,false] rfl rfl (take_ofW HT_.out HW_.out (by kernel_rfl)) (fun _ _ _ h=>h) (Or.inl ⟨by rfl,?_⟩) hHeld ?_ ?_
    rotate_left
    ·intro w' hS
     have f0:=(blk_cell (blk_below HBKX.out hS) 0).trans rfl
     have f1:=(blk_cell (blk_below HBKX.out hS) 1).trans rfl
     have f2:=(blk_cell (blk_below HBKX.out hS) 2).trans rfl
     have f3:=(blk_cell (blk_below HBKX.out hS) 3).trans rfl
     go_simp
     with_reducible rfl
    rotate_left
    ·simp only [Act.put,List.setIfInBounds_toArray,List.set_cons_zero,List.set_cons_succ,i64_w,i32_w]
     rfl
    refine pure_ (i:=2) (N:=(some 81)) (v:=?_) (a':=?_) #[true,true,true,false,false,false,false,false,false,false,false,false,false,false,false,false,false,false,false,false,false,false,false,false,false,false,false,false,false,false,false,false,false,false,false,false,false,false,false,false,false,false,false,false,false,false,false,false] rfl rfl (any_of HT_.out (by kernel_rfl)) (fun _ _ _ h=>h) (Or.inl ⟨by rfl,?_⟩) ?_ ?_
    rotate_left
    ·intro w'
     go_simp
     with_reducible rfl
    rotate_left
    ·simp only [Act.put,List.setIfInBounds_toArray,List.set_cons_zero,List.set_cons_succ,i64_w,i32_w]
     rfl
    refine pure_ (i:=3) (N:=(some 82)) (v:=?_) (a':=?_) #[true,true,true,true,false,false,false,false,false,false,false,false,false,false,false,false,false,false,false,false,false,false,false,false,false,false,false,false,false,false,false,false,false,false,false,false,false,false,false,false,false,false,false,false,false,false,false,false] rfl rfl (any_of HT_.out (by kernel_rfl)) (fun _ _ _ h=>h) (Or.inl ⟨by rfl,?_⟩) ?_ ?_
    rotate_left
    ·intro w'
     go_simp
     with_reducible rfl
    rotate_left
    ·simp only [Act.put,List.setIfInBounds_toArray,List.set_cons_zero,List.set_cons_succ,i64_w,i32_w]
     rfl
    refine pure_ (i:=4) (N:=(some 83)) (v:=?_) (a':=?_) #[true,true,true,true,true,false,false,false,false,false,false,false,false,false,false,false,false,false,false,false,false,false,false,false,false,false,false,false,false,false,false,false,false,false,false,false,false,false,false,false,false,false,false,false,false,false,false,false] rfl rfl (any_of HT_.out (by kernel_rfl)) (fun _ _ _ h=>h) (Or.inl ⟨by rfl,?_⟩) ?_ ?_
    rotate_left
    ·intro w'
     go_simp
     with_reducible rfl
    rotate_left
    ·simp only [Act.put,List.setIfInBounds_toArray,List.set_cons_zero,List.set_cons_succ,i64_w,i32_w]
     rfl
    refine pure_ (i:=5) (N:=(some 84)) (v:=?_) (a':=?_) #[true,true,true,true,true,true,false,false,false,false,false,false,false,false,false,false,false,false,false,false,false,false,false,false,false,false,false,false,false,false,false,false,false,false,false,false,false,false,false,false,false,false,false,false,false,false,false,false] rfl rfl (any_of HT_.out (by kernel_rfl)) (fun _ _ _ h=>h) (Or.inl ⟨by rfl,?_⟩) ?_ ?_
    rotate_left
    ·intro w'
     go_simp
     try simp only [HJ32.out]
     with_reducible rfl
    rotate_left
    ·simp only [Act.put,List.setIfInBounds_toArray,List.set_cons_zero,List.set_cons_succ,i64_w,i32_w]
     rfl
    refine pure_ (i:=6) (N:=(some 85)) (v:=?_) (a':=?_) #[true,true,true,true,true,true,true,false,false,false,false,false,false,false,false,false,false,false,false,false,false,false,false,false,false,false,false,false,false,false,false,false,false,false,false,false,false,false,false,false,false,false,false,false,false,false,false,false] rfl rfl (any_of HT_.out (by kernel_rfl)) (fun _ _ _ h=>h) (Or.inl ⟨by rfl,?_⟩) ?_ ?_
    rotate_left
    ·intro w'
     go_simp
     try simp only [HWA.out]
     with_reducible rfl
    rotate_left
    ·simp only [Act.put,List.setIfInBounds_toArray,List.set_cons_zero,List.set_cons_succ,i64_w,i32_w]
     rfl
    refine one_ (i:=7) (N:=(some 86)) #[true,true,true,true,true,true,true,true,false,false,false,false,false,false,false,false,false,false,false,false,false,false,false,false,false,false,false,false,false,false,false,false,false,false,false,false,false,false,false,false,false,false,false,false,false,false,false,false] rfl rfl (one_of HT_.out (by kernel_rfl)) (by decide) (fun K hK=>?_)
    refine goes_ Tryd.func10 (by kernel_rfl) rfl #[.string x,.int .u32 ((a1 + j) % 4294967296)] (by rfl) rfl rfl (by (try simp only [List.map_toArray,List.map_cons,List.map_nil]);rfl) ?_
    with_reducible refine (bolterlaw09_Soa.calls kA x _ x 6 9 sA _ HKA.out).mono ?_
    rintro e wq ⟨rfl,hb⟩
    refine ⟨_,rfl,?_⟩
    refine hK.out _ _ (hHeld.trans (hb.mono hHeld.size)) (fun hHeld=>?_)
    clear hb
    clear hK K
    refine norm_ (a':=?_) ?_ ?_
    rotate_left
    ·show Act.put _ (some 86) _ = _
     simp only [Act.put,List.setIfInBounds_toArray,List.set_cons_zero,List.set_cons_succ,i64_w,i32_w]
     rfl
    refine pure_ (i:=8) (N:=(some 87)) (v:=?_) (a':=?_) #[true,true,true,true,true,true,true,true,true,false,false,false,false,false,false,false,false,false,false,false,false,false,false,false,false,false,false,false,false,false,false,false,false,false,false,false,false,false,false,false,false,false,false,false,false,false,false,false] rfl rfl (any_of HT_.out (by kernel_rfl)) (fun _ _ _ h=>h) (Or.inl ⟨by rfl,?_⟩) ?_ ?_
    rotate_left
    ·intro w'
     go_simp
     try simp only [beq_self_eq_true,Bool.and_self,Bool.not_true,Bool.or_self]
     with_reducible rfl
    rotate_left
    ·simp only [Act.put,List.setIfInBounds_toArray,List.set_cons_zero,List.set_cons_succ,i64_w,i32_w]
     rfl
    refine pure_ (i:=9) (N:=(some 88)) (v:=?_) (a':=?_) #[true,true,true,true,true,true,true,true,true,true,false,false,false,false,false,false,false,false,false,false,false,false,false,false,false,false,false,false,false,false,false,false,false,false,false,false,false,false,false,false,false,false,false,false,false,false,false,false] rfl rfl (any_of HT_.out (by kernel_rfl)) (fun _ _ _ h=>h) (Or.inl ⟨by rfl,?_⟩) ?_ ?_
    rotate_left
    ·intro w'
     go_simp
     with_reducible rfl
    rotate_left
    ·simp only [Act.put,List.setIfInBounds_toArray,List.set_cons_zero,List.set_cons_succ,i64_w,i32_w]
     rfl
    refine pure_ (i:=10) (N:=(some 89)) (v:=?_) (a':=?_) #[true,true,true,true,true,true,true,true,true,true,true,false,false,false,false,false,false,false,false,false,false,false,false,false,false,false,false,false,false,false,false,false,false,false,false,false,false,false,false,false,false,false,false,false,false,false,false,false] rfl rfl (any_of HT_.out (by kernel_rfl)) (fun _ _ _ h=>h) (Or.inl ⟨by rfl,?_⟩) ?_ ?_
    rotate_left
    ·intro w'
     go_simp
     with_reducible rfl
    rotate_left
    ·simp only [Act.put,List.setIfInBounds_toArray,List.set_cons_zero,List.set_cons_succ,i64_w,i32_w]
     rfl
    refine take_ (i:=11) (N:=(some 90)) (v:=?_) (a':=?_) #[true,true,true,true,true,true,true,true,true,true,true,true,false,false,false,false,false,false,false,false,false,false,false,false,false,false,false,false,false,false,false,false,false,false,false,false,false,false,false,false,false,false,false,false,false,false,false,false] rfl rfl (take_ofW HT_.out HW_.out (by kernel_rfl)) (fun _ _ _ h=>h) (Or.inl ⟨by rfl,?_⟩) hHeld ?_ ?_
    rotate_left
    ·intro w' hS
     have f4:=(blk_cell (blk_below HBKX.out hS) 4).trans rfl
     have f5:=(blk_cell (blk_below HBKX.out hS) 5).trans rfl
     have f6:=(blk_cell (blk_below HBKX.out hS) 6).trans rfl
     have f7:=(blk_cell (blk_below HBKX.out hS) 7).trans rfl
     go_simp
     with_reducible rfl
    rotate_left
    ·simp only [Act.put,List.setIfInBounds_toArray,List.set_cons_zero,List.set_cons_succ,i64_w,i32_w]
     rfl
    refine pure_ (i:=12) (N:=(some 91)) (v:=?_) (a':=?_) #[true,true,true,true,true,true,true,true,true,true,true,true,true,false,false,false,false,false,false,false,false,false,false,false,false,false,false,false,false,false,false,false,false,false,false,false,false,false,false,false,false,false,false,false,false,false,false,false] rfl rfl (any_of HT_.out (by kernel_rfl)) (fun _ _ _ h=>h) (Or.inl ⟨by rfl,?_⟩) ?_ ?_
    rotate_left
    ·intro w'
     go_simp
     with_reducible rfl
    rotate_left
    ·simp only [Act.put,List.setIfInBounds_toArray,List.set_cons_zero,List.set_cons_succ,i64_w,i32_w]
     rfl
    refine pure_ (i:=13) (N:=(some 92)) (v:=?_) (a':=?_) #[true,true,true,true,true,true,true,true,true,true,true,true,true,true,false,false,false,false,false,false,false,false,false,false,false,false,false,false,false,false,false,false,false,false,false,false,false,false,false,false,false,false,false,false,false,false,false,false] rfl rfl (any_of HT_.out (by kernel_rfl)) (fun _ _ _ h=>h) (Or.inl ⟨by rfl,?_⟩) ?_ ?_
    rotate_left
    ·intro w'
     go_simp
     with_reducible rfl
    rotate_left
    ·simp only [Act.put,List.setIfInBounds_toArray,List.set_cons_zero,List.set_cons_succ,i64_w,i32_w]
     rfl
    refine pure_ (i:=14) (N:=(some 93)) (v:=?_) (a':=?_) #[true,true,true,true,true,true,true,true,true,true,true,true,true,true,true,false,false,false,false,false,false,false,false,false,false,false,false,false,false,false,false,false,false,false,false,false,false,false,false,false,false,false,false,false,false,false,false,false] rfl rfl (any_of HT_.out (by kernel_rfl)) (fun _ _ _ h=>h) (Or.inl ⟨by rfl,?_⟩) ?_ ?_
    rotate_left
    ·intro w'
     go_simp
     with_reducible rfl
    rotate_left
    ·simp only [Act.put,List.setIfInBounds_toArray,List.set_cons_zero,List.set_cons_succ,i64_w,i32_w]
     rfl
    refine pure_ (i:=15) (N:=(some 94)) (v:=?_) (a':=?_) #[true,true,true,true,true,true,true,true,true,true,true,true,true,true,true,true,false,false,false,false,false,false,false,false,false,false,false,false,false,false,false,false,false,false,false,false,false,false,false,false,false,false,false,false,false,false,false,false] rfl rfl (any_of HT_.out (by kernel_rfl)) (fun _ _ _ h=>h) (Or.inl ⟨by rfl,?_⟩) ?_ ?_
    rotate_left
    ·intro w'
     go_simp
     try simp only [HJ32.out]
     with_reducible rfl
    rotate_left
    ·simp only [Act.put,List.setIfInBounds_toArray,List.set_cons_zero,List.set_cons_succ,i64_w,i32_w]
     rfl
    refine pure_ (i:=16) (N:=(some 95)) (v:=?_) (a':=?_) #[true,true,true,true,true,true,true,true,true,true,true,true,true,true,true,true,true,false,false,false,false,false,false,false,false,false,false,false,false,false,false,false,false,false,false,false,false,false,false,false,false,false,false,false,false,false,false,false] rfl rfl (any_of HT_.out (by kernel_rfl)) (fun _ _ _ h=>h) (Or.inl ⟨by rfl,?_⟩) ?_ ?_
    rotate_left
    ·intro w'
     go_simp
     try simp only [HWA.out]
     with_reducible rfl
    rotate_left
    ·simp only [Act.put,List.setIfInBounds_toArray,List.set_cons_zero,List.set_cons_succ,i64_w,i32_w]
     rfl
    refine pure_ (i:=17) (N:=(some 96)) (v:=?_) (a':=?_) #[true,true,true,true,true,true,true,true,true,true,true,true,true,true,true,true,true,true,false,false,false,false,false,false,false,false,false,false,false,false,false,false,false,false,false,false,false,false,false,false,false,false,false,false,false,false,false,false] rfl rfl (any_of HT_.out (by kernel_rfl)) (fun _ _ _ h=>h) (Or.inl ⟨by rfl,?_⟩) ?_ ?_
    rotate_left
    ·intro w'
     go_simp
     try simp only [HWB.out]
     with_reducible rfl
    rotate_left
    ·simp only [Act.put,List.setIfInBounds_toArray,List.set_cons_zero,List.set_cons_succ,i64_w,i32_w]
     rfl
    refine one_ (i:=18) (N:=(some 97)) #[true,true,true,true,true,true,true,true,true,true,true,true,true,true,true,true,true,true,true,false,false,false,false,false,false,false,false,false,false,false,false,false,false,false,false,false,false,false,false,false,false,false,false,false,false,false,false,false] rfl rfl (one_of HT_.out (by kernel_rfl)) (by decide) (fun K hK=>?_)
    refine goes_ Tryd.func10 (by kernel_rfl) rfl #[.string x,.int .u32 ((a1 + j + 1) % 4294967296)] (by rfl) rfl rfl (by (try simp only [List.map_toArray,List.map_cons,List.map_nil]);rfl) ?_
    with_reducible refine (bolterlaw09_Soa.calls kB x _ x 6 9 sB _ HKB.out).mono ?_
    rintro e wq ⟨rfl,hb⟩
    refine ⟨_,rfl,?_⟩
    refine hK.out _ _ (hHeld.trans (hb.mono hHeld.size)) (fun hHeld=>?_)
    clear hb
    clear hK K
    refine norm_ (a':=?_) ?_ ?_
    rotate_left
    ·show Act.put _ (some 97) _ = _
     simp only [Act.put,List.setIfInBounds_toArray,List.set_cons_zero,List.set_cons_succ,i64_w,i32_w]
     rfl
    refine pure_ (i:=19) (N:=(some 98)) (v:=?_) (a':=?_) #[true,true,true,true,true,true,true,true,true,true,true,true,true,true,true,true,true,true,true,true,false,false,false,false,false,false,false,false,false,false,false,false,false,false,false,false,false,false,false,false,false,false,false,false,false,false,false,false] rfl rfl (any_of HT_.out (by kernel_rfl)) (fun _ _ _ h=>h) (Or.inl ⟨by rfl,?_⟩) ?_ ?_
    rotate_left
    ·intro w'
     go_simp
     try simp only [beq_self_eq_true,Bool.and_self,Bool.not_true,Bool.or_self]
     with_reducible rfl
    rotate_left
    ·simp only [Act.put,List.setIfInBounds_toArray,List.set_cons_zero,List.set_cons_succ,i64_w,i32_w]
     rfl
    refine pure_ (i:=20) (N:=(some 99)) (v:=?_) (a':=?_) #[true,true,true,true,true,true,true,true,true,true,true,true,true,true,true,true,true,true,true,true,true,false,false,false,false,false,false,false,false,false,false,false,false,false,false,false,false,false,false,false,false,false,false,false,false,false,false,false] rfl rfl (any_of HT_.out (by kernel_rfl)) (fun _ _ _ h=>h) (Or.inl ⟨by rfl,?_⟩) ?_ ?_
    rotate_left
    ·intro w'
     go_simp
     with_reducible rfl
    rotate_left
    ·simp only [Act.put,List.setIfInBounds_toArray,List.set_cons_zero,List.set_cons_succ,i64_w,i32_w]
     rfl
    refine pure_ (i:=21) (N:=(some 100)) (v:=?_) (a':=?_) #[true,true,true,true,true,true,true,true,true,true,true,true,true,true,true,true,true,true,true,true,true,true,false,false,false,false,false,false,false,false,false,false,false,false,false,false,false,false,false,false,false,false,false,false,false,false,false,false] rfl rfl (any_of HT_.out (by kernel_rfl)) (fun _ _ _ h=>h) (Or.inl ⟨by rfl,?_⟩) ?_ ?_
    rotate_left
    ·intro w'
     go_simp
     with_reducible rfl
    rotate_left
    ·simp only [Act.put,List.setIfInBounds_toArray,List.set_cons_zero,List.set_cons_succ,i64_w,i32_w]
     rfl
    refine pure_ (i:=22) (N:=(some 101)) (v:=?_) (a':=?_) #[true,true,true,true,true,true,true,true,true,true,true,true,true,true,true,true,true,true,true,true,true,true,true,false,false,false,false,false,false,false,false,false,false,false,false,false,false,false,false,false,false,false,false,false,false,false,false,false] rfl rfl (any_of HT_.out (by kernel_rfl)) (fun _ _ _ h=>h) (Or.inl ⟨by rfl,?_⟩) ?_ ?_
    rotate_left
    ·intro w'
     go_simp
     with_reducible rfl
    rotate_left
    ·simp only [Act.put,List.setIfInBounds_toArray,List.set_cons_zero,List.set_cons_succ,i64_w,i32_w]
     rfl
    refine take_ (i:=23) (N:=(some 102)) (v:=?_) (a':=?_) #[true,true,true,true,true,true,true,true,true,true,true,true,true,true,true,true,true,true,true,true,true,true,true,true,false,false,false,false,false,false,false,false,false,false,false,false,false,false,false,false,false,false,false,false,false,false,false,false] rfl rfl (take_ofW HT_.out HW_.out (by kernel_rfl)) (fun _ _ _ h=>h) (Or.inl ⟨by rfl,?_⟩) hHeld ?_ ?_
    rotate_left
    ·intro w' hS
     have f8:=(blk_cell (blk_below HBKX.out hS) 8).trans rfl
     go_simp
     with_reducible rfl
    rotate_left
    ·simp only [Act.put,List.setIfInBounds_toArray,List.set_cons_zero,List.set_cons_succ,i64_w,i32_w]
     rfl
    refine pure_ (i:=24) (N:=(some 103)) (v:=?_) (a':=?_) #[true,true,true,true,true,true,true,true,true,true,true,true,true,true,true,true,true,true,true,true,true,true,true,true,true,false,false,false,false,false,false,false,false,false,false,false,false,false,false,false,false,false,false,false,false,false,false,false] rfl rfl (any_of HT_.out (by kernel_rfl)) (fun _ _ _ h=>h) (Or.inl ⟨by rfl,?_⟩) ?_ ?_
    rotate_left
    ·intro w'
     go_simp
     with_reducible rfl
    rotate_left
    ·simp only [Act.put,List.setIfInBounds_toArray,List.set_cons_zero,List.set_cons_succ,i64_w,i32_w]
     rfl
    refine pure_ (i:=25) (N:=(some 104)) (v:=?_) (a':=?_) #[true,true,true,true,true,true,true,true,true,true,true,true,true,true,true,true,true,true,true,true,true,true,true,true,true,true,false,false,false,false,false,false,false,false,false,false,false,false,false,false,false,false,false,false,false,false,false,false] rfl rfl (any_of HT_.out (by kernel_rfl)) (fun _ _ _ h=>h) (Or.inl ⟨by rfl,?_⟩) ?_ ?_
    rotate_left
    ·intro w'
     go_simp
     with_reducible rfl
    rotate_left
    ·simp only [Act.put,List.setIfInBounds_toArray,List.set_cons_zero,List.set_cons_succ,i64_w,i32_w]
     rfl
    refine pure_ (i:=26) (N:=(some 105)) (v:=?_) (a':=?_) #[true,true,true,true,true,true,true,true,true,true,true,true,true,true,true,true,true,true,true,true,true,true,true,true,true,true,true,false,false,false,false,false,false,false,false,false,false,false,false,false,false,false,false,false,false,false,false,false] rfl rfl (any_of HT_.out (by kernel_rfl)) (fun _ _ _ h=>h) (Or.inl ⟨by rfl,?_⟩) ?_ ?_
    rotate_left
    ·intro w'
     go_simp
     with_reducible rfl
    rotate_left
    ·simp only [Act.put,List.setIfInBounds_toArray,List.set_cons_zero,List.set_cons_succ,i64_w,i32_w]
     rfl
    refine pure_ (i:=27) (N:=(some 106)) (v:=?_) (a':=?_) #[true,true,true,true,true,true,true,true,true,true,true,true,true,true,true,true,true,true,true,true,true,true,true,true,true,true,true,true,false,false,false,false,false,false,false,false,false,false,false,false,false,false,false,false,false,false,false,false] rfl rfl (any_of HT_.out (by kernel_rfl)) (fun _ _ _ h=>h) (Or.inl ⟨by rfl,?_⟩) ?_ ?_
    rotate_left
    ·intro w'
     go_simp
     try simp only [HMM.out.1]
     with_reducible rfl
    rotate_left
    ·simp only [Act.put,List.setIfInBounds_toArray,List.set_cons_zero,List.set_cons_succ,i64_w,i32_w]
     rfl
    refine pure_ (i:=28) (N:=(some 107)) (v:=?_) (a':=?_) #[true,true,true,true,true,true,true,true,true,true,true,true,true,true,true,true,true,true,true,true,true,true,true,true,true,true,true,true,true,false,false,false,false,false,false,false,false,false,false,false,false,false,false,false,false,false,false,false] rfl rfl (any_of HT_.out (by kernel_rfl)) (fun _ _ _ h=>h) (Or.inl ⟨by rfl,?_⟩) ?_ ?_
    rotate_left
    ·intro w'
     go_simp
     simp only [HMM.out.1,HMM.out.2,qi5,qi6]
     rw [if_pos ⟨by omega,by omega⟩]
    rotate_left
    ·simp only [Act.put,List.setIfInBounds_toArray,List.set_cons_zero,List.set_cons_succ,i64_w,i32_w]
     rfl
    refine take_ (i:=29) (N:=(some 108)) (v:=?_) (a':=?_) #[true,true,true,true,true,true,true,true,true,true,true,true,true,true,true,true,true,true,true,true,true,true,true,true,true,true,true,true,true,true,false,false,false,false,false,false,false,false,false,false,false,false,false,false,false,false,false,false] rfl rfl (take_ofW HT_.out HW_.out (by kernel_rfl)) (fun _ _ _ h=>h) (Or.inl ⟨by rfl,?_⟩) hHeld ?_ ?_
    rotate_left
    ·intro w' hS
     have hc:=(hS.cell (World.block_lt_of_cell? wX _ HL1.out)).trans HL1.out
     go_simp
     with_reducible rfl
    rotate_left
    ·simp only [Act.put,List.setIfInBounds_toArray,List.set_cons_zero,List.set_cons_succ,i64_w,i32_w]
     rfl
    refine one_ (i:=30) (N:=(some 109)) #[true,true,true,true,true,true,true,true,true,true,true,true,true,true,true,true,true,true,true,true,true,true,true,true,true,true,true,true,true,true,true,false,false,false,false,false,false,false,false,false,false,false,false,false,false,false,false,false] rfl rfl (one_of HT_.out (by kernel_rfl)) (by decide) (fun K hK=>?_)
    refine goes_ Tryd.func9 (by kernel_rfl) rfl #[.string x,.slice E1 p1.length e1,.int .i64 5,.bool false] (by rfl) rfl rfl (by (try simp only [List.map_toArray,List.map_cons,List.map_nil]);rfl) ?_
    have key:=fun W h=>under_ x hxs E1 e1 p1 5 false W h hce1 HWp1.out.2 (by decide) HWp1.out.1
    rw [show ((5:Nat):Int) = 5 from rfl] at key
    with_reducible refine (key _ (Kd.C_below HCP1.out hHeld)).mono ?_
    clear key
    rintro e wq ⟨vU,rfl,hRU,hb⟩
    rw [HU1.out] at hRU
    obtain ⟨AU,cU,rfl,hcU,hCU⟩:=Kd.R_reads hRU
    have HCU:=Lib.hid hCU
    refine ⟨_,rfl,?_⟩
    refine hK.out _ _ (hHeld.trans (hb.mono hHeld.size)) (fun hHeld=>?_)
    clear hb hRU hCU
    clear hK K
    refine norm_ (a':=?_) ?_ ?_
    rotate_left
    ·show Act.put _ (some 109) _ = _
     simp only [Act.put,List.setIfInBounds_toArray,List.set_cons_zero,List.set_cons_succ,i64_w,i32_w]
     rfl
    refine one_ (i:=31) (N:=(some 110)) #[true,true,true,true,true,true,true,true,true,true,true,true,true,true,true,true,true,true,true,true,true,true,true,true,true,true,true,true,true,true,true,true,false,false,false,false,false,false,false,false,false,false,false,false,false,false,false,false] rfl rfl (one_of HT_.out (by kernel_rfl)) (by decide) (fun K hK=>?_)
    obtain ⟨kS,hkS⟩:=Ev.rounds (Same_ev U1 (by rw [HM12.out.1];have:=hc1L.out;omega))
    refine goes_ Tryd.func14 (by kernel_rfl) rfl #[.slice A5 m1 c5,.slice AU U1.length cU] (by rfl) rfl rfl (by (try simp only [List.map_toArray,List.map_cons,List.map_nil]);rfl) ?_
    have hC0:=Kd.C_below HC5X.out hHeld
    rw [← HM12.out.1] at hC0
    have hm:m1 = U1.length:=HM12.out.1.symm
    rw [hm]
    with_reducible refine (bolterlaw05_SameRecords.calls kS _ _ U1 _ _ U1 true _ hC0 (by rw [← hm];exact hc1L.out.2) HCU.out hcU hkS).mono ?_
    rintro e wq ⟨rfl,hb⟩
    refine ⟨_,rfl,?_⟩
    refine hK.out _ _ (hHeld.trans (hb.below.mono hHeld.size)) (fun hHeld=>?_)
    clear hb hkS hC0 hm HCU hcU
    clear hK K
    refine norm_ (a':=?_) ?_ ?_
    rotate_left
    ·show Act.put _ (some 110) _ = _
     simp only [Act.put,List.setIfInBounds_toArray,List.set_cons_zero,List.set_cons_succ,i64_w,i32_w]
     rfl
    refine pure_ (i:=32) (N:=(some 111)) (v:=?_) (a':=?_) #[true,true,true,true,true,true,true,true,true,true,true,true,true,true,true,true,true,true,true,true,true,true,true,true,true,true,true,true,true,true,true,true,true,false,false,false,false,false,false,false,false,false,false,false,false,false,false,false] rfl rfl (any_of HT_.out (by kernel_rfl)) (fun _ _ _ h=>h) (Or.inl ⟨by rfl,?_⟩) ?_ ?_
    rotate_left
    ·intro w'
     go_simp
     with_reducible rfl
    rotate_left
    ·simp only [Act.put,List.setIfInBounds_toArray,List.set_cons_zero,List.set_cons_succ,i64_w,i32_w]
     rfl
    refine pure_ (i:=33) (N:=(some 112)) (v:=?_) (a':=?_) #[true,true,true,true,true,true,true,true,true,true,true,true,true,true,true,true,true,true,true,true,true,true,true,true,true,true,true,true,true,true,true,true,true,true,false,false,false,false,false,false,false,false,false,false,false,false,false,false] rfl rfl (any_of HT_.out (by kernel_rfl)) (fun _ _ _ h=>h) (Or.inl ⟨by rfl,?_⟩) ?_ ?_
    rotate_left
    ·intro w'
     go_simp
     with_reducible rfl
    rotate_left
    ·simp only [Act.put,List.setIfInBounds_toArray,List.set_cons_zero,List.set_cons_succ,i64_w,i32_w]
     rfl
    refine pure_ (i:=34) (N:=(some 113)) (v:=?_) (a':=?_) #[true,true,true,true,true,true,true,true,true,true,true,true,true,true,true,true,true,true,true,true,true,true,true,true,true,true,true,true,true,true,true,true,true,true,true,false,false,false,false,false,false,false,false,false,false,false,false,false] rfl rfl (any_of HT_.out (by kernel_rfl)) (fun _ _ _ h=>h) (Or.inl ⟨by rfl,?_⟩) ?_ ?_
    rotate_left
    ·intro w'
     go_simp
     with_reducible rfl
    rotate_left
    ·simp only [Act.put,List.setIfInBounds_toArray,List.set_cons_zero,List.set_cons_succ,i64_w,i32_w]
     rfl
    refine pure_ (i:=35) (N:=(some 114)) (v:=?_) (a':=?_) #[true,true,true,true,true,true,true,true,true,true,true,true,true,true,true,true,true,true,true,true,true,true,true,true,true,true,true,true,true,true,true,true,true,true,true,true,false,false,false,false,false,false,false,false,false,false,false,false] rfl rfl (any_of HT_.out (by kernel_rfl)) (fun _ _ _ h=>h) (Or.inl ⟨by rfl,?_⟩) ?_ ?_
    rotate_left
    ·intro w'
     go_simp
     with_reducible rfl
    rotate_left
    ·simp only [Act.put,List.setIfInBounds_toArray,List.set_cons_zero,List.set_cons_succ,i64_w,i32_w]
     rfl
    refine take_ (i:=36) (N:=(some 115)) (v:=?_) (a':=?_) #[true,true,true,true,true,true,true,true,true,true,true,true,true,true,true,true,true,true,true,true,true,true,true,true,true,true,true,true,true,true,true,true,true,true,true,true,true,false,false,false,false,false,false,false,false,false,false,false] rfl rfl (take_ofW HT_.out HW_.out (by kernel_rfl)) (fun _ _ _ h=>h) (Or.inl ⟨by rfl,?_⟩) hHeld ?_ ?_
    rotate_left
    ·intro w' hS
     have f9:=(blk_cell (blk_below HBKX.out hS) 9).trans rfl
     go_simp
     with_reducible rfl
    rotate_left
    ·simp only [Act.put,List.setIfInBounds_toArray,List.set_cons_zero,List.set_cons_succ,i64_w,i32_w]
     rfl
    refine pure_ (i:=37) (N:=(some 116)) (v:=?_) (a':=?_) #[true,true,true,true,true,true,true,true,true,true,true,true,true,true,true,true,true,true,true,true,true,true,true,true,true,true,true,true,true,true,true,true,true,true,true,true,true,true,false,false,false,false,false,false,false,false,false,false] rfl rfl (any_of HT_.out (by kernel_rfl)) (fun _ _ _ h=>h) (Or.inl ⟨by rfl,?_⟩) ?_ ?_
    rotate_left
    ·intro w'
     go_simp
     with_reducible rfl
    rotate_left
    ·simp only [Act.put,List.setIfInBounds_toArray,List.set_cons_zero,List.set_cons_succ,i64_w,i32_w]
     rfl
    refine pure_ (i:=38) (N:=(some 117)) (v:=?_) (a':=?_) #[true,true,true,true,true,true,true,true,true,true,true,true,true,true,true,true,true,true,true,true,true,true,true,true,true,true,true,true,true,true,true,true,true,true,true,true,true,true,true,false,false,false,false,false,false,false,false,false] rfl rfl (any_of HT_.out (by kernel_rfl)) (fun _ _ _ h=>h) (Or.inl ⟨by rfl,?_⟩) ?_ ?_
    rotate_left
    ·intro w'
     go_simp
     with_reducible rfl
    rotate_left
    ·simp only [Act.put,List.setIfInBounds_toArray,List.set_cons_zero,List.set_cons_succ,i64_w,i32_w]
     rfl
    refine pure_ (i:=39) (N:=(some 118)) (v:=?_) (a':=?_) #[true,true,true,true,true,true,true,true,true,true,true,true,true,true,true,true,true,true,true,true,true,true,true,true,true,true,true,true,true,true,true,true,true,true,true,true,true,true,true,true,false,false,false,false,false,false,false,false] rfl rfl (any_of HT_.out (by kernel_rfl)) (fun _ _ _ h=>h) (Or.inl ⟨by rfl,?_⟩) ?_ ?_
    rotate_left
    ·intro w'
     go_simp
     with_reducible rfl
    rotate_left
    ·simp only [Act.put,List.setIfInBounds_toArray,List.set_cons_zero,List.set_cons_succ,i64_w,i32_w]
     rfl
    refine pure_ (i:=40) (N:=(some 119)) (v:=?_) (a':=?_) #[true,true,true,true,true,true,true,true,true,true,true,true,true,true,true,true,true,true,true,true,true,true,true,true,true,true,true,true,true,true,true,true,true,true,true,true,true,true,true,true,true,false,false,false,false,false,false,false] rfl rfl (any_of HT_.out (by kernel_rfl)) (fun _ _ _ h=>h) (Or.inl ⟨by rfl,?_⟩) ?_ ?_
    rotate_left
    ·intro w'
     go_simp
     try simp only [HMM.out.1]
     with_reducible rfl
    rotate_left
    ·simp only [Act.put,List.setIfInBounds_toArray,List.set_cons_zero,List.set_cons_succ,i64_w,i32_w]
     rfl
    refine pure_ (i:=41) (N:=(some 120)) (v:=?_) (a':=?_) #[true,true,true,true,true,true,true,true,true,true,true,true,true,true,true,true,true,true,true,true,true,true,true,true,true,true,true,true,true,true,true,true,true,true,true,true,true,true,true,true,true,true,false,false,false,false,false,false] rfl rfl (any_of HT_.out (by kernel_rfl)) (fun _ _ _ h=>h) (Or.inl ⟨by rfl,?_⟩) ?_ ?_
    rotate_left
    ·intro w'
     go_simp
     try simp only [HMM.out.2]
     with_reducible rfl
    rotate_left
    ·simp only [Act.put,List.setIfInBounds_toArray,List.set_cons_zero,List.set_cons_succ,i64_w,i32_w]
     rfl
    refine pure_ (i:=42) (N:=(some 121)) (v:=?_) (a':=?_) #[true,true,true,true,true,true,true,true,true,true,true,true,true,true,true,true,true,true,true,true,true,true,true,true,true,true,true,true,true,true,true,true,true,true,true,true,true,true,true,true,true,true,true,false,false,false,false,false] rfl rfl (any_of HT_.out (by kernel_rfl)) (fun _ _ _ h=>h) (Or.inl ⟨by rfl,?_⟩) ?_ ?_
    rotate_left
    ·intro w'
     go_simp
     simp only [HMM.out.1,HMM.out.2,qi5,qi6]
     rw [if_pos ⟨by omega,by omega⟩]
    rotate_left
    ·simp only [Act.put,List.setIfInBounds_toArray,List.set_cons_zero,List.set_cons_succ,i64_w,i32_w]
     rfl
    refine take_ (i:=43) (N:=(some 122)) (v:=?_) (a':=?_) #[true,true,true,true,true,true,true,true,true,true,true,true,true,true,true,true,true,true,true,true,true,true,true,true,true,true,true,true,true,true,true,true,true,true,true,true,true,true,true,true,true,true,true,true,false,false,false,false] rfl rfl (take_ofW HT_.out HW_.out (by kernel_rfl)) (fun _ _ _ h=>h) (Or.inl ⟨by rfl,?_⟩) hHeld ?_ ?_
    rotate_left
    ·intro w' hS
     have hc:=(hS.cell (World.block_lt_of_cell? wX _ HL2.out)).trans HL2.out
     go_simp
     with_reducible rfl
    rotate_left
    ·simp only [Act.put,List.setIfInBounds_toArray,List.set_cons_zero,List.set_cons_succ,i64_w,i32_w]
     rfl
    refine one_ (i:=44) (N:=(some 123)) #[true,true,true,true,true,true,true,true,true,true,true,true,true,true,true,true,true,true,true,true,true,true,true,true,true,true,true,true,true,true,true,true,true,true,true,true,true,true,true,true,true,true,true,true,true,false,false,false] rfl rfl (one_of HT_.out (by kernel_rfl)) (by decide) (fun K hK=>?_)
    refine goes_ Tryd.func9 (by kernel_rfl) rfl #[.string x,.slice E2 p2.length e2,.int .i64 5,.bool false] (by rfl) rfl rfl (by (try simp only [List.map_toArray,List.map_cons,List.map_nil]);rfl) ?_
    have key:=fun W h=>under_ x hxs E2 e2 p2 5 false W h hce2 HWp2.out.2 (by decide) HWp2.out.1
    rw [show ((5:Nat):Int) = 5 from rfl] at key
    with_reducible refine (key _ (Kd.C_below HCP2.out hHeld)).mono ?_
    clear key
    rintro e wq ⟨vU,rfl,hRU,hb⟩
    rw [HU2.out] at hRU
    obtain ⟨AU,cU,rfl,hcU,hCU⟩:=Kd.R_reads hRU
    have HCU:=Lib.hid hCU
    refine ⟨_,rfl,?_⟩
    refine hK.out _ _ (hHeld.trans (hb.mono hHeld.size)) (fun hHeld=>?_)
    clear hb hRU hCU
    clear hK K
    refine norm_ (a':=?_) ?_ ?_
    rotate_left
    ·show Act.put _ (some 123) _ = _
     simp only [Act.put,List.setIfInBounds_toArray,List.set_cons_zero,List.set_cons_succ,i64_w,i32_w]
     rfl
    refine one_ (i:=45) (N:=(some 124)) #[true,true,true,true,true,true,true,true,true,true,true,true,true,true,true,true,true,true,true,true,true,true,true,true,true,true,true,true,true,true,true,true,true,true,true,true,true,true,true,true,true,true,true,true,true,true,false,false] rfl rfl (one_of HT_.out (by kernel_rfl)) (by decide) (fun K hK=>?_)
    obtain ⟨kS,hkS⟩:=Ev.rounds (Same_ev U2 (by rw [HM12.out.2];have:=hc2L.out;omega))
    refine goes_ Tryd.func14 (by kernel_rfl) rfl #[.slice A6 m2 c6,.slice AU U2.length cU] (by rfl) rfl rfl (by (try simp only [List.map_toArray,List.map_cons,List.map_nil]);rfl) ?_
    have hC0:=Kd.C_below HC6X.out hHeld
    rw [← HM12.out.2] at hC0
    have hm:m2 = U2.length:=HM12.out.2.symm
    rw [hm]
    with_reducible refine (bolterlaw05_SameRecords.calls kS _ _ U2 _ _ U2 true _ hC0 (by rw [← hm];exact hc2L.out.2) HCU.out hcU hkS).mono ?_
    rintro e wq ⟨rfl,hb⟩
    refine ⟨_,rfl,?_⟩
    refine hK.out _ _ (hHeld.trans (hb.below.mono hHeld.size)) (fun hHeld=>?_)
    clear hb hkS hC0 hm HCU hcU
    clear hK K
    refine norm_ (a':=?_) ?_ ?_
    rotate_left
    ·show Act.put _ (some 124) _ = _
     simp only [Act.put,List.setIfInBounds_toArray,List.set_cons_zero,List.set_cons_succ,i64_w,i32_w]
     rfl
    refine pure_ (i:=46) (N:=(some 125)) (v:=?_) (a':=?_) #[true,true,true,true,true,true,true,true,true,true,true,true,true,true,true,true,true,true,true,true,true,true,true,true,true,true,true,true,true,true,true,true,true,true,true,true,true,true,true,true,true,true,true,true,true,true,true,false] rfl rfl (any_of HT_.out (by kernel_rfl)) (fun _ _ _ h=>h) (Or.inl ⟨by rfl,?_⟩) ?_ ?_
    rotate_left
    ·intro w'
     go_simp
     with_reducible rfl
    rotate_left
    ·simp only [Act.put,List.setIfInBounds_toArray,List.set_cons_zero,List.set_cons_succ,i64_w,i32_w]
     rfl
    refine pure_ (i:=47) (N:=(some 126)) (v:=?_) (a':=?_) #[true,true,true,true,true,true,true,true,true,true,true,true,true,true,true,true,true,true,true,true,true,true,true,true,true,true,true,true,true,true,true,true,true,true,true,true,true,true,true,true,true,true,true,true,true,true,true,true] rfl rfl (any_of HT_.out (by kernel_rfl)) (fun _ _ _ h=>h) (Or.inl ⟨by rfl,?_⟩) ?_ ?_
    rotate_left
    ·intro w'
     go_simp
     with_reducible rfl
    rotate_left
    ·simp only [Act.put,List.setIfInBounds_toArray,List.set_cons_zero,List.set_cons_succ,i64_w,i32_w]
     rfl
    refine done_ (done_of HT_.out (by kernel_rfl)) ?_
    clear qi1 qi2 qi3 qi4 qi5 qi6 qi7 qi8
    go_wp2
    go_roundw
    case rel=>exact ⟨j + 1,by omega,by go_num,⟨HBX.out.trans (hHeld.mono HBX.out.size)⟩⟩
    case measure=>simp [intOf];omega
   ·obtain rfl:j = n2:=by omega
    go_wp2
    go_ret
    exact ⟨rfl,HBG.out.trans (HB4.out.mono HBG.out.size)⟩
end Go.Proofs.YtlobjcokopfbkaaDoor.PY
