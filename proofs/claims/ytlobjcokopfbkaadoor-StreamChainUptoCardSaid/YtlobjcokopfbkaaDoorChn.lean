/- part of a proof; what it has no use for was struck out -/
import Derived.Test.YtlobjcokopfbkaaDoorUnd
import Derived.Test.YtlobjcokopfbkaaDoorPYx11
namespace Go.Proofs.YtlobjcokopfbkaaDoor.Str
open Go.RowKit Go.Proofs.YtlobjcokopfbkaaDoor.PY Go.Proofs.YtlobjcokopfbkaaDoorW Go.Proofs.YtlobjcokopfbkaaDoorW.PrintWords Go.Proofs.YtlobjcokopfbkaaDoorW.PrintLast Go.Proofs.YtlobjcokopfbkaaDoorW.PrintMore Go.Proofs.YtlobjcokopfbkaaDoor.Base Go.Proofs.YtlobjcokopfbkaaDoor.Nam Go.Proofs.YtlobjcokopfbkaaDoor.Soa Go.Proofs.YtlobjcokopfbkaaDoor.QY
set_option linter.unusedVariables false
set_option linter.unusedSimpArgs false
set_option maxRecDepth 100000
attribute [local go_sem] max2_int min2_int max_two min_two
theorem rows_at {w:World} {A:Option Addr} {n:Nat} {xs:List (List LA)} (h:Kd.C (Kd.slice 45 k45) w A n xs) (i:Nat) (ys:List LA) (hy:xs[i]? = some ys) :
  ∃ ad A1 c1,A = some ad∧w.cell? (ad.add i) = some (.slice A1 ys.length c1)∧ys.length≤c1∧Kd.C k45 w A1 ys.length ys:=by
 have hi:=(List.getElem?_eq_some_iff.1 hy).1
 have hn:=h.1
 obtain ⟨ad,ha,hc⟩:=h.2.2 (by omega)
 obtain ⟨c,h1,⟨A1,c1,h3,h4,h5⟩,h7⟩:=hc i ys hy
 subst h3
 have h8:=h7 0 _ rfl
 rw [show i * (Kd.slice 45 k45).sz + 0 = i by show i * 1 + 0 = i;omega] at h8
 exact ⟨ad,A1,c1,ha,h8,h4,h5⟩
def linkL (x:ByteArray) (fr:Int) (ps:List (List LA)) (k:Nat):List R :=
 sR x ((fr + k) % 4294967296) :: (underL x (ps.getD (2 * k) []) 5 false ++ sR x ((fr + k + 1) % 4294967296) :: underL x (ps.getD (2 * k + 1) []) 5 false)
def chN (ps:List (List LA)):Nat:=min (ps.length / 2) 4
def chainL (x:ByteArray) (fr:Int) (ps:List (List LA)):List R :=
 sR x ((fr + chN ps) % 4294967296) :: ((List.range (chN ps)).flatMap (linkL x fr ps) ++ [sR x ((fr + chN ps) % 4294967296)])
def headL (x:ByteArray) (fr:Int) (ps:List (List LA)) (k:Nat):List R:=sR x ((fr + chN ps) % 4294967296) :: (List.range k).flatMap (linkL x fr ps)
theorem headL_step (x:ByteArray) (fr:Int) (ps:List (List LA)) (k:Nat):headL x fr ps (k + 1) = headL x fr ps k ++ linkL x fr ps k:=by
 unfold headL
 rw [List.range_succ,List.flatMap_append]
 simp
theorem linkL_len (x:ByteArray) (fr:Int) (ps:List (List LA)) (k:Nat):(linkL x fr ps k).length≤12:=by
 unfold linkL underL
 simp only [List.length_cons,List.length_append,List.length_map,List.length_take]
 omega
theorem headL_len (x:ByteArray) (fr:Int) (ps:List (List LA)) (k:Nat):(headL x fr ps k).length≤1 + 12 * k:=by
 induction k with
 | zero=>simp [headL]
 | succ k ih =>
  rw [headL_step,List.length_append]
  have:=linkL_len x fr ps k
  omega
theorem w_two2 (j:Nat) (h:j≤1000):wrap64 (2 * (j:Int)) = 2 * (j:Int)∧wrap64 (2 * (j:Int) + 1) = 2 * (j:Int) + 1:=by unfold wrap64;omega
theorem add_odd (ad:Addr) (n:Nat):ad.add (n + 1) = ⟨ad.block,ad.off + (n + 1),none⟩:=by unfold Addr.add;rw [if_neg (Nat.succ_ne_zero n)]
theorem underL_len5 (x:ByteArray) (l:List LA):(underL x l 5 false).length≤5:=by unfold underL;rw [List.length_map,List.length_take];omega
set_option maxHeartbeats 4000000 in
theorem chain_ (x:ByteArray) (hx:x.size≤1000) (fr:Int) (hf:0≤fr∧fr < 4294967296) (A2:Option Addr) (c2:Nat) (ps:List (List LA)) (w:World) (hr2:Kd.C (Kd.slice 45 k45) w A2 ps.length ps) (hc2:ps.length≤c2) (hl:ps.length≤1048576) (hw:∀ p ∈ ps,(∀ a ∈ p,WfL a)∧p.length≤1048576) :
  Calls Tryd.prog 17 #[.string x,.int .u32 fr,.slice A2 ps.length c2] w fun e w'=>∃ v,e = .returned v∧Kd.R k32 32 w' w.heap.size (fun _=>True) v (chainL x fr ps)∧Below w.heap.size w w':=by
 have HR:=Lib.hid hr2
 have HW:=Lib.hid hw
 obtain ⟨n,hn⟩:∃ n,chN ps = n:=⟨_,rfl⟩
 have hn':min (ps.length / 2) 4 = n:=hn
 have hn4:n≤4:=by omega
 obtain ⟨q,hq⟩:∃ q,ps.length / 2 = q:=⟨_,rfl⟩
 have hqn:min q 4 = n:=by omega
 have hmn:(if (4:Int) < (q:Int) then (4:Int) else (q:Int)) = (n:Int):=by split <;> omega
 have hdv:Int.tdiv (ps.length:Int) 2 = (q:Int):=by rw [← hq];rfl
 have hdv2:(ps.length:Int) / 2 = (q:Int):=by omega
 have hu32:IntKind.u32.wrap (n:Int) = (n:Int):=by rw [IntKind.wrap_u32];omega
 have HN:=Lib.hid hn
 have HQ:=Lib.hid (And.intro hq hqn)
 obtain ⟨k2,hk2⟩:=Ev.rounds (Soa_ev x ((fr + n) % 4294967296))
 obtain ⟨sd,hsd⟩:∃ sd,strOfNums (soaMake [] ((fr + n) % 4294967296) 10 3 40) = sd:=⟨_,rfl⟩
 have HSD:Hid (sR x ((fr + n) % 4294967296) = (⟨x,6,9,sd⟩:R)):=Lib.hid (by rw [← hsd];rfl)
 have HK2:Hid (bolterlaw09_Soa.f k2 x ((fr + n) % 4294967296) = some (x,6,9,sd)):=Lib.hid (by rw [← hsd];exact hk2)
 clear hr2 hw hn hn' hq hqn hk2 hsd
 go_enter Tryd.func17,Tryd.ntmps17
 go_wp2_with fail
 with_reducible refine (bolterlaw09_Soa.calls k2 x _ x 6 9 sd w HK2.out).mono ?_
 rintro e w1 ⟨rfl,hb⟩
 have HB1:=Lib.hid hb
 clear hb
 go_upto_region 3 with fail
 have hbA:=below_alloc (Below.refl w1.heap.size w1) (Obj.cells #[Value.string x,Value.int .u16 6,Value.int .u32 9,Value.string sd] 32)
 obtain ⟨g8,hg8⟩:∃ g,w1.heap.size = g:=⟨_,rfl⟩
 obtain ⟨w2,hw2⟩:∃ w2,w1.alloc (Obj.cells #[Value.string x,Value.int .u16 6,Value.int .u32 9,Value.string sd] 32) = w2:=⟨_,rfl⟩
 have hBK:w2.heap[g8]? = some (Obj.cells #[Value.string x,Value.int .u16 6,Value.int .u32 9,Value.string sd] 32 (0,0)):=by rw [← hw2,← hg8];exact blk_new w1 _
 rw [hw2] at hbA ⊢
 rw [hg8]
 have HB2:=Lib.hid (HB1.out.trans (hbA.mono HB1.out.size))
 have HBK2:=Lib.hid hBK
 clear hg8 hw2 hBK hbA HB1
 have f0:=(blk_cell HBK2.out 0).trans rfl
 have f1:=(blk_cell HBK2.out 1).trans rfl
 have f2:=(blk_cell HBK2.out 2).trans rfl
 have f3:=(blk_cell HBK2.out 3).trans rfl
 go_wp2_with ((with_reducible refine gate_dst (N:=22) rfl ?_);refine Kd.R_lit k32 (w0:=w) w.heap.size 32 ?hg (N:=22) ?hd (xs:=([(⟨x,6,9,sd⟩:R)])) (inner:=[.string x,.int .u16 6,.int .u32 9,.string sd]) (ok:=fun k=>k≠g8) (okp:=fun _=>False) ?hr ?hp (fun _ hk=>hk.elim) (by have:=blk_lt HBK2.out;omega) HB2.out HB2.out.size (by simp) ?_;(case hd=>rfl);(case hg=>rfl);(case hr=>first|(go_simp;done)|(go_simp;rfl));(case hp=>exact Reps.c4 (k32_mkM _ _ _ (⟨x,6,9,sd⟩:R)) (Reps.none _ _)))
 intro v9 w3 hR hB hg bq hat hat2
 have HB3:=Lib.hid hB
 have HBK3:=Lib.hid (blk_grown HBK2.out hg (by simp))
 have hhd:headL x fr ps 0 = [(⟨x,6,9,sd⟩:R)]:=by unfold headL;rw [HN.out,HSD.out];rfl
 rw [← hhd] at hR
 have HO3:=Lib.hid hR
 clear hR hB hg hat hat2 bq hhd f0 f1 f2 f3 HB2 HBK2
 have HN4:=Lib.hid hn4
 go_wp2_with fail
 go_loopw [9,10] (fun v9 i wx=>∃ j:Nat,j≤n∧i = .int .i64 j∧Aside0 (Kd.R k32 32 wx w.heap.size (fun k=>k≠g8) v9 (headL x fr ps j))∧Aside0 (wx.heap[g8]? = some (Obj.cells #[Value.string x,Value.int .u16 6,Value.int .u32 9,Value.string sd] 32 (0,0)))∧Aside0 (Below w.heap.size w wx))
  (fun _ i _=>n - (intOf i).toNat)
 case atStart=>exact ⟨0,Nat.zero_le _,rfl,⟨HO3.out⟩,⟨HBK3.out⟩,⟨HB3.out⟩⟩
 case round =>
  obtain ⟨j,hj,rfl,HO,HBK,HB⟩:=hrel
  have HO4:=Lib.hid HO.out
  have HBK4:=Lib.hid HBK.out
  have HB4:=Lib.hid HB.out
  clear HO HBK HB HO3 HBK3 HB3
  obtain ⟨w4,hw4⟩:∃ w4,wr = w4:=⟨_,rfl⟩
  subst hw4
  have HLN:Hid ((headL x fr ps j).length≤49):=Lib.hid (by have:=headL_len x fr ps j;have:=HN4.out;omega)
  by_cases hlt:j < n
  ·have h2:2 * j + 1 < ps.length:=by have:=HQ.out;omega
   obtain ⟨p1,hp1⟩:∃ p,ps[2 * j]? = some p:=⟨_,List.getElem?_eq_getElem (by omega)⟩
   obtain ⟨p2,hp2⟩:∃ p,ps[2 * j + 1]? = some p:=⟨_,List.getElem?_eq_getElem h2⟩
   have HWp1:=Lib.hid (HW.out p1 (List.mem_of_getElem? hp1))
   have HWp2:=Lib.hid (HW.out p2 (List.mem_of_getElem? hp2))
   have HIp1:=Lib.hid hp1
   have HIp2:=Lib.hid hp2
   obtain ⟨kA,hkA⟩:=Ev.rounds (Soa_ev x ((fr + j) % 4294967296))
   obtain ⟨sA,hsA⟩:∃ z,strOfNums (soaMake [] ((fr + j) % 4294967296) 10 3 40) = z:=⟨_,rfl⟩
   have HSA:Hid (sR x ((fr + j) % 4294967296) = (⟨x,6,9,sA⟩:R)):=Lib.hid (by rw [← hsA];rfl)
   have HKA:Hid (bolterlaw09_Soa.f kA x ((fr + j) % 4294967296) = some (x,6,9,sA)):=Lib.hid (by rw [← hsA];exact hkA)
   obtain ⟨kB,hkB⟩:=Ev.rounds (Soa_ev x ((fr + j + 1) % 4294967296))
   obtain ⟨sB,hsB⟩:∃ z,strOfNums (soaMake [] ((fr + j + 1) % 4294967296) 10 3 40) = z:=⟨_,rfl⟩
   have HSB:Hid (sR x ((fr + j + 1) % 4294967296) = (⟨x,6,9,sB⟩:R)):=Lib.hid (by rw [← hsB];rfl)
   have HKB:Hid (bolterlaw09_Soa.f kB x ((fr + j + 1) % 4294967296) = some (x,6,9,sB)):=Lib.hid (by rw [← hsB];exact hkB)
   have HST:Hid (headL x fr ps (j + 1) = headL x fr ps j ++ [(⟨x,6,9,sA⟩:R)] ++ underL x p1 5 false ++ [(⟨x,6,9,sB⟩:R)] ++ underL x p2 5 false):=Lib.hid (by
    rw [headL_step]
    unfold linkL
    rw [List.getD_eq_getElem?_getD,hp1,List.getD_eq_getElem?_getD,hp2,HSA.out,HSB.out]
    simp)
   have hj32:IntKind.u32.wrap (j:Int) = (j:Int):=by rw [IntKind.wrap_u32];omega
   have qi1:(0:Int)≤2 * (j:Int):=by omega
   have qi2:2 * (j:Int) < (ps.length:Int):=by omega
   have qi3:2 * (j:Int) + 1 < (ps.length:Int):=by omega
   have qi4:(0:Int)≤2 * (j:Int) + 1:=by omega
   have qi5:(2 * (j:Int) + 1).toNat = 2 * j + 1:=by omega
   have qi6:(2 * (j:Int)).toNat = 2 * j:=by omega
   have qi7:2 * j + 1 < ps.length:=h2
   have HMM:=Lib.hid (w_two2 j (Nat.le_trans (Nat.le_of_lt hlt) (Nat.le_trans HN4.out (by decide))))
   have HW1:=Lib.hid (w64n j (by omega))
   have HJ4:Hid (j≤4):=Lib.hid (by omega)
   have H2:=Lib.hid h2
   clear h2 hp1 hp2 hkA hsA hkB hsB
   go_wp2_with fail
   with_reducible refine (bolterlaw09_Soa.calls kA x _ x 6 9 sA wr HKA.out).mono ?_
   rintro e w5 ⟨rfl,hb⟩
   have HB5:=Lib.hid (HB4.out.trans (hb.mono HB4.out.size))
   have HO5:=Lib.hid (Kd.R_below HO4.out hb)
   have HBK5:=Lib.hid (blk_below HBK4.out hb)
   clear hb HB4 HO4 HBK4

   go_wp2_with ((with_reducible refine gate_builtin (b:=.append) (xs:=#[.tmp 28,.tmp 35]) rfl ?_);at_builtin;refine Kd.R_append k32 (w0:=w) w.heap.size rfl (.tmp 28) (.tmp 35) 26 32 (.agg #[(.string ⟨#[]⟩),(.int .u16 0),(.int .u32 0),(.string ⟨#[]⟩)]) 40 rfl Tryd.underlying26 info32 rfl (by decide) (by omega) u9 _ ((⟨x,6,9,sA⟩:R):R) [.string x,.int .u16 6,.int .u32 9,.string sA] (fun k=>k≠g8) (fun _=>False) rfl rfl (k32_mkM _ _ _ ((⟨x,6,9,sA⟩:R):R)) (fun _ hk=>hk.elim) (fun k hk=>by have:=blk_lt HBK5.out;omega) HO5.out HB5.out HB5.out.size (by have:=HLN.out;exact Nat.le_trans (Nat.mul_le_mul_right 40 (show _≤100 by first|omega|(simp only [List.length_append,List.length_cons,List.length_nil];have h1:=HU1.out;omega)|(simp only [List.length_append,List.length_cons,List.length_nil];have h1:=HU1.out;have h2:=HU2.out;omega))) (by decide)) ?_)
   intro v6 w6 hR hB hg hat

   have HB6:=Lib.hid hB
   have HO6:Hid (Kd.R k32 32 w6 w.heap.size (fun k=>k≠g8) _ (headL x fr ps j ++ [(⟨x,6,9,sA⟩:R)])):=Lib.hid (by first|exact hR|simpa using hR)
   have HBK6:=Lib.hid (blk_grown HBK5.out hg (fun e=>HO5.out.1 g8 e.symm rfl))
   clear hR hB hg hat HB5 HO5 HBK5

   obtain ⟨ad9,B1,e1,hA,hcell,hce,hCp⟩:=rows_at (Kd.C_below HR.out HB6.out) (2 * j) p1 HIp1.out
   first|subst hA|obtain rfl:=Option.some.inj hA
   have hmul:=HMM.out.1
   go_wp2_with fail
   clear hmul
   have key:=under_ x hx B1 e1 p1 5 false w6 hCp hce (HWp1.out.2) (by decide) (HWp1.out.1)
   rw [show ((5:Nat):Int) = 5 from rfl] at key
   with_reducible refine key.mono ?_
   clear key
   rintro e w7 ⟨vU,rfl,hRU,hb⟩
   obtain ⟨AU,cU,rfl,hcU,hCU⟩:=Kd.R_reads hRU
   have HU1:Hid ((underL x p1 5 false).length≤5):=Lib.hid (underL_len5 x p1)
   have HB7:=Lib.hid (HB6.out.trans (hb.mono HB6.out.size))
   have HO7:=Lib.hid (Kd.R_below HO6.out hb)
   have HBK7:=Lib.hid (blk_below HBK6.out hb)
   have HCU:=Lib.hid hCU
   clear hb hRU hCU hCp hcell HB6 HO6 HBK6
   go_wp2_with ((with_reducible refine gate_builtin (b:=.append) (xs:=#[.tmp 37,.tmp 44]) rfl ?_);at_builtin;refine Kd.R_append_rows k32 (w0:=w) w.heap.size rfl (.tmp 37) (.tmp 44) 26 32 (.agg #[(.string ⟨#[]⟩),(.int .u16 0),(.int .u32 0),(.string ⟨#[]⟩)]) 40 rfl Tryd.underlying26 info32 rfl (by decide) (by omega) v6 _ (underL x p1 5 false) _ _ _ (fun k=>k≠g8) (fun _=>False) rfl rfl HO7.out HCU.out (fun _ _ h=>h) (fun _ h=>h.elim) (fun k hk=>by have:=blk_lt HBK7.out;omega) HB7.out HB7.out.size (by have:=HLN.out;have hu:=HU1.out;exact Nat.le_trans (Nat.mul_le_mul_right 40 (show _≤100 by first|(simp only [List.length_append,List.length_cons,List.length_nil];omega)|(simp only [List.length_append,List.length_cons,List.length_nil];have h1:=HU1.out;omega))) (by decide)) ?_)
   intro v8 w8 hR hB hg hat

   have HB8:=Lib.hid hB
   have HO8:Hid (Kd.R k32 32 w8 w.heap.size (fun k=>k≠g8) _ (headL x fr ps j ++ [(⟨x,6,9,sA⟩:R)] ++ underL x p1 5 false)):=Lib.hid (by first|exact hR|simpa using hR)
   have HBK8:=Lib.hid (blk_grown HBK7.out hg (fun e=>HO7.out.1 g8 e.symm rfl))
   clear hR hB hg hat HB7 HO7 HBK7
   go_wp2_with fail

   with_reducible refine (bolterlaw09_Soa.calls kB x _ x 6 9 sB w8 HKB.out).mono ?_
   rintro e w9 ⟨rfl,hb⟩
   have HB9:=Lib.hid (HB8.out.trans (hb.mono HB8.out.size))
   have HO9:=Lib.hid (Kd.R_below HO8.out hb)
   have HBK9:=Lib.hid (blk_below HBK8.out hb)
   clear hb HB8 HO8 HBK8

   go_wp2_with ((with_reducible refine gate_builtin (b:=.append) (xs:=#[.tmp 46,.tmp 54]) rfl ?_);at_builtin;refine Kd.R_append k32 (w0:=w) w.heap.size rfl (.tmp 46) (.tmp 54) 26 32 (.agg #[(.string ⟨#[]⟩),(.int .u16 0),(.int .u32 0),(.string ⟨#[]⟩)]) 40 rfl Tryd.underlying26 info32 rfl (by decide) (by omega) v8 _ ((⟨x,6,9,sB⟩:R):R) [.string x,.int .u16 6,.int .u32 9,.string sB] (fun k=>k≠g8) (fun _=>False) rfl rfl (k32_mkM _ _ _ ((⟨x,6,9,sB⟩:R):R)) (fun _ hk=>hk.elim) (fun k hk=>by have:=blk_lt HBK9.out;omega) HO9.out HB9.out HB9.out.size (by have:=HLN.out;exact Nat.le_trans (Nat.mul_le_mul_right 40 (show _≤100 by first|omega|(simp only [List.length_append,List.length_cons,List.length_nil];have h1:=HU1.out;omega)|(simp only [List.length_append,List.length_cons,List.length_nil];have h1:=HU1.out;have h2:=HU2.out;omega))) (by decide)) ?_)
   intro v10 w10 hR hB hg hat

   have HB10:=Lib.hid hB
   have HO10:Hid (Kd.R k32 32 w10 w.heap.size (fun k=>k≠g8) _ (headL x fr ps j ++ [(⟨x,6,9,sA⟩:R)] ++ underL x p1 5 false ++ [(⟨x,6,9,sB⟩:R)])):=Lib.hid (by first|exact hR|simpa using hR)
   have HBK10:=Lib.hid (blk_grown HBK9.out hg (fun e=>HO9.out.1 g8 e.symm rfl))
   clear hR hB hg hat HB9 HO9 HBK9

   obtain ⟨ad9,B1,e1,hA,hcell,hce,hCp⟩:=rows_at (Kd.C_below HR.out HB10.out) (2 * j + 1) p2 HIp2.out
   first|subst hA|obtain rfl:=Option.some.inj hA
   have hmul:=HMM.out.1
   have hmul2:=HMM.out.2
   rw [add_odd] at hcell
   go_wp2_with fail
   clear hmul hmul2
   have key:=under_ x hx B1 e1 p2 5 false w10 hCp hce (HWp2.out.2) (by decide) (HWp2.out.1)
   rw [show ((5:Nat):Int) = 5 from rfl] at key
   with_reducible refine key.mono ?_
   clear key
   rintro e w11 ⟨vU,rfl,hRU,hb⟩
   obtain ⟨AU,cU,rfl,hcU,hCU⟩:=Kd.R_reads hRU
   have HU2:Hid ((underL x p2 5 false).length≤5):=Lib.hid (underL_len5 x p2)
   have HB11:=Lib.hid (HB10.out.trans (hb.mono HB10.out.size))
   have HO11:=Lib.hid (Kd.R_below HO10.out hb)
   have HBK11:=Lib.hid (blk_below HBK10.out hb)
   have HCU:=Lib.hid hCU
   clear hb hRU hCU hCp hcell HB10 HO10 HBK10
   go_wp2_with ((with_reducible refine gate_builtin (b:=.append) (xs:=#[.tmp 56,.tmp 64]) rfl ?_);at_builtin;refine Kd.R_append_rows k32 (w0:=w) w.heap.size rfl (.tmp 56) (.tmp 64) 26 32 (.agg #[(.string ⟨#[]⟩),(.int .u16 0),(.int .u32 0),(.string ⟨#[]⟩)]) 40 rfl Tryd.underlying26 info32 rfl (by decide) (by omega) v10 _ (underL x p2 5 false) _ _ _ (fun k=>k≠g8) (fun _=>False) rfl rfl HO11.out HCU.out (fun _ _ h=>h) (fun _ h=>h.elim) (fun k hk=>by have:=blk_lt HBK11.out;omega) HB11.out HB11.out.size (by have:=HLN.out;have hu:=HU2.out;exact Nat.le_trans (Nat.mul_le_mul_right 40 (show _≤100 by first|(simp only [List.length_append,List.length_cons,List.length_nil];omega)|(simp only [List.length_append,List.length_cons,List.length_nil];have h1:=HU1.out;omega))) (by decide)) ?_)
   intro v12 w12 hR hB hg hat

   have HB12:=Lib.hid hB
   have HO12:Hid (Kd.R k32 32 w12 w.heap.size (fun k=>k≠g8) _ (headL x fr ps j ++ [(⟨x,6,9,sA⟩:R)] ++ underL x p1 5 false ++ [(⟨x,6,9,sB⟩:R)] ++ underL x p2 5 false)):=Lib.hid (by first|exact hR|simpa using hR)
   have HBK12:=Lib.hid (blk_grown HBK11.out hg (fun e=>HO11.out.1 g8 e.symm rfl))
   clear hR hB hg hat HB11 HO11 HBK11

   rw [← HST.out] at HO12
   clear qi1 qi2 qi3 qi4 qi5 qi6 qi7 hj32 hmn hdv hdv2 hu32
   go_wp2
   go_roundw
   case rel=>exact ⟨j + 1,by omega,by go_num,⟨HO12.out⟩,⟨HBK12.out⟩,⟨HB12.out⟩⟩
   case measure=>simp [intOf];omega
  ·obtain rfl:j = n:=by omega
   have f0:=(blk_cell HBK4.out 0).trans rfl
   have f1:=(blk_cell HBK4.out 1).trans rfl
   have f2:=(blk_cell HBK4.out 2).trans rfl
   have f3:=(blk_cell HBK4.out 3).trans rfl
   have HU1:Hid True:=Lib.hid trivial
   have HU2:Hid True:=Lib.hid trivial

   go_wp2_with ((with_reducible refine gate_builtin (b:=.append) (xs:=#[.tmp 66,.tmp 68]) rfl ?_);at_builtin;refine Kd.R_append k32 (w0:=w) w.heap.size rfl (.tmp 66) (.tmp 68) 26 32 (.agg #[(.string ⟨#[]⟩),(.int .u16 0),(.int .u32 0),(.string ⟨#[]⟩)]) 40 rfl Tryd.underlying26 info32 rfl (by decide) (by omega) u9 _ ((⟨x,6,9,sd⟩:R):R) [.string x,.int .u16 6,.int .u32 9,.string sd] (fun k=>k≠g8) (fun _=>False) rfl rfl (k32_mkM _ _ _ ((⟨x,6,9,sd⟩:R):R)) (fun _ hk=>hk.elim) (fun k hk=>by have:=blk_lt HBK4.out;omega) HO4.out HB4.out HB4.out.size (by have:=HLN.out;exact Nat.le_trans (Nat.mul_le_mul_right 40 (show _≤100 by first|omega|(simp only [List.length_append,List.length_cons,List.length_nil];have h1:=HU1.out;omega)|(simp only [List.length_append,List.length_cons,List.length_nil];have h1:=HU1.out;have h2:=HU2.out;omega))) (by decide)) ?_)
   intro v5 w5 hR hB hg hat

   have hch:headL x fr ps j ++ [(⟨x,6,9,sd⟩:R)] = chainL x fr ps:=by
    unfold headL chainL
    rw [HN.out,HSD.out]
    rfl
   rw [hch] at hR
   have HR5:=Lib.hid hR
   have HB5:=Lib.hid hB
   clear hR hB hg hat hch
   go_wp2
   go_ret
   exact ⟨_,rfl,Kd.R_mono HR5.out (fun _ _=>trivial),HB5.out⟩
theorem chain_end (x:ByteArray) (fr:Int) (ps:List (List LA)):chainL x fr ps = headL x fr ps (chN ps) ++ [sR x ((fr + chN ps) % 4294967296)]:=rfl
theorem chain_len (x:ByteArray) (fr:Int) (ps:List (List LA)):2≤(chainL x fr ps).length∧(chainL x fr ps).length≤50:=by
 have hn4:chN ps≤4:=Nat.min_le_right _ _
 have h:=headL_len x fr ps (chN ps)
 have h0:1≤(headL x fr ps (chN ps)).length:=by unfold headL;simp
 rw [chain_end,List.length_append,List.length_singleton]
 omega
end Go.Proofs.YtlobjcokopfbkaaDoor.Str
