/- part of a proof; what it has no use for was struck out -/
import Derived.Test.YtlobjcokopfbkaaDoorStrP
import Derived.Test.YtlobjcokopfbkaaDoorPYx15
import Derived.Test.YtlobjcokopfbkaaDoorPYx14
namespace Go.Proofs.YtlobjcokopfbkaaDoor.Str
open Go.RowKit Go.Proofs.YtlobjcokopfbkaaDoor.PY Go.Proofs.YtlobjcokopfbkaaDoorW Go.Proofs.YtlobjcokopfbkaaDoorW.PrintWords Go.Proofs.YtlobjcokopfbkaaDoorW.PrintLast Go.Proofs.YtlobjcokopfbkaaDoorW.PrintMore Go.Proofs.YtlobjcokopfbkaaDoor.Base Go.Proofs.YtlobjcokopfbkaaDoor.Nam Go.Proofs.YtlobjcokopfbkaaDoor.Soa Go.Proofs.YtlobjcokopfbkaaDoor.QY
set_option linter.unusedVariables false
set_option linter.unusedSimpArgs false
set_option maxRecDepth 100000
attribute [local go_sem high] eqA32
theorem Ser_ev2 (r:R) (h:Sz r):Ev (fun k=>bolterlaw09_serial.f k r.f0 r.f1 r.f2 r.f3) (ser r):=by
 obtain ⟨K,g⟩:=Of_ev r.f0 r.f1 r.f2 r.f3 (by have:=h.2;omega)
 refine ⟨K,fun k hk=>?_⟩
 have e:=g k hk
 simp only at e
 show bolterlaw09_serial.f k r.f0 r.f1 r.f2 r.f3 = _
 unfold bolterlaw09_serial.f
 rw [e]
 rfl
def nOf (q:Res):Int × Int:=match q.2.2.2 with
 | some e=>(e,0)
 | none=>(0,if q.1 = true then -2 else if q.2.1 = [] then (q.2.2.1.length:Int) else -1)
theorem run_end {l:List R} (h:∀ a,l.head? = some a→a.f1 = 6):(runL l).2 = l:=by
 cases l with
 | nil=>rfl
 | cons a t=>unfold runL;rw [if_pos (h a rfl)]
theorem run_on {l:List R} {i:Nat} {a:R} (h:l[i]? = some a) (h6:a.f1≠6):(runL (l.drop i)).2 = (runL (l.drop (i + 1))).2:=by
 have hi:=(List.getElem?_eq_some_iff.1 h).1
 rw [List.drop_eq_getElem_cons hi]
 rw [List.getElem?_eq_getElem hi] at h
 injection h with h
 rw [h]
 conv=>lhs;unfold runL
 rw [if_neg h6]
theorem dropC {l:List R} {i:Nat} {a:R} (h:l[i]? = some a):l.drop i = a :: l.drop (i + 1):=by
 have hi:=(List.getElem?_eq_some_iff.1 h).1
 rw [List.drop_eq_getElem_cons hi]
 rw [List.getElem?_eq_getElem hi] at h
 injection h with h
 rw [h]
set_option maxHeartbeats 8000000 in
theorem part_ (x:ByteArray) (fr:Int) (A2:Option Addr) (c2:Nat) (rs:List R) (w:World) (hC:Kd.C k32 w A2 rs.length rs) (hc:rs.length≤c2) (hl:rs.length≤1000) (hs:∀ r ∈ rs,Sz r) (b:Bool) (hM:Ev (fun k=>bolterlaw09_may.f k x rs) b) (hF:Ev (fun k=>bolterlaw09_full.f k x rs) (fullB b rs)) (hne:b = true→rs≠[]) :
  Calls Tryd.prog 16 #[.string x,.int .u32 fr,.slice A2 rs.length c2] w fun e w'=>e = .returned (.tuple #[.int .i64 (nOf (partL b fr rs)).1,.int .i64 (nOf (partL b fr rs)).2])∧Below w.heap.size w w':=by
 have HC:=Lib.hid hC
 have HS:=Lib.hid hs
 obtain ⟨kM,hkM⟩:=Ev.rounds hM
 obtain ⟨kF,hkF⟩:=Ev.rounds hF
 have HKM:=Lib.hid hkM
 have HKF:=Lib.hid hkF
 have HNE:=Lib.hid hne
 clear hC hs hM hF hkM hkF hne
 go_enter Tryd.func16,Tryd.ntmps16
 go_wp2_with fail
 refine (bolterlaw09_may.calls kM x A2 c2 rs b w HC.out hc HKM.out).mono ?_
 rintro e w1 ⟨rfl,hb⟩
 have HB1:=Lib.hid hb
 clear hb
 cases b with
 | false =>
  go_wp2
  go_ret2
  exact ⟨rfl,HB1.out⟩
 | true =>
  obtain ⟨r0,t,hrt⟩:∃ r0 t,rs = r0 :: t:=by
   cases rs with
   | nil=>exact absurd rfl (HNE.out rfl)
   | cons r0 t=>exact ⟨r0,t,rfl⟩
  have h0:rs[0]? = some r0:=by rw [hrt];rfl
  have hlt:rs.length = t.length + 1:=by rw [hrt];rfl
  obtain ⟨kS,hkS⟩:=Ev.rounds (Ser_ev2 r0 (HS.out r0 (List.mem_of_getElem? h0)))
  obtain ⟨ad,hA,q0,q1,q2,q3⟩:=at_T32 (Kd.C_below HC.out HB1.out) 0 (by omega) (by omega)
  have e0:rd_T32 rs 0 = r0:=rd_R (i:=0) h0
  rw [e0] at q0 q1 q2 q3
  rw [show ((0:Int)).toNat * 4 = 0 from rfl,Addr.add_zero'] at q0 q1 q2 q3
  subst hA
  have HKS:=Lib.hid hkS
  have HH0:=Lib.hid h0
  have HRT:=Lib.hid hrt
  clear hkS h0 hrt e0
  by_cases h1:rs.length = 1
  ·have d1:decide ((rs.length:Int) = 1) = true:=decide_eq_true (by omega)
   have d1b:((rs.length:Int) == 1) = true:=beq_iff_eq.2 (by omega)
   have hn:partL true fr rs = if ser r0 = fr then (true,[],[],none) else err 5:=by
    rw [HRT.out]
    have ht:t = []:=List.eq_nil_of_length_eq_zero (by omega)
    rw [ht]
    rfl
   have HN:=Lib.hid hn
   have hp0:0 < rs.length:=by omega
   clear hn h1 hlt
   go_wp2_with fail
   with_reducible refine (bolterlaw09_serial.calls kS r0.f0 r0.f1 r0.f2 r0.f3 _ w1 HKS.out).mono ?_
   rintro e w2 ⟨rfl,hb⟩
   have HB2:=Lib.hid (HB1.out.trans (hb.mono HB1.out.size))
   clear hb
   by_cases hf:ser r0 = fr
   ·have d2:(ser r0 == fr) = true:=beq_iff_eq.2 hf
    have HF:=Lib.hid hf
    clear hf
    go_wp2
    go_ret2
    exact ⟨by rw [HN.out,if_pos HF.out];rfl,HB2.out⟩
   ·have d2:(ser r0 == fr) = false:=beq_eq_false_iff_ne.mpr hf
    have HF:=Lib.hid hf
    clear hf
    go_wp2
    go_ret2
    exact ⟨by rw [HN.out,if_neg HF.out];rfl,HB2.out⟩
  ·have d1:decide ((rs.length:Int) = 1) = false:=decide_eq_false (by omega)
   have d1b:((rs.length:Int) == 1) = false:=beq_eq_false_iff_ne.mpr (by omega)
   clear q0 q1 q2 q3
   obtain ⟨M,hM⟩:∃ M,rs.length = M + 1:=⟨t.length,hlt⟩
   have HMM:=Lib.hid hM
   have h2:2≤rs.length:=by omega
   have H2:=Lib.hid h2
   clear hlt hM h1 h2
   go_wp2_with fail
   with_reducible refine (bolterlaw09_full.calls kF x (some ad) c2 rs (fullB true rs) w1 (Kd.C_below HC.out HB1.out) hc HKF.out).mono ?_
   rintro e w2 ⟨rfl,hb⟩
   have HB2:=Lib.hid (HB1.out.trans (hb.mono HB1.out.size))
   clear hb HB1
   have hpf:partL true fr rs = if fullB true rs = true then (false,rs.take (rs.length - 1),[],none) else deltasL (t.length + 1) fr t [] r0:=by
    have h2:=H2.out
    rw [HRT.out] at h2 ⊢
    cases t with
    | nil=>exact absurd h2 (by simp)
    | cons t0 t=>rfl
   have HPF:=Lib.hid hpf
   clear hpf
   cases hfb:fullB true rs with
   | true =>
    have hn:nOf (partL true fr rs) = (0, -1):=by
     rw [HPF.out,if_pos hfb]
     unfold nOf
     have h2:=H2.out
     have:rs.take (rs.length - 1)≠[]:=fun h=>by
      have:=congrArg List.length h
      rw [List.length_take,List.length_nil] at this
      omega
     simp [this]
    have HN:=Lib.hid hn
    clear hn hfb
    go_wp2
    go_ret2
    exact ⟨by rw [HN.out];rfl,HB2.out⟩
   | false =>
    obtain ⟨D,hD⟩:∃ D,deltasL (t.length + 1) fr t [] r0 = D:=⟨_,rfl⟩
    have hn:partL true fr rs = D:=by rw [HPF.out,hfb,← hD];rfl
    have HN:=Lib.hid hn
    have hD1:deltasL (rs.length) fr (rs.drop 1) [] r0 = D:=by rw [HRT.out,← hD];rfl
    have HD:=Lib.hid hD1
    clear hn hD hD1 hfb HPF
    go_upto_region 11 with fail
    have hbA:=below_alloc (Below.refl w2.heap.size w2) (Obj.cells #[Value.string (⟨#[]⟩:ByteArray),Value.int .u16 0,Value.int .u32 0,Value.string (⟨#[]⟩:ByteArray)] 32)
    obtain ⟨g,hg⟩:∃ g,w2.heap.size = g:=⟨_,rfl⟩
    obtain ⟨w3,hw3⟩:∃ w3,w2.alloc (Obj.cells #[Value.string (⟨#[]⟩:ByteArray),Value.int .u16 0,Value.int .u32 0,Value.string (⟨#[]⟩:ByteArray)] 32) = w3:=⟨_,rfl⟩
    have hBK:w3.heap[g]? = some (Obj.cells #[Value.string (⟨#[]⟩:ByteArray),Value.int .u16 0,Value.int .u32 0,Value.string (⟨#[]⟩:ByteArray)] 32 (0,0)):=by rw [← hw3,← hg];exact blk_new w2 _
    have hgw:w.heap.size≤g:=by rw [← hg];exact HB2.out.size
    rw [hw3] at hbA ⊢
    rw [hg]
    have HB3:=Lib.hid (HB2.out.trans (hbA.mono HB2.out.size))
    have HBK3:=Lib.hid hBK
    have HG:=Lib.hid hgw
    clear hbA hg hw3 hBK hgw HB2
    go_loopw [1,8,9] (fun v1 v8 v9 wx=>∃ (f:Int) (i:Nat) (out:List DL) (m:Nat) (t0:R),v1 = .int .u32 f∧v8 = .int .i64 i∧v9 = .int .i64 out.length∧Aside0 (i≤rs.length∧1≤i∧out.length≤i∧rs.length - i < m)∧Aside0 (deltasL m f (rs.drop i) out r0 = D)∧Aside0 (∀ d,out.getLast? = some d→t0 = d.f1)∧Aside0 (wx.heap[g]? = some (Obj.cells #[Value.string t0.f0,Value.int .u16 t0.f1,Value.int .u32 t0.f2,Value.string t0.f3] 32 (0,0)))∧Aside0 (Below w.heap.size w wx))
     (fun _ i _ _=>rs.length - (intOf i).toNat)
    case atStart=>exact ⟨fr,1,[],rs.length,⟨(⟨#[]⟩:ByteArray),0,0,(⟨#[]⟩:ByteArray)⟩,rfl,rfl,rfl,⟨by have:=H2.out;exact ⟨by omega,by omega,by simp,by omega⟩⟩,⟨HD.out⟩,⟨fun d h=>by cases h⟩,⟨HBK3.out⟩,⟨HB3.out⟩⟩
    case round =>
     obtain ⟨f,i,out,m,t0,rfl,rfl,rfl,HI,HDD,HTO,HBK,HB⟩:=hrel
     have hM:=HMM.out
     have hii:=HI.out
     have hw1:wrap64 ((rs.length:Int) - 1) = (M:Int):=by rw [hM];exact (w64i (by omega) (by omega)).trans (by omega)
     have hp0:0 < rs.length:=by omega
     obtain ⟨m',rfl⟩:∃ m',m = m' + 1:=⟨m - 1,by omega⟩
     by_cases hA:i < M
     ·have dA:decide ((i:Int) < (M:Int)) = true:=decide_eq_true (by omega)
      have dA2:decide ((i:Int) < (rs.length:Int) - 1) = true:=decide_eq_true (by omega)
      have hil:i < rs.length:=by omega
      obtain ⟨ra,hra⟩:∃ a,rs[i]? = some a:=⟨_,List.getElem?_eq_getElem hil⟩
      have hdr:=dropC hra
      have hgt:1 < (rs.drop i).length:=by rw [List.length_drop];omega
      obtain ⟨ad2,hA2,q0,q1,q2,q3⟩:=at_T32 (Kd.C_below HC.out HB.out) (i:Int) (by omega) (by omega)
      obtain rfl:ad = ad2:=by injection hA2
      rw [rd_R hra,show ((i:Int)).toNat = i by omega] at q0 q1 q2 q3
      have hDD:=HDD.out
      unfold deltasL at hDD
      rw [if_pos hgt,hdr] at hDD
      simp only at hDD
      have HRA:=Lib.hid hra
      have HW1:=Lib.hid hw1
      have HII:=Lib.hid hii
      have HAM:=Lib.hid hA
      clear hra hdr hgt hM hii hA2
      by_cases h6:ra.f1 = 6
      ·have d6:(ra.f1 == 6) = true:=by rw [h6];rfl
       rw [if_pos h6] at hDD
       obtain ⟨kS2,hkS2⟩:=Ev.rounds (Ser_ev2 ra (HS.out ra (List.mem_of_getElem? HRA.out)))
       have HKS2:=Lib.hid hkS2
       clear h6 hkS2
       by_cases hf:ser ra = f
       ·have d7:(ser ra == f) = true:=beq_iff_eq.2 hf
        rw [if_pos hf] at hDD
        have HDE:=Lib.hid hDD
        clear hf hDD
        have hwi:=w64n i (by have:=HII.out;omega)
        go_wp2_with fail
        with_reducible refine (bolterlaw09_serial.calls kS2 ra.f0 ra.f1 ra.f2 ra.f3 _ wr HKS2.out).mono ?_
        rintro e w5 ⟨rfl,hb⟩
        have HB5:=Lib.hid (HB.out.trans (hb.mono HB.out.size))
        have HBK5:=Lib.hid (blk_below HBK.out hb)
        clear hb HB HBK q0 q1 q2 q3 hw1 dA dA2 hA hil
        go_wp2_with fail
        clear hwi d6 d7
        go_loopw [8] (fun v8 wx=>∃ j:Nat,v8 = .int .i64 j∧Aside0 (i + 1≤j∧j≤rs.length∧(runL (rs.drop (i + 1))).2 = (runL (rs.drop j)).2)∧wx = w5)
         (fun i _=>rs.length - (intOf i).toNat)
        case atStart=>exact ⟨i + 1,by first|rfl|rw [w64n i (by have:=HII.out;omega)],⟨Nat.le_refl _,by have:=HAM.out;have:=HMM.out;omega,rfl⟩,rfl⟩
        case round =>
         obtain ⟨j,rfl,HJ,rfl⟩:=hrel
         have hjj:=HJ.out
         have HJJ:=Lib.hid hjj
         by_cases hjl:j < rs.length
         ·obtain ⟨rb,hrb⟩:∃ a,rs[j]? = some a:=⟨_,List.getElem?_eq_getElem hjl⟩
          obtain ⟨ad2,hA2,q0,q1,q2,q3⟩:=at_T32 (Kd.C_below HC.out HB5.out) (j:Int) (by omega) (by omega)
          obtain rfl:ad = ad2:=by injection hA2
          rw [rd_R hrb,show ((j:Int)).toNat = j by omega] at q0 q1 q2 q3
          have dj:decide ((j:Int) < (rs.length:Int)) = true:=decide_eq_true (by omega)
          have dj2:decide (j < rs.length) = true:=decide_eq_true hjl
          have HRB:=Lib.hid hrb
          have HJL:=Lib.hid hjl
          by_cases h6b:rb.f1 = 6
          ·have d6:(rb.f1 == 6) = true:=by rw [h6b];rfl
           have hrun:(runL (rs.drop (i + 1))).2 = rb :: rs.drop (j + 1):=by
            rw [hjj.2.2,dropC hrb]
            exact run_end (fun a ha=>by injection ha with ha;rw [← ha];exact h6b)
           have hDE:=HDE.out
           rw [hrun] at hDE
           simp only at hDE
           have HDF:=Lib.hid hDE
           have dq:((j:Int) == (rs.length:Int)) = false:=beq_eq_false_iff_ne.mpr (by omega)
           have dq2:decide ((j:Int) = (rs.length:Int)) = false:=decide_eq_false (by omega)
           have f0:=(blk_cell HBK5.out 0).trans rfl
           have f1:=(blk_cell HBK5.out 1).trans rfl
           have f2:=(blk_cell HBK5.out 2).trans rfl
           have f3:=(blk_cell HBK5.out 3).trans rfl
           have z0:=blk_frozen HBK5.out 0
           have z1:=blk_frozen HBK5.out 1
           have z2:=blk_frozen HBK5.out 2
           have z3:=blk_frozen HBK5.out 3
           obtain ⟨kS3,hkS3⟩:=Ev.rounds (Ser_ev2 rb (HS.out rb (List.mem_of_getElem? HRB.out)))
           have HKS3:=Lib.hid hkS3
           have hjn:=hjj.2.1
           clear hrun hDE hjj h6b hA2 hrb hkS3
           go_upto_region 22 with fail
           obtain ⟨w6,hw6⟩:∃ z_,(((wr.setCell ⟨g,0,none⟩ (.string rb.f0)).setCell ⟨g,1,none⟩ (.int .u16 rb.f1)).setCell ⟨g,2,none⟩ (.int .u32 rb.f2)).setCell ⟨g,3,none⟩ (.string rb.f3) = z_:=⟨_,rfl⟩
           have hBK:w6.heap[g]? = some (Obj.cells #[Value.string rb.f0,Value.int .u16 rb.f1,Value.int .u32 rb.f2,Value.string rb.f3] 32 (0,0)):=by rw [← hw6];exact blk_put (blk_put (blk_put (blk_put HBK5.out 0 _ rfl) 1 _ rfl) 2 _ rfl) 3 _ rfl
           have hB6:Below w.heap.size w w6:=by rw [← hw6];exact below_set (below_set (below_set (below_set HB5.out HG.out) HG.out) HG.out) HG.out
           rw [hw6]
           have HBK6:=Lib.hid hBK
           have HB6:=Lib.hid hB6
           clear hw6 hBK hB6 f0 f1 f2 f3 z0 z1 z2 z3 HB5 HBK5 q0 q1 q2 q3 dq dq2 dj dj2 d6 hjl
           have p0:=(blk_cell HBK6.out 0).trans rfl
           have p1:=(blk_cell HBK6.out 1).trans rfl
           have p2:=(blk_cell HBK6.out 2).trans rfl
           have p3:=(blk_cell HBK6.out 3).trans rfl
           go_wp2_with fail
           with_reducible refine (bolterlaw09_serial.calls kS3 rb.f0 rb.f1 rb.f2 rb.f3 _ w6 HKS3.out).mono ?_
           rintro e w7 ⟨rfl,hb⟩
           have HB7:=Lib.hid (HB6.out.trans (hb.mono HB6.out.size))
           have HBK7:=Lib.hid (blk_below HBK6.out hb)
           clear hb HB6 HBK6 p0 p1 p2 p3
           go_wp2_with fail
           go_loopw [8] (fun v8 wx=>∃ k:Nat,v8 = .int .i64 k∧Aside0 (j + 1≤k∧k≤rs.length∧(runL (rs.drop (j + 1))).2 = (runL (rs.drop k)).2)∧wx = w7)
            (fun i _=>rs.length - (intOf i).toNat)
           case atStart=>exact ⟨j + 1,by first|rfl|rw [w64n j (by have:=HJL.out;omega)],⟨Nat.le_refl _,by have:=HJL.out;omega,rfl⟩,rfl⟩
           case round =>
            obtain ⟨k,rfl,HK,rfl⟩:=hrel
            have hkk:=HK.out
            have hlo:wrap64 ((out.length:Int) + 1) = ((out.length + 1:Nat):Int):=w64n _ (by have:=HII.out;omega)
            have HLO:=Lib.hid hlo
            have hfin:∀ q,(runL (rs.drop k)).2 = q→deltasL m' (ser rb) q (out ++ [(⟨ra,rb,(runL (rs.drop (i + 1))).1,(runL (rs.drop (j + 1))).1⟩:DL)]) r0 = D:=fun q hq=>by rw [← hq,← hkk.2.2];exact HDF.out
            have HFIN:=Lib.hid hfin
            have HKK:=Lib.hid hkk
            clear hlo hfin hkk HK
            have hk1:=HKK.out.2.1
            by_cases hkl:k < rs.length
            ·obtain ⟨rc,hrc⟩:∃ a,rs[k]? = some a:=⟨_,List.getElem?_eq_getElem hkl⟩
             obtain ⟨ad2,hA2,q0,q1,q2,q3⟩:=at_T32 (Kd.C_below HC.out HB7.out) (k:Int) (by omega) (by omega)
             obtain rfl:ad = ad2:=by injection hA2
             rw [rd_R hrc,show ((k:Int)).toNat = k by omega] at q0 q1 q2 q3
             have dj:decide ((k:Int) < (rs.length:Int)) = true:=decide_eq_true (by omega)
             have dj2:decide (k < rs.length) = true:=decide_eq_true hkl
             have HRC:=Lib.hid hrc
             have HKL:=Lib.hid hkl
             clear hA2 hrc
             by_cases h6c:rc.f1 = 6
             ·have d6:(rc.f1 == 6) = true:=by rw [h6c];rfl
              have H6C:=Lib.hid h6c
              clear h6c
              go_wp2_with fail
              go_roundw
              case rel=>exact ⟨ser rb,k,out ++ [(⟨ra,rb,(runL (rs.drop (i + 1))).1,(runL (rs.drop (j + 1))).1⟩:DL)],m',rb,rfl,rfl,by rw [HLO.out,List.length_append];rfl,⟨by have h1:=HKK.out;have h2:=HII.out;have h3:=HJJ.out;rw [List.length_append,List.length_singleton];omega⟩,⟨HFIN.out _ (by rw [dropC HRC.out];exact run_end (fun a ha=>by injection ha with ha;rw [← ha];exact H6C.out))⟩,⟨fun d hd=>by rw [List.getLast?_concat] at hd;injection hd with hd;rw [← hd]⟩,⟨HBK7.out⟩,⟨HB7.out⟩⟩
              case measure=>have h1:=HKK.out;have h3:=HJJ.out;simp [intOf];omega
             ·have d6:(rc.f1 == 6) = false:=beq_eq_false_iff_ne.mpr h6c
              have hon:=run_on HRC.out h6c
              have HON:=Lib.hid hon
              clear h6c hon
              go_wp2_with fail
              go_roundw
              case rel=>exact ⟨k + 1,by first|rfl|rw [w64n k (by have:=HKL.out;omega)],⟨by have:=HKK.out;omega,by have:=HKL.out;omega,HKK.out.2.2.trans HON.out⟩,by trivial⟩
              case measure=>have h1:=HKL.out;simp [intOf,w64n k (by omega)];omega
            ·obtain rfl:k = rs.length:=by omega
             have dj:decide ((rs.length:Int) < (rs.length:Int)) = false:=decide_eq_false (by omega)
             have dj2:decide (rs.length < rs.length) = false:=decide_eq_false hkl
             clear hkl
             go_wp2_with fail
             go_roundw
             case rel=>exact ⟨ser rb,rs.length,out ++ [(⟨ra,rb,(runL (rs.drop (i + 1))).1,(runL (rs.drop (j + 1))).1⟩:DL)],m',rb,rfl,rfl,by rw [HLO.out,List.length_append];rfl,⟨by have h1:=HKK.out;have h2:=HII.out;have h3:=HJJ.out;rw [List.length_append,List.length_singleton];omega⟩,⟨HFIN.out _ (by rw [List.drop_eq_nil_of_le (Nat.le_refl _)];rfl)⟩,⟨fun d hd=>by rw [List.getLast?_concat] at hd;injection hd with hd;rw [← hd]⟩,⟨HBK7.out⟩,⟨HB7.out⟩⟩
             case measure=>have h1:=HKK.out;have h3:=HJJ.out;simp [intOf];omega
          ·have d6:(rb.f1 == 6) = false:=beq_eq_false_iff_ne.mpr h6b
           have hon:=run_on HRB.out h6b
           have HON:=Lib.hid hon
           clear h6b hon hjj hA2 hrb
           go_wp2_with fail
           go_roundw
           case rel=>exact ⟨j + 1,by first|rfl|rw [w64n j (by have:=HJL.out;omega)],⟨by have:=HJJ.out;omega,by have:=HJL.out;omega,HJJ.out.2.2.trans HON.out⟩,by trivial⟩
           case measure=>have h1:=HJL.out;simp [intOf,w64n j (by omega)];omega
         ·obtain rfl:j = rs.length:=by omega
          have dj:decide ((rs.length:Int) < (rs.length:Int)) = false:=decide_eq_false (by omega)
          have dj2:decide (rs.length < rs.length) = false:=decide_eq_false hjl
          have dq:((rs.length:Int) == (rs.length:Int)) = true:=beq_self_eq_true _
          have hDE:=HDE.out
          rw [hjj.2.2,List.drop_eq_nil_of_le (Nat.le_refl _)] at hDE
          have HDF:=Lib.hid hDE
          clear hjl hDE hjj
          go_wp2
          go_ret2
          exact ⟨by rw [HN.out,← HDF.out];rfl,HB5.out⟩
       ·have d7:(ser ra == f) = false:=beq_eq_false_iff_ne.mpr hf
        rw [if_neg hf] at hDD
        have HDE:=Lib.hid hDD
        clear hf hDD
        go_wp2_with fail
        with_reducible refine (bolterlaw09_serial.calls kS2 ra.f0 ra.f1 ra.f2 ra.f3 _ wr HKS2.out).mono ?_
        rintro e w5 ⟨rfl,hb⟩
        have HB5:=Lib.hid (HB.out.trans (hb.mono HB.out.size))
        clear hb
        go_wp2
        go_ret2
        exact ⟨by rw [HN.out,← HDE.out];rfl,HB5.out⟩
      ·have d6:(ra.f1 == 6) = false:=beq_eq_false_iff_ne.mpr h6
       rw [if_neg h6] at hDD
       have HDE:=Lib.hid hDD
       clear h6 hDD
       go_wp2
       go_ret2
       exact ⟨by rw [HN.out,← HDE.out];rfl,HB.out⟩
     ·have dA:decide ((i:Int) < (M:Int)) = false:=decide_eq_false (by omega)
      have dA2:decide ((i:Int) < (rs.length:Int) - 1) = false:=decide_eq_false (by omega)
      have hDD:=HDD.out
      unfold deltasL at hDD
      rw [if_neg (by rw [List.length_drop];omega)] at hDD
      have HA:=Lib.hid hA
      have HII:=Lib.hid hii
      by_cases ho:out.length = 0
      ·have d9:((out.length:Int) == 0) = true:=beq_iff_eq.2 (by omega)
       have hn:nOf D = (4,0):=by
        obtain rfl:=List.eq_nil_of_length_eq_zero ho
        rw [← hDD]
        rcases rs.drop i with _|⟨a,_|⟨b,l⟩⟩ <;> rfl
       have HNN:=Lib.hid hn
       clear ho hn hDD hii hM hA
       go_wp2_with fail
       go_quiet (fail)
       go_wp2
       go_ret2
       exact ⟨by rw [HN.out,HNN.out];rfl,pw_below_drewN HB.out _⟩
      ·have d9:((out.length:Int) == 0) = false:=beq_eq_false_iff_ne.mpr (by omega)
       by_cases hi2:i = M
       ·subst hi2
        obtain ⟨rb,hrb⟩:∃ a,rs[i]? = some a:=⟨_,List.getElem?_eq_getElem (by omega)⟩
        obtain ⟨d,hd⟩:∃ d,out.getLast? = some d:=by
         cases h:out.getLast? with
         | none=>rw [List.getLast?_eq_none_iff] at h;exact absurd (by rw [h];rfl) ho
         | some d=>exact ⟨d,rfl⟩
        have htd:=HTO.out d hd
        rw [dropC hrb,List.drop_eq_nil_of_le (by omega),hd] at hDD
        simp only at hDD
        rw [← htd] at hDD
        have dm0:((i:Int) == (rs.length:Int) - 1) = true:=beq_iff_eq.2 (by omega)
        have dn0:((i:Int) != (rs.length:Int) - 1) = false:=bne_eq_false_iff_eq.2 (by omega)
        have dm1:((i:Int) == wrap64 ((rs.length:Int) - 1)) = true:=beq_iff_eq.2 (by rw [hw1])
        have dn1:((i:Int) != wrap64 ((rs.length:Int) - 1)) = false:=bne_eq_false_iff_eq.2 (by rw [hw1])
        have dm2:((i:Int) == IntKind.i64.wrap ((rs.length:Int) - 1)) = true:=beq_iff_eq.2 (by rw [i64_w,hw1])
        have dn2:((i:Int) != IntKind.i64.wrap ((rs.length:Int) - 1)) = false:=bne_eq_false_iff_eq.2 (by rw [i64_w,hw1])
        have dm3:((i:Int) == (i:Int)) = true:=beq_iff_eq.2 (by omega)
        have dn3:((i:Int) != (i:Int)) = false:=bne_eq_false_iff_eq.2 (by omega)
        obtain ⟨ad2,hA2,q0,q1,q2,q3⟩:=at_T32 (Kd.C_below HC.out HB.out) (i:Int) (by omega) (by omega)
        obtain rfl:ad = ad2:=by injection hA2
        rw [rd_R hrb,show ((i:Int)).toNat = i by omega] at q0 q1 q2 q3
        obtain ⟨ad2,hA3,y0,y1,y2,y3⟩:=at_T32 (Kd.C_below HC.out HB.out) 0 (by omega) (by omega)
        obtain rfl:ad = ad2:=by injection hA3
        have e0:rd_T32 rs 0 = r0:=rd_R (i:=0) HH0.out
        rw [e0,show ((0:Int)).toNat * 4 = 0 from rfl,Addr.add_zero'] at y0 y1 y2 y3
        have p0:=(blk_cell HBK.out 0).trans rfl
        have p1:=(blk_cell HBK.out 1).trans rfl
        have p2:=(blk_cell HBK.out 2).trans rfl
        have p3:=(blk_cell HBK.out 3).trans rfl
        have hil:i < rs.length:=by omega
        have hx1:=neR rb r0
        have hx2:=neR t0 r0
        have HDE:=Lib.hid hDD
        clear hDD hd htd hA2 hA3 e0 hrb ho hii hM hA
        cases hq:eqR rb r0 with
        | false =>
         rw [hq] at hx1
         replace hx1:=hx1.trans (show (!false) = true from rfl)
         have hn:nOf D = (4,0):=by rw [← HDE.out,if_neg (by rw [hq];simp)];rfl
         have HNN:=Lib.hid hn
         clear hn hq hx2
         go_wp2_with fail
         go_quiet (fail)
         go_wp2
         go_ret2
         exact ⟨by rw [HN.out,HNN.out];rfl,pw_below_drewN HB.out _⟩
        | true =>
         rw [hq] at hx1
         replace hx1:=hx1.trans (show (!true) = false from rfl)
         cases hq2:eqR t0 r0 with
         | false =>
          rw [hq2] at hx2
          replace hx2:=hx2.trans (show (!false) = true from rfl)
          have hn:nOf D = (4,0):=by rw [← HDE.out,if_neg (by rw [hq2];simp)];rfl
          have HNN:=Lib.hid hn
          clear hn hq hq2
          go_wp2_with fail
          go_quiet (fail)
          go_wp2
          go_ret2
          exact ⟨by rw [HN.out,HNN.out];rfl,pw_below_drewN HB.out _⟩
         | true =>
          rw [hq2] at hx2
          replace hx2:=hx2.trans (show (!true) = false from rfl)
          have hn:nOf D = (0,(out.length:Int)):=by rw [← HDE.out,if_pos ⟨hq,hq2⟩];rfl
          have HNN:=Lib.hid hn
          clear hn hq hq2
          go_wp2_with fail
          go_quiet (fail)
          go_wp2
          go_ret2
          exact ⟨by rw [HN.out,HNN.out];rfl,pw_below_drewN HB.out _⟩
       ·have dm0:((i:Int) == (rs.length:Int) - 1) = false:=beq_eq_false_iff_ne.2 (by omega)
        have dn0:((i:Int) != (rs.length:Int) - 1) = true:=bne_iff_ne.2 (by omega)
        have dm1:((i:Int) == wrap64 ((rs.length:Int) - 1)) = false:=beq_eq_false_iff_ne.2 (by rw [hw1];omega)
        have dn1:((i:Int) != wrap64 ((rs.length:Int) - 1)) = true:=bne_iff_ne.2 (by rw [hw1];omega)
        have dm2:((i:Int) == IntKind.i64.wrap ((rs.length:Int) - 1)) = false:=beq_eq_false_iff_ne.2 (by rw [i64_w,hw1];omega)
        have dn2:((i:Int) != IntKind.i64.wrap ((rs.length:Int) - 1)) = true:=bne_iff_ne.2 (by rw [i64_w,hw1];omega)
        have dm3:((i:Int) == (M:Int)) = false:=beq_eq_false_iff_ne.2 (by omega)
        have dn3:((i:Int) != (M:Int)) = true:=bne_iff_ne.2 (by omega)
        have hn:nOf D = (4,0):=by rw [← hDD,List.drop_eq_nil_of_le (by omega)];rfl
        have HNN:=Lib.hid hn
        clear ho hn hDD hii hM hA hi2
        go_wp2_with fail
        go_quiet (fail)
        go_wp2
        go_ret2
        exact ⟨by rw [HN.out,HNN.out];rfl,pw_below_drewN HB.out _⟩
end Go.Proofs.YtlobjcokopfbkaaDoor.Str
