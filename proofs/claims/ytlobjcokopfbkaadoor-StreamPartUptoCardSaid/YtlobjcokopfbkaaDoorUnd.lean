/- part of a proof; what it has no use for was struck out -/
import Derived.Test.YtlobjcokopfbkaaDoorStr
import Derived.Test.YtlobjcokopfbkaaDoorPYx11
namespace Go.Proofs.YtlobjcokopfbkaaDoor.Str
open Go.RowKit Go.Proofs.YtlobjcokopfbkaaDoor.PY Go.Proofs.YtlobjcokopfbkaaDoorW Go.Proofs.YtlobjcokopfbkaaDoorW.PrintWords Go.Proofs.YtlobjcokopfbkaaDoorW.PrintLast Go.Proofs.YtlobjcokopfbkaaDoorW.PrintMore Go.Proofs.YtlobjcokopfbkaaDoor.Base Go.Proofs.YtlobjcokopfbkaaDoor.Nam Go.Proofs.YtlobjcokopfbkaaDoor.Soa Go.Proofs.YtlobjcokopfbkaaDoor.QY
set_option linter.unusedVariables false
set_option linter.unusedSimpArgs false
set_option maxRecDepth 100000
set_option maxHeartbeats 4000000 in
theorem under_ (x:ByteArray) (hx:x.size≤1000) (A1:Option Addr) (c1:Nat) (l:List LA) (most:Nat) (soas:Bool) (w:World) (hr1:Kd.C k45 w A1 l.length l) (hc1:l.length≤c1) (hl:l.length≤1048576) (hm:most≤1000) (hw:∀ a ∈ l,WfL a) :
  Calls Tryd.prog 9 #[.string x,.slice A1 l.length c1,.int .i64 (most:Int),.bool soas] w fun e w'=>∃ v,e = .returned v∧Kd.R k32 32 w' w.heap.size (fun _=>True) v (underL x l most soas)∧Below w.heap.size w w':=by
 have HR:=Lib.hid hr1
 have HW:=Lib.hid hw
 clear hr1 hw
 go_enter Tryd.func9,Tryd.ntmps9
 go_wp2_with fail
 go_loopw [9,17] (fun v9 i wx=>∃ j:Nat,j≤l.length∧j≤most∧i = .int .i64 j∧Aside0 (Kd.R k32 32 wx w.heap.size (fun _=>True) v9 ((l.take j).map (undR x soas)))∧Aside0 (Below w.heap.size w wx))
  (fun _ i _=>l.length - (intOf i).toNat)
 case atStart=>exact ⟨0,Nat.zero_le _,Nat.zero_le _,rfl,⟨Kd.R_nil _ _ _ _ _⟩,⟨Below.refl _ _⟩⟩
 case round =>
  obtain ⟨j,hj,hjm,rfl,HO,HB⟩:=hrel
  by_cases hlt:j < l.length
  ·obtain ⟨a,ha⟩:∃ a,l[j]? = some a:=⟨_,List.getElem?_eq_getElem hlt⟩
   have hwa:=HW.out a (List.mem_of_getElem? ha)
   obtain ⟨ad,B0,d0,B3,d3,hA,q0,q1,q2,q3,q4,hd0,hC0,hd3,hC3⟩:=at_T45 (Kd.C_below HR.out HB.out) (j:Int) (by omega) (by omega)
   rw [rd_LA ha] at q0 q1 q2 q3 q4 hd0 hC0 hd3 hC3
   rw [show ((j:Int)).toNat = j by omega] at q0 q1 q2 q3 q4
   subst hA
   have htk:(l.take (j + 1)).map (undR x soas) = (l.take j).map (undR x soas) ++ [undR x soas a]:=by rw [List.take_add_one,ha];simp
   have HTK:=Lib.hid htk
   have hll:((l.take j).map (undR x soas)).length≤1048576:=by rw [List.length_map,List.length_take];omega
   have HLL:=Lib.hid hll
   have HWA:=Lib.hid hwa
   obtain ⟨b0,b1,b2,b3,b4⟩:=a
   have HC0:=Lib.hid hC0
   have HC3:=Lib.hid hC3
   clear htk hll hC0 hC3 ha hwa
   by_cases hmo:j = most
   ·have dm:((j:Int) == (most:Int)) = true:=by rw [hmo];exact beq_self_eq_true _
    have HMO:=Lib.hid hmo
    clear hmo
    go_wp2_with fail
    go_ret
    refine ⟨_,rfl,?_,below_alloc HB.out _⟩
    unfold underL
    rw [← HMO.out]
    exact Kd.R_alloc HO.out _
   ·have dm:((j:Int) == (most:Int)) = false:=beq_eq_false_iff_ne.mpr (by omega)
    have HMO:=Lib.hid hmo
    clear hmo
    obtain ⟨n0,t0,u0,s0,hrv⟩:∃ n0 t0 u0 s0,recV ⟨b0,b1,b2,b3,b4⟩ = ⟨n0,t0,u0,s0⟩:=⟨_,_,_,_,rfl⟩
    obtain ⟨k0,hk0⟩:=Ev.rounds (Rec_ev ⟨b0,b1,b2,b3,b4⟩ HWA.out)
    have hn0:n0.size≤84:=by
     have h:(recV ⟨b0,b1,b2,b3,b4⟩).f0 = n0:=by rw [hrv]
     rw [← h]
     show (strOfNums (nameL b0)).size≤84
     rw [str_size]
     exact nameL_len b0
    rw [hrv] at hk0
    simp only at hk0 q0 q1 q2 q3 q4
    have HK0:=Lib.hid hk0
    have HRV:=Lib.hid hrv
    obtain ⟨k1,hk1⟩:=Ev.rounds (Join_ev n0 x (by omega) (by omega))
    have HK1:=Lib.hid hk1
    obtain ⟨k2,hk2⟩:=Ev.rounds (Soa_ev x (b2 % 6))
    obtain ⟨sd,hsd⟩:∃ sd,strOfNums (soaMake [] (b2 % 6) 10 3 40) = sd:=⟨_,rfl⟩
    have HSD:Hid (sR x (b2 % 6) = (⟨x,6,9,sd⟩:R)):=Lib.hid (by rw [← hsd];rfl)
    have HK2:Hid (bolterlaw09_Soa.f k2 x (b2 % 6) = some (x,6,9,sd)):=Lib.hid (by rw [← hsd];exact hk2)
    have htm:Int.tmod b2 6 = b2 % 6:=Int.tmod_eq_emod_of_nonneg HWA.out.2.2.1.1
    clear hk0 hrv hk1 hk2 hsd
    go_wp2_with fail
    have hbA:=below_alloc (Below.refl wr.heap.size wr) (Obj.cells #[Value.slice B0 b0.length d0,Value.int .u8 b1,Value.int .u32 b2,Value.slice B3 b3.length d3,Value.string b4] 45)
    obtain ⟨g11,hg11⟩:∃ g,wr.heap.size = g:=⟨_,rfl⟩
    obtain ⟨wa,hwa⟩:∃ wa,wr.alloc (Obj.cells #[Value.slice B0 b0.length d0,Value.int .u8 b1,Value.int .u32 b2,Value.slice B3 b3.length d3,Value.string b4] 45) = wa:=⟨_,rfl⟩
    have hBK:wa.heap[g11]? = some (Obj.cells #[Value.slice B0 b0.length d0,Value.int .u8 b1,Value.int .u32 b2,Value.slice B3 b3.length d3,Value.string b4] 45 (0,0)):=by rw [← hwa,← hg11];exact blk_new wr _
    have hOb:Kd.R k32 32 wr w.heap.size (fun k=>k < g11) u9 ((l.take j).map (undR x soas)):=Kd.R_mono (Kd.R_bound HO.out) (fun k hk=>by rw [← hg11];exact hk.2.2.1)
    have hsz0:=HB.out.size
    rw [hg11] at hsz0
    rw [hwa] at hbA ⊢
    rw [hg11]
    have HBa:=Lib.hid (HB.out.trans (hbA.mono HB.out.size))
    have HOa:=Lib.hid (Kd.R_below hOb hbA)
    have HBK:=Lib.hid hBK
    have HSZ:=Lib.hid hsz0
    have HCa0:=Lib.hid (Kd.C_below HC0.out hbA)
    have HCa3:=Lib.hid (Kd.C_below HC3.out hbA)
    clear hg11 hwa hBK hOb hsz0 hbA HO HB HC0 HC3 q0 q1 q2 q3 q4
    with_reducible refine (bolterlaw05_Record.calls k0 B0 d0 b0 b1 b2 B3 d3 b3 b4 n0 t0 u0 s0 wa HCa0.out hd0 HCa3.out hd3 HK0.out).mono ?_
    rintro e w3 ⟨rfl,hb⟩
    have HB3:=Lib.hid (HBa.out.trans (hb.mono HBa.out.size))
    have HO3:=Lib.hid (Kd.R_below HOa.out hb)
    have HBK3:=Lib.hid (blk_below HBK.out hb)
    clear hb HBa HOa HBK HCa0 HCa3 HK0
    go_wp2_with fail
    have hbA:=below_alloc (Below.refl w3.heap.size w3) (Obj.cells #[Value.string n0,Value.int .u16 t0,Value.int .u32 u0,Value.string s0] 32)
    obtain ⟨g12,hg12⟩:∃ g,w3.heap.size = g:=⟨_,rfl⟩
    obtain ⟨w4,hw4⟩:∃ w4,w3.alloc (Obj.cells #[Value.string n0,Value.int .u16 t0,Value.int .u32 u0,Value.string s0] 32) = w4:=⟨_,rfl⟩
    have hBK:w4.heap[g12]? = some (Obj.cells #[Value.string n0,Value.int .u16 t0,Value.int .u32 u0,Value.string s0] 32 (0,0)):=by rw [← hw4,← hg12];exact blk_new w3 _
    have h11:g11 < g12:=by rw [← hg12];exact blk_lt HBK3.out
    have h12:w.heap.size≤g12:=by have:=HSZ.out;omega
    rw [hw4] at hbA ⊢
    rw [hg12]
    have HB4:=Lib.hid (HB3.out.trans (hbA.mono HB3.out.size))
    have HO4:=Lib.hid (Kd.R_below HO3.out hbA)
    have HBK4:=Lib.hid (blk_below HBK3.out hbA)
    have HBR4:=Lib.hid hBK
    have H11:=Lib.hid h11
    have H12:=Lib.hid h12
    clear hg12 hw4 hBK h11 h12 hbA HB3 HO3 HBK3
    with_reducible refine (name_Join.calls k1 n0 x _ _ w4 HK1.out).mono ?_
    rintro e w5 ⟨rfl,hb⟩
    have HB5:=Lib.hid (HB4.out.trans (hb.mono HB4.out.size))
    have HO5:=Lib.hid (Kd.R_below HO4.out hb)
    have HBK5:=Lib.hid (blk_below HBK4.out hb)
    have HBR5:=Lib.hid (blk_below HBR4.out hb)
    clear hb HB4 HO4 HBK4 HBR4
    have f0:=(blk_cell HBR5.out 0).trans rfl
    have z0:=blk_frozen HBR5.out 0
    by_cases hjo:joinB n0 x = true
    ·obtain ⟨n1,hn1⟩:∃ n1,n0 ++ x = n1:=⟨_,rfl⟩
     have HN1:Hid ((if joinB n0 x = true then n0 ++ x else x) = n1):=Lib.hid (by rw [if_pos hjo];exact hn1)
     rw [if_pos hjo,hn1]
     clear hn1 hjo
     go_upto_region 11 with fail
     obtain ⟨w6,hw6⟩:∃ w6,w5.setCell ⟨g12,0,none⟩ (.string n1) = w6:=⟨_,rfl⟩
     have hBR:w6.heap[g12]? = some (Obj.cells #[Value.string n1,Value.int .u16 t0,Value.int .u32 u0,Value.string s0] 32 (0,0)):=by rw [← hw6];exact blk_put HBR5.out 0 _ rfl
     have hBK:w6.heap[g11]? = some (Obj.cells #[Value.slice B0 b0.length d0,Value.int .u8 b1,Value.int .u32 b2,Value.slice B3 b3.length d3,Value.string b4] 45 (0,0)):=by rw [← hw6];exact blk_far HBK5.out (p:=⟨g12,0,none⟩) (by have:=H11.out;intro h;have h:g11 = g12:=h;omega) _
     have hB6:Below w.heap.size w w6:=by rw [← hw6];exact below_set HB5.out H12.out
     have hO6:Kd.R k32 32 w6 w.heap.size (fun k=>k < g11) u9 ((l.take j).map (undR x soas)):=by rw [← hw6];exact Kd.R_far HO5.out (p:=⟨g12,0,none⟩) (fun k hk h=>by have h:k = g12:=h;have:=H11.out;omega) _
     rw [hw6]
     have HBR6:=Lib.hid hBR
     have HBK6:=Lib.hid hBK
     have HB6:=Lib.hid hB6
     have HO6:=Lib.hid hO6
     clear hw6 hBR hBK hB6 hO6 HB5 HO5 HBK5 HBR5 f0 z0
     have f1:=(blk_cell HBR6.out 1).trans rfl
     by_cases h6:t0 = 6
     ·have d6:(t0 == 6) = true:=by rw [h6];rfl
      have H6:=Lib.hid h6
      clear h6
      have f2:=(blk_cell HBK6.out 2).trans rfl
      go_wp2_with fail
      with_reducible refine (bolterlaw09_Soa.calls k2 x (b2 % 6) x 6 9 sd w6 HK2.out).mono ?_
      rintro e w7 ⟨rfl,hb⟩
      have HB7:=Lib.hid (HB6.out.trans (hb.mono HB6.out.size))
      have HO7:=Lib.hid (Kd.R_below HO6.out hb)
      have HBK7:=Lib.hid (blk_below HBK6.out hb)
      have HBR7:=Lib.hid (blk_below HBR6.out hb)
      clear hb HB6 HO6 HBK6 HBR6 f1 f2
      have f0:=(blk_cell HBR7.out 0).trans rfl
      have f1:=(blk_cell HBR7.out 1).trans rfl
      have f2:=(blk_cell HBR7.out 2).trans rfl
      have f3:=(blk_cell HBR7.out 3).trans rfl
      have z0:=blk_frozen HBR7.out 0
      have z1:=blk_frozen HBR7.out 1
      have z2:=blk_frozen HBR7.out 2
      have z3:=blk_frozen HBR7.out 3
      go_upto_region 13 with fail
      obtain ⟨w8,hw8⟩:∃ z_,(((w7.setCell ⟨g12,0,none⟩ (.string x)).setCell ⟨g12,1,none⟩ (.int .u16 6)).setCell ⟨g12,2,none⟩ (.int .u32 9)).setCell ⟨g12,3,none⟩ (.string sd) = z_:=⟨_,rfl⟩
      have hBR:w8.heap[g12]? = some (Obj.cells #[Value.string x,Value.int .u16 6,Value.int .u32 9,Value.string sd] 32 (0,0)):=by rw [← hw8];exact blk_put (blk_put (blk_put (blk_put HBR7.out 0 _ rfl) 1 _ rfl) 2 _ rfl) 3 _ rfl
      have hne:∀ i,g11≠(⟨g12,i,none⟩:Addr).block:=by intro i h;have h:g11 = g12:=h;have:=H11.out;omega
      have hne2:∀ i k,k < g11→k≠(⟨g12,i,none⟩:Addr).block:=by intro i k hk h;have h:k = g12:=h;have:=H11.out;omega
      have hBK:w8.heap[g11]? = some (Obj.cells #[Value.slice B0 b0.length d0,Value.int .u8 b1,Value.int .u32 b2,Value.slice B3 b3.length d3,Value.string b4] 45 (0,0)):=by rw [← hw8];exact blk_far (blk_far (blk_far (blk_far HBK7.out (hne 0) _) (hne 1) _) (hne 2) _) (hne 3) _
      have hB8:Below w.heap.size w w8:=by rw [← hw8];exact below_set (below_set (below_set (below_set HB7.out H12.out) H12.out) H12.out) H12.out
      have hO8:Kd.R k32 32 w8 w.heap.size (fun k=>k < g11) u9 ((l.take j).map (undR x soas)):=by rw [← hw8];exact Kd.R_far (Kd.R_far (Kd.R_far (Kd.R_far HO7.out (hne2 0) _) (hne2 1) _) (hne2 2) _) (hne2 3) _
      rw [hw8]
      have HBR8:=Lib.hid hBR
      have HBK8:=Lib.hid hBK
      have HB8:=Lib.hid hB8
      have HO8:=Lib.hid hO8
      clear hw8 hBR hBK hB8 hO8 hne hne2 f0 f1 f2 f3 z0 z1 z2 z3
      cases soas with
      | true =>
       have HUU:Hid (undR x true ⟨b0,b1,b2,b3,b4⟩ = (⟨x,6,9,sd⟩:R)):=Lib.hid (by unfold undR;rw [HRV.out];exact (if_pos H6.out).trans ((if_pos rfl).trans HSD.out))
       have p0:=(blk_cell HBR8.out 0).trans rfl
       have p1:=(blk_cell HBR8.out 1).trans rfl
       have p2:=(blk_cell HBR8.out 2).trans rfl
       have p3:=(blk_cell HBR8.out 3).trans rfl
       go_wp2_with ((with_reducible refine gate_builtin (b:=.append) (xs:=#[.tmp 53,.tmp 55]) rfl ?_);at_builtin;refine Kd.R_append k32 (w0:=w) w.heap.size rfl (.tmp 53) (.tmp 55) 26 32 (.agg #[(.string ⟨#[]⟩),(.int .u16 0),(.int .u32 0),(.string ⟨#[]⟩)]) 40 rfl Tryd.underlying26 info32 rfl (by decide) (by omega) u9 _ (⟨x,6,9,sd⟩:R) [.string x,.int .u16 6,.int .u32 9,.string sd] (fun _=>True) (fun _=>False) rfl rfl (k32_mkM _ _ _ (⟨x,6,9,sd⟩:R)) (fun _ hk=>hk.elim) (fun _ _=>trivial) (Kd.R_mono HO8.out (fun _ _=>trivial)) HB8.out HB8.out.size (by have:=HLL.out;omega) ?_)
       intro v9 wn hR hB hg hat
       rw [← HUU.out] at hR
       (try rw [← List.map_take] at hR)
       rw [← HTK.out] at hR
       have HRn:=Lib.hid hR
       have HBn:=Lib.hid hB
       clear hR hB hg hat
       go_wp2
       go_roundw
       case rel=>exact ⟨j + 1,by omega,by have:=HMO.out;omega,by go_num,⟨HRn.out⟩,⟨HBn.out⟩⟩
       case measure=>simp [intOf];omega
      | false =>
       have g2:=(blk_cell HBK8.out 2).trans rfl
       have f0:=(blk_cell HBR8.out 0).trans rfl
       have f1:=(blk_cell HBR8.out 1).trans rfl
       have f2:=(blk_cell HBR8.out 2).trans rfl
       have f3:=(blk_cell HBR8.out 3).trans rfl
       have z0:=blk_frozen HBR8.out 0
       have z1:=blk_frozen HBR8.out 1
       have z2:=blk_frozen HBR8.out 2
       have z3:=blk_frozen HBR8.out 3
       go_upto_region 15 with fail
       obtain ⟨w9,hw8⟩:∃ z_,(((w8.setCell ⟨g12,0,none⟩ (.string x)).setCell ⟨g12,1,none⟩ (.int .u16 16)).setCell ⟨g12,2,none⟩ (.int .u32 b2)).setCell ⟨g12,3,none⟩ (.string (⟨#[1,120]⟩:ByteArray)) = z_:=⟨_,rfl⟩
       have hBR:w9.heap[g12]? = some (Obj.cells #[Value.string x,Value.int .u16 16,Value.int .u32 b2,Value.string (⟨#[1,120]⟩:ByteArray)] 32 (0,0)):=by rw [← hw8];exact blk_put (blk_put (blk_put (blk_put HBR8.out 0 _ rfl) 1 _ rfl) 2 _ rfl) 3 _ rfl
       have hne:∀ i,g11≠(⟨g12,i,none⟩:Addr).block:=by intro i h;have h:g11 = g12:=h;have:=H11.out;omega
       have hne2:∀ i k,k < g11→k≠(⟨g12,i,none⟩:Addr).block:=by intro i k hk h;have h:k = g12:=h;have:=H11.out;omega
       have hBK:w9.heap[g11]? = some (Obj.cells #[Value.slice B0 b0.length d0,Value.int .u8 b1,Value.int .u32 b2,Value.slice B3 b3.length d3,Value.string b4] 45 (0,0)):=by rw [← hw8];exact blk_far (blk_far (blk_far (blk_far HBK8.out (hne 0) _) (hne 1) _) (hne 2) _) (hne 3) _
       have hB8:Below w.heap.size w w9:=by rw [← hw8];exact below_set (below_set (below_set (below_set HB8.out H12.out) H12.out) H12.out) H12.out
       have hO8:Kd.R k32 32 w9 w.heap.size (fun k=>k < g11) u9 ((l.take j).map (undR x false)):=by rw [← hw8];exact Kd.R_far (Kd.R_far (Kd.R_far (Kd.R_far HO8.out (hne2 0) _) (hne2 1) _) (hne2 2) _) (hne2 3) _
       rw [hw8]
       have HBR9:=Lib.hid hBR
       have HBK9:=Lib.hid hBK
       have HB9:=Lib.hid hB8
       have HO9:=Lib.hid hO8
       clear hw8 hBR hBK hB8 hO8 hne hne2 f0 f1 f2 f3 z0 z1 z2 z3
       have HUU:Hid (undR x false ⟨b0,b1,b2,b3,b4⟩ = (⟨x,16,b2,(⟨#[1,120]⟩:ByteArray)⟩:R)):=Lib.hid (by unfold undR;rw [HRV.out];exact (if_pos H6.out).trans (if_neg Bool.false_ne_true))
       have p0:=(blk_cell HBR9.out 0).trans rfl
       have p1:=(blk_cell HBR9.out 1).trans rfl
       have p2:=(blk_cell HBR9.out 2).trans rfl
       have p3:=(blk_cell HBR9.out 3).trans rfl
       go_wp2_with ((with_reducible refine gate_builtin (b:=.append) (xs:=#[.tmp 53,.tmp 55]) rfl ?_);at_builtin;refine Kd.R_append k32 (w0:=w) w.heap.size rfl (.tmp 53) (.tmp 55) 26 32 (.agg #[(.string ⟨#[]⟩),(.int .u16 0),(.int .u32 0),(.string ⟨#[]⟩)]) 40 rfl Tryd.underlying26 info32 rfl (by decide) (by omega) u9 _ (⟨x,16,b2,(⟨#[1,120]⟩:ByteArray)⟩:R) [.string x,.int .u16 16,.int .u32 b2,.string (⟨#[1,120]⟩:ByteArray)] (fun _=>True) (fun _=>False) rfl rfl (k32_mkM _ _ _ (⟨x,16,b2,(⟨#[1,120]⟩:ByteArray)⟩:R)) (fun _ hk=>hk.elim) (fun _ _=>trivial) (Kd.R_mono HO9.out (fun _ _=>trivial)) HB9.out HB9.out.size (by have:=HLL.out;omega) ?_)
       intro v9 wn hR hB hg hat
       rw [← HUU.out] at hR
       (try rw [← List.map_take] at hR)
       rw [← HTK.out] at hR
       have HRn:=Lib.hid hR
       have HBn:=Lib.hid hB
       clear hR hB hg hat
       go_wp2
       go_roundw
       case rel=>exact ⟨j + 1,by omega,by have:=HMO.out;omega,by go_num,⟨HRn.out⟩,⟨HBn.out⟩⟩
       case measure=>simp [intOf];omega
     ·have d6:(t0 == 6) = false:=beq_eq_false_iff_ne.mpr h6
      have H6:=Lib.hid h6
      clear h6
      have HUU:Hid (undR x soas ⟨b0,b1,b2,b3,b4⟩ = (⟨n1,t0,u0,s0⟩:R)):=Lib.hid (by unfold undR;rw [HRV.out];exact (if_neg H6.out).trans (by rw [HN1.out]))
      have p0:=(blk_cell HBR6.out 0).trans rfl
      have p1:=(blk_cell HBR6.out 1).trans rfl
      have p2:=(blk_cell HBR6.out 2).trans rfl
      have p3:=(blk_cell HBR6.out 3).trans rfl
      go_wp2_with ((with_reducible refine gate_builtin (b:=.append) (xs:=#[.tmp 53,.tmp 55]) rfl ?_);at_builtin;refine Kd.R_append k32 (w0:=w) w.heap.size rfl (.tmp 53) (.tmp 55) 26 32 (.agg #[(.string ⟨#[]⟩),(.int .u16 0),(.int .u32 0),(.string ⟨#[]⟩)]) 40 rfl Tryd.underlying26 info32 rfl (by decide) (by omega) u9 _ (⟨n1,t0,u0,s0⟩:R) [.string n1,.int .u16 t0,.int .u32 u0,.string s0] (fun _=>True) (fun _=>False) rfl rfl (k32_mkM _ _ _ (⟨n1,t0,u0,s0⟩:R)) (fun _ hk=>hk.elim) (fun _ _=>trivial) (Kd.R_mono HO6.out (fun _ _=>trivial)) HB6.out HB6.out.size (by have:=HLL.out;omega) ?_)
      intro v9 wn hR hB hg hat
      rw [← HUU.out] at hR
      (try rw [← List.map_take] at hR)
      rw [← HTK.out] at hR
      have HRn:=Lib.hid hR
      have HBn:=Lib.hid hB
      clear hR hB hg hat
      go_wp2
      go_roundw
      case rel=>exact ⟨j + 1,by omega,by have:=HMO.out;omega,by go_num,⟨HRn.out⟩,⟨HBn.out⟩⟩
      case measure=>simp [intOf];omega
    ·have HN1:Hid ((if joinB n0 x = true then n0 ++ x else x) = x):=Lib.hid (if_neg hjo)
     rw [if_neg hjo]
     clear hjo
     go_upto_region 11 with fail
     obtain ⟨w6,hw6⟩:∃ w6,w5.setCell ⟨g12,0,none⟩ (.string x) = w6:=⟨_,rfl⟩
     have hBR:w6.heap[g12]? = some (Obj.cells #[Value.string x,Value.int .u16 t0,Value.int .u32 u0,Value.string s0] 32 (0,0)):=by rw [← hw6];exact blk_put HBR5.out 0 _ rfl
     have hBK:w6.heap[g11]? = some (Obj.cells #[Value.slice B0 b0.length d0,Value.int .u8 b1,Value.int .u32 b2,Value.slice B3 b3.length d3,Value.string b4] 45 (0,0)):=by rw [← hw6];exact blk_far HBK5.out (p:=⟨g12,0,none⟩) (by have:=H11.out;intro h;have h:g11 = g12:=h;omega) _
     have hB6:Below w.heap.size w w6:=by rw [← hw6];exact below_set HB5.out H12.out
     have hO6:Kd.R k32 32 w6 w.heap.size (fun k=>k < g11) u9 ((l.take j).map (undR x soas)):=by rw [← hw6];exact Kd.R_far HO5.out (p:=⟨g12,0,none⟩) (fun k hk h=>by have h:k = g12:=h;have:=H11.out;omega) _
     rw [hw6]
     have HBR6:=Lib.hid hBR
     have HBK6:=Lib.hid hBK
     have HB6:=Lib.hid hB6
     have HO6:=Lib.hid hO6
     clear hw6 hBR hBK hB6 hO6 HB5 HO5 HBK5 HBR5 f0 z0
     have f1:=(blk_cell HBR6.out 1).trans rfl
     by_cases h6:t0 = 6
     ·have d6:(t0 == 6) = true:=by rw [h6];rfl
      have H6:=Lib.hid h6
      clear h6
      have f2:=(blk_cell HBK6.out 2).trans rfl
      go_wp2_with fail
      with_reducible refine (bolterlaw09_Soa.calls k2 x (b2 % 6) x 6 9 sd w6 HK2.out).mono ?_
      rintro e w7 ⟨rfl,hb⟩
      have HB7:=Lib.hid (HB6.out.trans (hb.mono HB6.out.size))
      have HO7:=Lib.hid (Kd.R_below HO6.out hb)
      have HBK7:=Lib.hid (blk_below HBK6.out hb)
      have HBR7:=Lib.hid (blk_below HBR6.out hb)
      clear hb HB6 HO6 HBK6 HBR6 f1 f2
      have f0:=(blk_cell HBR7.out 0).trans rfl
      have f1:=(blk_cell HBR7.out 1).trans rfl
      have f2:=(blk_cell HBR7.out 2).trans rfl
      have f3:=(blk_cell HBR7.out 3).trans rfl
      have z0:=blk_frozen HBR7.out 0
      have z1:=blk_frozen HBR7.out 1
      have z2:=blk_frozen HBR7.out 2
      have z3:=blk_frozen HBR7.out 3
      go_upto_region 13 with fail
      obtain ⟨w8,hw8⟩:∃ z_,(((w7.setCell ⟨g12,0,none⟩ (.string x)).setCell ⟨g12,1,none⟩ (.int .u16 6)).setCell ⟨g12,2,none⟩ (.int .u32 9)).setCell ⟨g12,3,none⟩ (.string sd) = z_:=⟨_,rfl⟩
      have hBR:w8.heap[g12]? = some (Obj.cells #[Value.string x,Value.int .u16 6,Value.int .u32 9,Value.string sd] 32 (0,0)):=by rw [← hw8];exact blk_put (blk_put (blk_put (blk_put HBR7.out 0 _ rfl) 1 _ rfl) 2 _ rfl) 3 _ rfl
      have hne:∀ i,g11≠(⟨g12,i,none⟩:Addr).block:=by intro i h;have h:g11 = g12:=h;have:=H11.out;omega
      have hne2:∀ i k,k < g11→k≠(⟨g12,i,none⟩:Addr).block:=by intro i k hk h;have h:k = g12:=h;have:=H11.out;omega
      have hBK:w8.heap[g11]? = some (Obj.cells #[Value.slice B0 b0.length d0,Value.int .u8 b1,Value.int .u32 b2,Value.slice B3 b3.length d3,Value.string b4] 45 (0,0)):=by rw [← hw8];exact blk_far (blk_far (blk_far (blk_far HBK7.out (hne 0) _) (hne 1) _) (hne 2) _) (hne 3) _
      have hB8:Below w.heap.size w w8:=by rw [← hw8];exact below_set (below_set (below_set (below_set HB7.out H12.out) H12.out) H12.out) H12.out
      have hO8:Kd.R k32 32 w8 w.heap.size (fun k=>k < g11) u9 ((l.take j).map (undR x soas)):=by rw [← hw8];exact Kd.R_far (Kd.R_far (Kd.R_far (Kd.R_far HO7.out (hne2 0) _) (hne2 1) _) (hne2 2) _) (hne2 3) _
      rw [hw8]
      have HBR8:=Lib.hid hBR
      have HBK8:=Lib.hid hBK
      have HB8:=Lib.hid hB8
      have HO8:=Lib.hid hO8
      clear hw8 hBR hBK hB8 hO8 hne hne2 f0 f1 f2 f3 z0 z1 z2 z3
      cases soas with
      | true =>
       have HUU:Hid (undR x true ⟨b0,b1,b2,b3,b4⟩ = (⟨x,6,9,sd⟩:R)):=Lib.hid (by unfold undR;rw [HRV.out];exact (if_pos H6.out).trans ((if_pos rfl).trans HSD.out))
       have p0:=(blk_cell HBR8.out 0).trans rfl
       have p1:=(blk_cell HBR8.out 1).trans rfl
       have p2:=(blk_cell HBR8.out 2).trans rfl
       have p3:=(blk_cell HBR8.out 3).trans rfl
       go_wp2_with ((with_reducible refine gate_builtin (b:=.append) (xs:=#[.tmp 53,.tmp 55]) rfl ?_);at_builtin;refine Kd.R_append k32 (w0:=w) w.heap.size rfl (.tmp 53) (.tmp 55) 26 32 (.agg #[(.string ⟨#[]⟩),(.int .u16 0),(.int .u32 0),(.string ⟨#[]⟩)]) 40 rfl Tryd.underlying26 info32 rfl (by decide) (by omega) u9 _ (⟨x,6,9,sd⟩:R) [.string x,.int .u16 6,.int .u32 9,.string sd] (fun _=>True) (fun _=>False) rfl rfl (k32_mkM _ _ _ (⟨x,6,9,sd⟩:R)) (fun _ hk=>hk.elim) (fun _ _=>trivial) (Kd.R_mono HO8.out (fun _ _=>trivial)) HB8.out HB8.out.size (by have:=HLL.out;omega) ?_)
       intro v9 wn hR hB hg hat
       rw [← HUU.out] at hR
       (try rw [← List.map_take] at hR)
       rw [← HTK.out] at hR
       have HRn:=Lib.hid hR
       have HBn:=Lib.hid hB
       clear hR hB hg hat
       go_wp2
       go_roundw
       case rel=>exact ⟨j + 1,by omega,by have:=HMO.out;omega,by go_num,⟨HRn.out⟩,⟨HBn.out⟩⟩
       case measure=>simp [intOf];omega
      | false =>
       have g2:=(blk_cell HBK8.out 2).trans rfl
       have f0:=(blk_cell HBR8.out 0).trans rfl
       have f1:=(blk_cell HBR8.out 1).trans rfl
       have f2:=(blk_cell HBR8.out 2).trans rfl
       have f3:=(blk_cell HBR8.out 3).trans rfl
       have z0:=blk_frozen HBR8.out 0
       have z1:=blk_frozen HBR8.out 1
       have z2:=blk_frozen HBR8.out 2
       have z3:=blk_frozen HBR8.out 3
       go_upto_region 15 with fail
       obtain ⟨w9,hw8⟩:∃ z_,(((w8.setCell ⟨g12,0,none⟩ (.string x)).setCell ⟨g12,1,none⟩ (.int .u16 16)).setCell ⟨g12,2,none⟩ (.int .u32 b2)).setCell ⟨g12,3,none⟩ (.string (⟨#[1,120]⟩:ByteArray)) = z_:=⟨_,rfl⟩
       have hBR:w9.heap[g12]? = some (Obj.cells #[Value.string x,Value.int .u16 16,Value.int .u32 b2,Value.string (⟨#[1,120]⟩:ByteArray)] 32 (0,0)):=by rw [← hw8];exact blk_put (blk_put (blk_put (blk_put HBR8.out 0 _ rfl) 1 _ rfl) 2 _ rfl) 3 _ rfl
       have hne:∀ i,g11≠(⟨g12,i,none⟩:Addr).block:=by intro i h;have h:g11 = g12:=h;have:=H11.out;omega
       have hne2:∀ i k,k < g11→k≠(⟨g12,i,none⟩:Addr).block:=by intro i k hk h;have h:k = g12:=h;have:=H11.out;omega
       have hBK:w9.heap[g11]? = some (Obj.cells #[Value.slice B0 b0.length d0,Value.int .u8 b1,Value.int .u32 b2,Value.slice B3 b3.length d3,Value.string b4] 45 (0,0)):=by rw [← hw8];exact blk_far (blk_far (blk_far (blk_far HBK8.out (hne 0) _) (hne 1) _) (hne 2) _) (hne 3) _
       have hB8:Below w.heap.size w w9:=by rw [← hw8];exact below_set (below_set (below_set (below_set HB8.out H12.out) H12.out) H12.out) H12.out
       have hO8:Kd.R k32 32 w9 w.heap.size (fun k=>k < g11) u9 ((l.take j).map (undR x false)):=by rw [← hw8];exact Kd.R_far (Kd.R_far (Kd.R_far (Kd.R_far HO8.out (hne2 0) _) (hne2 1) _) (hne2 2) _) (hne2 3) _
       rw [hw8]
       have HBR9:=Lib.hid hBR
       have HBK9:=Lib.hid hBK
       have HB9:=Lib.hid hB8
       have HO9:=Lib.hid hO8
       clear hw8 hBR hBK hB8 hO8 hne hne2 f0 f1 f2 f3 z0 z1 z2 z3
       have HUU:Hid (undR x false ⟨b0,b1,b2,b3,b4⟩ = (⟨x,16,b2,(⟨#[1,120]⟩:ByteArray)⟩:R)):=Lib.hid (by unfold undR;rw [HRV.out];exact (if_pos H6.out).trans (if_neg Bool.false_ne_true))
       have p0:=(blk_cell HBR9.out 0).trans rfl
       have p1:=(blk_cell HBR9.out 1).trans rfl
       have p2:=(blk_cell HBR9.out 2).trans rfl
       have p3:=(blk_cell HBR9.out 3).trans rfl
       go_wp2_with ((with_reducible refine gate_builtin (b:=.append) (xs:=#[.tmp 53,.tmp 55]) rfl ?_);at_builtin;refine Kd.R_append k32 (w0:=w) w.heap.size rfl (.tmp 53) (.tmp 55) 26 32 (.agg #[(.string ⟨#[]⟩),(.int .u16 0),(.int .u32 0),(.string ⟨#[]⟩)]) 40 rfl Tryd.underlying26 info32 rfl (by decide) (by omega) u9 _ (⟨x,16,b2,(⟨#[1,120]⟩:ByteArray)⟩:R) [.string x,.int .u16 16,.int .u32 b2,.string (⟨#[1,120]⟩:ByteArray)] (fun _=>True) (fun _=>False) rfl rfl (k32_mkM _ _ _ (⟨x,16,b2,(⟨#[1,120]⟩:ByteArray)⟩:R)) (fun _ hk=>hk.elim) (fun _ _=>trivial) (Kd.R_mono HO9.out (fun _ _=>trivial)) HB9.out HB9.out.size (by have:=HLL.out;omega) ?_)
       intro v9 wn hR hB hg hat
       rw [← HUU.out] at hR
       (try rw [← List.map_take] at hR)
       rw [← HTK.out] at hR
       have HRn:=Lib.hid hR
       have HBn:=Lib.hid hB
       clear hR hB hg hat
       go_wp2
       go_roundw
       case rel=>exact ⟨j + 1,by omega,by have:=HMO.out;omega,by go_num,⟨HRn.out⟩,⟨HBn.out⟩⟩
       case measure=>simp [intOf];omega
     ·have d6:(t0 == 6) = false:=beq_eq_false_iff_ne.mpr h6
      have H6:=Lib.hid h6
      clear h6
      have HUU:Hid (undR x soas ⟨b0,b1,b2,b3,b4⟩ = (⟨x,t0,u0,s0⟩:R)):=Lib.hid (by unfold undR;rw [HRV.out];exact (if_neg H6.out).trans (by rw [HN1.out]))
      have p0:=(blk_cell HBR6.out 0).trans rfl
      have p1:=(blk_cell HBR6.out 1).trans rfl
      have p2:=(blk_cell HBR6.out 2).trans rfl
      have p3:=(blk_cell HBR6.out 3).trans rfl
      go_wp2_with ((with_reducible refine gate_builtin (b:=.append) (xs:=#[.tmp 53,.tmp 55]) rfl ?_);at_builtin;refine Kd.R_append k32 (w0:=w) w.heap.size rfl (.tmp 53) (.tmp 55) 26 32 (.agg #[(.string ⟨#[]⟩),(.int .u16 0),(.int .u32 0),(.string ⟨#[]⟩)]) 40 rfl Tryd.underlying26 info32 rfl (by decide) (by omega) u9 _ (⟨x,t0,u0,s0⟩:R) [.string x,.int .u16 t0,.int .u32 u0,.string s0] (fun _=>True) (fun _=>False) rfl rfl (k32_mkM _ _ _ (⟨x,t0,u0,s0⟩:R)) (fun _ hk=>hk.elim) (fun _ _=>trivial) (Kd.R_mono HO6.out (fun _ _=>trivial)) HB6.out HB6.out.size (by have:=HLL.out;omega) ?_)
      intro v9 wn hR hB hg hat
      rw [← HUU.out] at hR
      (try rw [← List.map_take] at hR)
      rw [← HTK.out] at hR
      have HRn:=Lib.hid hR
      have HBn:=Lib.hid hB
      clear hR hB hg hat
      go_wp2
      go_roundw
      case rel=>exact ⟨j + 1,by omega,by have:=HMO.out;omega,by go_num,⟨HRn.out⟩,⟨HBn.out⟩⟩
      case measure=>simp [intOf];omega
  ·obtain rfl:j = l.length:=by omega
   have HX:=HO.out
   rw [List.take_length] at HX
   have HX':=Lib.hid HX
   clear HX
   have hu:underL x l most soas = l.map (undR x soas):=by unfold underL;rw [List.take_of_length_le (by omega)]
   have HU:=Lib.hid hu
   clear hu
   go_wp2
   go_ret
   exact ⟨_,rfl,by rw [HU.out];exact HX'.out,HB.out⟩
end Go.Proofs.YtlobjcokopfbkaaDoor.Str
