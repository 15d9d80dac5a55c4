/- part of a proof; what it has no use for was struck out -/
import Derived.Test.YtlobjcokopfbkaaDoorStrF
import Derived.Test.YtlobjcokopfbkaaDoorUnd
import Derived.Test.YtlobjcokopfbkaaDoorNum
import Derived.Test.YtlobjcokopfbkaaDoorPYx11
import Derived.Test.YtlobjcokopfbkaaDoorPYx10
namespace Go.Proofs.YtlobjcokopfbkaaDoor.PY
open Go.RowKit Go.Proofs.YtlobjcokopfbkaaDoorW Go.Proofs.YtlobjcokopfbkaaDoorW.PrintWords Go.Proofs.YtlobjcokopfbkaaDoorW.PrintLast Go.Proofs.YtlobjcokopfbkaaDoorW.PrintMore Go.Proofs.YtlobjcokopfbkaaDoor.Base Go.Proofs.YtlobjcokopfbkaaDoor.Nam Go.Proofs.YtlobjcokopfbkaaDoor.Soa Go.Proofs.YtlobjcokopfbkaaDoor.QY Go.Proofs.YtlobjcokopfbkaaDoor.Str
set_option linter.unusedVariables false
set_option linter.unusedSimpArgs false
set_option maxRecDepth 100000
attribute [local go_sem] errW_none errW_some
theorem cut_R (A:Option Addr) (n c i:Nat) (hi:i≤c) (hin:i≤n) (W:World):(Instr.slice 26 (.slice A n c) none (some (.int .i64 (i:Int))) none).run Tryd.prog W = .ok (.slice A i c) W:=by
 obtain ⟨i0,hi0,hz0,hz1,hz2⟩:=info_parts info32
 have hel:Tryd.prog.elem 26 = 32:=by simp [Program.elem,Tryd.underlying26]
 have hu:Tryd.prog.underlying 26 = some (.slice (Tryd.prog.elem 26)):=by rw [hel];exact Tryd.underlying26
 have hsz:∀ W:World,(sizeOf 32).run Tryd.prog W = .ok 4 W:=fun W=>by simp [sizeOf,typeInfo,hi0,hz1]
 rw [run_slice_h W _ _ n c hu .i64 (i:Int) (by omega) (by omega),hel]
 simp only [hsz,Result.andThen,sliced,Int.toNat_natCast,Nat.zero_mul,Nat.sub_zero]
 congr 2
 cases A with
 | none=>split <;> rfl
 | some ad=>split <;> rfl
theorem Origin_ev (n:Int) (h0:0≤n):Ev (fun k=>bolterlaw09_Origin.f k n) (strOfNums (nameL [n % 6])):=by
 have ht:Int.tmod n 6 = n % 6:=Int.tmod_eq_emod_of_nonneg h0
 obtain ⟨K,hK⟩:=Name_ev [n % 6] (B8.cons (by omega) (by omega) B8.nil) (by simp)
 refine ⟨K,fun k hk=>?_⟩
 have h:=hK k hk
 simp only at h
 show bolterlaw09_Origin.f k n = _
 unfold bolterlaw09_Origin.f
 rw [ht,h]
 rfl
theorem underL_len (x:ByteArray) (l:List LA) (most:Nat) (soas:Bool):(underL x l most soas).length≤most:=by unfold underL;rw [List.length_map,List.length_take];omega
theorem data_sz (j:Nat) (x s:ByteArray) (hx:x.size≤84) (hs:s.size≤30):(bolterlaw04_Data.dataV j x s).2.size≤1000:=by
 unfold bolterlaw04_Data.dataV
 repeat' split
 all_goals (try simp only [ByteArray.size_extract,ByteArray.size_append,str_size,List.length_cons,List.length_nil])
 all_goals (first|omega|(have h0:(⟨#[0]⟩:ByteArray).size = 1:=rfl;omega))
theorem sR_sz (x:ByteArray) (n:Int) (hx:x.size≤1000):Sz (sR x n):=by
 have h:=soaMake_len [] n 10 3 40
 refine ⟨Nat.le_trans hx (by decide),?_⟩
 show (strOfNums (soaMake [] n 10 3 40)).size≤_
 rw [str_size]
 omega
theorem und_sz (x:ByteArray) (hx:x.size≤1000) (l:List LA) (m:Nat) (soas:Bool):∀ y ∈ underL x l m soas,Sz y:=by
 intro y hy
 unfold underL at hy
 obtain ⟨a,_,rfl⟩:=List.mem_map.1 hy
 have hn:(recV a).f0.size≤84:=by show (strOfNums (nameL a.f0)).size≤84;rw [str_size];exact nameL_len a.f0
 have hd:(recV a).f3.size≤1000:=data_sz _ _ _ (by rw [str_size];exact nameL_len a.f3) (by rw [ByteArray.size_extract];omega)
 unfold undR
 split
 ·split
  ·exact sR_sz x _ hx
  ·exact ⟨Nat.le_trans hx (by decide),by show (2:Nat)≤_;decide⟩
 ·refine ⟨?_,Nat.le_trans hd (by decide)⟩
  show (if joinB (recV a).f0 x = true then (recV a).f0 ++ x else x).size≤_
  split
  ·rw [ByteArray.size_append];omega
  ·omega
open Classical in
noncomputable def bolterlaw09_StreamFull.f (a0:Int) (l1:List LA) (a2:Bool):Option Bool:=if (0≤a0∧a0 < 256)∧(∀ a ∈ l1,WfL a)∧l1.length≤1048576 then some true else none
set_option maxHeartbeats 4000000 in
theorem bolterlaw09_StreamFull.calls (a0:Int) (A1:Option Addr) (c1:Nat) (l1:List LA) (a2:Bool) (r:Bool) (w:World) (hr1:Kd.C k45 w A1 l1.length l1) (hc1:l1.length≤c1) (hE:Num.ErrT w) (h:bolterlaw09_StreamFull.f a0 l1 a2 = some r) :
  Calls Tryd.prog 3 #[.int .u8 a0,.slice A1 l1.length c1,.bool a2] w fun e w'=>e = .returned (.bool r)∧Below w.heap.size w w':=by
 unfold bolterlaw09_StreamFull.f at h
 by_cases hc:(0≤a0∧a0 < 256)∧(∀ a ∈ l1,WfL a)∧l1.length≤1048576
 case neg=>rw [if_neg hc] at h;cases h
 rw [if_pos hc] at h
 obtain rfl:=Option.some.inj h
 clear h
 obtain ⟨ha0,hwl,hl⟩:=hc
 have HR1:=Lib.hid hr1
 have HWL:=Lib.hid hwl
 have HE:=Lib.hid hE
 obtain ⟨k0,hk0⟩:=Ev.rounds (Origin_ev a0 ha0.1)
 obtain ⟨x,hx⟩:∃ x,strOfNums (nameL [a0 % 6]) = x:=⟨_,rfl⟩
 have hxs:x.size≤1000:=by rw [← hx,str_size];have:=nameL_len [a0 % 6];omega
 rw [hx] at hk0
 have HK0:=Lib.hid hk0
 clear hr1 hwl hk0 hx hE
 go_enter Tryd.func3,Tryd.ntmps3
 go_wp2_with fail
 refine (bolterlaw09_awake.calls 0 true w rfl).mono ?_
 rintro e w1 ⟨rfl,hb⟩
 have HB1:=Lib.hid hb
 clear hb
 go_wp2_with fail
 with_reducible refine (bolterlaw09_Origin.calls k0 a0 x w1 HK0.out).mono ?_
 rintro e w2 ⟨rfl,hb⟩
 have HB2:=Lib.hid (HB1.out.trans (hb.mono HB1.out.size))
 clear hb HB1
 go_wp2_with fail
 have key:=under_ x hxs A1 c1 l1 30 true w2 (Kd.C_below HR1.out HB2.out) hc1 hl (by decide) HWL.out
 rw [show ((30:Nat):Int) = 30 from rfl] at key
 with_reducible refine key.mono ?_
 clear key
 rintro e w3 ⟨v8,rfl,hR,hb⟩
 have hrl:=underL_len x l1 30 true
 have hsz:=und_sz x hxs l1 30 true
 obtain ⟨rs,hrs⟩:∃ rs,underL x l1 30 true = rs:=⟨_,rfl⟩
 rw [hrs] at hR hrl hsz
 obtain ⟨A8,c8,rfl,hc8,hC⟩:=Kd.R_reads hR
 have HC:=Lib.hid hC
 have HB3:=Lib.hid (HB2.out.trans (hb.mono HB2.out.size))
 have HSZ:=Lib.hid hsz
 clear hR hC hb HB2 hrs hsz
 cases a2 with
 | false =>
  obtain ⟨b,hbR,hbM⟩:=right_tot x hxs rs (by omega) HSZ.out
  obtain ⟨hF,hf⟩:=both_full x rs (by omega) b hbR hbM
  obtain ⟨kF,hkF⟩:=Ev.rounds hF
  obtain ⟨kf,hkf⟩:=Ev.rounds hf
  clear hbR hbM hF hf
  cases hfb:fullB b rs with
  | false =>
   rw [hfb] at hkF hkf
   have HKF:=Lib.hid (show stream_Full.f kF x rs = some (([]:List R),some 4) from hkF)
   have HKf:=Lib.hid hkf
   clear hkF hkf hfb
   go_wp2_with fail
   refine (stream_Full.calls kF x A8 c8 rs [] (some 4) w3 HC.out (by omega) HKF.out).mono ?_
   rintro e wA ⟨v9,rfl,hRA,hb⟩
   obtain ⟨AA,cA,rfl,hcA,hCA⟩:=Kd.R_reads hRA
   have HBA:=Lib.hid (HB3.out.trans (hb.mono HB3.out.size))
   have HCA:=Lib.hid (Kd.C_below HC.out hb)
   clear hRA hb hCA
   go_wp2_with fail
   refine (bolterlaw09_full.calls kf x A8 c8 rs false wA HCA.out (by omega) HKf.out).mono ?_
   rintro e wB ⟨rfl,hb⟩
   have HBB:=Lib.hid (HBA.out.trans (hb.mono HBA.out.size))
   clear hb HBA HCA
   go_wp2_with fail
   refine (Num.number_ 4 wB (HE.out.below HBB.out)).mono ?_
   rintro e wC ⟨rfl,hb⟩
   have HBC:=Lib.hid (HBB.out.trans (hb.mono HBB.out.size))
   clear hb
   go_wp2
   go_ret
   exact ⟨rfl,HBC.out⟩
  | true =>
   have hp2:2≤(rs).length:=fullB_two hfb
   obtain ⟨m,hm⟩:∃ m,(rs).length = m + 1:=⟨(rs).length - 1,by omega⟩
   rw [hfb] at hkF hkf
   have HKF:=Lib.hid (show stream_Full.f kF x rs = some ((rs).take m,none) from hkF.trans (by rw [if_pos rfl,hm];rfl))
   have HKf:=Lib.hid hkf
   obtain ⟨ks,hks⟩:=Ev.rounds (Same_ev ((rs).take m) (by rw [List.length_take];omega))
   have HKS:=Lib.hid hks
   have htm:((rs).take m).length = m:=by rw [List.length_take];omega
   have HTM:=Lib.hid htm
   have hcut:=cut_R A8 (rs).length c8 m (by omega) (by omega)
   have hw1:wrap64 (((rs).length:Int) - 1) = (m:Int):=by rw [hm];exact (w64i (by omega) (by omega)).trans (by omega)
   have hi1:((rs).length:Int) - 1 = (m:Int):=by omega
   have q1:(0:Int)≤(m:Int):=Int.natCast_nonneg m
   have q2:(m:Int)≤((rs).length:Int):=by omega
   have q3:m≤c8:=by omega
   have HM:=Lib.hid hm
   have HI:=Lib.hid hi1
   clear hkF hkf hfb hks htm hp2 hm
   go_wp2_with fail
   refine (stream_Full.calls kF x A8 c8 rs ((rs).take m) none w3 HC.out (by omega) HKF.out).mono ?_
   rintro e wA ⟨v9,rfl,hRA,hb⟩
   obtain ⟨AA,cA,rfl,hcA,hCA⟩:=Kd.R_reads hRA
   rw [HTM.out] at hcA hCA ⊢
   have HBA:=Lib.hid (HB3.out.trans (hb.mono HB3.out.size))
   have HCA:=Lib.hid (Kd.C_below HC.out hb)
   have HCX:=Lib.hid hCA
   clear hRA hb hCA
   go_wp2_with fail
   refine (bolterlaw09_full.calls kf x A8 c8 rs true wA HCA.out (by omega) HKf.out).mono ?_
   rintro e wB ⟨rfl,hb⟩
   have HBB:=Lib.hid (HBA.out.trans (hb.mono HBA.out.size))
   have HCB:=Lib.hid (Kd.C_below HCA.out hb)
   have HCY:=Lib.hid (Kd.C_below HCX.out hb)
   clear hb HBA HCA HCX
   go_wp2_with fail
   have key:=bolterlaw05_SameRecords.calls ks AA cA ((rs).take m) A8 c8 ((rs).take m) true wB (by rw [HTM.out];exact HCY.out) (by rw [HTM.out];exact hcA) (Kd.C_take HCB.out (by have:=HM.out;omega)) (by rw [HTM.out];exact q3) HKS.out
   rw [HTM.out] at key
   refine key.mono ?_
   clear key
   rintro e wC ⟨rfl,hd⟩
   have HBC:=Lib.hid (HBB.out.trans (hd.below.mono HBB.out.size))
   clear hd
   go_wp2
   go_ret
   exact ⟨rfl,HBC.out⟩
 | true =>
  by_cases hp:0 < rs.length
  ·have dp:decide (0 < rs.length) = true:=decide_eq_true hp
   obtain ⟨k4,hk4⟩:=Ev.rounds (Soa_ev x 4)
   obtain ⟨sd,hsd⟩:∃ sd,strOfNums (soaMake [] 4 10 3 40) = sd:=⟨_,rfl⟩
   have HSD:Hid (sR x 4 = (⟨x,6,9,sd⟩:R)):=Lib.hid (by rw [← hsd];rfl)
   have HK4:Hid (bolterlaw09_Soa.f k4 x 4 = some (x,6,9,sd)):=Lib.hid (by rw [← hsd];exact hk4)
   clear hk4 hsd hp
   go_wp2_with fail
   with_reducible refine (bolterlaw09_Soa.calls k4 x 4 x 6 9 sd w3 HK4.out).mono ?_
   rintro e w4 ⟨rfl,hb⟩
   have HB4:=Lib.hid (HB3.out.trans (hb.mono HB3.out.size))
   clear hb HB3 HC dp
   go_wp2_with ((with_reducible refine gate_dst (N:=26) rfl ?_);refine Kd.R_lit k32 (w0:=w) w.heap.size 32 ?hg (N:=26) ?hd (xs:=([(⟨x,6,9,sd⟩:R)])) (inner:=[.string x,.int .u16 6,.int .u32 9,.string sd]) (ok:=fun _=>True) (okp:=fun _=>False) ?hr ?hp (fun _ hk=>hk.elim) trivial HB4.out HB4.out.size (by simp) ?_;(case hd=>rfl);(case hg=>rfl);(case hr=>first|(go_simp;done)|(go_simp;rfl));(case hp=>exact Reps.c4 (k32_mkM _ _ _ (⟨x,6,9,sd⟩:R)) (Reps.none _ _)))
   intro v26 w5 hR hB hg bq hat hat2
   have HB5:=Lib.hid hB
   have HO5:=Lib.hid hR
   clear hR hB hg hat hat2 bq HB4
   go_wp2_with fail
   have key:=under_ x hxs A1 c1 l1 30 false w5 (Kd.C_below HR1.out HB5.out) hc1 hl (by decide) HWL.out
   rw [show ((30:Nat):Int) = 30 from rfl] at key
   with_reducible refine key.mono ?_
   clear key
   rintro e w6 ⟨vU,rfl,hRU,hb⟩
   obtain ⟨AU,cU,rfl,hcU,hCU⟩:=Kd.R_reads hRU
   have HUL:=Lib.hid (underL_len x l1 30 false)
   have HB6:=Lib.hid (HB5.out.trans (hb.mono HB5.out.size))
   have HO6:=Lib.hid (Kd.R_below HO5.out hb)
   have HCU:=Lib.hid hCU
   clear hb hRU hCU HB5 HO5
   go_wp2_with ((with_reducible refine gate_builtin (b:=.append) (xs:=#[.tmp 26,.tmp 29]) rfl ?_);at_builtin;refine Kd.R_append_rows k32 (w0:=w) w.heap.size rfl (.tmp 26) (.tmp 29) 26 32 (.agg #[(.string ⟨#[]⟩),(.int .u16 0),(.int .u32 0),(.string ⟨#[]⟩)]) 40 rfl Tryd.underlying26 info32 rfl (by decide) (by omega) v26 _ (underL x l1 30 false) _ _ _ (fun _=>True) (fun _=>False) rfl rfl HO6.out HCU.out (fun _ _ h=>h) (fun _ h=>h.elim) (fun k hk=>trivial) HB6.out HB6.out.size (by have hu:=HUL.out;exact Nat.le_trans (Nat.mul_le_mul_right 40 (show _≤100 by simp only [List.length_cons,List.length_nil];omega)) (by decide)) ?_)
   intro v30 w7 hR hB hg hat
   have HB7:=Lib.hid hB
   have HO7:=Lib.hid hR
   clear hR hB hg hat HB6 HO6 HCU
   go_wp2_with fail
   with_reducible refine (bolterlaw09_Soa.calls k4 x 4 x 6 9 sd w7 HK4.out).mono ?_
   rintro e w8 ⟨rfl,hb⟩
   have HB8:=Lib.hid (HB7.out.trans (hb.mono HB7.out.size))
   have HO8:=Lib.hid (Kd.R_below HO7.out hb)
   clear hb HB7 HO7
   go_wp2_with ((with_reducible refine gate_builtin (b:=.append) (xs:=#[.tmp 30,.tmp 33]) rfl ?_);at_builtin;refine Kd.R_append k32 (w0:=w) w.heap.size rfl (.tmp 30) (.tmp 33) 26 32 (.agg #[(.string ⟨#[]⟩),(.int .u16 0),(.int .u32 0),(.string ⟨#[]⟩)]) 40 rfl Tryd.underlying26 info32 rfl (by decide) (by omega) v30 _ (⟨x,6,9,sd⟩:R) [.string x,.int .u16 6,.int .u32 9,.string sd] (fun _=>True) (fun _=>False) rfl rfl (k32_mkM _ _ _ (⟨x,6,9,sd⟩:R)) (fun _ hk=>hk.elim) (fun k hk=>trivial) HO8.out HB8.out HB8.out.size (by have hu:=HUL.out;exact Nat.le_trans (Nat.mul_le_mul_right 40 (show _≤100 by simp only [List.length_append,List.length_cons,List.length_nil];omega)) (by decide)) ?_)
   intro v34 w9 hR hB hg hat
   obtain ⟨ts,hts⟩:∃ ts:List R,(⟨x,6,9,sd⟩:R) :: (underL x l1 30 false ++ [(⟨x,6,9,sd⟩:R)]) = ts:=⟨_,rfl⟩
   have hR2:Kd.R k32 32 w9 w.heap.size (fun _=>True) v34 ts:=by rw [← hts];first|exact hR|simpa using hR
   have htl:ts.length≤100:=by rw [← hts];simp only [List.length_append,List.length_cons,List.length_nil];have:=HUL.out;omega
   have htz:∀ y ∈ ts,Sz y:=by
    have h9:Sz (⟨x,6,9,sd⟩:R):=by rw [← HSD.out];exact sR_sz x 4 hxs
    rw [← hts]
    intro y hy
    rcases List.mem_cons.1 hy with rfl|hy
    ·exact h9
    rcases List.mem_append.1 hy with hy|hy
    ·exact und_sz x hxs l1 30 false y hy
    ·rw [List.mem_singleton.1 hy];exact h9
   obtain ⟨A9,c9,rfl,hc9,hC9⟩:=Kd.R_reads hR2
   have HC9:=Lib.hid hC9
   have HB9:=Lib.hid hB
   clear HSZ
   have HSZ:=Lib.hid htz
   clear hR hR2 hB hg hat hts htz hC9 HO8 HB8 HUL
   obtain ⟨b,hbR,hbM⟩:=right_tot x hxs ts (by omega) HSZ.out
   obtain ⟨hF,hf⟩:=both_full x ts (by omega) b hbR hbM
   obtain ⟨kF,hkF⟩:=Ev.rounds hF
   obtain ⟨kf,hkf⟩:=Ev.rounds hf
   clear hbR hbM hF hf
   cases hfb:fullB b ts with
   | false =>
    rw [hfb] at hkF hkf
    have HKF:=Lib.hid (show stream_Full.f kF x ts = some (([]:List R),some 4) from hkF)
    have HKf:=Lib.hid hkf
    clear hkF hkf hfb
    go_wp2_with fail
    refine (stream_Full.calls kF x A9 c9 ts [] (some 4) w9 HC9.out (by omega) HKF.out).mono ?_
    rintro e wA ⟨v9,rfl,hRA,hb⟩
    obtain ⟨AA,cA,rfl,hcA,hCA⟩:=Kd.R_reads hRA
    have HBA:=Lib.hid (HB9.out.trans (hb.mono HB9.out.size))
    have HCA:=Lib.hid (Kd.C_below HC9.out hb)
    clear hRA hb hCA
    go_wp2_with fail
    refine (bolterlaw09_full.calls kf x A9 c9 ts false wA HCA.out (by omega) HKf.out).mono ?_
    rintro e wB ⟨rfl,hb⟩
    have HBB:=Lib.hid (HBA.out.trans (hb.mono HBA.out.size))
    clear hb HBA HCA
    go_wp2_with fail
    refine (Num.number_ 4 wB (HE.out.below HBB.out)).mono ?_
    rintro e wC ⟨rfl,hb⟩
    have HBC:=Lib.hid (HBB.out.trans (hb.mono HBB.out.size))
    clear hb
    go_wp2
    go_ret
    exact ⟨rfl,HBC.out⟩
   | true =>
    have hp2:2≤(ts).length:=fullB_two hfb
    obtain ⟨m,hm⟩:∃ m,(ts).length = m + 1:=⟨(ts).length - 1,by omega⟩
    rw [hfb] at hkF hkf
    have HKF:=Lib.hid (show stream_Full.f kF x ts = some ((ts).take m,none) from hkF.trans (by rw [if_pos rfl,hm];rfl))
    have HKf:=Lib.hid hkf
    obtain ⟨ks,hks⟩:=Ev.rounds (Same_ev ((ts).take m) (by rw [List.length_take];omega))
    have HKS:=Lib.hid hks
    have htm:((ts).take m).length = m:=by rw [List.length_take];omega
    have HTM:=Lib.hid htm
    have hcut:=cut_R A9 (ts).length c9 m (by omega) (by omega)
    have hw1:wrap64 (((ts).length:Int) - 1) = (m:Int):=by rw [hm];exact (w64i (by omega) (by omega)).trans (by omega)
    have hi1:((ts).length:Int) - 1 = (m:Int):=by omega
    have q1:(0:Int)≤(m:Int):=Int.natCast_nonneg m
    have q2:(m:Int)≤((ts).length:Int):=by omega
    have q3:m≤c9:=by omega
    have HM:=Lib.hid hm
    have HI:=Lib.hid hi1
    clear hkF hkf hfb hks htm hp2 hm
    go_wp2_with fail
    refine (stream_Full.calls kF x A9 c9 ts ((ts).take m) none w9 HC9.out (by omega) HKF.out).mono ?_
    rintro e wA ⟨v9,rfl,hRA,hb⟩
    obtain ⟨AA,cA,rfl,hcA,hCA⟩:=Kd.R_reads hRA
    rw [HTM.out] at hcA hCA ⊢
    have HBA:=Lib.hid (HB9.out.trans (hb.mono HB9.out.size))
    have HCA:=Lib.hid (Kd.C_below HC9.out hb)
    have HCX:=Lib.hid hCA
    clear hRA hb hCA
    go_wp2_with fail
    refine (bolterlaw09_full.calls kf x A9 c9 ts true wA HCA.out (by omega) HKf.out).mono ?_
    rintro e wB ⟨rfl,hb⟩
    have HBB:=Lib.hid (HBA.out.trans (hb.mono HBA.out.size))
    have HCB:=Lib.hid (Kd.C_below HCA.out hb)
    have HCY:=Lib.hid (Kd.C_below HCX.out hb)
    clear hb HBA HCA HCX
    go_wp2_with fail
    have key:=bolterlaw05_SameRecords.calls ks AA cA ((ts).take m) A9 c9 ((ts).take m) true wB (by rw [HTM.out];exact HCY.out) (by rw [HTM.out];exact hcA) (Kd.C_take HCB.out (by have:=HM.out;omega)) (by rw [HTM.out];exact q3) HKS.out
    rw [HTM.out] at key
    refine key.mono ?_
    clear key
    rintro e wC ⟨rfl,hd⟩
    have HBC:=Lib.hid (HBB.out.trans (hd.below.mono HBB.out.size))
    clear hd
    go_wp2
    go_ret
    exact ⟨rfl,HBC.out⟩
  ·have dp:decide (0 < rs.length) = false:=decide_eq_false hp
   clear hp
   obtain ⟨b,hbR,hbM⟩:=right_tot x hxs rs (by omega) HSZ.out
   obtain ⟨hF,hf⟩:=both_full x rs (by omega) b hbR hbM
   obtain ⟨kF,hkF⟩:=Ev.rounds hF
   obtain ⟨kf,hkf⟩:=Ev.rounds hf
   clear hbR hbM hF hf
   cases hfb:fullB b rs with
   | false =>
    rw [hfb] at hkF hkf
    have HKF:=Lib.hid (show stream_Full.f kF x rs = some (([]:List R),some 4) from hkF)
    have HKf:=Lib.hid hkf
    clear hkF hkf hfb
    go_wp2_with fail
    refine (stream_Full.calls kF x A8 c8 rs [] (some 4) w3 HC.out (by omega) HKF.out).mono ?_
    rintro e wA ⟨v9,rfl,hRA,hb⟩
    obtain ⟨AA,cA,rfl,hcA,hCA⟩:=Kd.R_reads hRA
    have HBA:=Lib.hid (HB3.out.trans (hb.mono HB3.out.size))
    have HCA:=Lib.hid (Kd.C_below HC.out hb)
    clear hRA hb hCA
    go_wp2_with fail
    refine (bolterlaw09_full.calls kf x A8 c8 rs false wA HCA.out (by omega) HKf.out).mono ?_
    rintro e wB ⟨rfl,hb⟩
    have HBB:=Lib.hid (HBA.out.trans (hb.mono HBA.out.size))
    clear hb HBA HCA
    go_wp2_with fail
    refine (Num.number_ 4 wB (HE.out.below HBB.out)).mono ?_
    rintro e wC ⟨rfl,hb⟩
    have HBC:=Lib.hid (HBB.out.trans (hb.mono HBB.out.size))
    clear hb
    go_wp2
    go_ret
    exact ⟨rfl,HBC.out⟩
   | true =>
    have hp2:2≤(rs).length:=fullB_two hfb
    obtain ⟨m,hm⟩:∃ m,(rs).length = m + 1:=⟨(rs).length - 1,by omega⟩
    rw [hfb] at hkF hkf
    have HKF:=Lib.hid (show stream_Full.f kF x rs = some ((rs).take m,none) from hkF.trans (by rw [if_pos rfl,hm];rfl))
    have HKf:=Lib.hid hkf
    obtain ⟨ks,hks⟩:=Ev.rounds (Same_ev ((rs).take m) (by rw [List.length_take];omega))
    have HKS:=Lib.hid hks
    have htm:((rs).take m).length = m:=by rw [List.length_take];omega
    have HTM:=Lib.hid htm
    have hcut:=cut_R A8 (rs).length c8 m (by omega) (by omega)
    have hw1:wrap64 (((rs).length:Int) - 1) = (m:Int):=by rw [hm];exact (w64i (by omega) (by omega)).trans (by omega)
    have hi1:((rs).length:Int) - 1 = (m:Int):=by omega
    have q1:(0:Int)≤(m:Int):=Int.natCast_nonneg m
    have q2:(m:Int)≤((rs).length:Int):=by omega
    have q3:m≤c8:=by omega
    have HM:=Lib.hid hm
    have HI:=Lib.hid hi1
    clear hkF hkf hfb hks htm hp2 hm
    go_wp2_with fail
    refine (stream_Full.calls kF x A8 c8 rs ((rs).take m) none w3 HC.out (by omega) HKF.out).mono ?_
    rintro e wA ⟨v9,rfl,hRA,hb⟩
    obtain ⟨AA,cA,rfl,hcA,hCA⟩:=Kd.R_reads hRA
    rw [HTM.out] at hcA hCA ⊢
    have HBA:=Lib.hid (HB3.out.trans (hb.mono HB3.out.size))
    have HCA:=Lib.hid (Kd.C_below HC.out hb)
    have HCX:=Lib.hid hCA
    clear hRA hb hCA
    go_wp2_with fail
    refine (bolterlaw09_full.calls kf x A8 c8 rs true wA HCA.out (by omega) HKf.out).mono ?_
    rintro e wB ⟨rfl,hb⟩
    have HBB:=Lib.hid (HBA.out.trans (hb.mono HBA.out.size))
    have HCB:=Lib.hid (Kd.C_below HCA.out hb)
    have HCY:=Lib.hid (Kd.C_below HCX.out hb)
    clear hb HBA HCA HCX
    go_wp2_with fail
    have key:=bolterlaw05_SameRecords.calls ks AA cA ((rs).take m) A8 c8 ((rs).take m) true wB (by rw [HTM.out];exact HCY.out) (by rw [HTM.out];exact hcA) (Kd.C_take HCB.out (by have:=HM.out;omega)) (by rw [HTM.out];exact q3) HKS.out
    rw [HTM.out] at key
    refine key.mono ?_
    clear key
    rintro e wC ⟨rfl,hd⟩
    have HBC:=Lib.hid (HBB.out.trans (hd.below.mono HBB.out.size))
    clear hd
    go_wp2
    go_ret
    exact ⟨rfl,HBC.out⟩
end Go.Proofs.YtlobjcokopfbkaaDoor.PY
