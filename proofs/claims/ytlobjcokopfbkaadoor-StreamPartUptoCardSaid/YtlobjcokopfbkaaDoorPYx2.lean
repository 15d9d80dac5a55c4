import Derived.Test.YtlobjcokopfbkaaDoorPYx0
namespace Go.Proofs.YtlobjcokopfbkaaDoor.PY
open Go.RowKit Go.Proofs.YtlobjcokopfbkaaDoorW.PrintWords Go.Proofs.YtlobjcokopfbkaaDoorW.PrintLast Go.Proofs.YtlobjcokopfbkaaDoorW.PrintMore
attribute [local go_sem] max2_int min2_int max_two min_two max_three min_three max_four min_four   -- for this text's walks alone
set_option linter.unusedVariables false
set_option linter.unusedSimpArgs false
def name_Fold.f (a0:Int):Option (Int):=if a0 ≥ 65 then (if a0≤90 then (some ((((a0 + 97) % 256) - 65) % 256)) else (some a0)) else (some a0)
set_option maxHeartbeats 8000000 in
set_option maxRecDepth 100000 in
theorem name_Fold.calls (a0:Int) (r:Int) (w:World) (h:name_Fold.f a0 = some r) :
  Calls Tryd.prog 60 #[.int .u8 a0] w fun e w'=>e = .returned (.int .u8 r)∧Drawn0 w w':=by
 have H:(if a0 ≥ 65 then (if a0≤90 then (some ((((a0 + 97) % 256) - 65) % 256)) else (some a0)) else (some a0)) = some r:=h
 clear h
 by_cases c2:a0 ≥ 65
 ·rw [if_pos c2] at H
  have c2b0:decide (65≤a0) = true:=decide_eq_true c2
  clear c2
  by_cases c3:a0≤90
  ·rw [if_pos c3] at H
   have c3b0:decide (a0≤90) = true:=decide_eq_true c3
   clear c3
   obtain rfl:=Option.some.inj H
   go_enter Tryd.func60,Tryd.ntmps60
   go_wp2
   go_ret
   exact ⟨by first|rfl|(simp;done)|(simp [*];done),by repeat (first|exact Drawn0.refl _|apply Drawn0.step)⟩
  ·rw [if_neg c3] at H
   have c3b0:decide (a0≤90) = false:=decide_eq_false c3
   clear c3
   obtain rfl:=Option.some.inj H
   go_enter Tryd.func60,Tryd.ntmps60
   go_wp2
   go_ret
   exact ⟨by first|rfl|(simp;done)|(simp [*];done),by repeat (first|exact Drawn0.refl _|apply Drawn0.step)⟩
 ·rw [if_neg c2] at H
  have c2b0:decide (65≤a0) = false:=decide_eq_false c2
  clear c2
  obtain rfl:=Option.some.inj H
  go_enter Tryd.func60,Tryd.ntmps60
  go_wp2
  go_ret
  exact ⟨by first|rfl|(simp;done)|(simp [*];done),by repeat (first|exact Drawn0.refl _|apply Drawn0.step)⟩
def name_folded.one (c:Int):Int:=(name_Fold.f c).getD 0
theorem name_folded.one_some (c:Int):name_Fold.f c = some (name_folded.one c):=by
 unfold name_folded.one name_Fold.f
 repeat' split
 all_goals rfl
def name_folded.f (a0:ByteArray):Option ByteArray:=if a0.size≤140737488355328 then some (strOfNums ((bytesOf a0).map name_folded.one)) else none
def name_folded.at_ (s:ByteArray) (k j:Nat):Int:=if j < k then name_folded.one (bt s j) else bt s j
set_option maxHeartbeats 1000000 in
theorem name_folded.calls (a0:ByteArray) (r:ByteArray) (w:World) (h:name_folded.f a0 = some r) :
  Calls Tryd.prog 51 #[.string a0] w fun e w'=>e = .returned (.string r)∧Below w.heap.size w w':=by
 unfold name_folded.f at h
 split at h
 case isFalse=>cases h
 rename_i hsz
 have Hr:=Aside0.mk (Option.some.inj h)
 clear h
 obtain ⟨W,c,hconv0,hc,hB,hlt,hcell,hfr⟩:=Go.Proofs.YtlobjcokopfbkaaDoorW.HandW.bytes_world w 5 a0
 have hconv:=hconv0 Tryd.prog 9 43 _ Tryd.underlying9 Tryd.underlying43 Tryd.underlying5
 clear hconv0
 have HC:=Aside0.mk hcell
 have HF:=Aside0.mk hfr
 have HB:=Aside0.mk hB
 have HL:=Aside0.mk hlt
 clear hcell hfr hB hlt
 have hs9:a0.size≤9223372036854775807:=by omega
 go_enter Tryd.func51,Tryd.ntmps51
 go_wp2
 go_loopw [4,5,10] (fun _ _ i wr=>∃ k:Nat,k≤a0.size∧i = .int .i64 k∧Aside0 (∀ j,j < a0.size→wr.cell? ⟨w.heap.size,j,none⟩ = some (.int .u8 (name_folded.at_ a0 k j)))∧Aside0 (∀ j,j < a0.size→wr.frozen? ⟨w.heap.size,j,none⟩ = false)∧Aside0 (Below w.heap.size w wr)∧Aside0 (w.heap.size < wr.heap.size))
  (fun _ _ i _=>a0.size - (intOf i).toNat)
 case atStart=>exact ⟨0,Nat.zero_le _,rfl,⟨fun j hj=>by rw [HC.out j hj];unfold name_folded.at_;rw [if_neg (by omega)]⟩,HF,HB,HL⟩
 case round =>
  obtain ⟨k,hk,rfl,hA,hF,hBB,hLL⟩:=hrel
  by_cases hlt:k < a0.size
  ·have hcell:wr.cell? ⟨w.heap.size,k,none⟩ = some (.int .u8 (bt a0 k)):=by
    rw [hA.out k hlt]
    unfold name_folded.at_
    rw [if_neg (by omega)]
   have hfro:wr.frozen? ⟨w.heap.size,k,none⟩ = false:=hF.out k hlt
   have hb:=bt_range a0 k
   have hd1:decide (k < a0.size) = true:=decide_eq_true hlt
   have hd2:decide ((k:Int) < (a0.size:Int)) = true:=decide_eq_true (by omega)
   go_wp2_with (go_at_call 60;(with_reducible refine (name_Fold.calls _ _ _ (name_folded.one_some (bt a0 k))).mono ?_);rintro e w2 ⟨rfl,⟨m,rfl⟩⟩)
   go_roundw
   case rel =>
    refine ⟨k + 1,by omega,by go_num,⟨fun j hj=>?_⟩,⟨fun j hj=>?_⟩,⟨?_⟩,⟨?_⟩⟩
    ·by_cases hj2:j = k
     ·subst hj2
      have e:((wr.drewN m).setCell ⟨w.heap.size,j,none⟩ (.int .u8 (name_folded.one (bt a0 j)))).cell? ⟨w.heap.size,j,none⟩ = some (.int .u8 (name_folded.one (bt a0 j))):=World.cell?_setCell_same (wr.drewN m) ⟨w.heap.size,j,none⟩ _ hcell
      refine Eq.trans e ?_
      unfold name_folded.at_
      rw [if_pos (by omega)]
     ·have e:((wr.drewN m).setCell ⟨w.heap.size,k,none⟩ (.int .u8 (name_folded.one (bt a0 k)))).cell? ⟨w.heap.size,j,none⟩ = wr.cell? ⟨w.heap.size,j,none⟩:=World.cell?_setCell_other (wr.drewN m) _ _ _ (by intro h;injection h with _ h _;exact hj2 h.symm)
      refine Eq.trans e ?_
      rw [hA.out j hj]
      unfold name_folded.at_
      by_cases h1:j < k
      ·rw [if_pos h1,if_pos (by omega)]
      ·rw [if_neg h1,if_neg (by omega)]
    ·have e:((wr.drewN m).setCell ⟨w.heap.size,k,none⟩ (.int .u8 (name_folded.one (bt a0 k)))).frozen? ⟨w.heap.size,j,none⟩ = wr.frozen? ⟨w.heap.size,j,none⟩:=World.frozen?_setCell _ _ _ _
     exact e.trans (hF.out j hj)
    ·have e:Below w.heap.size w ((wr.drewN m).setCell ⟨w.heap.size,k,none⟩ (.int .u8 (name_folded.one (bt a0 k)))):=(pw_below_drewN hBB.out m).setCell (Nat.le_refl _) _
     exact e
    ·have e:((wr.drewN m).setCell ⟨w.heap.size,k,none⟩ (.int .u8 (name_folded.one (bt a0 k)))).heap.size = wr.heap.size:=World.size_setCell _ _ _
     exact Nat.lt_of_lt_of_eq hLL.out e.symm
   case measure=>simp [intOf];omega
  ·have hl:((bytesOf a0).map name_folded.one).length = a0.size:=by rw [List.length_map,bytesOf_length]
   have hCC:Kd.C (Kd.int .u8) wr (some ⟨w.heap.size,0,none⟩) ((bytesOf a0).map name_folded.one).length ((bytesOf a0).map name_folded.one):=by
    refine ⟨rfl,by omega,fun _=>⟨⟨w.heap.size,0,none⟩,rfl,fun j p hj=>⟨[.int .u8 p],rfl,rfl,fun i u hu=>?_⟩⟩⟩
    have hi:i = 0:=by
     have:=(List.getElem?_eq_some_iff.1 hu).1
     simp at this
     exact this
    subst hi
    have hu':u = .int .u8 p:=by simpa using hu.symm
    subst hu'
    have hjl:j < a0.size:=by
     have:=(List.getElem?_eq_some_iff.1 hj).1
     omega
    have ha:((⟨w.heap.size,0,none⟩:Addr).add (j * 1 + 0)) = ⟨w.heap.size,j,none⟩:=by
     cases j <;> simp [Addr.add]
    show wr.cell? ((⟨w.heap.size,0,none⟩:Addr).add (j * 1 + 0)) = _
    rw [ha,hA.out j hjl]
    unfold name_folded.at_
    rw [if_pos (by omega)]
    have hp:p = name_folded.one (bt a0 j):=by
     rw [List.getElem?_map] at hj
     have hd:j < a0.data.toList.length:=by simpa using hjl
     have:(bytesOf a0)[j]? = some (bt a0 j):=by
      simp only [bytesOf,List.getElem?_map,List.getElem?_eq_getElem hd,Option.map_some,bt,Int.toNat_natCast,hjl,dif_pos]
      simp
      rfl
     rw [this] at hj
     simpa using hj.symm
    rw [hp]
   have hcv:=Kd.C_string (P:=Tryd.prog) (c:=c) Tryd.underlying43 Tryd.underlying5 Tryd.underlying9 hCC
   rw [hl] at hcv
   clear hCC hl
   have hd1:decide (k < a0.size) = false:=decide_eq_false hlt
   have hd2:decide ((k:Int) < (a0.size:Int)) = false:=decide_eq_false (by omega)
   go_wp2
   go_ret
   exact ⟨by rw [← Hr.out];rfl,hBB.out⟩
mutual
def name_Labels.j0:Nat→List ByteArray→ByteArray→Bool→Option (List ByteArray × Bool)
 | 0,_,_,_=>none
 | k + 1,x4,x5,x16=>if x16 = true then (some (([]:List ByteArray),false)) else (name_Labels.l0 k x4 x5)
def name_Labels.l0:Nat→List ByteArray→ByteArray→Option (List ByteArray × Bool)
 | 0,_,_=>none
 | k + 1,x4,x5=>if (x5.size:Int) > 0 then (if 0 < (x5.size:Int) then (if (wrap64 (bt x5 0)) < 1 then (some (([]:List ByteArray),false)) else (if (wrap64 (bt x5 0)) > 63 then (some (([]:List ByteArray),false)) else (if (wrap64 (bt x5 0)) ≥ (x5.size:Int) then (some (([]:List ByteArray),false)) else (if 1≤(wrap64 (1 + (wrap64 (bt x5 0)))) then (if (wrap64 (1 + (wrap64 (bt x5 0))))≤(x5.size:Int) then (if x4.length < 8796093022208 then (if 0≤(wrap64 (1 + (wrap64 (bt x5 0)))) then (name_Labels.l0 k (x4 ++ [x5.extract 1 ((wrap64 (1 + (wrap64 (bt x5 0)))):Int).toNat]) (x5.extract ((wrap64 (1 + (wrap64 (bt x5 0)))):Int).toNat x5.size)) else (none)) else (none)) else (none)) else (none))))) else (none)) else (some (x4,true))
end
def name_Labels.f (k:Nat) (a0:ByteArray):Option (List ByteArray × Bool):=if (a0.size:Int) > 254 then (name_Labels.j0 k ([]:List ByteArray) a0 true) else ((name_folded.f a0).bind fun t101=>(name_Labels.j0 k ([]:List ByteArray) a0 (a0.toList != t101.toList)))
theorem name_Labels.mono_l:∀ k,(∀ y0 y1 y2,LeO (name_Labels.j0 k y0 y1 y2) (name_Labels.j0 (k + 1) y0 y1 y2))∧(∀ y0 y1,LeO (name_Labels.l0 k y0 y1) (name_Labels.l0 (k + 1) y0 y1))
 | 0=>⟨fun _ _ _ r h=>by simp [name_Labels.j0] at h,fun _ _ r h=>by simp [name_Labels.l0] at h⟩
 | k + 1=>by
  obtain ⟨ih0,ih1⟩:=name_Labels.mono_l k
  refine ⟨?_,?_⟩
  ·intro y0 y1 y2
   unfold name_Labels.j0
   repeat' first
   | (with_reducible exact ih0 _ _ _)
   | (with_reducible exact ih1 _ _)
   | (with_reducible exact LeO.refl _)
   | (with_reducible exact LeO.none _)
   | (with_reducible refine LeO.ite ?_ ?_)
   | (with_reducible refine LeO.bind ?_ (fun _=>?_))
   | exact ih0 _ _ _
   | exact ih1 _ _
   | exact LeO.none _
   | refine LeO.ite ?_ ?_
   | refine LeO.bind ?_ (fun _=>?_)
  ·intro y0 y1
   unfold name_Labels.l0
   repeat' first
   | (with_reducible exact ih0 _ _ _)
   | (with_reducible exact ih1 _ _)
   | (with_reducible exact LeO.refl _)
   | (with_reducible exact LeO.none _)
   | (with_reducible refine LeO.ite ?_ ?_)
   | (with_reducible refine LeO.bind ?_ (fun _=>?_))
   | exact ih0 _ _ _
   | exact ih1 _ _
   | exact LeO.none _
   | refine LeO.ite ?_ ?_
   | refine LeO.bind ?_ (fun _=>?_)
theorem name_Labels.mono:∀ a0 k,LeO (name_Labels.f k a0) (name_Labels.f (k + 1) a0):=by
 intro a0 k
 obtain ⟨ih0,ih1⟩:=name_Labels.mono_l k
 unfold name_Labels.f
 repeat' first
   | (with_reducible exact ih0 _ _ _)
   | (with_reducible exact ih1 _ _)
   | (with_reducible exact LeO.refl _)
   | (with_reducible exact LeO.none _)
   | (with_reducible refine LeO.ite ?_ ?_)
   | (with_reducible refine LeO.bind ?_ (fun _=>?_))
   | exact ih0 _ _ _
   | exact ih1 _ _
   | exact LeO.none _
   | refine LeO.ite ?_ ?_
   | refine LeO.bind ?_ (fun _=>?_)
set_option maxHeartbeats 8000000 in
set_option maxRecDepth 100000 in
theorem name_Labels.calls (k:Nat) (a0:ByteArray) (r1:List ByteArray) (r2:Bool) (w:World) (h:name_Labels.f k a0 = some (r1,r2)) :
  Calls Tryd.prog 47 #[.string a0] w fun e w'=>∃ v0_:Value,e = .returned (.tuple #[v0_,.bool r2])∧Kd.R Kd.string 9 w' w.heap.size (fun _=>True) v0_ r1∧Below w.heap.size w w':=by
 have HB:=Aside0.mk (Below.refl w.heap.size w)
 have H:(if (a0.size:Int) > 254 then (name_Labels.j0 k ([]:List ByteArray) a0 true) else ((name_folded.f a0).bind fun t101=>(name_Labels.j0 k ([]:List ByteArray) a0 (a0.toList != t101.toList)))) = some (r1,r2):=h
 clear h
 have HC2:=Aside0.mk H
 clear H
 go_enter Tryd.func47,Tryd.ntmps47
 go_upto_region 3 with (fail)
 go_cut [16] (fun v16 wc=>∃ (kq:Nat) (x16_1:Bool),v16 = .bool x16_1∧Aside0 (name_Labels.j0 kq ([]:List ByteArray) a0 x16_1 = some (r1,r2))∧Aside0 (kq≤k)∧Aside0 (Kd.R Kd.string 9 wc w.heap.size (fun _=>True) (.slice none 0 0) ([]:List ByteArray))∧Aside0 (Below w.heap.size w wc))
 case first =>
  have H:=HC2.out
  clear HC2
  by_cases c3:(a0.size:Int) > 254
  ·rw [if_pos c3] at H
   have c3b0:decide (254 < (a0.size:Int)) = true:=decide_eq_true c3
   have c3b1:decide (254 < a0.size) = true:=decide_eq_true (by omega)
   clear c3
   (first|rw [c3b0]|(simp only [i64_w,i32_w];rw [c3b0])|skip)
   have H':=Aside0.mk H
   clear H
   go_wp2
   go_meet
   case rel=>exact ⟨_,(true),(by first|rfl|(simp;done)|(simp [*];done)),H',⟨by first|omega|exact Nat.le_refl _⟩,⟨by first|exact Kd.R_nil _ _ _ _ _|exact Kd.N_nil _ _ _ _ _|exact Kd.V_nil _ _ _ _ _|exact Kd.Q_nil _ _ _ _ _|exact Kd.S_nil _ _ _ _ _⟩,⟨by repeat (first|(with_reducible first|exact HB.out|apply below_alloc|apply pw_below_drewN|apply below_drew1)|exact HB.out)⟩⟩
  ·rw [if_neg c3] at H
   have c3b0:decide (254 < (a0.size:Int)) = false:=decide_eq_false c3
   have c3b1:decide (254 < a0.size) = false:=decide_eq_false (by omega)
   clear c3
   (first|rw [c3b0]|(simp only [i64_w,i32_w];rw [c3b0])|skip)
   replace H:=Option.bind_eq_some_iff.mp H
   obtain ⟨t101,A40,H⟩:=H
   replace H:(name_Labels.j0 k ([]:List ByteArray) a0 (a0.toList != t101.toList)) = some (r1,r2):=H
   have A4:=Aside0.mk A40
   clear A40
   have H':=Aside0.mk H
   clear H
   go_wp2_with (first|(go_at_call 51;(with_reducible refine (name_folded.calls a0 t101 _ A4.out).mono ?_);rintro e w5 ⟨rfl,hb⟩;have n0_:=Aside0.mk (below_step (by repeat (first|(with_reducible first|exact HB.out|apply below_alloc|apply pw_below_drewN|apply below_drew1)|exact HB.out)) hb);clear HB;have HB:=n0_;clear n0_;(try clear hb);(try clear hb2);(try clear hk);(try clear hi)))
   go_meet
   case rel=>exact ⟨_,((a0.toList != t101.toList)),(by first|rfl|(simp;done)|(simp [*];done)),H',⟨by first|omega|exact Nat.le_refl _⟩,⟨by first|exact Kd.R_nil _ _ _ _ _|exact Kd.N_nil _ _ _ _ _|exact Kd.V_nil _ _ _ _ _|exact Kd.Q_nil _ _ _ _ _|exact Kd.S_nil _ _ _ _ _⟩,⟨by repeat (first|(with_reducible first|exact HB.out|apply below_alloc|apply pw_below_drewN|apply below_drew1)|exact HB.out)⟩⟩
 case rest =>
  clear HC2
  try clear p2
  try clear c3
  try clear c3b0
  try clear c3b1
  try clear c4
  obtain ⟨kq,x16_1,rfl,HA,HJ1,HO_4,HB⟩:=hcut
  cases kq with
  | zero=>exact absurd HA.out (by simp [name_Labels.j0])
  | succ kj1 =>
   have H:=HA.out
   clear HA
   simp only [name_Labels.j0] at H
   by_cases c6:x16_1 = true
   ·subst c6
    have H1:(some (([]:List ByteArray),false)) = some (r1,r2):=by rw [if_pos rfl] at H;exact H
    clear H
    have H:=H1
    clear H1
    simp only [Option.some.injEq,Prod.mk.injEq] at H
    obtain ⟨rfl,rfl⟩:=H
    go_wp2
    go_ret2
    exact ⟨_,by first|rfl|(simp [errW_none,errW_some] <;> rfl)|(simp [*,errW_none,errW_some] <;> rfl),by first|exact Kd.R_nil _ _ _ _ _|exact Kd.N_nil _ _ _ _ _|exact Kd.V_nil _ _ _ _ _|exact Kd.Q_nil _ _ _ _ _|exact Kd.S_nil _ _ _ _ _,by repeat (first|(with_reducible first|exact HB.out|apply below_alloc|apply pw_below_drewN|apply below_drew1)|exact HB.out)⟩
   ·replace c6:=Bool.eq_false_iff.mpr c6
    subst c6
    have H1:(name_Labels.l0 kj1 ([]:List ByteArray) a0) = some (r1,r2):=by rw [if_neg (show ¬ (false = true) by decide)] at H;exact H
    clear H
    have H:=H1
    clear H1
    have H':=Aside0.mk H
    clear H
    go_wp2
    go_loopg [4,5] kj1 (fun kq v4 v5 w'=>∃ (x4_2:List ByteArray) (x5_2:ByteArray),v5 = .string x5_2∧Aside0 (name_Labels.l0 kq x4_2 x5_2 = some (r1,r2))∧Aside0 (kq≤kj1)∧Aside0 (Kd.R Kd.string 9 w' w.heap.size (fun _=>True) v4 x4_2)∧Aside0 (Below w.heap.size w w'))
    case atStart=>exact ⟨(([]:List ByteArray)),(a0),(by first|rfl|(simp;done)|(simp [*];done)),H',⟨Nat.le_refl _⟩,⟨by (with_reducible repeat (first|apply Kd.R_alloc|apply Kd.R_drewN|apply Kd.R_drew));exact HO_4.out⟩,⟨by repeat (first|(with_reducible first|exact HB.out|apply below_alloc|apply pw_below_drewN|apply below_drew1)|exact HB.out)⟩⟩
    case round =>
     clear H'
     try clear p2
     try clear c3
     try clear c3b0
     try clear c3b1
     try clear c4
     try clear c6
     try clear p2
     obtain ⟨x4_2,x5_2,rfl,HA,HK2,HO_4,HB⟩:=hrel
     cases gk with
     | zero=>exact absurd HA.out (by simp [name_Labels.l0])
     | succ k2 =>
      have H:=HA.out
      clear HA
      simp only [name_Labels.l0] at H
      by_cases c7:(x5_2.size:Int) > 0
      ·rw [if_pos c7] at H
       have c7b0:decide (0 < (x5_2.size:Int)) = true:=decide_eq_true c7
       have c7b1:decide (0 < x5_2.size) = true:=decide_eq_true (by omega)
       clear c7
       by_cases c8:0 < (x5_2.size:Int)
       ·rw [if_pos c8] at H
        have c8b0:decide (0 < (x5_2.size:Int)) = true:=decide_eq_true c8
        have c8b1:decide (0 < x5_2.size) = true:=decide_eq_true (by omega)
        clear c8
        by_cases c10:(wrap64 (bt x5_2 0)) < 1
        ·rw [if_pos c10] at H
         have c10b0:decide ((wrap64 (bt x5_2 0)) < 1) = true:=decide_eq_true c10
         (try (have c10b1:decide ((IntKind.i64.wrap (bt x5_2 0)) < 1) = true:=by simp only [i64_w];exact (decide_eq_true c10)))
         clear c10
         simp only [Option.some.injEq,Prod.mk.injEq] at H
         obtain ⟨rfl,rfl⟩:=H
         have p9:0≤(0:Int):=(by omega)
         have q9:0 < x5_2.size:=(by have:(0:Int) < (x5_2.size:Int):=of_decide_eq_true (by first|(with_reducible assumption)|assumption);omega)
         have hx9:∀ h:0 < x5_2.size,((x5_2[0]'h).toNat:Int) = bt x5_2 0:=bt_at x5_2 0
         clear p9
         have qi9:(0 < (x5_2.size:Int)) = True:=eq_true (of_decide_eq_true (by first|(with_reducible assumption)|assumption))
         replace q9:=eq_true q9
         go_wp2
         go_ret2
         exact ⟨_,by first|rfl|(simp [errW_none,errW_some] <;> rfl)|(simp [*,errW_none,errW_some] <;> rfl),by first|exact Kd.R_nil _ _ _ _ _|exact Kd.N_nil _ _ _ _ _|exact Kd.V_nil _ _ _ _ _|exact Kd.Q_nil _ _ _ _ _|exact Kd.S_nil _ _ _ _ _,by repeat (first|(with_reducible first|exact HB.out|apply below_alloc|apply pw_below_drewN|apply below_drew1)|exact HB.out)⟩
        ·rw [if_neg c10] at H
         have c10b0:decide ((wrap64 (bt x5_2 0)) < 1) = false:=decide_eq_false c10
         (try (have c10b1:decide ((IntKind.i64.wrap (bt x5_2 0)) < 1) = false:=by simp only [i64_w];exact (decide_eq_false c10)))
         clear c10
         by_cases c11:(wrap64 (bt x5_2 0)) > 63
         ·rw [if_pos c11] at H
          have c11b0:decide (63 < (wrap64 (bt x5_2 0))) = true:=decide_eq_true c11
          (try (have c11b1:decide (63 < (IntKind.i64.wrap (bt x5_2 0))) = true:=by simp only [i64_w];exact (decide_eq_true c11)))
          clear c11
          simp only [Option.some.injEq,Prod.mk.injEq] at H
          obtain ⟨rfl,rfl⟩:=H
          have p9:0≤(0:Int):=(by omega)
          have q9:0 < x5_2.size:=(by have:(0:Int) < (x5_2.size:Int):=of_decide_eq_true (by first|(with_reducible assumption)|assumption);omega)
          have hx9:∀ h:0 < x5_2.size,((x5_2[0]'h).toNat:Int) = bt x5_2 0:=bt_at x5_2 0
          clear p9
          have qi9:(0 < (x5_2.size:Int)) = True:=eq_true (of_decide_eq_true (by first|(with_reducible assumption)|assumption))
          replace q9:=eq_true q9
          go_wp2
          go_ret2
          exact ⟨_,by first|rfl|(simp [errW_none,errW_some] <;> rfl)|(simp [*,errW_none,errW_some] <;> rfl),by first|exact Kd.R_nil _ _ _ _ _|exact Kd.N_nil _ _ _ _ _|exact Kd.V_nil _ _ _ _ _|exact Kd.Q_nil _ _ _ _ _|exact Kd.S_nil _ _ _ _ _,by repeat (first|(with_reducible first|exact HB.out|apply below_alloc|apply pw_below_drewN|apply below_drew1)|exact HB.out)⟩
         ·rw [if_neg c11] at H
          have c11b0:decide (63 < (wrap64 (bt x5_2 0))) = false:=decide_eq_false c11
          (try (have c11b1:decide (63 < (IntKind.i64.wrap (bt x5_2 0))) = false:=by simp only [i64_w];exact (decide_eq_false c11)))
          clear c11
          by_cases c12:(wrap64 (bt x5_2 0)) ≥ (x5_2.size:Int)
          ·rw [if_pos c12] at H
           have c12b0:decide ((x5_2.size:Int)≤(wrap64 (bt x5_2 0))) = true:=decide_eq_true c12
           (try (have c12b1:decide ((x5_2.size:Int)≤(IntKind.i64.wrap (bt x5_2 0))) = true:=by simp only [i64_w];exact (decide_eq_true c12)))
           clear c12
           simp only [Option.some.injEq,Prod.mk.injEq] at H
           obtain ⟨rfl,rfl⟩:=H
           have p9:0≤(0:Int):=(by omega)
           have q9:0 < x5_2.size:=(by have:(0:Int) < (x5_2.size:Int):=of_decide_eq_true (by first|(with_reducible assumption)|assumption);omega)
           have hx9:∀ h:0 < x5_2.size,((x5_2[0]'h).toNat:Int) = bt x5_2 0:=bt_at x5_2 0
           clear p9
           have qi9:(0 < (x5_2.size:Int)) = True:=eq_true (of_decide_eq_true (by first|(with_reducible assumption)|assumption))
           replace q9:=eq_true q9
           go_wp2
           go_ret2
           exact ⟨_,by first|rfl|(simp [errW_none,errW_some] <;> rfl)|(simp [*,errW_none,errW_some] <;> rfl),by first|exact Kd.R_nil _ _ _ _ _|exact Kd.N_nil _ _ _ _ _|exact Kd.V_nil _ _ _ _ _|exact Kd.Q_nil _ _ _ _ _|exact Kd.S_nil _ _ _ _ _,by repeat (first|(with_reducible first|exact HB.out|apply below_alloc|apply pw_below_drewN|apply below_drew1)|exact HB.out)⟩
          ·rw [if_neg c12] at H
           have c12b0:decide ((x5_2.size:Int)≤(wrap64 (bt x5_2 0))) = false:=decide_eq_false c12
           (try (have c12b1:decide ((x5_2.size:Int)≤(IntKind.i64.wrap (bt x5_2 0))) = false:=by simp only [i64_w];exact (decide_eq_false c12)))
           clear c12
           by_cases c13:1≤(wrap64 (1 + (wrap64 (bt x5_2 0))))
           ·rw [if_pos c13] at H
            have c13b0:=eq_true c13
            have c13b1:decide (1≤(wrap64 (1 + (wrap64 (bt x5_2 0))))) = true:=decide_eq_true c13
            by_cases c14:(wrap64 (1 + (wrap64 (bt x5_2 0))))≤(x5_2.size:Int)
            ·rw [if_pos c14] at H
             have c14b0:=eq_true c14
             have c14b1:decide ((wrap64 (1 + (wrap64 (bt x5_2 0))))≤(x5_2.size:Int)) = true:=decide_eq_true c14
             by_cases c15:x4_2.length < 8796093022208
             ·rw [if_pos c15] at H
              have LMc15:=Aside0.mk c15
              clear c15
              obtain ⟨y102,hy102⟩:∃ y_:List ByteArray,y_ = (x4_2 ++ [x5_2.extract 1 ((wrap64 (1 + (wrap64 (bt x5_2 0)))):Int).toNat]):=⟨_,rfl⟩
              replace H:(if 0≤(wrap64 (1 + (wrap64 (bt x5_2 0)))) then (name_Labels.l0 k2 y102 (x5_2.extract ((wrap64 (1 + (wrap64 (bt x5_2 0)))):Int).toNat x5_2.size)) else (none)) = some (r1,r2):=by first|(rw [hy102];with_reducible exact H)|(have H2_:=(Option.bind_some _ _).symm.trans H;rw [hy102];with_reducible exact H2_)|(have H2_:=(Option.bind_some _ _).symm.trans H;with_reducible exact H2_)|with_reducible exact H|(rw [hy102];exact H)|exact H
              have Ny102:=Aside0.mk hy102
              clear hy102
              obtain ⟨ji16,hji16⟩:∃ j_:Int,(wrap64 (1 + (wrap64 (bt x5_2 0)))) = j_:=⟨_,rfl⟩
              replace H:(if 0≤(ji16) then (name_Labels.l0 k2 y102 (x5_2.extract ((ji16):Int).toNat x5_2.size)) else (none)) = some (r1,r2):=by first|(rw [hji16] at H;exact H)|(simp only [hji16] at H ⊢;exact H)
              (try rw [hji16] at c13b0)
              (try rw [hji16] at c13b1)
              (try rw [hji16] at c13)
              (try rw [hji16] at c14b0)
              (try rw [hji16] at c14b1)
              (try rw [hji16] at c14)
              (try rw [hji16] at Ny102)
              have hji16w:(IntKind.i64.wrap (1 + (wrap64 (bt x5_2 0)))) = ji16:=(i64_w _).trans hji16
              by_cases c17:0≤(ji16)
              ·rw [if_pos c17] at H
               have c17b0:=eq_true c17
               have c17b1:decide (0≤(ji16)) = true:=decide_eq_true c17
               clear c17
               have c18b0:=eq_true (of_decide_eq_true (by first|(with_reducible assumption)|assumption):(ji16)≤(x5_2.size:Int))
               have H':=Aside0.mk H
               clear H
               have p9:0≤(0:Int):=(by omega)
               have q9:0 < x5_2.size:=(by have:(0:Int) < (x5_2.size:Int):=of_decide_eq_true (by first|(with_reducible assumption)|assumption);omega)
               have hx9:∀ h:0 < x5_2.size,((x5_2[0]'h).toNat:Int) = bt x5_2 0:=bt_at x5_2 0
               clear p9
               have qi9:(0 < (x5_2.size:Int)) = True:=eq_true (of_decide_eq_true (by first|(with_reducible assumption)|assumption))
               replace q9:=eq_true q9
               go_wp2_with (first|((with_reducible refine gate_builtin (b:=.append) (xs:=#[.tmp 35,.tmp 40]) rfl ?_);(try (refine gate_guard (by rfl) ?_;dsimp only));at_builtin;refine Kd.R_append Kd.string (w0:=w) w.heap.size rfl (.tmp 35) (.tmp 40) 81 9 (.string ⟨#[]⟩) 16 rfl Tryd.underlying81 info9 rfl (by decide) (by omega) u4 x4_2 (x5_2.extract 1 ((ji16):Int).toNat) [.string (x5_2.extract 1 ((ji16):Int).toNat)] (fun _=>True) (fun _=>False) rfl rfl ?aP (fun _ hk=>hk.elim) ?aF ?aO ?aB ?aS ?aL ?_;(case aP=>exact rfl);(case aB=>exact (by repeat (first|(with_reducible first|exact HB.out|apply below_alloc|apply pw_below_drewN|apply below_drew1)|exact HB.out)));(case aF=>exact (fun _ _=>trivial));(case aO=>exact (by (with_reducible repeat (first|apply Kd.R_alloc|apply Kd.R_drewN|apply Kd.R_drew));exact HO_4.out));(case aS=>exact (below_size (by repeat (first|(with_reducible first|exact HB.out|apply below_alloc|apply pw_below_drewN|apply below_drew1)|exact HB.out))));(case aL=>have:=LMc15.out;omega);intro v103 w19 ho hb hg hat;rw [← Ny102.out] at ho;have n0_:=Aside0.mk (hb);have n1_:=Aside0.mk (ho);clear HB;clear HO_4;have HB:=n0_;have HO104:=n1_;clear n0_ n1_;clear ho hb hg hat))
               go_roundg k2
               case measure=>have:=HJ1.out;have:=HK2.out;omega
               case rel=>exact ⟨(y102),(x5_2.extract ((ji16):Int).toNat x5_2.size),(by first|rfl|(simp;done)|(simp only [← hji16] <;> (first|rfl|simp))|(simp [*];done)),H',⟨by have:=HJ1.out;have:=HK2.out;omega⟩,⟨by (with_reducible repeat (first|apply Kd.R_alloc|apply Kd.R_drewN|apply Kd.R_drew));exact HO104.out⟩,⟨by repeat (first|(with_reducible first|exact HB.out|apply below_alloc|apply pw_below_drewN|apply below_drew1)|exact HB.out)⟩⟩
              ·rw [if_neg c17] at H
               exact absurd H (by simp)
             ·rw [if_neg c15] at H
              exact absurd H (by simp)
            ·rw [if_neg c14] at H
             exact absurd H (by simp)
           ·rw [if_neg c13] at H
            exact absurd H (by simp)
       ·rw [if_neg c8] at H
        exact absurd H (by simp)
      ·rw [if_neg c7] at H
       have c7b0:decide (0 < (x5_2.size:Int)) = false:=decide_eq_false c7
       have c7b1:decide (0 < x5_2.size) = false:=decide_eq_false (by omega)
       clear c7
       simp only [Option.some.injEq,Prod.mk.injEq] at H
       obtain ⟨rfl,rfl⟩:=H
       go_wp2
       go_ret2
       exact ⟨_,by first|rfl|(simp [errW_none,errW_some] <;> rfl)|(simp [*,errW_none,errW_some] <;> rfl),by (with_reducible repeat (first|apply Kd.R_alloc|apply Kd.R_drewN|apply Kd.R_drew));exact HO_4.out,by repeat (first|(with_reducible first|exact HB.out|apply below_alloc|apply pw_below_drewN|apply below_drew1)|exact HB.out)⟩
def name_May.f (k:Nat) (a0:ByteArray):Option (Bool):=(name_Labels.f k a0).bind fun bt105=>(some bt105.2)
theorem name_May.mono:∀ a0 k,LeO (name_May.f k a0) (name_May.f (k + 1) a0):=by
 intro a0 k
 unfold name_May.f
 repeat' first
   | (with_reducible exact name_Labels.mono _ _)
   | (with_reducible exact LeO.refl _)
   | (with_reducible exact LeO.none _)
   | (with_reducible refine LeO.ite ?_ ?_)
   | (with_reducible refine LeO.bind ?_ (fun _=>?_))
   | exact name_Labels.mono _ _
   | exact LeO.none _
   | refine LeO.ite ?_ ?_
   | refine LeO.bind ?_ (fun _=>?_)
set_option maxHeartbeats 8000000 in
set_option maxRecDepth 100000 in
theorem name_May.calls (k:Nat) (a0:ByteArray) (r:Bool) (w:World) (h:name_May.f k a0 = some r) :
  Calls Tryd.prog 33 #[.string a0] w fun e w'=>e = .returned (.bool r)∧Below w.heap.size w w':=by
 have HB:=Aside0.mk (Below.refl w.heap.size w)
 have H:((name_Labels.f k a0).bind fun bt105=>(some bt105.2)) = some r:=h
 clear h
 replace H:=Option.bind_eq_some_iff.mp H
 obtain ⟨⟨t105,t106⟩,A20,H⟩:=H
 replace H:(some t106) = some r:=H
 have A2:=Aside0.mk A20
 clear A20
 obtain rfl:=Option.some.inj H
 go_enter Tryd.func33,Tryd.ntmps33
 go_wp2_with (first|((with_reducible refine gate_callee (f:=47) rfl ?_);refine goesL_ (some 7) rfl rfl Tryd.func47 (by kernel_rfl) rfl #[.string a0] rfl (by (try simp only [List.map_toArray,List.map_cons,List.map_nil]) <;> first|rfl|(simp only [List.length_drop,List.length_take];rfl)) ?_;(with_reducible refine (name_Labels.calls k a0 t105 t106 _ A2.out).mono ?_);rintro e w3 ⟨v107,rfl,ho0,hb⟩;refine ⟨_,rfl,?_⟩;have n0_:=Aside0.mk (Kd.R_lower ho0 (below_size (by repeat (first|(with_reducible first|exact HB.out|apply below_alloc|apply pw_below_drewN|apply below_drew1)|exact HB.out))));have n1_:=Aside0.mk (below_step (by repeat (first|(with_reducible first|exact HB.out|apply below_alloc|apply pw_below_drewN|apply below_drew1)|exact HB.out)) hb);clear HB;have HO108:=n0_;have HB:=n1_;clear n0_ n1_;(try clear hb);(try clear hb2);(try clear hk);(try clear hi);(try clear ho0)))
 go_ret
 exact ⟨by first|rfl|(simp [errW_none,errW_some] <;> rfl)|(simp [*,errW_none,errW_some] <;> rfl),by repeat (first|(with_reducible first|exact HB.out|apply below_alloc|apply pw_below_drewN|apply below_drew1)|exact HB.out)⟩
def num_Put32.l0:Nat→List Int→List Int→Int→Int→Option (List Int)
 | 0,_,_,_,_=>none
 | k + 1,x5,x10,x11,x12=>if x12 < x11 then (if 0≤x12 then (if x12 < (x10.length:Int) then ((some (([((rd x10 x12) / 16777216) % 256,((rd x10 x12) / 65536) % 256,((rd x10 x12) / 256) % 256,(rd x10 x12) % 256]:List Int):List Int)).bind fun y113=>(if x5.length + y113.length < 140737488355328 then (num_Put32.l0 k (x5 ++ y113) x10 x11 (wrap64 (x12 + 1))) else (none))) else (none)) else (none)) else (some x5)
def num_Put32.f (k:Nat) (l0:List Int) (l1:List Int):Option (List Int):=if ([]:List Int).length + l0.length < 140737488355328 then (num_Put32.l0 k (([]:List Int) ++ l0) l1 (l1.length:Int) 0) else (none)
theorem num_Put32.mono_l:∀ k,(∀ y0 y1 y2 y3,LeO (num_Put32.l0 k y0 y1 y2 y3) (num_Put32.l0 (k + 1) y0 y1 y2 y3))
 | 0=>fun _ _ _ _ r h=>by simp [num_Put32.l0] at h
 | k + 1=>by
  have ih0:=num_Put32.mono_l k
  ·intro y0 y1 y2 y3
   unfold num_Put32.l0
   repeat' first
   | (with_reducible exact ih0 _ _ _ _)
   | (with_reducible exact LeO.refl _)
   | (with_reducible exact LeO.none _)
   | (with_reducible refine LeO.ite ?_ ?_)
   | (with_reducible refine LeO.bind ?_ (fun _=>?_))
   | exact ih0 _ _ _ _
   | exact LeO.none _
   | refine LeO.ite ?_ ?_
   | refine LeO.bind ?_ (fun _=>?_)
theorem num_Put32.mono:∀ a0 a1 k,LeO (num_Put32.f k a0 a1) (num_Put32.f (k + 1) a0 a1):=by
 intro a0 a1 k
 have ih0:=num_Put32.mono_l k
 unfold num_Put32.f
 repeat' first
   | (with_reducible exact ih0 _ _ _ _)
   | (with_reducible exact LeO.refl _)
   | (with_reducible exact LeO.none _)
   | (with_reducible refine LeO.ite ?_ ?_)
   | (with_reducible refine LeO.bind ?_ (fun _=>?_))
   | exact ih0 _ _ _ _
   | exact LeO.none _
   | refine LeO.ite ?_ ?_
   | refine LeO.bind ?_ (fun _=>?_)
set_option maxHeartbeats 8000000 in
set_option maxRecDepth 100000 in
theorem num_Put32.calls (k:Nat) (A0:Option Addr) (c0:Nat) (l0:List Int) (A1:Option Addr) (c1:Nat) (l1:List Int) (r:List Int) (w:World) (hr0:Kd.C (Kd.int .u8) w A0 l0.length l0) (hc0:l0.length≤c0) (hr1:Kd.C (Kd.int .u32) w A1 l1.length l1) (hc1:l1.length≤c1) (h:num_Put32.f k l0 l1 = some r) :
  Calls Tryd.prog 34 #[.slice A0 l0.length c0,.slice A1 l1.length c1] w fun e w'=>∃ v0_:Value,e = .returned (v0_)∧Kd.R (Kd.int .u8) 5 w' w.heap.size (fun _=>True) v0_ r∧Below w.heap.size w w':=by
 have HR0:=Aside0.mk hr0
 have HC0:=Aside0.mk hc0
 clear hr0 hc0
 have HR1:=Aside0.mk hr1
 have HC1:=Aside0.mk hc1
 clear hr1 hc1
 have HB:=Aside0.mk (Below.refl w.heap.size w)
 have H:(if ([]:List Int).length + l0.length < 140737488355328 then (num_Put32.l0 k (([]:List Int) ++ l0) l1 (l1.length:Int) 0) else (none)) = some r:=h
 clear h
 by_cases c3:([]:List Int).length + l0.length < 140737488355328
 ·rw [if_pos c3] at H
  have LMc3:=Aside0.mk c3
  clear c3
  obtain ⟨y109,hy109⟩:∃ y_:List Int,y_ = (([]:List Int) ++ l0):=⟨_,rfl⟩
  replace H:(num_Put32.l0 k y109 l1 (l1.length:Int) 0) = some r:=by first|(rw [hy109];with_reducible exact H)|(have H2_:=(Option.bind_some _ _).symm.trans H;rw [hy109];with_reducible exact H2_)|(have H2_:=(Option.bind_some _ _).symm.trans H;with_reducible exact H2_)|with_reducible exact H|(rw [hy109];exact H)|exact H
  have Ny109:=Aside0.mk hy109
  clear hy109
  have H':=Aside0.mk H
  clear H
  go_enter Tryd.func34,Tryd.ntmps34
  go_wp2_with (first|((with_reducible refine gate_builtin (b:=.append) (xs:=#[.const (.slice none 0 0),.tmp 8]) rfl ?_);at_builtin;refine Kd.R_append_rows (Kd.int .u8) (w0:=w) w.heap.size rfl (.const (.slice none 0 0)) (.tmp 8) 43 5 (.int .u8 0) 1 rfl Tryd.underlying43 info5 rfl (by decide) (by omega) (.slice none 0 0) ([]:List Int) l0 _ _ _ (fun _=>True) (fun _=>False) rfl rfl ?aO ?aR (fun _ _ h=>h) (fun _ h=>h.elim) ?aF ?aB ?aS ?aL ?_;(case aR=>repeat (first|exact HR0.out|(with_reducible refine Kd.C_alloc ?_ _)|(with_reducible refine Kd.C_drewN ?_ _)|(with_reducible refine Kd.C_drew ?_)));(case aB=>exact (by repeat (first|(with_reducible first|exact HB.out|apply below_alloc|apply pw_below_drewN|apply below_drew1)|exact HB.out)));(case aF=>exact (fun _ _=>trivial));(case aO=>exact ((Kd.R_nil _ _ _ _ (fun _=>True))));(case aS=>exact (below_size (by repeat (first|(with_reducible first|exact HB.out|apply below_alloc|apply pw_below_drewN|apply below_drew1)|exact HB.out))));(case aL=>have:=LMc3.out;omega);intro v110 w4 ho hb hg hat;rw [← Ny109.out] at ho;have n0_:=Aside0.mk (hb);have n1_:=Aside0.mk (ho);clear HB;have HB:=n0_;have HO111:=n1_;clear n0_ n1_;clear ho hb hg hat))
  go_loopg [5,12] k (fun kq v5 v12 w'=>∃ (x5_1:List Int) (x12_1:Int),v12 = .int .i64 x12_1∧Aside0 (num_Put32.l0 kq x5_1 l1 (l1.length:Int) x12_1 = some r)∧Aside0 (kq≤k)∧Aside0 (Kd.R (Kd.int .u8) 5 w' w.heap.size (fun _=>True) v5 x5_1)∧Aside0 (Below w.heap.size w w'))
  case atStart=>exact ⟨(y109),(0),(by first|rfl|(simp;done)|(simp [*];done)),H',⟨Nat.le_refl _⟩,⟨by (with_reducible repeat (first|apply Kd.R_alloc|apply Kd.R_drewN|apply Kd.R_drew));exact HO111.out⟩,⟨by repeat (first|(with_reducible first|exact HB.out|apply below_alloc|apply pw_below_drewN|apply below_drew1)|exact HB.out)⟩⟩
  case round =>
   clear H'
   try clear c1
   try clear p2
   try clear c3
   obtain ⟨x5_1,x12_1,rfl,HA,HK1,HO_5,HB⟩:=hrel
   cases gk with
   | zero=>exact absurd HA.out (by simp [num_Put32.l0])
   | succ k1 =>
    have H:=HA.out
    clear HA
    simp only [num_Put32.l0] at H
    by_cases c5:x12_1 < (l1.length:Int)
    ·rw [if_pos c5] at H
     have c5b0:decide (x12_1 < (l1.length:Int)) = true:=decide_eq_true c5
     clear c5
     by_cases c6:0≤x12_1
     ·rw [if_pos c6] at H
      have c6b0:decide (0≤x12_1) = true:=decide_eq_true c6
      clear c6
      by_cases c7:x12_1 < (l1.length:Int)
      ·rw [if_pos c7] at H
       have c7b0:decide (x12_1 < (l1.length:Int)) = true:=decide_eq_true c7
       clear c7
       obtain ⟨y113,hy113⟩:∃ y_:List Int,y_ = (([((rd l1 x12_1) / 16777216) % 256,((rd l1 x12_1) / 65536) % 256,((rd l1 x12_1) / 256) % 256,(rd l1 x12_1) % 256]:List Int)):=⟨_,rfl⟩
       replace H:(if x5_1.length + y113.length < 140737488355328 then (num_Put32.l0 k1 (x5_1 ++ y113) l1 (l1.length:Int) (wrap64 (x12_1 + 1))) else (none)) = some r:=by first|(rw [hy113];with_reducible exact H)|(have H2_:=(Option.bind_some _ _).symm.trans H;rw [hy113];with_reducible exact H2_)|(have H2_:=(Option.bind_some _ _).symm.trans H;with_reducible exact H2_)|with_reducible exact H|(rw [hy113];exact H)|exact H
       have Ny113:=Aside0.mk hy113
       clear hy113
       by_cases c8:x5_1.length + y113.length < 140737488355328
       ·rw [if_pos c8] at H
        have LMc8:=Aside0.mk c8
        clear c8
        obtain ⟨y116,hy116⟩:∃ y_:List Int,y_ = (x5_1 ++ y113):=⟨_,rfl⟩
        replace H:(num_Put32.l0 k1 y116 l1 (l1.length:Int) (wrap64 (x12_1 + 1))) = some r:=by first|(rw [hy116];with_reducible exact H)|(have H2_:=(Option.bind_some _ _).symm.trans H;rw [hy116];with_reducible exact H2_)|(have H2_:=(Option.bind_some _ _).symm.trans H;with_reducible exact H2_)|with_reducible exact H|(rw [hy116];exact H)|exact H
        have Ny116:=Aside0.mk hy116
        clear hy116
        have H':=Aside0.mk H
        clear H
        have p112:0≤(x12_1:Int):=of_decide_eq_true (by first|(with_reducible assumption)|assumption)
        have q112:x12_1 < (l1.length:Int):=of_decide_eq_true (by first|(with_reducible assumption)|assumption)
        obtain ⟨ad112,e112,hx112_0⟩:=Kd.at_int HR1.out x12_1 p112 q112
        cases e112
        replace hx112_0:=(HB.out.cell (World.block_lt_of_cell? w _ hx112_0)).trans hx112_0
        replace p112:=eq_true p112
        replace q112:=eq_true q112
        go_wp2_with (first|((with_reducible refine gate_dst (N:=28) rfl ?_);refine Kd.R_lit (Kd.int .u8) _ 5 ?hg (N:=28) ?hd (xs:=([((rd l1 x12_1) / 16777216) % 256,((rd l1 x12_1) / 65536) % 256,((rd l1 x12_1) / 256) % 256,(rd l1 x12_1) % 256]:List Int)) (inner:=[.int .u8 (((rd l1 x12_1) / 16777216) % 256),.int .u8 (((rd l1 x12_1) / 65536) % 256),.int .u8 (((rd l1 x12_1) / 256) % 256),.int .u8 ((rd l1 x12_1) % 256)]) (ok:=fun _=>True) (okp:=fun _=>True) ?hr ?hp (fun _ hk=>hk) trivial (Below.refl _ _) (Nat.le_refl _) (by simp) ?_;(case hd=>rfl);(case hg=>rfl);(case hr=>first|(go_simp;done)|(go_simp;rfl));(case hp=>exact (Reps.one (show Kd.M (Kd.int .u8) _ _ _ (((rd l1 x12_1) / 16777216) % 256) [.int .u8 (((rd l1 x12_1) / 16777216) % 256)] from rfl) (Reps.one (show Kd.M (Kd.int .u8) _ _ _ (((rd l1 x12_1) / 65536) % 256) [.int .u8 (((rd l1 x12_1) / 65536) % 256)] from rfl) (Reps.one (show Kd.M (Kd.int .u8) _ _ _ (((rd l1 x12_1) / 256) % 256) [.int .u8 (((rd l1 x12_1) / 256) % 256)] from rfl) (Reps.one (show Kd.M (Kd.int .u8) _ _ _ ((rd l1 x12_1) % 256) [.int .u8 ((rd l1 x12_1) % 256)] from rfl) (Reps.none _ _))))));intro v114 w9 ho10 hb hg_ hnew_;clear hg_ hnew_;(first|rw [← Ny113.out] at ho10|(simp only [Int.reduceToNat] at ho10;rw [← Ny113.out] at ho10));have n0_:=Aside0.mk (Kd.R_elder' (by (with_reducible repeat (first|apply Kd.R_alloc|apply Kd.R_drewN|apply Kd.R_drew));exact HO_5.out) (Kd.R_base ho10) hb);have n1_:=Aside0.mk (Kd.R_lower (Kd.R_new' ho10 (Kd.R_lt (by (with_reducible repeat (first|apply Kd.R_alloc|apply Kd.R_drewN|apply Kd.R_drew));exact HO_5.out))) (below_size (by repeat (first|(with_reducible first|exact HB.out|apply below_alloc|apply pw_below_drewN|apply below_drew1)|exact HB.out))));have n2_:=Aside0.mk (below_step (by repeat (first|(with_reducible first|exact HB.out|apply below_alloc|apply pw_below_drewN|apply below_drew1)|exact HB.out)) hb);clear HO_5;clear HB;have HO_5:=n0_;have HO115:=n1_;have HB:=n2_;clear n0_ n1_ n2_;clear hb ho10;obtain ⟨Ao12,co12,eo12⟩:=Kd.R_slice HO115.out;subst eo12)|((with_reducible refine gate_builtin (b:=.append) (xs:=#[.tmp 16,.tmp 28]) rfl ?_);at_builtin;refine Kd.R_append_rows (Kd.int .u8) (w0:=w) w.heap.size rfl (.tmp 16) (.tmp 28) 43 5 (.int .u8 0) 1 rfl Tryd.underlying43 info5 rfl (by decide) (by omega) u5 x5_1 y113 _ _ _ (fun k_=>some k_≠(.slice Ao12 y113.length co12:Value).ownBlock) (fun _=>False) rfl rfl ?aO ?aR (fun _ _ h=>h) (fun _ h=>h.elim) ?aF ?aB ?aS ?aL ?_;(case aR=>repeat (first|exact (Kd.R_reads' HO115.out).2.2|(with_reducible refine Kd.C_alloc ?_ _)|(with_reducible refine Kd.C_drewN ?_ _)|(with_reducible refine Kd.C_drew ?_)));(case aB=>exact (by repeat (first|(with_reducible first|exact HB.out|apply below_alloc|apply pw_below_drewN|apply below_drew1)|exact HB.out)));(case aF=>exact (fun k_ hk=>Kd.fresh' (Kd.R_lt (by (with_reducible repeat (first|apply Kd.R_alloc|apply Kd.R_drewN|apply Kd.R_drew));exact HO115.out)) k_ hk));(case aO=>exact (by (with_reducible repeat (first|apply Kd.R_alloc|apply Kd.R_drewN|apply Kd.R_drew));exact Kd.R_mono HO_5.out (fun _ hk=>hk.2)));(case aS=>exact (below_size (by repeat (first|(with_reducible first|exact HB.out|apply below_alloc|apply pw_below_drewN|apply below_drew1)|exact HB.out))));(case aL=>have:=LMc8.out;omega);intro v117 w11 ho hb hg hat;rw [← Ny116.out] at ho;have n0_:=Aside0.mk (Kd.R_after (ok:=(fun _=>True)) (by (with_reducible repeat (first|apply Kd.R_alloc|apply Kd.R_drewN|apply Kd.R_drew));exact HO115.out) hg hat);have n1_:=Aside0.mk (hb);have n2_:=Aside0.mk (ho);clear HO115;clear HB;clear HO_5;have HO115:=n0_;have HB:=n1_;have HO118:=n2_;clear n0_ n1_ n2_;clear ho hb hg hat))
        go_roundg k1
        case measure=>have:=HK1.out;omega
        case rel=>exact ⟨(y116),(wrap64 (x12_1 + 1)),(by first|rfl|(simp;done)|(simp [*];done)),H',⟨by have:=HK1.out;omega⟩,⟨by (with_reducible repeat (first|apply Kd.R_alloc|apply Kd.R_drewN|apply Kd.R_drew));exact Kd.R_mono HO118.out (fun _ hk=>trivial)⟩,⟨by repeat (first|(with_reducible first|exact HB.out|apply below_alloc|apply pw_below_drewN|apply below_drew1)|exact HB.out)⟩⟩
       ·rw [if_neg c8] at H
        exact absurd H (by simp)
      ·rw [if_neg c7] at H
       exact absurd H (by simp)
     ·rw [if_neg c6] at H
      exact absurd H (by simp)
    ·rw [if_neg c5] at H
     have c5b0:decide (x12_1 < (l1.length:Int)) = false:=decide_eq_false c5
     clear c5
     obtain rfl:=Option.some.inj H
     go_wp2
     go_ret
     exact ⟨_,by first|rfl|(simp [errW_none,errW_some] <;> rfl)|(simp [*,errW_none,errW_some] <;> rfl),by (with_reducible repeat (first|apply Kd.R_alloc|apply Kd.R_drewN|apply Kd.R_drew));exact HO_5.out,by repeat (first|(with_reducible first|exact HB.out|apply below_alloc|apply pw_below_drewN|apply below_drew1)|exact HB.out)⟩
 ·rw [if_neg c3] at H
  exact absurd H (by simp)
def point_Plain.f (a0:ByteArray):Option (ByteArray):=if a0.size + 1≤9223372036854775807 then (some (a0 ++ (⟨#[0]⟩:ByteArray))) else (none)
set_option maxHeartbeats 8000000 in
set_option maxRecDepth 100000 in
theorem point_Plain.calls (a0:ByteArray) (r:ByteArray) (w:World) (h:point_Plain.f a0 = some r) :
  Calls Tryd.prog 35 #[.string a0] w fun e w'=>e = .returned (.string r)∧Drawn0 w w':=by
 have H:(if a0.size + 1≤9223372036854775807 then (some (a0 ++ (⟨#[0]⟩:ByteArray))) else (none)) = some r:=h
 clear h
 by_cases c2:a0.size + 1≤9223372036854775807
 ·rw [if_pos c2] at H
  have c2b0:=eq_true c2
  have c2b1:decide (a0.size + 1≤9223372036854775807) = true:=decide_eq_true c2
  try have c2b2:(9223372036854775807 < a0.size + 1) = False:=eq_false (Nat.not_lt.2 c2)
  obtain rfl:=Option.some.inj H
  go_enter Tryd.func35,Tryd.ntmps35
  go_wp2
  go_ret
  exact ⟨by first|rfl|(simp;done)|(simp [*];done),by repeat (first|exact Drawn0.refl _|apply Drawn0.step)⟩
 ·rw [if_neg c2] at H
  exact absurd H (by simp)
def soa_Data.j0:Nat→Bool→ByteArray→ByteArray→Int→Int→Int→Int→Int→Option (ByteArray × Bool)
 | 0,_,_,_,_,_,_,_,_=>none
 | k + 1,x14,x120000,x120001,x120002,x120003,x120004,x120005,x120006=>if x14 = true then (some ((⟨#[]⟩:ByteArray),false)) else ((num_Put32.f k ([]:List Int) (([x120002,x120003,x120004,x120005,x120006]:List Int))).bind fun t125=>((point_Plain.f x120000).bind fun t128=>((point_Plain.f x120001).bind fun t129=>(if t128.size + t129.size≤9223372036854775807 then (if (t128 ++ t129).size + (strOfNums t125).size≤9223372036854775807 then (some ((t128 ++ t129) ++ (strOfNums t125),true)) else (none)) else (none)))))
def soa_Data.f (k:Nat) (a0_0:ByteArray) (a0_1:ByteArray) (a0_2:Int) (a0_3:Int) (a0_4:Int) (a0_5:Int) (a0_6:Int):Option (ByteArray × Bool):=(name_May.f k a0_0).bind fun t120=>(if t120 = true then ((name_May.f k a0_1).bind fun t121=>(soa_Data.j0 k (!t121) a0_0 a0_1 a0_2 a0_3 a0_4 a0_5 a0_6)) else (soa_Data.j0 k true a0_0 a0_1 a0_2 a0_3 a0_4 a0_5 a0_6))
theorem soa_Data.mono_l:∀ k,(∀ y0 y1 y2 y3 y4 y5 y6 y7,LeO (soa_Data.j0 k y0 y1 y2 y3 y4 y5 y6 y7) (soa_Data.j0 (k + 1) y0 y1 y2 y3 y4 y5 y6 y7))
 | 0=>fun _ _ _ _ _ _ _ _ r h=>by simp [soa_Data.j0] at h
 | k + 1=>by
  have ih0:=soa_Data.mono_l k
  ·intro y0 y1 y2 y3 y4 y5 y6 y7
   unfold soa_Data.j0
   repeat' first
   | (with_reducible exact ih0 _ _ _ _ _ _ _ _)
   | (with_reducible exact name_May.mono _ _)
   | (with_reducible exact num_Put32.mono _ _ _)
   | (with_reducible exact LeO.refl _)
   | (with_reducible exact LeO.none _)
   | (with_reducible refine LeO.ite ?_ ?_)
   | (with_reducible refine LeO.bind ?_ (fun _=>?_))
   | exact ih0 _ _ _ _ _ _ _ _
   | exact name_May.mono _ _
   | exact num_Put32.mono _ _ _
   | exact LeO.none _
   | refine LeO.ite ?_ ?_
   | refine LeO.bind ?_ (fun _=>?_)
theorem soa_Data.mono:∀ a0 a1 a2 a3 a4 a5 a6 k,LeO (soa_Data.f k a0 a1 a2 a3 a4 a5 a6) (soa_Data.f (k + 1) a0 a1 a2 a3 a4 a5 a6):=by
 intro a0 a1 a2 a3 a4 a5 a6 k
 have ih0:=soa_Data.mono_l k
 unfold soa_Data.f
 repeat' first
   | (with_reducible exact ih0 _ _ _ _ _ _ _ _)
   | (with_reducible exact name_May.mono _ _)
   | (with_reducible exact num_Put32.mono _ _ _)
   | (with_reducible exact LeO.refl _)
   | (with_reducible exact LeO.none _)
   | (with_reducible refine LeO.ite ?_ ?_)
   | (with_reducible refine LeO.bind ?_ (fun _=>?_))
   | exact ih0 _ _ _ _ _ _ _ _
   | exact name_May.mono _ _
   | exact num_Put32.mono _ _ _
   | exact LeO.none _
   | refine LeO.ite ?_ ?_
   | refine LeO.bind ?_ (fun _=>?_)
set_option maxHeartbeats 8000000 in
set_option maxRecDepth 100000 in
theorem soa_Data.calls (k:Nat) (a0_0:ByteArray) (a0_1:ByteArray) (a0_2:Int) (a0_3:Int) (a0_4:Int) (a0_5:Int) (a0_6:Int) (r1:ByteArray) (r2:Bool) (w:World) (h:soa_Data.f k a0_0 a0_1 a0_2 a0_3 a0_4 a0_5 a0_6 = some (r1,r2)) :
  Calls Tryd.prog 20 #[.agg #[.string a0_0,.string a0_1,.int .u32 a0_2,.int .u32 a0_3,.int .u32 a0_4,.int .u32 a0_5,.int .u32 a0_6]] w fun e w'=>e = .returned (.tuple #[.string r1,.bool r2])∧Below w.heap.size w w':=by
 have hu63:=Tryd.underlying63
 have HB:=Aside0.mk (Below.refl w.heap.size w)
 have H:((name_May.f k a0_0).bind fun t120=>(if t120 = true then ((name_May.f k a0_1).bind fun t121=>(soa_Data.j0 k (!t121) a0_0 a0_1 a0_2 a0_3 a0_4 a0_5 a0_6)) else (soa_Data.j0 k true a0_0 a0_1 a0_2 a0_3 a0_4 a0_5 a0_6))) = some (r1,r2):=h
 clear h
 have HC2:=Aside0.mk H
 clear H
 go_enter Tryd.func20,Tryd.ntmps20
 go_upto_region 1 with (first|((with_reducible refine gate_dst (N:=1) rfl ?_);refine box_event ?hg (N:=1) ?hd (cs:=#[.string a0_0,.string a0_1,.int .u32 a0_2,.int .u32 a0_3,.int .u32 a0_4,.int .u32 a0_5,.int .u32 a0_6]) (t:=63) ?hr ?_;(case hd=>rfl);(case hg=>rfl);(case hr=>first|(go_simp;done)|(go_simp;rfl));intro gb119 hg w3 hbox hb;have n0_:=Aside0.mk (below_step (by repeat (first|(with_reducible first|exact HB.out|apply below_alloc|apply pw_below_drewN|apply below_drew1)|exact HB.out)) hb);have n1_:=Aside0.mk (hbox);have n2_:=Aside0.mk ((by rw [hg];exact (below_size (by repeat (first|(with_reducible first|exact HB.out|apply below_alloc|apply pw_below_drewN|apply below_drew1)|exact HB.out))):w.heap.size≤gb119));have n3_:=Aside0.mk ((by rw [hg];exact (below_size (by repeat (first|(with_reducible first|exact HB.out|apply below_alloc|apply pw_below_drewN|apply below_drew1)|exact HB.out))):w.heap.size≤gb119));clear HB;have HB:=n0_;have BK119:=n1_;have GW119:=n2_;have GE119:=n3_;clear n0_ n1_ n2_ n3_;clear hb hbox hg))
 repeat (go_quiet (fail);go_upto_region 1 with (first|((with_reducible refine gate_dst (N:=1) rfl ?_);refine box_event ?hg (N:=1) ?hd (cs:=#[.string a0_0,.string a0_1,.int .u32 a0_2,.int .u32 a0_3,.int .u32 a0_4,.int .u32 a0_5,.int .u32 a0_6]) (t:=63) ?hr ?_;(case hd=>rfl);(case hg=>rfl);(case hr=>first|(go_simp;done)|(go_simp;rfl));intro gb119 hg w3 hbox hb;have n0_:=Aside0.mk (below_step (by repeat (first|(with_reducible first|exact HB.out|apply below_alloc|apply pw_below_drewN|apply below_drew1)|exact HB.out)) hb);have n1_:=Aside0.mk (hbox);have n2_:=Aside0.mk ((by rw [hg];exact (below_size (by repeat (first|(with_reducible first|exact HB.out|apply below_alloc|apply pw_below_drewN|apply below_drew1)|exact HB.out))):w.heap.size≤gb119));have n3_:=Aside0.mk ((by rw [hg];exact (below_size (by repeat (first|(with_reducible first|exact HB.out|apply below_alloc|apply pw_below_drewN|apply below_drew1)|exact HB.out))):w.heap.size≤gb119));clear HB;have HB:=n0_;have BK119:=n1_;have GW119:=n2_;have GE119:=n3_;clear n0_ n1_ n2_ n3_;clear hb hbox hg)))
 (try simp only [Act.put,List.setIfInBounds_toArray,List.set_cons_zero,List.set_cons_succ])
 go_cut [14] (fun v14 wc=>∃ (kq:Nat) (x14_1:Bool),v14 = .bool x14_1∧Aside0 (soa_Data.j0 kq x14_1 a0_0 a0_1 a0_2 a0_3 a0_4 a0_5 a0_6 = some (r1,r2))∧Aside0 (kq≤k)∧Aside0 (wc.heap[gb119]? = some (.cells #[.string a0_0,.string a0_1,.int .u32 a0_2,.int .u32 a0_3,.int .u32 a0_4,.int .u32 a0_5,.int .u32 a0_6] 63 (0,0)))∧Aside0 (Below w.heap.size w wc))
 case first =>
  have H:=HC2.out
  clear HC2
  replace H:=Option.bind_eq_some_iff.mp H
  obtain ⟨t120,A40,H⟩:=H
  replace H:(if t120 = true then ((name_May.f k a0_1).bind fun t121=>(soa_Data.j0 k (!t121) a0_0 a0_1 a0_2 a0_3 a0_4 a0_5 a0_6)) else (soa_Data.j0 k true a0_0 a0_1 a0_2 a0_3 a0_4 a0_5 a0_6)) = some (r1,r2):=H
  have A4:=Aside0.mk A40
  clear A40
  by_cases c5:t120 = true
  ·subst c5
   have H1:((name_May.f k a0_1).bind fun t121=>(soa_Data.j0 k (!t121) a0_0 a0_1 a0_2 a0_3 a0_4 a0_5 a0_6)) = some (r1,r2):=by rw [if_pos rfl] at H;exact H
   clear H
   have H:=H1
   clear H1
   replace H:=Option.bind_eq_some_iff.mp H
   obtain ⟨t121,A60,H⟩:=H
   replace H:(soa_Data.j0 k (!t121) a0_0 a0_1 a0_2 a0_3 a0_4 a0_5 a0_6) = some (r1,r2):=H
   have A6:=Aside0.mk A60
   clear A60
   have H':=Aside0.mk H
   clear H
   have hcz7_0:w3.cell? ⟨gb119,0,none⟩ = some (.string a0_0):=(blk_cell BK119.out 0).trans rfl
   have hcz7_1:w3.cell? ⟨gb119,1,none⟩ = some (.string a0_1):=(blk_cell BK119.out 1).trans rfl
   have hcz7_2:w3.cell? ⟨gb119,2,none⟩ = some (.int .u32 a0_2):=(blk_cell BK119.out 2).trans rfl
   have hcz7_3:w3.cell? ⟨gb119,3,none⟩ = some (.int .u32 a0_3):=(blk_cell BK119.out 3).trans rfl
   have hcz7_4:w3.cell? ⟨gb119,4,none⟩ = some (.int .u32 a0_4):=(blk_cell BK119.out 4).trans rfl
   have hcz7_5:w3.cell? ⟨gb119,5,none⟩ = some (.int .u32 a0_5):=(blk_cell BK119.out 5).trans rfl
   have hcz7_6:w3.cell? ⟨gb119,6,none⟩ = some (.int .u32 a0_6):=(blk_cell BK119.out 6).trans rfl
   have hfz7_0:=blk_frozen BK119.out 0
   have hfz7_1:=blk_frozen BK119.out 1
   have hfz7_2:=blk_frozen BK119.out 2
   have hfz7_3:=blk_frozen BK119.out 3
   have hfz7_4:=blk_frozen BK119.out 4
   have hfz7_5:=blk_frozen BK119.out 5
   have hfz7_6:=blk_frozen BK119.out 6
   go_wp2_with (first|(go_at_call 33;(with_reducible refine (name_May.calls k a0_0 true _ A4.out).mono ?_);rintro e w8 ⟨rfl,hb⟩;have n0_:=Aside0.mk (blk_below (g:=gb119) (o:=.cells #[.string a0_0,.string a0_1,.int .u32 a0_2,.int .u32 a0_3,.int .u32 a0_4,.int .u32 a0_5,.int .u32 a0_6] 63 (0,0)) (by (with_reducible repeat (first|apply blk_drewN|apply blk_drew|apply blk_alloc));exact BK119.out) hb);have n1_:=Aside0.mk (below_step (by repeat (first|(with_reducible first|exact HB.out|apply below_alloc|apply pw_below_drewN|apply below_drew1|refine below_set ?_ GE119.out)|exact HB.out)) hb);clear BK119;clear HB;have BK119:=n0_;have HB:=n1_;clear n0_ n1_;(try clear hb);(try clear hb2);(try clear hk);(try clear hi);have hcz9_0:w8.cell? ⟨gb119,0,none⟩ = some (.string a0_0):=(blk_cell BK119.out 0).trans rfl;have hcz9_1:w8.cell? ⟨gb119,1,none⟩ = some (.string a0_1):=(blk_cell BK119.out 1).trans rfl;have hcz9_2:w8.cell? ⟨gb119,2,none⟩ = some (.int .u32 a0_2):=(blk_cell BK119.out 2).trans rfl;have hcz9_3:w8.cell? ⟨gb119,3,none⟩ = some (.int .u32 a0_3):=(blk_cell BK119.out 3).trans rfl;have hcz9_4:w8.cell? ⟨gb119,4,none⟩ = some (.int .u32 a0_4):=(blk_cell BK119.out 4).trans rfl;have hcz9_5:w8.cell? ⟨gb119,5,none⟩ = some (.int .u32 a0_5):=(blk_cell BK119.out 5).trans rfl;have hcz9_6:w8.cell? ⟨gb119,6,none⟩ = some (.int .u32 a0_6):=(blk_cell BK119.out 6).trans rfl;have hfz9_0:=blk_frozen BK119.out 0;have hfz9_1:=blk_frozen BK119.out 1;have hfz9_2:=blk_frozen BK119.out 2;have hfz9_3:=blk_frozen BK119.out 3;have hfz9_4:=blk_frozen BK119.out 4;have hfz9_5:=blk_frozen BK119.out 5;have hfz9_6:=blk_frozen BK119.out 6)|(go_at_call 33;(with_reducible refine (name_May.calls k a0_1 t121 _ A6.out).mono ?_);rintro e w10 ⟨rfl,hb⟩;have n0_:=Aside0.mk (blk_below (g:=gb119) (o:=.cells #[.string a0_0,.string a0_1,.int .u32 a0_2,.int .u32 a0_3,.int .u32 a0_4,.int .u32 a0_5,.int .u32 a0_6] 63 (0,0)) (by (with_reducible repeat (first|apply blk_drewN|apply blk_drew|apply blk_alloc));exact BK119.out) hb);have n1_:=Aside0.mk (below_step (by repeat (first|(with_reducible first|exact HB.out|apply below_alloc|apply pw_below_drewN|apply below_drew1|refine below_set ?_ GE119.out)|exact HB.out)) hb);clear BK119;clear HB;have BK119:=n0_;have HB:=n1_;clear n0_ n1_;(try clear hb);(try clear hb2);(try clear hk);(try clear hi)))
   repeat (go_quiet (fail);try go_wp2_with (fail))
   go_meet
   case rel=>exact ⟨_,(!t121),(by first|rfl|(simp;done)|(simp [*];done)),H',⟨by first|omega|exact Nat.le_refl _⟩,⟨by (with_reducible repeat (first|apply blk_drewN|apply blk_drew|apply blk_alloc));exact BK119.out⟩,⟨by repeat (first|(with_reducible first|exact HB.out|apply below_alloc|apply pw_below_drewN|apply below_drew1|refine below_set ?_ GE119.out)|exact HB.out)⟩⟩
  ·replace c5:=Bool.eq_false_iff.mpr c5
   subst c5
   have H1:(soa_Data.j0 k true a0_0 a0_1 a0_2 a0_3 a0_4 a0_5 a0_6) = some (r1,r2):=by rw [if_neg (show ¬ (false = true) by decide)] at H;exact H
   clear H
   have H:=H1
   clear H1
   have H':=Aside0.mk H
   clear H
   have hcz11_0:w3.cell? ⟨gb119,0,none⟩ = some (.string a0_0):=(blk_cell BK119.out 0).trans rfl
   have hcz11_1:w3.cell? ⟨gb119,1,none⟩ = some (.string a0_1):=(blk_cell BK119.out 1).trans rfl
   have hcz11_2:w3.cell? ⟨gb119,2,none⟩ = some (.int .u32 a0_2):=(blk_cell BK119.out 2).trans rfl
   have hcz11_3:w3.cell? ⟨gb119,3,none⟩ = some (.int .u32 a0_3):=(blk_cell BK119.out 3).trans rfl
   have hcz11_4:w3.cell? ⟨gb119,4,none⟩ = some (.int .u32 a0_4):=(blk_cell BK119.out 4).trans rfl
   have hcz11_5:w3.cell? ⟨gb119,5,none⟩ = some (.int .u32 a0_5):=(blk_cell BK119.out 5).trans rfl
   have hcz11_6:w3.cell? ⟨gb119,6,none⟩ = some (.int .u32 a0_6):=(blk_cell BK119.out 6).trans rfl
   have hfz11_0:=blk_frozen BK119.out 0
   have hfz11_1:=blk_frozen BK119.out 1
   have hfz11_2:=blk_frozen BK119.out 2
   have hfz11_3:=blk_frozen BK119.out 3
   have hfz11_4:=blk_frozen BK119.out 4
   have hfz11_5:=blk_frozen BK119.out 5
   have hfz11_6:=blk_frozen BK119.out 6
   go_wp2_with (first|(go_at_call 33;(with_reducible refine (name_May.calls k a0_0 false _ A4.out).mono ?_);rintro e w12 ⟨rfl,hb⟩;have n0_:=Aside0.mk (blk_below (g:=gb119) (o:=.cells #[.string a0_0,.string a0_1,.int .u32 a0_2,.int .u32 a0_3,.int .u32 a0_4,.int .u32 a0_5,.int .u32 a0_6] 63 (0,0)) (by (with_reducible repeat (first|apply blk_drewN|apply blk_drew|apply blk_alloc));exact BK119.out) hb);have n1_:=Aside0.mk (below_step (by repeat (first|(with_reducible first|exact HB.out|apply below_alloc|apply pw_below_drewN|apply below_drew1|refine below_set ?_ GE119.out)|exact HB.out)) hb);clear BK119;clear HB;have BK119:=n0_;have HB:=n1_;clear n0_ n1_;(try clear hb);(try clear hb2);(try clear hk);(try clear hi)))
   repeat (go_quiet (fail);try go_wp2_with (fail))
   go_meet
   case rel=>exact ⟨_,(true),(by first|rfl|(simp;done)|(simp [*];done)),H',⟨by first|omega|exact Nat.le_refl _⟩,⟨by (with_reducible repeat (first|apply blk_drewN|apply blk_drew|apply blk_alloc));exact BK119.out⟩,⟨by repeat (first|(with_reducible first|exact HB.out|apply below_alloc|apply pw_below_drewN|apply below_drew1|refine below_set ?_ GE119.out)|exact HB.out)⟩⟩
 case rest =>
  clear HC2
  try clear c2
  try clear p2
  try clear c5
  try clear hcz11_0
  try clear hcz11_1
  try clear hcz11_2
  try clear hcz11_3
  try clear hcz11_4
  try clear hcz11_5
  try clear hcz11_6
  try clear hcz7_0
  try clear hcz7_1
  try clear hcz7_2
  try clear hcz7_3
  try clear hcz7_4
  try clear hcz7_5
  try clear hcz7_6
  try clear hcz9_0
  try clear hcz9_1
  try clear hcz9_2
  try clear hcz9_3
  try clear hcz9_4
  try clear hcz9_5
  try clear hcz9_6
  try clear hfz11_0
  try clear hfz11_1
  try clear hfz11_2
  try clear hfz11_3
  try clear hfz11_4
  try clear hfz11_5
  try clear hfz11_6
  try clear hfz7_0
  try clear hfz7_1
  try clear hfz7_2
  try clear hfz7_3
  try clear hfz7_4
  try clear hfz7_5
  try clear hfz7_6
  try clear hfz9_0
  try clear hfz9_1
  try clear hfz9_2
  try clear hfz9_3
  try clear hfz9_4
  try clear hfz9_5
  try clear hfz9_6
  obtain ⟨kq,x14_1,rfl,HA,HJ1,BK119,HB⟩:=hcut
  cases kq with
  | zero=>exact absurd HA.out (by simp [soa_Data.j0])
  | succ kj1 =>
   have H:=HA.out
   clear HA
   simp only [soa_Data.j0] at H
   by_cases c13:x14_1 = true
   ·subst c13
    have H1:(some ((⟨#[]⟩:ByteArray),false)) = some (r1,r2):=by rw [if_pos rfl] at H;exact H
    clear H
    have H:=H1
    clear H1
    simp only [Option.some.injEq,Prod.mk.injEq] at H
    obtain ⟨rfl,rfl⟩:=H
    go_wp2
    repeat (go_quiet (fail);try go_wp2)
    go_ret2
    exact ⟨by first|rfl|(simp [errW_none,errW_some] <;> rfl)|(simp [*,errW_none,errW_some] <;> rfl),by repeat (first|(with_reducible first|exact HB.out|apply below_alloc|apply pw_below_drewN|apply below_drew1|refine below_set ?_ GE119.out)|exact HB.out)⟩
   ·replace c13:=Bool.eq_false_iff.mpr c13
    subst c13
    have H1:((num_Put32.f kj1 ([]:List Int) (([a0_2,a0_3,a0_4,a0_5,a0_6]:List Int))).bind fun t125=>((point_Plain.f a0_0).bind fun t128=>((point_Plain.f a0_1).bind fun t129=>(if t128.size + t129.size≤9223372036854775807 then (if (t128 ++ t129).size + (strOfNums t125).size≤9223372036854775807 then (some ((t128 ++ t129) ++ (strOfNums t125),true)) else (none)) else (none))))) = some (r1,r2):=by rw [if_neg (show ¬ (false = true) by decide)] at H;exact H
    clear H
    have H:=H1
    clear H1
    obtain ⟨y122,hy122⟩:∃ y_:List Int,y_ = (([a0_2,a0_3,a0_4,a0_5,a0_6]:List Int)):=⟨_,rfl⟩
    replace H:((num_Put32.f kj1 ([]:List Int) y122).bind fun t125=>((point_Plain.f a0_0).bind fun t128=>((point_Plain.f a0_1).bind fun t129=>(if t128.size + t129.size≤9223372036854775807 then (if (t128 ++ t129).size + (strOfNums t125).size≤9223372036854775807 then (some ((t128 ++ t129) ++ (strOfNums t125),true)) else (none)) else (none))))) = some (r1,r2):=by first|(rw [hy122];with_reducible exact H)|(have H2_:=(Option.bind_some _ _).symm.trans H;rw [hy122];with_reducible exact H2_)|(have H2_:=(Option.bind_some _ _).symm.trans H;with_reducible exact H2_)|with_reducible exact H|(rw [hy122];exact H)|exact H
    have Ny122:=Aside0.mk hy122
    clear hy122
    replace H:=Option.bind_eq_some_iff.mp H
    obtain ⟨t125,A140,H⟩:=H
    replace H:((point_Plain.f a0_0).bind fun t128=>((point_Plain.f a0_1).bind fun t129=>(if t128.size + t129.size≤9223372036854775807 then (if (t128 ++ t129).size + (strOfNums t125).size≤9223372036854775807 then (some ((t128 ++ t129) ++ (strOfNums t125),true)) else (none)) else (none)))) = some (r1,r2):=H
    have A14:=Aside0.mk A140
    clear A140
    replace H:=Option.bind_eq_some_iff.mp H
    obtain ⟨t128,A150,H⟩:=H
    replace H:((point_Plain.f a0_1).bind fun t129=>(if t128.size + t129.size≤9223372036854775807 then (if (t128 ++ t129).size + (strOfNums t125).size≤9223372036854775807 then (some ((t128 ++ t129) ++ (strOfNums t125),true)) else (none)) else (none))) = some (r1,r2):=H
    have A15:=Aside0.mk A150
    clear A150
    replace H:=Option.bind_eq_some_iff.mp H
    obtain ⟨t129,A160,H⟩:=H
    replace H:(if t128.size + t129.size≤9223372036854775807 then (if (t128 ++ t129).size + (strOfNums t125).size≤9223372036854775807 then (some ((t128 ++ t129) ++ (strOfNums t125),true)) else (none)) else (none)) = some (r1,r2):=H
    have A16:=Aside0.mk A160
    clear A160
    by_cases c17:t128.size + t129.size≤9223372036854775807
    ·rw [if_pos c17] at H
     have c17b0:=eq_true c17
     have c17b1:decide (t128.size + t129.size≤9223372036854775807) = true:=decide_eq_true c17
     try have c17b2:(9223372036854775807 < t128.size + t129.size) = False:=eq_false (Nat.not_lt.2 c17)
     by_cases c18:(t128 ++ t129).size + (strOfNums t125).size≤9223372036854775807
     ·rw [if_pos c18] at H
      (try (have c18S:=c18;simp only [ByteArray.size_append] at c18S;have c18Sb:=eq_true c18S;have c18Sn:=eq_false (Nat.not_lt.2 c18S);clear c18S))
      have c18b0:=eq_true c18
      have c18b1:decide ((t128 ++ t129).size + (strOfNums t125).size≤9223372036854775807) = true:=decide_eq_true c18
      try have c18b2:(9223372036854775807 < (t128 ++ t129).size + (strOfNums t125).size) = False:=eq_false (Nat.not_lt.2 c18)
      simp only [Option.some.injEq,Prod.mk.injEq] at H
      obtain ⟨rfl,rfl⟩:=H
      have hcz19_0:wc.cell? ⟨gb119,0,none⟩ = some (.string a0_0):=(blk_cell BK119.out 0).trans rfl
      have hcz19_1:wc.cell? ⟨gb119,1,none⟩ = some (.string a0_1):=(blk_cell BK119.out 1).trans rfl
      have hcz19_2:wc.cell? ⟨gb119,2,none⟩ = some (.int .u32 a0_2):=(blk_cell BK119.out 2).trans rfl
      have hcz19_3:wc.cell? ⟨gb119,3,none⟩ = some (.int .u32 a0_3):=(blk_cell BK119.out 3).trans rfl
      have hcz19_4:wc.cell? ⟨gb119,4,none⟩ = some (.int .u32 a0_4):=(blk_cell BK119.out 4).trans rfl
      have hcz19_5:wc.cell? ⟨gb119,5,none⟩ = some (.int .u32 a0_5):=(blk_cell BK119.out 5).trans rfl
      have hcz19_6:wc.cell? ⟨gb119,6,none⟩ = some (.int .u32 a0_6):=(blk_cell BK119.out 6).trans rfl
      have hfz19_0:=blk_frozen BK119.out 0
      have hfz19_1:=blk_frozen BK119.out 1
      have hfz19_2:=blk_frozen BK119.out 2
      have hfz19_3:=blk_frozen BK119.out 3
      have hfz19_4:=blk_frozen BK119.out 4
      have hfz19_5:=blk_frozen BK119.out 5
      have hfz19_6:=blk_frozen BK119.out 6
      go_wp2_with (first|((with_reducible refine gate_dst (N:=25) rfl ?_);refine Kd.R_lit (Kd.int .u32) _ 30 ?hg (N:=25) ?hd (xs:=([a0_2,a0_3,a0_4,a0_5,a0_6]:List Int)) (inner:=[.int .u32 a0_2,.int .u32 a0_3,.int .u32 a0_4,.int .u32 a0_5,.int .u32 a0_6]) (ok:=fun _=>True) (okp:=fun _=>True) ?hr ?hp (fun _ hk=>hk) trivial (Below.refl _ _) (Nat.le_refl _) (by simp) ?_;(case hd=>rfl);(case hg=>rfl);(case hr=>first|(go_simp;done)|(go_simp;rfl));(case hp=>exact (Reps.one (show Kd.M (Kd.int .u32) _ _ _ a0_2 [.int .u32 a0_2] from rfl) (Reps.one (show Kd.M (Kd.int .u32) _ _ _ a0_3 [.int .u32 a0_3] from rfl) (Reps.one (show Kd.M (Kd.int .u32) _ _ _ a0_4 [.int .u32 a0_4] from rfl) (Reps.one (show Kd.M (Kd.int .u32) _ _ _ a0_5 [.int .u32 a0_5] from rfl) (Reps.one (show Kd.M (Kd.int .u32) _ _ _ a0_6 [.int .u32 a0_6] from rfl) (Reps.none _ _)))))));intro v123 w20 ho21 hb hg_ hnew_;clear hg_ hnew_;(first|rw [← Ny122.out] at ho21|(simp only [Int.reduceToNat] at ho21;rw [← Ny122.out] at ho21));have n0_:=Aside0.mk (Kd.R_lower ho21 (below_size (by repeat (first|(with_reducible first|exact HB.out|apply below_alloc|apply pw_below_drewN|apply below_drew1|refine below_set ?_ GE119.out)|exact HB.out))));have n1_:=Aside0.mk (blk_below (g:=gb119) (o:=.cells #[.string a0_0,.string a0_1,.int .u32 a0_2,.int .u32 a0_3,.int .u32 a0_4,.int .u32 a0_5,.int .u32 a0_6] 63 (0,0)) (by (with_reducible repeat (first|apply blk_drewN|apply blk_drew|apply blk_alloc));exact BK119.out) hb);have n2_:=Aside0.mk (below_step (by repeat (first|(with_reducible first|exact HB.out|apply below_alloc|apply pw_below_drewN|apply below_drew1|refine below_set ?_ GE119.out)|exact HB.out)) hb);clear BK119;clear HB;have HO124:=n0_;have BK119:=n1_;have HB:=n2_;clear n0_ n1_ n2_;clear hb ho21;obtain ⟨Ao22,co22,eo22⟩:=Kd.R_slice HO124.out;subst eo22)|(go_at_call 34;(refine (num_Put32.calls kj1 _ _ ([]:List Int) _ _ y122 t125 _ ?side1 ?side2 ?side3 ?side4 A14.out).mono ?_);(case side1=>exact Kd.C_nil _ _);(case side2=>exact Nat.le_refl _);(case side3=>repeat (first|exact (Kd.R_reads' HO124.out).2.2|(with_reducible refine Kd.C_alloc ?_ _)|(with_reducible refine Kd.C_drewN ?_ _)|(with_reducible refine Kd.C_drew ?_)));(case side4=>exact (Kd.R_reads' HO124.out).2.1);rintro e w23 ⟨v126,rfl,ho0,hb⟩;have n0_:=Aside0.mk (Kd.R_below (by (with_reducible repeat (first|apply Kd.R_alloc|apply Kd.R_drewN|apply Kd.R_drew));exact HO124.out) hb);have n1_:=Aside0.mk (Kd.R_lower ho0 (below_size (by repeat (first|(with_reducible first|exact HB.out|apply below_alloc|apply pw_below_drewN|apply below_drew1|refine below_set ?_ GE119.out)|exact HB.out))));have n2_:=Aside0.mk (blk_below (g:=gb119) (o:=.cells #[.string a0_0,.string a0_1,.int .u32 a0_2,.int .u32 a0_3,.int .u32 a0_4,.int .u32 a0_5,.int .u32 a0_6] 63 (0,0)) (by (with_reducible repeat (first|apply blk_drewN|apply blk_drew|apply blk_alloc));exact BK119.out) hb);have n3_:=Aside0.mk (below_step (by repeat (first|(with_reducible first|exact HB.out|apply below_alloc|apply pw_below_drewN|apply below_drew1|refine below_set ?_ GE119.out)|exact HB.out)) hb);clear HO124;clear BK119;clear HB;have HO124:=n0_;have HO127:=n1_;have BK119:=n2_;have HB:=n3_;clear n0_ n1_ n2_ n3_;(try clear hb);(try clear hb2);(try clear hk);(try clear hi);(try clear ho0);have hcz24_0:w23.cell? ⟨gb119,0,none⟩ = some (.string a0_0):=(blk_cell BK119.out 0).trans rfl;have hcz24_1:w23.cell? ⟨gb119,1,none⟩ = some (.string a0_1):=(blk_cell BK119.out 1).trans rfl;have hcz24_2:w23.cell? ⟨gb119,2,none⟩ = some (.int .u32 a0_2):=(blk_cell BK119.out 2).trans rfl;have hcz24_3:w23.cell? ⟨gb119,3,none⟩ = some (.int .u32 a0_3):=(blk_cell BK119.out 3).trans rfl;have hcz24_4:w23.cell? ⟨gb119,4,none⟩ = some (.int .u32 a0_4):=(blk_cell BK119.out 4).trans rfl;have hcz24_5:w23.cell? ⟨gb119,5,none⟩ = some (.int .u32 a0_5):=(blk_cell BK119.out 5).trans rfl;have hcz24_6:w23.cell? ⟨gb119,6,none⟩ = some (.int .u32 a0_6):=(blk_cell BK119.out 6).trans rfl;have hfz24_0:=blk_frozen BK119.out 0;have hfz24_1:=blk_frozen BK119.out 1;have hfz24_2:=blk_frozen BK119.out 2;have hfz24_3:=blk_frozen BK119.out 3;have hfz24_4:=blk_frozen BK119.out 4;have hfz24_5:=blk_frozen BK119.out 5;have hfz24_6:=blk_frozen BK119.out 6))
      repeat (go_quiet (first|(go_at_call 35;(with_reducible refine (point_Plain.calls a0_0 t128 _ A15.out).mono ?_);rintro e w' ⟨rfl,⟨nd,rfl⟩⟩;(try first|exact ⟨rfl,_,World.drewN_drewN _ _ _⟩|exact ⟨rfl,_,Eq.trans (World.drewN_drewN _ _ _) (congrArg (World.drewN _) (Nat.add_assoc _ _ _))⟩))|(go_at_call 35;(with_reducible refine (point_Plain.calls a0_1 t129 _ A16.out).mono ?_);rintro e w' ⟨rfl,⟨nd,rfl⟩⟩;(try first|exact ⟨rfl,_,World.drewN_drewN _ _ _⟩|exact ⟨rfl,_,Eq.trans (World.drewN_drewN _ _ _) (congrArg (World.drewN _) (Nat.add_assoc _ _ _))⟩);have hcv25:=own_string (P:=Tryd.prog) Tryd.underlying43 Tryd.underlying5 Tryd.underlying9 (Kd.own_of_R HO127.out);have hcvd26:=fun m_:Nat=>own_string (P:=Tryd.prog) Tryd.underlying43 Tryd.underlying5 Tryd.underlying9 (pw_own_drewN (Kd.own_of_R HO127.out) m_)));try go_wp2_with (fail))
      go_ret2
      exact ⟨by first|rfl|(simp [errW_none,errW_some] <;> rfl)|(simp [*,errW_none,errW_some] <;> rfl),by repeat (first|(with_reducible first|exact HB.out|apply below_alloc|apply pw_below_drewN|apply below_drew1|refine below_set ?_ GE119.out)|exact HB.out)⟩
     ·rw [if_neg c18] at H
      exact absurd H (by simp)
    ·rw [if_neg c17] at H
     exact absurd H (by simp)
def bolterlaw09_awake_1.f (k:Nat) (a0:Int):Option (ByteArray × Int × Int × ByteArray):=(soa_Data.f k (⟨#[]⟩:ByteArray) (⟨#[]⟩:ByteArray) a0 0 0 0 0).bind fun bt131=>(some ((⟨#[]⟩:ByteArray),6,0,bt131.1))
theorem bolterlaw09_awake_1.mono:∀ a0 k,LeO (bolterlaw09_awake_1.f k a0) (bolterlaw09_awake_1.f (k + 1) a0):=by
 intro a0 k
 unfold bolterlaw09_awake_1.f
 repeat' first
   | (with_reducible exact soa_Data.mono _ _ _ _ _ _ _ _)
   | (with_reducible exact LeO.refl _)
   | (with_reducible exact LeO.none _)
   | (with_reducible refine LeO.ite ?_ ?_)
   | (with_reducible refine LeO.bind ?_ (fun _=>?_))
   | exact soa_Data.mono _ _ _ _ _ _ _ _
   | exact LeO.none _
   | refine LeO.ite ?_ ?_
   | refine LeO.bind ?_ (fun _=>?_)
set_option maxHeartbeats 8000000 in
set_option maxRecDepth 100000 in
theorem bolterlaw09_awake_1.calls (k:Nat) (a0:Int) (r1:ByteArray) (r2:Int) (r3:Int) (r4:ByteArray) (w:World) (h:bolterlaw09_awake_1.f k a0 = some (r1,r2,r3,r4)) :
  Calls Tryd.prog 19 #[.int .u32 a0] w fun e w'=>e = .returned (.agg #[.string r1,.int .u16 r2,.int .u32 r3,.string r4])∧Below w.heap.size w w':=by
 have hu32:=Tryd.underlying32
 have hu63:=Tryd.underlying63
 have HB:=Aside0.mk (Below.refl w.heap.size w)
 have H:((soa_Data.f k (⟨#[]⟩:ByteArray) (⟨#[]⟩:ByteArray) a0 0 0 0 0).bind fun bt131=>(some ((⟨#[]⟩:ByteArray),6,0,bt131.1))) = some (r1,r2,r3,r4):=h
 clear h
 replace H:=Option.bind_eq_some_iff.mp H
 obtain ⟨⟨t131,t132⟩,A20,H⟩:=H
 replace H:(some ((⟨#[]⟩:ByteArray),6,0,t131)) = some (r1,r2,r3,r4):=H
 have A2:=Aside0.mk A20
 clear A20
 simp only [Option.some.injEq,Prod.mk.injEq] at H
 obtain ⟨rfl,rfl,rfl,rfl⟩:=H
 go_enter Tryd.func19,Tryd.ntmps19
 go_wp2_with (first|((with_reducible refine gate_dst (N:=2) rfl ?_);refine box_event ?hg (N:=2) ?hd (cs:=#[.string (⟨#[]⟩:ByteArray),.int .u16 0,.int .u32 0,.string (⟨#[]⟩:ByteArray)]) (t:=32) ?hr ?_;(case hd=>rfl);(case hg=>rfl);(case hr=>first|(go_simp;done)|(go_simp;rfl));intro gb130 hg w3 hbox hb;have n0_:=Aside0.mk (below_step (by repeat (first|(with_reducible first|exact HB.out|apply below_alloc|apply pw_below_drewN|apply below_drew1)|exact HB.out)) hb);have n1_:=Aside0.mk (hbox);have n2_:=Aside0.mk ((by rw [hg];exact (below_size (by repeat (first|(with_reducible first|exact HB.out|apply below_alloc|apply pw_below_drewN|apply below_drew1)|exact HB.out))):w.heap.size≤gb130));have n3_:=Aside0.mk ((by rw [hg];exact (below_size (by repeat (first|(with_reducible first|exact HB.out|apply below_alloc|apply pw_below_drewN|apply below_drew1)|exact HB.out))):w.heap.size≤gb130));clear HB;have HB:=n0_;have BK130:=n1_;have GW130:=n2_;have GE130:=n3_;clear n0_ n1_ n2_ n3_;clear hb hbox hg)|((with_reducible refine gate_callee (f:=20) rfl ?_);refine goesL_ (some 8) rfl rfl Tryd.func20 (by kernel_rfl) rfl #[.agg #[.string (⟨#[]⟩:ByteArray),.string (⟨#[]⟩:ByteArray),.int .u32 a0,.int .u32 0,.int .u32 0,.int .u32 0,.int .u32 0]] rfl (by (try simp only [List.map_toArray,List.map_cons,List.map_nil]) <;> first|rfl|(simp only [List.length_drop,List.length_take];rfl)) ?_;(with_reducible refine (soa_Data.calls k (⟨#[]⟩:ByteArray) (⟨#[]⟩:ByteArray) a0 0 0 0 0 t131 t132 _ A2.out).mono ?_);rintro e w4 ⟨rfl,hb⟩;refine ⟨_,rfl,?_⟩;have n0_:=Aside0.mk (blk_below (g:=gb130) (o:=.cells #[.string (⟨#[]⟩:ByteArray),.int .u16 0,.int .u32 0,.string (⟨#[]⟩:ByteArray)] 32 (0,0)) (by (with_reducible repeat (first|apply blk_drewN|apply blk_drew|apply blk_alloc));exact BK130.out) hb);have n1_:=Aside0.mk (below_step (by repeat (first|(with_reducible first|exact HB.out|apply below_alloc|apply pw_below_drewN|apply below_drew1|refine below_set ?_ GE130.out)|exact HB.out)) hb);clear BK130;clear HB;have BK130:=n0_;have HB:=n1_;clear n0_ n1_;(try clear hb);(try clear hb2);(try clear hk);(try clear hi);have hcz5_0:w4.cell? ⟨gb130,0,none⟩ = some (.string (⟨#[]⟩:ByteArray)):=(blk_cell BK130.out 0).trans rfl;have hcz5_1:w4.cell? ⟨gb130,1,none⟩ = some (.int .u16 0):=(blk_cell BK130.out 1).trans rfl;have hcz5_2:w4.cell? ⟨gb130,2,none⟩ = some (.int .u32 0):=(blk_cell BK130.out 2).trans rfl;have hcz5_3:w4.cell? ⟨gb130,3,none⟩ = some (.string (⟨#[]⟩:ByteArray)):=(blk_cell BK130.out 3).trans rfl;have hfz5_0:=blk_frozen BK130.out 0;have hfz5_1:=blk_frozen BK130.out 1;have hfz5_2:=blk_frozen BK130.out 2;have hfz5_3:=blk_frozen BK130.out 3))
 refine bodyPost_ret (results_cell_row rfl _ _ gb130 32 #[.string (⟨#[]⟩:ByteArray),.int .u16 6,.int .u32 0,.string t131] (0,0) _ rfl (by (with_reducible repeat (first|apply blk_drewN|apply blk_drew|apply blk_alloc));refine blk_put (cs:=#[.string (⟨#[]⟩:ByteArray),.int .u16 6,.int .u32 0,.string (⟨#[]⟩:ByteArray)]) ?_ 3 _ rfl;(with_reducible repeat (first|apply blk_drewN|apply blk_drew|apply blk_alloc));refine blk_put (cs:=#[.string (⟨#[]⟩:ByteArray),.int .u16 6,.int .u32 0,.string (⟨#[]⟩:ByteArray)]) ?_ 2 _ rfl;(with_reducible repeat (first|apply blk_drewN|apply blk_drew|apply blk_alloc));refine blk_put (cs:=#[.string (⟨#[]⟩:ByteArray),.int .u16 0,.int .u32 0,.string (⟨#[]⟩:ByteArray)]) ?_ 1 _ rfl;(with_reducible repeat (first|apply blk_drewN|apply blk_drew|apply blk_alloc));refine blk_put (cs:=#[.string (⟨#[]⟩:ByteArray),.int .u16 0,.int .u32 0,.string (⟨#[]⟩:ByteArray)]) ?_ 0 _ rfl;(with_reducible repeat (first|apply blk_drewN|apply blk_drew|apply blk_alloc));exact BK130.out) Tryd.underlying32 rfl (by kernel_rfl)) rfl ?_
 exact ⟨by first|rfl|(simp [errW_none,errW_some] <;> rfl)|(simp [*,errW_none,errW_some] <;> rfl),by repeat (first|(with_reducible first|exact HB.out|apply below_alloc|apply pw_below_drewN|apply below_drew1|refine below_set ?_ GE130.out)|exact HB.out)⟩
end Go.Proofs.YtlobjcokopfbkaaDoor.PY
