import Derived.Test.YtlobjcokopfbkaaDoorPYx0
import Derived.Test.YtlobjcokopfbkaaDoorPYx2
namespace Go.Proofs.YtlobjcokopfbkaaDoor.PY
open Go.RowKit Go.Proofs.YtlobjcokopfbkaaDoorW.PrintWords Go.Proofs.YtlobjcokopfbkaaDoorW.PrintLast Go.Proofs.YtlobjcokopfbkaaDoorW.PrintMore
attribute [local go_sem] max2_int min2_int max_two min_two max_three min_three max_four min_four   -- for this text's walks alone
set_option linter.unusedVariables false
set_option linter.unusedSimpArgs false
namespace name_Make
section
open Go.Proofs.YtlobjcokopfbkaaDoor.Nam Go.Proofs.YtlobjcokopfbkaaDoor.Base Go.Proofs.YtlobjcokopfbkaaDoor.Heap Go.Proofs.YtlobjcokopfbkaaDoor
theorem one_eq {c:Int} (h0:0≤c) (h1:c < 256):name_folded.one c = Go.Proofs.YtlobjcokopfbkaaDoor.Nam.fold1 c:=by
 unfold name_folded.one name_Fold.f Go.Proofs.YtlobjcokopfbkaaDoor.Nam.fold1
 repeat' split
 all_goals simp only [Option.getD_some]
 all_goals omega
theorem one_map {l:List Int} (h:Go.Proofs.YtlobjcokopfbkaaDoor.Base.B8 l):l.map name_folded.one = Go.Proofs.YtlobjcokopfbkaaDoor.Nam.fold l:=List.map_congr_left fun y hy=>one_eq (h y hy).1 (h y hy).2
def IsB (B b:Nat) (l:List Int) (w:World):Prop:=Lib.IsBuilder 109 5 B b (nums .u8 l) w
theorem strCells_nums (s:ByteArray):Lib.strCells s = nums .u8 (bytesOf s):=by simp [Lib.strCells,nums,bytesOf]
theorem len_ (B b:Nat) (l:List Int) (w:World) (h:IsB B b l w) :
  Calls Tryd.prog 48 #[.pointer (some ⟨b,0,none⟩)] w fun e w'=>e = .returned (.int .i64 l.length)∧w' = w:=by
 have:=Bld.len B b (nums .u8 l) w h
 rwa [show (nums .u8 l).length = l.length by simp [nums]] at this
theorem writeByte_ (B b:Nat) (l:List Int) (c:Int) (w:World) (h:IsB B b l w) (hlen:l.length + 1≤140737488355328) (hBw:B≤w.heap.size) :
  Calls Tryd.prog 49 #[.pointer (some ⟨b,0,none⟩),.int .u8 c] w fun e w'=>e = .returned .nilIface∧IsB B b (l ++ [c]) w'∧Below B w w':=by
 refine (Bld.writeByte B b (nums .u8 l) c w h (by simpa [nums] using hlen) hBw).mono ?_
 rintro e w' ⟨rfl,h1,h2⟩
 exact ⟨rfl,.inr (by simpa [nums] using h1),h2⟩
theorem writeString_ (B b:Nat) (l:List Int) (s:ByteArray) (w:World) (h:IsB B b l w) (hlen:l.length + s.size≤140737488355328) (hBw:B≤w.heap.size) :
  Calls Tryd.prog 50 #[.pointer (some ⟨b,0,none⟩),.string s] w fun e w'=>e = .returned (.tuple #[.int .i64 s.size,.nilIface])∧IsB B b (l ++ bytesOf s) w'∧Below B w w':=by
 refine (Bld.writeString B b (nums .u8 l) s w h (by simpa [nums] using hlen) hBw).mono ?_
 rintro e w' ⟨rfl,h1,h2⟩
 refine ⟨rfl,.inr ?_,h2⟩
 rw [strCells_nums] at h1
 simpa [nums] using h1
theorem byteCells_nums {l:List Int} (h:B8 l):nums .u8 l = Lib.byteCells (l.map fun n=>UInt8.ofNat n.toNat):=by
 simp only [nums,Lib.byteCells,List.map_map]
 apply List.map_congr_left
 intro y hy
 have:=h y hy
 simp
 omega
theorem string_ (B b:Nat) (l:List Int) (w:World) (h:IsB B b l w) (hl:B8 l) (h0:l≠[]) :
  Calls Tryd.prog 52 #[.pointer (some ⟨b,0,none⟩)] w fun e w'=>e = .returned (.string (strOfNums l))∧Below B w w':=by
 unfold IsB at h
 rw [byteCells_nums hl] at h
 exact Bld.string_some B b _ w h (by simpa using h0)
theorem isB_lt {B b:Nat} {l:List Int} {w:World} (h:IsB B b l w):b < w.heap.size∧B≤b:=by
 rcases h with h|h
 ·exact ⟨h.lt,h.1⟩
 ·exact ⟨h.lt,h.1⟩
theorem builder_below {T e:TypeId} {B b:Nat} {p:Value} {bs:List Value} {w w':World} (h:Lib.BuilderAt T e B b p bs w) (hb:Below w.heap.size w w'):Lib.BuilderAt T e B b p bs w':=by
 obtain ⟨h1,v,h2,h3,h4⟩:=h
 exact ⟨h1,v,blk_below h2 hb,pw_own_below h3 hb,h4⟩
def mkV (ls:List (List Int)):Value:=.tuple #[.string (strOfNums (mk ls)),.bool (mkOk ls)]
theorem str_at {w:World} {A:Option Addr} {n:Nat} {ls:List ByteArray} (h:Kd.C Kd.string w A n ls) (j:Nat) (x:ByteArray) (hx:ls[j]? = some x):∃ ad,A = some ad∧w.cell? (ad.add j) = some (.string x) :=
 scal_at (enc:=Value.string) (h1:=fun _=>rfl) h j x hx
theorem folded_ (s:ByteArray) (hs:s.size≤1048576) (w:World) :
  Calls Tryd.prog 51 #[.string s] w fun e w'=>e = .returned (.string (strOfNums (fold (bytesOf s))))∧Below w.heap.size w w':=by
 refine name_folded.calls s _ w ?_
 unfold name_folded.f
 rw [if_pos (by omega),one_map (of_b8 s)]
set_option maxHeartbeats 4000000 in
/-- name.Make. -/
theorem make_ (A:Option Addr) (c:Nat) (ls:List ByteArray) (w:World) (hC:Kd.C Kd.string w A ls.length ls) (hc:ls.length≤c) :
  Calls Tryd.prog 36 #[.slice A ls.length c] w fun e w'=>e = .returned (mkV (ls.map bytesOf))∧Below w.heap.size w w':=by
 obtain ⟨L,hL⟩:∃ L,ls.map bytesOf = L:=⟨_,rfl⟩
 have hget:∀ (j:Nat) (x:ByteArray),ls[j]? = some x→L[j]? = some (bytesOf x):=by
  intro j x hx
  rw [← hL,List.getElem?_map,hx]
  rfl
 have hLl:L.length = ls.length:=by rw [← hL,List.length_map]
 have hL8:∀ l ∈ L,B8 l:=by
  intro l hl
  rw [← hL] at hl
  obtain ⟨x,_,rfl⟩:=List.mem_map.1 hl
  exact of_b8 x
 have hls:ls.length≤9223372036854775807:=hC.2.1
 rw [hL]
 have HC:=Lib.hid hC
 have HG:=Lib.hid hget
 have HLL:=Lib.hid hLl
 have HL8:=Lib.hid hL8
 have hfr:=Lib.fresh_isBuilder 109 5 w
 have hbn:=blk_new w (.cells #[.pointer none,.slice none 0 0] 109)
 have hbb:=below_alloc (Below.refl w.heap.size w) (.cells #[.pointer none,.slice none 0 0] 109)
 obtain ⟨g,hg⟩:∃ g,w.heap.size = g:=⟨_,rfl⟩
 have HF:=Lib.hid hfr
 have HN:=Lib.hid hbn
 have HBB:=Lib.hid hbb
 clear hC hget hLl hL8 hL hfr hbn hbb
 go_enter Tryd.func36,Tryd.ntmps36
 go_wp2_with fail
 (try rw [hg])
 go_loopw [9] (fun i wr=>∃ k:Nat,k≤ls.length∧i = .int .i64 k∧(mkL (L.take k)).length≤254∧Aside0 (∀ j l,j < k→L[j]? = some l→Lab l)∧Aside0 (IsB g g (mkL (L.take k)) wr)∧Aside0 (Below w.heap.size w wr)∧Aside0 (k = 0→wr.heap[g]? = some (.cells #[.pointer none,.slice none 0 0] 109 (0,0))))
  (fun i _=>ls.length - (intOf i).toNat)
 case atStart=>exact ⟨0,Nat.zero_le _,rfl,by simp [mkL,lay],⟨fun j l hj=>absurd hj (Nat.not_lt_zero j)⟩,⟨by rw [← hg];exact HF.out⟩,⟨HBB.out⟩,⟨fun _=>by rw [← hg];exact HN.out⟩⟩
 case round =>
  obtain ⟨k,hk,rfl,hn,HA,HB,HW,HZ⟩:=hrel
  obtain ⟨n,hnn⟩:∃ n,(mkL (L.take k)).length = n:=⟨_,rfl⟩
  rw [hnn] at hn
  have HNN:=Lib.hid hnn
  clear hnn
  by_cases hlt:k < ls.length
  ·obtain ⟨x,hx⟩:∃ x,ls[k]? = some x:=⟨_,List.getElem?_eq_getElem hlt⟩
   obtain ⟨ad,ha,hcell0⟩:=str_at HC.out k x hx
   have hcell:=pw_cell_below HW.out hcell0
   subst ha
   have hX:=HG.out k x hx
   have HX:=Lib.hid hX
   clear hcell0 hx hX
   have hxs:=of_size x
   obtain ⟨m,hm⟩:∃ m,x.size = m:=⟨_,rfl⟩
   rw [hm] at hxs
   have HXS:=Lib.hid hxs
   clear hxs
   by_cases h1:m < 1
   ·have hbad:=mkOk_bad HX.out (.inl (by rw [HXS.out];exact h1))
    have HV:=Lib.hid (show mkV L = .tuple #[.string ⟨#[]⟩,.bool false] by unfold mkV mk;rw [hbad];rfl)
    clear hbad
    have hd1:decide ((m:Int) < 1) = true:=decide_eq_true (by omega)
    have hd2:decide ((x.size:Int) < 1) = true:=by rw [hm];exact hd1
    go_wp2
    go_ret2
    exact ⟨congrArg Ending.returned HV.out.symm,by first|exact HW.out|(rw [← hg];exact HW.out)⟩
   ·by_cases h2:63 < m
    ·have hbad:=mkOk_bad HX.out (.inr (.inl (by rw [HXS.out];exact h2)))
     have HV:=Lib.hid (show mkV L = .tuple #[.string ⟨#[]⟩,.bool false] by unfold mkV mk;rw [hbad];rfl)
     clear hbad
     have hd2:decide ((x.size:Int) < 1) = false:=decide_eq_false (by omega)
     have hd3:decide (63 < (x.size:Int)) = true:=decide_eq_true (by omega)
     go_wp2
     go_ret2
     exact ⟨congrArg Ending.returned HV.out.symm,by first|exact HW.out|(rw [← hg];exact HW.out)⟩
    ·have hd2:decide ((x.size:Int) < 1) = false:=decide_eq_false (by omega)
     have hd3:decide (63 < (x.size:Int)) = false:=decide_eq_false (by omega)
     have hm63:m≤63:=by omega
     have hm1:1≤m:=by omega
     by_cases h3:254 < n + 1 + m
     ·have hbad:=mkOk_bad HX.out (.inr (.inr (by rw [HXS.out,HNN.out];exact h3)))
      have HV:=Lib.hid (show mkV L = .tuple #[.string ⟨#[]⟩,.bool false] by unfold mkV mk;rw [hbad];rfl)
      clear hbad
      go_wp2_with fail
      refine (len_ g g _ wr HB.out).mono ?_
      rintro e w2 ⟨rfl,rfl⟩
      rw [HNN.out]
      have hd4:decide (254 < (n:Int) + 1 + (x.size:Int)) = true:=decide_eq_true (by omega)
      go_wp2
      go_ret2
      exact ⟨congrArg Ending.returned HV.out.symm,by first|exact HW.out|(rw [← hg];exact HW.out)⟩
     ·go_wp2_with fail
      refine (len_ g g _ wr HB.out).mono ?_
      rintro e w2 ⟨rfl,rfl⟩
      rw [HNN.out]
      have hd4:decide (254 < (n:Int) + 1 + (x.size:Int)) = false:=decide_eq_false (by omega)
      go_wp2_with fail
      have hm8:IntKind.u8.wrap (m:Int) = (m:Int):=by rw [IntKind.wrap_u8];omega
      have hBg:=HW.out.size
      refine (writeByte_ g g _ (m:Int) _ HB.out (by rw [HNN.out];omega) (by omega)).mono ?_
      rintro e w3 ⟨rfl,hB3,hW3⟩
      have HW3:=Lib.hid (HW.out.trans (by rw [hg];exact hW3))
      have HB3:=Lib.hid hB3
      clear hB3 hW3
      go_wp2_with fail
      refine (folded_ x (by omega) w3).mono ?_
      rintro e w4 ⟨rfl,hb⟩
      have hgl:=isB_lt HB3.out
      have hB4:IsB g g (mkL (L.take k) ++ [(m:Int)]) w4:=by
       have h:=HB3.out
       unfold IsB at h ⊢
       rcases h with h|h
       ·exact .inl (builder_below h hb)
       ·exact .inr (builder_below h hb)
      have HB4:=Lib.hid hB4
      have HW4:=Lib.hid (HW3.out.trans (hb.mono HW3.out.size))
      have hs4:g≤w4.heap.size:=by have:=HW4.out.size;omega
      clear hB4 hb
      go_wp2_with fail
      have hls4:(mkL (L.take k) ++ [(m:Int)]).length + (strOfNums (fold (bytesOf x))).size≤140737488355328:=by
       rw [List.length_append,HNN.out,str_size,fold_len,of_size,hm]
       simp
       omega
      refine (writeString_ g g _ _ w4 HB4.out hls4 hs4).mono ?_
      rintro e w5 ⟨rfl,hB5,hW5⟩
      rw [bytes_str (fold_b8 (of_b8 x)),List.append_assoc] at hB5
      have hX:=HX.out
      have e5:mkL (L.take k) ++ ([(m:Int)] ++ fold (bytesOf x)) = mkL (L.take (k + 1)):=by
       rw [mkL_take hX,of_size,hm]
       rfl
      rw [e5] at hB5
      have e6:(mkL (L.take (k + 1))).length≤254:=by
       rw [← e5,List.length_append,HNN.out]
       simp [fold_len,of_size,hm]
       omega
      have e7:∀ j l,j < k + 1→L[j]? = some l→Lab l:=by
       intro j l hj hl
       by_cases hjk:j = k
       ·subst hjk
        rw [hX] at hl
        obtain rfl:=Option.some.inj hl
        unfold Lab
        rw [of_size,hm]
        exact ⟨hm1,hm63⟩
       ·exact HA.out j l (by omega) hl
      have HB5:=Lib.hid hB5
      have HW5:=Lib.hid (HW4.out.trans (by rw [hg];exact hW5))
      have E6:=Lib.hid e6
      have E7:=Lib.hid e7
      clear hB5 hW5 hX e5 e6 e7 hls4
      go_wp2
      go_roundw
      case rel=>exact ⟨k + 1,by omega,by go_num,E6.out,⟨E7.out⟩,⟨HB5.out⟩,⟨HW5.out⟩,⟨fun h=>by omega⟩⟩
      case measure=>simp [intOf];omega
  ·have hkk:k = ls.length:=by omega
   subst hkk
   have htk:L.take ls.length = L:=List.take_of_length_le (by rw [HLL.out];exact Nat.le_refl _)
   have hok:mkOk L = true:=by
    rw [mkOk_iff]
    refine ⟨fun l hl=>?_,?_⟩
    ·obtain ⟨j,hj,rfl⟩:=List.getElem_of_mem hl
     exact HA.out j _ (by rw [← HLL.out];exact hj) (List.getElem?_eq_getElem hj)
    ·have:=HNN.out
     rw [htk] at this
     omega
   have hmk:mk L = mkL L:=by unfold mk;rw [if_pos hok]
   have hV:mkV L = .tuple #[.string (strOfNums (mkL L)),.bool true]:=by unfold mkV;rw [hmk,hok]
   have h8:B8 (mkL L):=by rw [← hmk];exact mk_b8 HL8.out
   have hB:=HB.out
   rw [htk] at hB
   have HB6:=Lib.hid hB
   have HV:=Lib.hid hV
   have H8:=Lib.hid h8
   have HOK:=Lib.hid hok
   clear hB htk hok hmk hV h8
   by_cases h0:ls.length = 0
   ·have hn:mkL L = []:=by
     have:=HLL.out
     rw [h0] at this
     rw [List.eq_nil_of_length_eq_zero this]
     rfl
    have hV:=HV.out
    rw [hn] at hV
    have HV:=Lib.hid hV
    have hz:=HZ.out h0
    have HZ2:=Lib.hid hz
    clear hV hn hz
    go_wp2_with fail
    refine (Bld.string_nil g g _ _ HZ2.out).mono ?_
    rintro e w2 ⟨rfl,hb⟩
    have HB2:=Lib.hid hb
    clear hb
    go_wp2
    go_ret2
    exact ⟨congrArg Ending.returned HV.out.symm,by first|exact HW.out.trans (by rw [hg];exact HB2.out)|(rw [← hg];exact HW.out.trans (by rw [hg];exact HB2.out))⟩
   ·have hne:mkL L≠[]:=by
     intro he
     have h1:=HLL.out
     cases hL':L with
     | nil=>rw [hL'] at h1;simp at h1;omega
     | cons l r=>rw [hL'] at he;simp [mkL,lay] at he
    have HNE:=Lib.hid hne
    clear hne
    go_wp2_with fail
    refine (string_ g g _ _ HB6.out H8.out HNE.out).mono ?_
    rintro e w2 ⟨rfl,hb⟩
    have HB2:=Lib.hid hb
    clear hb
    go_wp2
    go_ret2
    exact ⟨congrArg Ending.returned HV.out.symm,by first|exact HW.out.trans (by rw [hg];exact HB2.out)|(rw [← hg];exact HW.out.trans (by rw [hg];exact HB2.out))⟩
theorem make_ev (ls:List ByteArray) (r1:ByteArray) (r2:Bool) (h:some (strOfNums (mk (ls.map bytesOf)),mkOk (ls.map bytesOf)) = some (r1,r2)):mkV (ls.map bytesOf) = .tuple #[.string r1,.bool r2]:=by
 have h1:=Option.some.inj h
 injection h1 with h2 h3
 unfold mkV
 rw [h2,h3]
end
end name_Make
def name_Make.f (l0:List ByteArray):Option (ByteArray × Bool):=some (strOfNums (Go.Proofs.YtlobjcokopfbkaaDoor.Nam.mk (l0.map bytesOf)),Go.Proofs.YtlobjcokopfbkaaDoor.Nam.mkOk (l0.map bytesOf))
theorem name_Make.calls (A0:Option Addr) (c0:Nat) (l0:List ByteArray) (r1:ByteArray) (r2:Bool) (w:World) (hr0:Kd.C Kd.string w A0 l0.length l0) (hc0:l0.length≤c0) (h:name_Make.f l0 = some (r1,r2)) :
  Calls Tryd.prog 36 #[.slice A0 l0.length c0] w fun e w'=>e = .returned (.tuple #[.string r1,.bool r2])∧Below w.heap.size w w':=by
 have h1:=name_Make.make_ A0 c0 l0 w hr0 hc0
 rw [name_Make.make_ev l0 r1 r2 h] at h1
 exact h1
def bolterlaw02_Words.l0:Nat→List ByteArray→List Int→Int→Int→Option (List ByteArray)
 | 0,_,_,_,_=>none
 | k + 1,x3,x7,x8,x9=>if x9 < x8 then (if 0≤x9 then (if x9 < (x7.length:Int) then (if x9 = 12 then (some x3) else ((some (([(⟨#[97]⟩:ByteArray),(⟨#[98]⟩:ByteArray),(⟨#[99]⟩:ByteArray),(⟨#[119,119,119]⟩:ByteArray),(⟨#[101,120]⟩:ByteArray),(⟨#[111,114,103]⟩:ByteArray),(⟨#[42]⟩:ByteArray),(⟨#[114,112,122,45,105,112]⟩:ByteArray)]:List ByteArray):List ByteArray)).bind fun y327=>(if 0≤(Int.tmod (rd x7 x9) 8) then (if (Int.tmod (rd x7 x9) 8) < (y327.length:Int) then (if x3.length < 8796093022208 then (bolterlaw02_Words.l0 k (x3 ++ [rdOf ByteArray.empty y327 (Int.tmod (rd x7 x9) 8)]) x7 x8 (wrap64 (x9 + 1))) else (none)) else (none)) else (none)))) else (none)) else (none)) else (some x3)
def bolterlaw02_Words.f (k:Nat) (l0:List Int):Option (List ByteArray):=bolterlaw02_Words.l0 k ([]:List ByteArray) l0 (l0.length:Int) 0
theorem bolterlaw02_Words.mono_l:∀ k,(∀ y0 y1 y2 y3,LeO (bolterlaw02_Words.l0 k y0 y1 y2 y3) (bolterlaw02_Words.l0 (k + 1) y0 y1 y2 y3))
 | 0=>fun _ _ _ _ r h=>by simp [bolterlaw02_Words.l0] at h
 | k + 1=>by
  have ih0:=bolterlaw02_Words.mono_l k
  ·intro y0 y1 y2 y3
   unfold bolterlaw02_Words.l0
   repeat' first
   | (with_reducible exact ih0 _ _ _ _)
   | (with_reducible exact LeO.refl _)
   | (with_reducible exact LeO.none _)
   | (with_reducible refine LeO.ite ?_ ?_)
   | (with_reducible refine LeO.bind ?_ (fun _=>?_))
   | exact ih0 _ _ _ _
   | exact LeO.none _
   | refine LeO.ite ?_ ?_
   | refine LeO.bind ?_ (fun _=>?_)
theorem bolterlaw02_Words.mono:∀ a0 k,LeO (bolterlaw02_Words.f k a0) (bolterlaw02_Words.f (k + 1) a0):=by
 intro a0 k
 have ih0:=bolterlaw02_Words.mono_l k
 unfold bolterlaw02_Words.f
 repeat' first
   | (with_reducible exact ih0 _ _ _ _)
   | (with_reducible exact LeO.refl _)
   | (with_reducible exact LeO.none _)
   | (with_reducible refine LeO.ite ?_ ?_)
   | (with_reducible refine LeO.bind ?_ (fun _=>?_))
   | exact ih0 _ _ _ _
   | exact LeO.none _
   | refine LeO.ite ?_ ?_
   | refine LeO.bind ?_ (fun _=>?_)
set_option maxHeartbeats 8000000 in
set_option maxRecDepth 100000 in
theorem bolterlaw02_Words.calls (k:Nat) (A0:Option Addr) (c0:Nat) (l0:List Int) (r:List ByteArray) (w:World) (hr0:Kd.C (Kd.int .u8) w A0 l0.length l0) (hc0:l0.length≤c0) (h:bolterlaw02_Words.f k l0 = some r) :
  Calls Tryd.prog 37 #[.slice A0 l0.length c0] w fun e w'=>∃ v0_:Value,e = .returned (v0_)∧Kd.R Kd.string 9 w' w.heap.size (fun _=>True) v0_ r∧Below w.heap.size w w':=by
 have HR0:=Aside0.mk hr0
 have HC0:=Aside0.mk hc0
 clear hr0 hc0
 have HB:=Aside0.mk (Below.refl w.heap.size w)
 have H:(bolterlaw02_Words.l0 k ([]:List ByteArray) l0 (l0.length:Int) 0) = some r:=h
 clear h
 have H':=Aside0.mk H
 clear H
 go_enter Tryd.func37,Tryd.ntmps37
 go_wp2
 go_loopg [3,9] k (fun kq v3 v9 w'=>∃ (x3_1:List ByteArray) (x9_1:Int),v9 = .int .i64 x9_1∧Aside0 (bolterlaw02_Words.l0 kq x3_1 l0 (l0.length:Int) x9_1 = some r)∧Aside0 (kq≤k)∧Aside0 (Kd.R Kd.string 9 w' w.heap.size (fun _=>True) v3 x3_1)∧Aside0 (Below w.heap.size w w'))
 case atStart=>exact ⟨(([]:List ByteArray)),(0),(by first|rfl|(simp;done)|(simp [*];done)),H',⟨Nat.le_refl _⟩,⟨by first|exact Kd.R_nil _ _ _ _ _|exact Kd.N_nil _ _ _ _ _|exact Kd.V_nil _ _ _ _ _|exact Kd.Q_nil _ _ _ _ _|exact Kd.S_nil _ _ _ _ _⟩,⟨by repeat (first|(with_reducible first|exact HB.out|apply below_alloc|apply pw_below_drewN|apply below_drew1)|exact HB.out)⟩⟩
 case round =>
  clear H'
  obtain ⟨x3_1,x9_1,rfl,HA,HK1,HO_3,HB⟩:=hrel
  cases gk with
  | zero=>exact absurd HA.out (by simp [bolterlaw02_Words.l0])
  | succ k1 =>
   have H:=HA.out
   clear HA
   simp only [bolterlaw02_Words.l0] at H
   by_cases c2:x9_1 < (l0.length:Int)
   ·rw [if_pos c2] at H
    have c2b0:decide (x9_1 < (l0.length:Int)) = true:=decide_eq_true c2
    clear c2
    by_cases c3:0≤x9_1
    ·rw [if_pos c3] at H
     have c3b0:decide (0≤x9_1) = true:=decide_eq_true c3
     clear c3
     by_cases c4:x9_1 < (l0.length:Int)
     ·rw [if_pos c4] at H
      have c4b0:decide (x9_1 < (l0.length:Int)) = true:=decide_eq_true c4
      clear c4
      by_cases c5:x9_1 = 12
      ·rw [if_pos c5] at H
       have c5b0:(x9_1 == 12) = true:=beq_iff_eq.mpr c5
       have c5b1:(x9_1 != 12) = false:=bne_eq_false_iff_eq.mpr c5
       clear c5
       obtain rfl:=Option.some.inj H
       have p326:0≤(x9_1:Int):=of_decide_eq_true (by first|(with_reducible assumption)|assumption)
       have q326:x9_1 < (l0.length:Int):=of_decide_eq_true (by first|(with_reducible assumption)|assumption)
       obtain ⟨ad326,e326,hx326_0⟩:=Kd.at_int HR0.out x9_1 p326 q326
       cases e326
       replace hx326_0:=(HB.out.cell (World.block_lt_of_cell? w _ hx326_0)).trans hx326_0
       replace p326:=eq_true p326
       replace q326:=eq_true q326
       go_wp2
       go_ret
       exact ⟨_,by first|rfl|(simp [errW_none,errW_some] <;> rfl)|(simp [*,errW_none,errW_some] <;> rfl),by (with_reducible repeat (first|apply Kd.R_alloc|apply Kd.R_drewN|apply Kd.R_drew));exact HO_3.out,by repeat (first|(with_reducible first|exact HB.out|apply below_alloc|apply pw_below_drewN|apply below_drew1)|exact HB.out)⟩
      ·rw [if_neg c5] at H
       have c5b0:(x9_1 == 12) = false:=beq_eq_false_iff_ne.mpr c5
       have c5b1:(x9_1 != 12) = true:=bne_iff_ne.mpr c5
       obtain ⟨y327,hy327⟩:∃ y_:List ByteArray,y_ = (([(⟨#[97]⟩:ByteArray),(⟨#[98]⟩:ByteArray),(⟨#[99]⟩:ByteArray),(⟨#[119,119,119]⟩:ByteArray),(⟨#[101,120]⟩:ByteArray),(⟨#[111,114,103]⟩:ByteArray),(⟨#[42]⟩:ByteArray),(⟨#[114,112,122,45,105,112]⟩:ByteArray)]:List ByteArray)):=⟨_,rfl⟩
       replace H:(if 0≤(Int.tmod (rd l0 x9_1) 8) then (if (Int.tmod (rd l0 x9_1) 8) < (y327.length:Int) then (if x3_1.length < 8796093022208 then (bolterlaw02_Words.l0 k1 (x3_1 ++ [rdOf ByteArray.empty y327 (Int.tmod (rd l0 x9_1) 8)]) l0 (l0.length:Int) (wrap64 (x9_1 + 1))) else (none)) else (none)) else (none)) = some r:=by first|(rw [hy327];with_reducible exact H)|(have H2_:=(Option.bind_some _ _).symm.trans H;rw [hy327];with_reducible exact H2_)|(have H2_:=(Option.bind_some _ _).symm.trans H;with_reducible exact H2_)|with_reducible exact H|(rw [hy327];exact H)|exact H
       have Ny327:=Aside0.mk hy327
       clear hy327
       obtain ⟨ji6,hji6⟩:∃ j_:Int,(Int.tmod (rd l0 x9_1) 8) = j_:=⟨_,rfl⟩
       replace H:(if 0≤(ji6) then (if (ji6) < (y327.length:Int) then (if x3_1.length < 8796093022208 then (bolterlaw02_Words.l0 k1 (x3_1 ++ [rdOf ByteArray.empty y327 (ji6)]) l0 (l0.length:Int) (wrap64 (x9_1 + 1))) else (none)) else (none)) else (none)) = some r:=by first|(rw [hji6] at H;exact H)|(simp only [hji6] at H ⊢;exact H)
       by_cases c7:0≤(ji6)
       ·rw [if_pos c7] at H
        have c7b0:decide (0≤(ji6)) = true:=decide_eq_true c7
        clear c7
        by_cases c8:(ji6) < (y327.length:Int)
        ·rw [if_pos c8] at H
         have c8b0:decide ((ji6) < (y327.length:Int)) = true:=decide_eq_true c8
         clear c8
         by_cases c9:x3_1.length < 8796093022208
         ·rw [if_pos c9] at H
          have LMc9:=Aside0.mk c9
          clear c9
          obtain ⟨y331,hy331⟩:∃ y_:List ByteArray,y_ = (x3_1 ++ [rdOf ByteArray.empty y327 (ji6)]):=⟨_,rfl⟩
          replace H:(bolterlaw02_Words.l0 k1 y331 l0 (l0.length:Int) (wrap64 (x9_1 + 1))) = some r:=by first|(rw [hy331];with_reducible exact H)|(have H2_:=(Option.bind_some _ _).symm.trans H;rw [hy331];with_reducible exact H2_)|(have H2_:=(Option.bind_some _ _).symm.trans H;with_reducible exact H2_)|with_reducible exact H|(rw [hy331];exact H)|exact H
          have Ny331:=Aside0.mk hy331
          clear hy331
          have H':=Aside0.mk H
          clear H
          have p326:0≤(x9_1:Int):=of_decide_eq_true (by first|(with_reducible assumption)|assumption)
          have q326:x9_1 < (l0.length:Int):=of_decide_eq_true (by first|(with_reducible assumption)|assumption)
          obtain ⟨ad326,e326,hx326_0⟩:=Kd.at_int HR0.out x9_1 p326 q326
          cases e326
          replace hx326_0:=(HB.out.cell (World.block_lt_of_cell? w _ hx326_0)).trans hx326_0
          replace p326:=eq_true p326
          replace q326:=eq_true q326
          go_wp2_with (first|((with_reducible refine gate_dst (N:=16) rfl ?_);refine Kd.R_lit Kd.string _ 9 ?hg (N:=16) ?hd (xs:=([(⟨#[97]⟩:ByteArray),(⟨#[98]⟩:ByteArray),(⟨#[99]⟩:ByteArray),(⟨#[119,119,119]⟩:ByteArray),(⟨#[101,120]⟩:ByteArray),(⟨#[111,114,103]⟩:ByteArray),(⟨#[42]⟩:ByteArray),(⟨#[114,112,122,45,105,112]⟩:ByteArray)]:List ByteArray)) (inner:=[.string (⟨#[97]⟩:ByteArray),.string (⟨#[98]⟩:ByteArray),.string (⟨#[99]⟩:ByteArray),.string (⟨#[119,119,119]⟩:ByteArray),.string (⟨#[101,120]⟩:ByteArray),.string (⟨#[111,114,103]⟩:ByteArray),.string (⟨#[42]⟩:ByteArray),.string (⟨#[114,112,122,45,105,112]⟩:ByteArray)]) (ok:=fun _=>True) (okp:=fun _=>True) ?hr ?hp (fun _ hk=>hk) trivial (Below.refl _ _) (Nat.le_refl _) (by simp) ?_;(case hd=>rfl);(case hg=>rfl);(case hr=>first|(go_simp;done)|(go_simp;rfl));(case hp=>exact (Reps.one (show Kd.M Kd.string _ _ _ (⟨#[97]⟩:ByteArray) [.string (⟨#[97]⟩:ByteArray)] from rfl) (Reps.one (show Kd.M Kd.string _ _ _ (⟨#[98]⟩:ByteArray) [.string (⟨#[98]⟩:ByteArray)] from rfl) (Reps.one (show Kd.M Kd.string _ _ _ (⟨#[99]⟩:ByteArray) [.string (⟨#[99]⟩:ByteArray)] from rfl) (Reps.one (show Kd.M Kd.string _ _ _ (⟨#[119,119,119]⟩:ByteArray) [.string (⟨#[119,119,119]⟩:ByteArray)] from rfl) (Reps.one (show Kd.M Kd.string _ _ _ (⟨#[101,120]⟩:ByteArray) [.string (⟨#[101,120]⟩:ByteArray)] from rfl) (Reps.one (show Kd.M Kd.string _ _ _ (⟨#[111,114,103]⟩:ByteArray) [.string (⟨#[111,114,103]⟩:ByteArray)] from rfl) (Reps.one (show Kd.M Kd.string _ _ _ (⟨#[42]⟩:ByteArray) [.string (⟨#[42]⟩:ByteArray)] from rfl) (Reps.one (show Kd.M Kd.string _ _ _ (⟨#[114,112,122,45,105,112]⟩:ByteArray) [.string (⟨#[114,112,122,45,105,112]⟩:ByteArray)] from rfl) (Reps.none _ _))))))))));intro v328 w10 ho11 hb hg_ hnew_;clear hg_ hnew_;(first|rw [← Ny327.out] at ho11|(simp only [Int.reduceToNat] at ho11;rw [← Ny327.out] at ho11));have n0_:=Aside0.mk (Kd.R_elder' (by (with_reducible repeat (first|apply Kd.R_alloc|apply Kd.R_drewN|apply Kd.R_drew));exact HO_3.out) (Kd.R_base ho11) hb);have n1_:=Aside0.mk (Kd.R_lower (Kd.R_new' ho11 (Kd.R_lt (by (with_reducible repeat (first|apply Kd.R_alloc|apply Kd.R_drewN|apply Kd.R_drew));exact HO_3.out))) (below_size (by repeat (first|(with_reducible first|exact HB.out|apply below_alloc|apply pw_below_drewN|apply below_drew1)|exact HB.out))));have n2_:=Aside0.mk (below_step (by repeat (first|(with_reducible first|exact HB.out|apply below_alloc|apply pw_below_drewN|apply below_drew1)|exact HB.out)) hb);clear HO_3;clear HB;have HO_3:=n0_;have HO329:=n1_;have HB:=n2_;clear n0_ n1_ n2_;clear hb ho11;obtain ⟨Ao12,co12,eo12⟩:=Kd.R_slice HO329.out;subst eo12;have p330:0≤((ji6):Int):=of_decide_eq_true (by first|(with_reducible assumption)|assumption);have q330:(ji6) < (y327.length:Int):=of_decide_eq_true (by first|(with_reducible assumption)|assumption);obtain ⟨ad330,e330,hx330_0⟩:=Kd.at_string (Kd.R_reads' HO329.out).2.2 (ji6) p330 q330;cases e330;replace p330:=eq_true p330;replace q330:=eq_true q330)|((with_reducible refine gate_builtin (b:=.append) (xs:=#[.tmp 17,.tmp 23]) rfl ?_);at_builtin;refine Kd.R_append Kd.string (w0:=w) w.heap.size rfl (.tmp 17) (.tmp 23) 81 9 (.string ⟨#[]⟩) 16 rfl Tryd.underlying81 info9 rfl (by decide) (by omega) u3 x3_1 (rdOf ByteArray.empty y327 (ji6)) [.string (rdOf ByteArray.empty y327 (ji6))] (fun k_=>some k_≠(.slice (some ad330) y327.length co12:Value).ownBlock) (fun _=>False) rfl rfl ?aP (fun _ hk=>hk.elim) ?aF ?aO ?aB ?aS ?aL ?_;(case aP=>exact rfl);(case aB=>exact (by repeat (first|(with_reducible first|exact HB.out|apply below_alloc|apply pw_below_drewN|apply below_drew1)|exact HB.out)));(case aF=>exact (fun k_ hk=>Kd.fresh' (Kd.R_lt (by (with_reducible repeat (first|apply Kd.R_alloc|apply Kd.R_drewN|apply Kd.R_drew));exact HO329.out)) k_ hk));(case aO=>exact (by (with_reducible repeat (first|apply Kd.R_alloc|apply Kd.R_drewN|apply Kd.R_drew));exact Kd.R_mono HO_3.out (fun _ hk=>hk.2)));(case aS=>exact (below_size (by repeat (first|(with_reducible first|exact HB.out|apply below_alloc|apply pw_below_drewN|apply below_drew1)|exact HB.out))));(case aL=>have:=LMc9.out;omega);intro v332 w13 ho hb hg hat;rw [← Ny331.out] at ho;have n0_:=Aside0.mk (Kd.R_after (ok:=(fun _=>True)) (by (with_reducible repeat (first|apply Kd.R_alloc|apply Kd.R_drewN|apply Kd.R_drew));exact HO329.out) hg hat);have n1_:=Aside0.mk (hb);have n2_:=Aside0.mk (ho);clear HO329;clear HB;clear HO_3;have HO329:=n0_;have HB:=n1_;have HO333:=n2_;clear n0_ n1_ n2_;clear ho hb hg hat))
          go_roundg k1
          case measure=>have:=HK1.out;omega
          case rel=>exact ⟨(y331),(wrap64 (x9_1 + 1)),(by first|rfl|(simp;done)|(simp [*];done)),H',⟨by have:=HK1.out;omega⟩,⟨by (with_reducible repeat (first|apply Kd.R_alloc|apply Kd.R_drewN|apply Kd.R_drew));exact Kd.R_mono HO333.out (fun _ hk=>trivial)⟩,⟨by repeat (first|(with_reducible first|exact HB.out|apply below_alloc|apply pw_below_drewN|apply below_drew1)|exact HB.out)⟩⟩
         ·rw [if_neg c9] at H
          exact absurd H (by simp)
        ·rw [if_neg c8] at H
         exact absurd H (by simp)
       ·rw [if_neg c7] at H
        exact absurd H (by simp)
     ·rw [if_neg c4] at H
      exact absurd H (by simp)
    ·rw [if_neg c3] at H
     exact absurd H (by simp)
   ·rw [if_neg c2] at H
    have c2b0:decide (x9_1 < (l0.length:Int)) = false:=decide_eq_false c2
    clear c2
    obtain rfl:=Option.some.inj H
    go_wp2
    go_ret
    exact ⟨_,by first|rfl|(simp [errW_none,errW_some] <;> rfl)|(simp [*,errW_none,errW_some] <;> rfl),by (with_reducible repeat (first|apply Kd.R_alloc|apply Kd.R_drewN|apply Kd.R_drew));exact HO_3.out,by repeat (first|(with_reducible first|exact HB.out|apply below_alloc|apply pw_below_drewN|apply below_drew1)|exact HB.out)⟩
def bolterlaw02_Name.f (k:Nat) (l0:List Int):Option (ByteArray):=(bolterlaw02_Words.f k l0).bind fun t334=>((name_Make.f t334).bind fun bt337=>(some bt337.1))
theorem bolterlaw02_Name.mono:∀ a0 k,LeO (bolterlaw02_Name.f k a0) (bolterlaw02_Name.f (k + 1) a0):=by
 intro a0 k
 unfold bolterlaw02_Name.f
 repeat' first
   | (with_reducible exact bolterlaw02_Words.mono _ _)
   | (with_reducible exact LeO.refl _)
   | (with_reducible exact LeO.none _)
   | (with_reducible refine LeO.ite ?_ ?_)
   | (with_reducible refine LeO.bind ?_ (fun _=>?_))
   | exact bolterlaw02_Words.mono _ _
   | exact LeO.none _
   | refine LeO.ite ?_ ?_
   | refine LeO.bind ?_ (fun _=>?_)
set_option maxHeartbeats 8000000 in
set_option maxRecDepth 100000 in
theorem bolterlaw02_Name.calls (k:Nat) (A0:Option Addr) (c0:Nat) (l0:List Int) (r:ByteArray) (w:World) (hr0:Kd.C (Kd.int .u8) w A0 l0.length l0) (hc0:l0.length≤c0) (h:bolterlaw02_Name.f k l0 = some r) :
  Calls Tryd.prog 22 #[.slice A0 l0.length c0] w fun e w'=>e = .returned (.string r)∧Below w.heap.size w w':=by
 have HR0:=Aside0.mk hr0
 have HC0:=Aside0.mk hc0
 clear hr0 hc0
 have HB:=Aside0.mk (Below.refl w.heap.size w)
 have H:((bolterlaw02_Words.f k l0).bind fun t334=>((name_Make.f t334).bind fun bt337=>(some bt337.1))) = some r:=h
 clear h
 replace H:=Option.bind_eq_some_iff.mp H
 obtain ⟨t334,A20,H⟩:=H
 replace H:((name_Make.f t334).bind fun bt337=>(some bt337.1)) = some r:=H
 have A2:=Aside0.mk A20
 clear A20
 replace H:=Option.bind_eq_some_iff.mp H
 obtain ⟨⟨t337,t338⟩,A30,H⟩:=H
 replace H:(some t337) = some r:=H
 have A3:=Aside0.mk A30
 clear A30
 obtain rfl:=Option.some.inj H
 go_enter Tryd.func22,Tryd.ntmps22
 go_wp2_with (first|((with_reducible refine gate_callee (f:=37) rfl ?_);refine goesL_ (some 7) rfl rfl Tryd.func37 (by kernel_rfl) rfl #[.slice A0 l0.length c0] rfl (by (try simp only [List.map_toArray,List.map_cons,List.map_nil]) <;> first|rfl|(simp only [List.length_drop,List.length_take];rfl)) ?_;(with_reducible refine (bolterlaw02_Words.calls k _ _ l0 t334 _ ?side1 ?side2 A2.out).mono ?_);(case side1=>repeat (first|exact HR0.out|(with_reducible refine Kd.C_alloc ?_ _)|(with_reducible refine Kd.C_drewN ?_ _)|(with_reducible refine Kd.C_drew ?_)));(case side2=>exact HC0.out);rintro e w4 ⟨v335,rfl,ho0,hb⟩;refine ⟨_,rfl,?_⟩;have n0_:=Aside0.mk (Kd.R_lower ho0 (below_size (by repeat (first|(with_reducible first|exact HB.out|apply below_alloc|apply pw_below_drewN|apply below_drew1)|exact HB.out))));have n1_:=Aside0.mk (below_step (by repeat (first|(with_reducible first|exact HB.out|apply below_alloc|apply pw_below_drewN|apply below_drew1)|exact HB.out)) hb);clear HB;have HO336:=n0_;have HB:=n1_;clear n0_ n1_;(try clear hb);(try clear hb2);(try clear hk);(try clear hi);(try clear ho0);obtain ⟨Ao5,co5,eo5⟩:=Kd.R_slice HO336.out;subst eo5)|((with_reducible refine gate_callee (f:=36) rfl ?_);refine goesL_ (some 8) rfl rfl Tryd.func36 (by kernel_rfl) rfl #[.slice Ao5 t334.length co5] rfl (by (try simp only [List.map_toArray,List.map_cons,List.map_nil]) <;> first|rfl|(simp only [List.length_drop,List.length_take];rfl)) ?_;(with_reducible refine (name_Make.calls _ _ t334 t337 t338 _ ?side1 ?side2 A3.out).mono ?_);(case side1=>repeat (first|exact (Kd.R_reads' HO336.out).2.2|(with_reducible refine Kd.C_alloc ?_ _)|(with_reducible refine Kd.C_drewN ?_ _)|(with_reducible refine Kd.C_drew ?_)));(case side2=>exact (Kd.R_reads' HO336.out).2.1);rintro e w6 ⟨rfl,hb⟩;refine ⟨_,rfl,?_⟩;have n0_:=Aside0.mk (Kd.R_below (by (with_reducible repeat (first|apply Kd.R_alloc|apply Kd.R_drewN|apply Kd.R_drew));exact HO336.out) hb);have n1_:=Aside0.mk (below_step (by repeat (first|(with_reducible first|exact HB.out|apply below_alloc|apply pw_below_drewN|apply below_drew1)|exact HB.out)) hb);clear HO336;clear HB;have HO336:=n0_;have HB:=n1_;clear n0_ n1_;(try clear hb);(try clear hb2);(try clear hk);(try clear hi)))
 go_ret
 exact ⟨by first|rfl|(simp [errW_none,errW_some] <;> rfl)|(simp [*,errW_none,errW_some] <;> rfl),by repeat (first|(with_reducible first|exact HB.out|apply below_alloc|apply pw_below_drewN|apply below_drew1)|exact HB.out)⟩
def bolterlaw09_Origin.f (k:Nat) (a0:Int):Option (ByteArray):=(bolterlaw02_Name.f k (([Int.tmod a0 6]:List Int))).bind fun t342=>(some t342)
theorem bolterlaw09_Origin.mono:∀ a0 k,LeO (bolterlaw09_Origin.f k a0) (bolterlaw09_Origin.f (k + 1) a0):=by
 intro a0 k
 unfold bolterlaw09_Origin.f
 repeat' first
   | (with_reducible exact bolterlaw02_Name.mono _ _)
   | (with_reducible exact LeO.refl _)
   | (with_reducible exact LeO.none _)
   | (with_reducible refine LeO.ite ?_ ?_)
   | (with_reducible refine LeO.bind ?_ (fun _=>?_))
   | exact bolterlaw02_Name.mono _ _
   | exact LeO.none _
   | refine LeO.ite ?_ ?_
   | refine LeO.bind ?_ (fun _=>?_)
set_option maxHeartbeats 8000000 in
set_option maxRecDepth 100000 in
theorem bolterlaw09_Origin.calls (k:Nat) (a0:Int) (r:ByteArray) (w:World) (h:bolterlaw09_Origin.f k a0 = some r) :
  Calls Tryd.prog 8 #[.int .u8 a0] w fun e w'=>e = .returned (.string r)∧Below w.heap.size w w':=by
 have HB:=Aside0.mk (Below.refl w.heap.size w)
 have H:((bolterlaw02_Name.f k (([Int.tmod a0 6]:List Int))).bind fun t342=>(some t342)) = some r:=h
 clear h
 obtain ⟨y339,hy339⟩:∃ y_:List Int,y_ = (([Int.tmod a0 6]:List Int)):=⟨_,rfl⟩
 replace H:((bolterlaw02_Name.f k y339).bind fun t342=>(some t342)) = some r:=by first|(rw [hy339];with_reducible exact H)|(have H2_:=(Option.bind_some _ _).symm.trans H;rw [hy339];with_reducible exact H2_)|(have H2_:=(Option.bind_some _ _).symm.trans H;with_reducible exact H2_)|with_reducible exact H|(rw [hy339];exact H)|exact H
 have Ny339:=Aside0.mk hy339
 clear hy339
 replace H:=Option.bind_eq_some_iff.mp H
 obtain ⟨t342,A20,H⟩:=H
 replace H:(some t342) = some r:=H
 have A2:=Aside0.mk A20
 clear A20
 obtain rfl:=Option.some.inj H
 go_enter Tryd.func8,Tryd.ntmps8
 go_wp2_with (first|((with_reducible refine gate_dst (N:=5) rfl ?_);refine Kd.R_lit (Kd.int .u8) _ 5 ?hg (N:=5) ?hd (xs:=([Int.tmod a0 6]:List Int)) (inner:=[.int .u8 (Int.tmod a0 6)]) (ok:=fun _=>True) (okp:=fun _=>True) ?hr ?hp (fun _ hk=>hk) trivial (Below.refl _ _) (Nat.le_refl _) (by simp) ?_;(case hd=>rfl);(case hg=>rfl);(case hr=>first|(go_simp;done)|(go_simp;rfl));(case hp=>exact (Reps.one (show Kd.M (Kd.int .u8) _ _ _ (Int.tmod a0 6) [.int .u8 (Int.tmod a0 6)] from rfl) (Reps.none _ _)));intro v340 w3 ho4 hb hg_ hnew_;clear hg_ hnew_;(first|rw [← Ny339.out] at ho4|(simp only [Int.reduceToNat] at ho4;rw [← Ny339.out] at ho4));have n0_:=Aside0.mk (Kd.R_lower ho4 (below_size (by repeat (first|(with_reducible first|exact HB.out|apply below_alloc|apply pw_below_drewN|apply below_drew1)|exact HB.out))));have n1_:=Aside0.mk (below_step (by repeat (first|(with_reducible first|exact HB.out|apply below_alloc|apply pw_below_drewN|apply below_drew1)|exact HB.out)) hb);clear HB;have HO341:=n0_;have HB:=n1_;clear n0_ n1_;clear hb ho4;obtain ⟨Ao5,co5,eo5⟩:=Kd.R_slice HO341.out;subst eo5)|((with_reducible refine gate_callee (f:=22) rfl ?_);refine goesL_ (some 6) rfl rfl Tryd.func22 (by kernel_rfl) rfl #[.slice Ao5 y339.length co5] rfl (by (try simp only [List.map_toArray,List.map_cons,List.map_nil]) <;> first|rfl|(simp only [List.length_drop,List.length_take];rfl)) ?_;(with_reducible refine (bolterlaw02_Name.calls k _ _ y339 t342 _ ?side1 ?side2 A2.out).mono ?_);(case side1=>repeat (first|exact (Kd.R_reads' HO341.out).2.2|(with_reducible refine Kd.C_alloc ?_ _)|(with_reducible refine Kd.C_drewN ?_ _)|(with_reducible refine Kd.C_drew ?_)));(case side2=>exact (Kd.R_reads' HO341.out).2.1);rintro e w6 ⟨rfl,hb⟩;refine ⟨_,rfl,?_⟩;have n0_:=Aside0.mk (Kd.R_below (by (with_reducible repeat (first|apply Kd.R_alloc|apply Kd.R_drewN|apply Kd.R_drew));exact HO341.out) hb);have n1_:=Aside0.mk (below_step (by repeat (first|(with_reducible first|exact HB.out|apply below_alloc|apply pw_below_drewN|apply below_drew1)|exact HB.out)) hb);clear HO341;clear HB;have HO341:=n0_;have HB:=n1_;clear n0_ n1_;(try clear hb);(try clear hb2);(try clear hk);(try clear hi)))
 go_ret
 exact ⟨by first|rfl|(simp [errW_none,errW_some] <;> rfl)|(simp [*,errW_none,errW_some] <;> rfl),by repeat (first|(with_reducible first|exact HB.out|apply below_alloc|apply pw_below_drewN|apply below_drew1)|exact HB.out)⟩
def bolterlaw07_Make.f (k:Nat) (l0:List Int) (a1:Int) (a2:Int) (a3:Int) (a4:Int):Option (ByteArray):=(bolterlaw02_Name.f k l0).bind fun t343=>(if t343.size + 1≤9223372036854775807 then (if (t343 ++ (⟨#[0]⟩:ByteArray)).size + t343.size≤9223372036854775807 then (if ((t343 ++ (⟨#[0]⟩:ByteArray)) ++ t343).size + 1≤9223372036854775807 then ((num_Put32.f k ([]:List Int) (([a1,(a2) % 4294967296,(a3) % 4294967296,(a4) % 4294967296,1]:List Int))).bind fun t347=>(if (((t343 ++ (⟨#[0]⟩:ByteArray)) ++ t343) ++ (⟨#[0]⟩:ByteArray)).size + (strOfNums t347).size≤9223372036854775807 then (some ((((t343 ++ (⟨#[0]⟩:ByteArray)) ++ t343) ++ (⟨#[0]⟩:ByteArray)) ++ (strOfNums t347))) else (none))) else (none)) else (none)) else (none))
theorem bolterlaw07_Make.mono:∀ a0 a1 a2 a3 a4 k,LeO (bolterlaw07_Make.f k a0 a1 a2 a3 a4) (bolterlaw07_Make.f (k + 1) a0 a1 a2 a3 a4):=by
 intro a0 a1 a2 a3 a4 k
 unfold bolterlaw07_Make.f
 repeat' first
   | (with_reducible exact bolterlaw02_Name.mono _ _)
   | (with_reducible exact num_Put32.mono _ _ _)
   | (with_reducible exact LeO.refl _)
   | (with_reducible exact LeO.none _)
   | (with_reducible refine LeO.ite ?_ ?_)
   | (with_reducible refine LeO.bind ?_ (fun _=>?_))
   | exact bolterlaw02_Name.mono _ _
   | exact num_Put32.mono _ _ _
   | exact LeO.none _
   | refine LeO.ite ?_ ?_
   | refine LeO.bind ?_ (fun _=>?_)
set_option maxHeartbeats 8000000 in
set_option maxRecDepth 100000 in
theorem bolterlaw07_Make.calls (k:Nat) (A0:Option Addr) (c0:Nat) (l0:List Int) (a1:Int) (a2:Int) (a3:Int) (a4:Int) (r:ByteArray) (w:World) (hr0:Kd.C (Kd.int .u8) w A0 l0.length l0) (hc0:l0.length≤c0) (h:bolterlaw07_Make.f k l0 a1 a2 a3 a4 = some r) :
  Calls Tryd.prog 25 #[.slice A0 l0.length c0,.int .u32 a1,.int .u8 a2,.int .u8 a3,.int .u8 a4] w fun e w'=>e = .returned (.string r)∧Below w.heap.size w w':=by
 have HR0:=Aside0.mk hr0
 have HC0:=Aside0.mk hc0
 clear hr0 hc0
 have HB:=Aside0.mk (Below.refl w.heap.size w)
 have H:((bolterlaw02_Name.f k l0).bind fun t343=>(if t343.size + 1≤9223372036854775807 then (if (t343 ++ (⟨#[0]⟩:ByteArray)).size + t343.size≤9223372036854775807 then (if ((t343 ++ (⟨#[0]⟩:ByteArray)) ++ t343).size + 1≤9223372036854775807 then ((num_Put32.f k ([]:List Int) (([a1,(a2) % 4294967296,(a3) % 4294967296,(a4) % 4294967296,1]:List Int))).bind fun t347=>(if (((t343 ++ (⟨#[0]⟩:ByteArray)) ++ t343) ++ (⟨#[0]⟩:ByteArray)).size + (strOfNums t347).size≤9223372036854775807 then (some ((((t343 ++ (⟨#[0]⟩:ByteArray)) ++ t343) ++ (⟨#[0]⟩:ByteArray)) ++ (strOfNums t347))) else (none))) else (none)) else (none)) else (none))) = some r:=h
 clear h
 replace H:=Option.bind_eq_some_iff.mp H
 obtain ⟨t343,A60,H⟩:=H
 replace H:(if t343.size + 1≤9223372036854775807 then (if (t343 ++ (⟨#[0]⟩:ByteArray)).size + t343.size≤9223372036854775807 then (if ((t343 ++ (⟨#[0]⟩:ByteArray)) ++ t343).size + 1≤9223372036854775807 then ((num_Put32.f k ([]:List Int) (([a1,(a2) % 4294967296,(a3) % 4294967296,(a4) % 4294967296,1]:List Int))).bind fun t347=>(if (((t343 ++ (⟨#[0]⟩:ByteArray)) ++ t343) ++ (⟨#[0]⟩:ByteArray)).size + (strOfNums t347).size≤9223372036854775807 then (some ((((t343 ++ (⟨#[0]⟩:ByteArray)) ++ t343) ++ (⟨#[0]⟩:ByteArray)) ++ (strOfNums t347))) else (none))) else (none)) else (none)) else (none)) = some r:=H
 have A6:=Aside0.mk A60
 clear A60
 by_cases c7:t343.size + 1≤9223372036854775807
 ·rw [if_pos c7] at H
  have c7b0:=eq_true c7
  have c7b1:decide (t343.size + 1≤9223372036854775807) = true:=decide_eq_true c7
  try have c7b2:(9223372036854775807 < t343.size + 1) = False:=eq_false (Nat.not_lt.2 c7)
  by_cases c8:(t343 ++ (⟨#[0]⟩:ByteArray)).size + t343.size≤9223372036854775807
  ·rw [if_pos c8] at H
   (try (have c8S:=c8;simp only [ByteArray.size_append] at c8S;have c8Sb:=eq_true c8S;have c8Sn:=eq_false (Nat.not_lt.2 c8S);clear c8S))
   (try (have c8Q:=c8;simp only [ByteArray.size_append,show (⟨#[0]⟩:ByteArray).size = 1 from rfl] at c8Q;have c8Qb:=eq_true c8Q;have c8Qn:=eq_false (Nat.not_lt.2 c8Q);clear c8Q))
   have c8b0:=eq_true c8
   have c8b1:decide ((t343 ++ (⟨#[0]⟩:ByteArray)).size + t343.size≤9223372036854775807) = true:=decide_eq_true c8
   try have c8b2:(9223372036854775807 < (t343 ++ (⟨#[0]⟩:ByteArray)).size + t343.size) = False:=eq_false (Nat.not_lt.2 c8)
   by_cases c9:((t343 ++ (⟨#[0]⟩:ByteArray)) ++ t343).size + 1≤9223372036854775807
   ·rw [if_pos c9] at H
    (try (have c9S:=c9;simp only [ByteArray.size_append] at c9S;have c9Sb:=eq_true c9S;have c9Sn:=eq_false (Nat.not_lt.2 c9S);clear c9S))
    (try (have c9Q:=c9;simp only [ByteArray.size_append,show (⟨#[0]⟩:ByteArray).size = 1 from rfl] at c9Q;have c9Qb:=eq_true c9Q;have c9Qn:=eq_false (Nat.not_lt.2 c9Q);clear c9Q))
    have c9b0:=eq_true c9
    have c9b1:decide (((t343 ++ (⟨#[0]⟩:ByteArray)) ++ t343).size + 1≤9223372036854775807) = true:=decide_eq_true c9
    try have c9b2:(9223372036854775807 < ((t343 ++ (⟨#[0]⟩:ByteArray)) ++ t343).size + 1) = False:=eq_false (Nat.not_lt.2 c9)
    obtain ⟨y344,hy344⟩:∃ y_:List Int,y_ = (([a1,(a2) % 4294967296,(a3) % 4294967296,(a4) % 4294967296,1]:List Int)):=⟨_,rfl⟩
    replace H:((num_Put32.f k ([]:List Int) y344).bind fun t347=>(if (((t343 ++ (⟨#[0]⟩:ByteArray)) ++ t343) ++ (⟨#[0]⟩:ByteArray)).size + (strOfNums t347).size≤9223372036854775807 then (some ((((t343 ++ (⟨#[0]⟩:ByteArray)) ++ t343) ++ (⟨#[0]⟩:ByteArray)) ++ (strOfNums t347))) else (none))) = some r:=by first|(rw [hy344];with_reducible exact H)|(have H2_:=(Option.bind_some _ _).symm.trans H;rw [hy344];with_reducible exact H2_)|(have H2_:=(Option.bind_some _ _).symm.trans H;with_reducible exact H2_)|with_reducible exact H|(rw [hy344];exact H)|exact H
    have Ny344:=Aside0.mk hy344
    clear hy344
    replace H:=Option.bind_eq_some_iff.mp H
    obtain ⟨t347,A100,H⟩:=H
    replace H:(if (((t343 ++ (⟨#[0]⟩:ByteArray)) ++ t343) ++ (⟨#[0]⟩:ByteArray)).size + (strOfNums t347).size≤9223372036854775807 then (some ((((t343 ++ (⟨#[0]⟩:ByteArray)) ++ t343) ++ (⟨#[0]⟩:ByteArray)) ++ (strOfNums t347))) else (none)) = some r:=H
    have A10:=Aside0.mk A100
    clear A100
    by_cases c11:(((t343 ++ (⟨#[0]⟩:ByteArray)) ++ t343) ++ (⟨#[0]⟩:ByteArray)).size + (strOfNums t347).size≤9223372036854775807
    ·rw [if_pos c11] at H
     (try (have c11S:=c11;simp only [ByteArray.size_append] at c11S;have c11Sb:=eq_true c11S;have c11Sn:=eq_false (Nat.not_lt.2 c11S);clear c11S))
     (try (have c11Q:=c11;simp only [ByteArray.size_append,show (⟨#[0]⟩:ByteArray).size = 1 from rfl] at c11Q;have c11Qb:=eq_true c11Q;have c11Qn:=eq_false (Nat.not_lt.2 c11Q);clear c11Q))
     have c11b0:=eq_true c11
     have c11b1:decide ((((t343 ++ (⟨#[0]⟩:ByteArray)) ++ t343) ++ (⟨#[0]⟩:ByteArray)).size + (strOfNums t347).size≤9223372036854775807) = true:=decide_eq_true c11
     try have c11b2:(9223372036854775807 < (((t343 ++ (⟨#[0]⟩:ByteArray)) ++ t343) ++ (⟨#[0]⟩:ByteArray)).size + (strOfNums t347).size) = False:=eq_false (Nat.not_lt.2 c11)
     obtain rfl:=Option.some.inj H
     go_enter Tryd.func25,Tryd.ntmps25
     go_wp2_with (first|((with_reducible refine gate_callee (f:=22) rfl ?_);refine goesL_ (some 13) rfl rfl Tryd.func22 (by kernel_rfl) rfl #[.slice A0 l0.length c0] rfl (by (try simp only [List.map_toArray,List.map_cons,List.map_nil]) <;> first|rfl|(simp only [List.length_drop,List.length_take];rfl)) ?_;(with_reducible refine (bolterlaw02_Name.calls k _ _ l0 t343 _ ?side1 ?side2 A6.out).mono ?_);(case side1=>repeat (first|exact HR0.out|(with_reducible refine Kd.C_alloc ?_ _)|(with_reducible refine Kd.C_drewN ?_ _)|(with_reducible refine Kd.C_drew ?_)));(case side2=>exact HC0.out);rintro e w12 ⟨rfl,hb⟩;refine ⟨_,rfl,?_⟩;have n0_:=Aside0.mk (below_step (by repeat (first|(with_reducible first|exact HB.out|apply below_alloc|apply pw_below_drewN|apply below_drew1)|exact HB.out)) hb);clear HB;have HB:=n0_;clear n0_;(try clear hb);(try clear hb2);(try clear hk);(try clear hi))|((with_reducible refine gate_dst (N:=26) rfl ?_);refine Kd.R_lit (Kd.int .u32) _ 30 ?hg (N:=26) ?hd (xs:=([a1,(a2) % 4294967296,(a3) % 4294967296,(a4) % 4294967296,1]:List Int)) (inner:=[.int .u32 a1,.int .u32 ((a2) % 4294967296),.int .u32 ((a3) % 4294967296),.int .u32 ((a4) % 4294967296),.int .u32 1]) (ok:=fun _=>True) (okp:=fun _=>True) ?hr ?hp (fun _ hk=>hk) trivial (Below.refl _ _) (Nat.le_refl _) (by simp) ?_;(case hd=>rfl);(case hg=>rfl);(case hr=>first|(go_simp;done)|(go_simp;rfl));(case hp=>exact (Reps.one (show Kd.M (Kd.int .u32) _ _ _ a1 [.int .u32 a1] from rfl) (Reps.one (show Kd.M (Kd.int .u32) _ _ _ ((a2) % 4294967296) [.int .u32 ((a2) % 4294967296)] from rfl) (Reps.one (show Kd.M (Kd.int .u32) _ _ _ ((a3) % 4294967296) [.int .u32 ((a3) % 4294967296)] from rfl) (Reps.one (show Kd.M (Kd.int .u32) _ _ _ ((a4) % 4294967296) [.int .u32 ((a4) % 4294967296)] from rfl) (Reps.one (show Kd.M (Kd.int .u32) _ _ _ 1 [.int .u32 1] from rfl) (Reps.none _ _)))))));intro v345 w13 ho14 hb hg_ hnew_;clear hg_ hnew_;(first|rw [← Ny344.out] at ho14|(simp only [Int.reduceToNat] at ho14;rw [← Ny344.out] at ho14));have n0_:=Aside0.mk (Kd.R_lower ho14 (below_size (by repeat (first|(with_reducible first|exact HB.out|apply below_alloc|apply pw_below_drewN|apply below_drew1)|exact HB.out))));have n1_:=Aside0.mk (below_step (by repeat (first|(with_reducible first|exact HB.out|apply below_alloc|apply pw_below_drewN|apply below_drew1)|exact HB.out)) hb);clear HB;have HO346:=n0_;have HB:=n1_;clear n0_ n1_;clear hb ho14;obtain ⟨Ao15,co15,eo15⟩:=Kd.R_slice HO346.out;subst eo15)|((with_reducible refine gate_callee (f:=34) rfl ?_);refine goesL_ (some 27) rfl rfl Tryd.func34 (by kernel_rfl) rfl #[.slice none 0 0,.slice Ao15 y344.length co15] rfl (by (try simp only [List.map_toArray,List.map_cons,List.map_nil]) <;> first|rfl|(simp only [List.length_drop,List.length_take];rfl)) ?_;(refine (num_Put32.calls k _ _ ([]:List Int) _ _ y344 t347 _ ?side1 ?side2 ?side3 ?side4 A10.out).mono ?_);(case side1=>exact Kd.C_nil _ _);(case side2=>exact Nat.le_refl _);(case side3=>repeat (first|exact (Kd.R_reads' HO346.out).2.2|(with_reducible refine Kd.C_alloc ?_ _)|(with_reducible refine Kd.C_drewN ?_ _)|(with_reducible refine Kd.C_drew ?_)));(case side4=>exact (Kd.R_reads' HO346.out).2.1);rintro e w16 ⟨v348,rfl,ho0,hb⟩;refine ⟨_,rfl,?_⟩;have n0_:=Aside0.mk (Kd.R_below (by (with_reducible repeat (first|apply Kd.R_alloc|apply Kd.R_drewN|apply Kd.R_drew));exact HO346.out) hb);have n1_:=Aside0.mk (Kd.R_lower ho0 (below_size (by repeat (first|(with_reducible first|exact HB.out|apply below_alloc|apply pw_below_drewN|apply below_drew1)|exact HB.out))));have n2_:=Aside0.mk (below_step (by repeat (first|(with_reducible first|exact HB.out|apply below_alloc|apply pw_below_drewN|apply below_drew1)|exact HB.out)) hb);clear HO346;clear HB;have HO346:=n0_;have HO349:=n1_;have HB:=n2_;clear n0_ n1_ n2_;(try clear hb);(try clear hb2);(try clear hk);(try clear hi);(try clear ho0);have hcv17:=own_string (P:=Tryd.prog) Tryd.underlying43 Tryd.underlying5 Tryd.underlying9 (Kd.own_of_R HO349.out);have hcvd18:=fun m_:Nat=>own_string (P:=Tryd.prog) Tryd.underlying43 Tryd.underlying5 Tryd.underlying9 (pw_own_drewN (Kd.own_of_R HO349.out) m_)))
     go_ret
     exact ⟨by first|rfl|(simp [errW_none,errW_some] <;> rfl)|(simp [*,errW_none,errW_some] <;> rfl),by repeat (first|(with_reducible first|exact HB.out|apply below_alloc|apply pw_below_drewN|apply below_drew1)|exact HB.out)⟩
    ·rw [if_neg c11] at H
     exact absurd H (by simp)
   ·rw [if_neg c9] at H
    exact absurd H (by simp)
  ·rw [if_neg c8] at H
   exact absurd H (by simp)
 ·rw [if_neg c7] at H
  exact absurd H (by simp)
def bolterlaw09_Soa.f (k:Nat) (a0:ByteArray) (a1:Int):Option (ByteArray × Int × Int × ByteArray):=(bolterlaw07_Make.f k ([]:List Int) a1 10 3 40).bind fun t351=>(some (a0,6,9,t351))
theorem bolterlaw09_Soa.mono:∀ a0 a1 k,LeO (bolterlaw09_Soa.f k a0 a1) (bolterlaw09_Soa.f (k + 1) a0 a1):=by
 intro a0 a1 k
 unfold bolterlaw09_Soa.f
 repeat' first
   | (with_reducible exact bolterlaw07_Make.mono _ _ _ _ _ _)
   | (with_reducible exact LeO.refl _)
   | (with_reducible exact LeO.none _)
   | (with_reducible refine LeO.ite ?_ ?_)
   | (with_reducible refine LeO.bind ?_ (fun _=>?_))
   | exact bolterlaw07_Make.mono _ _ _ _ _ _
   | exact LeO.none _
   | refine LeO.ite ?_ ?_
   | refine LeO.bind ?_ (fun _=>?_)
set_option maxHeartbeats 8000000 in
set_option maxRecDepth 100000 in
theorem bolterlaw09_Soa.calls (k:Nat) (a0:ByteArray) (a1:Int) (r1:ByteArray) (r2:Int) (r3:Int) (r4:ByteArray) (w:World) (h:bolterlaw09_Soa.f k a0 a1 = some (r1,r2,r3,r4)) :
  Calls Tryd.prog 10 #[.string a0,.int .u32 a1] w fun e w'=>e = .returned (.agg #[.string r1,.int .u16 r2,.int .u32 r3,.string r4])∧Below w.heap.size w w':=by
 have hu32:=Tryd.underlying32
 have HB:=Aside0.mk (Below.refl w.heap.size w)
 have H:((bolterlaw07_Make.f k ([]:List Int) a1 10 3 40).bind fun t351=>(some (a0,6,9,t351))) = some (r1,r2,r3,r4):=h
 clear h
 replace H:=Option.bind_eq_some_iff.mp H
 obtain ⟨t351,A30,H⟩:=H
 replace H:(some (a0,6,9,t351)) = some (r1,r2,r3,r4):=H
 have A3:=Aside0.mk A30
 clear A30
 simp only [Option.some.injEq,Prod.mk.injEq] at H
 obtain ⟨rfl,rfl,rfl,rfl⟩:=H
 go_enter Tryd.func10,Tryd.ntmps10
 go_wp2_with (first|((with_reducible refine gate_dst (N:=4) rfl ?_);refine box_event ?hg (N:=4) ?hd (cs:=#[.string (⟨#[]⟩:ByteArray),.int .u16 0,.int .u32 0,.string (⟨#[]⟩:ByteArray)]) (t:=32) ?hr ?_;(case hd=>rfl);(case hg=>rfl);(case hr=>first|(go_simp;done)|(go_simp;rfl));intro gb350 hg w4 hbox hb;have n0_:=Aside0.mk (below_step (by repeat (first|(with_reducible first|exact HB.out|apply below_alloc|apply pw_below_drewN|apply below_drew1)|exact HB.out)) hb);have n1_:=Aside0.mk (hbox);have n2_:=Aside0.mk ((by rw [hg];exact (below_size (by repeat (first|(with_reducible first|exact HB.out|apply below_alloc|apply pw_below_drewN|apply below_drew1)|exact HB.out))):w.heap.size≤gb350));have n3_:=Aside0.mk ((by rw [hg];exact (below_size (by repeat (first|(with_reducible first|exact HB.out|apply below_alloc|apply pw_below_drewN|apply below_drew1)|exact HB.out))):w.heap.size≤gb350));clear HB;have HB:=n0_;have BK350:=n1_;have GW350:=n2_;have GE350:=n3_;clear n0_ n1_ n2_ n3_;clear hb hbox hg)|((with_reducible refine gate_callee (f:=25) rfl ?_);refine goesL_ (some 7) rfl rfl Tryd.func25 (by kernel_rfl) rfl #[.slice none 0 0,.int .u32 a1,.int .u8 10,.int .u8 3,.int .u8 40] rfl (by (try simp only [List.map_toArray,List.map_cons,List.map_nil]) <;> first|rfl|(simp only [List.length_drop,List.length_take];rfl)) ?_;(refine (bolterlaw07_Make.calls k _ _ ([]:List Int) a1 10 3 40 t351 _ ?side1 ?side2 A3.out).mono ?_);(case side1=>exact Kd.C_nil _ _);(case side2=>exact Nat.le_refl _);rintro e w5 ⟨rfl,hb⟩;refine ⟨_,rfl,?_⟩;have n0_:=Aside0.mk (blk_below (g:=gb350) (o:=.cells #[.string (⟨#[]⟩:ByteArray),.int .u16 0,.int .u32 0,.string (⟨#[]⟩:ByteArray)] 32 (0,0)) (by (with_reducible repeat (first|apply blk_drewN|apply blk_drew|apply blk_alloc));exact BK350.out) hb);have n1_:=Aside0.mk (below_step (by repeat (first|(with_reducible first|exact HB.out|apply below_alloc|apply pw_below_drewN|apply below_drew1|refine below_set ?_ GE350.out)|exact HB.out)) hb);clear BK350;clear HB;have BK350:=n0_;have HB:=n1_;clear n0_ n1_;(try clear hb);(try clear hb2);(try clear hk);(try clear hi);have hcz6_0:w5.cell? ⟨gb350,0,none⟩ = some (.string (⟨#[]⟩:ByteArray)):=(blk_cell BK350.out 0).trans rfl;have hcz6_1:w5.cell? ⟨gb350,1,none⟩ = some (.int .u16 0):=(blk_cell BK350.out 1).trans rfl;have hcz6_2:w5.cell? ⟨gb350,2,none⟩ = some (.int .u32 0):=(blk_cell BK350.out 2).trans rfl;have hcz6_3:w5.cell? ⟨gb350,3,none⟩ = some (.string (⟨#[]⟩:ByteArray)):=(blk_cell BK350.out 3).trans rfl;have hfz6_0:=blk_frozen BK350.out 0;have hfz6_1:=blk_frozen BK350.out 1;have hfz6_2:=blk_frozen BK350.out 2;have hfz6_3:=blk_frozen BK350.out 3))
 refine bodyPost_ret (results_cell_row rfl _ _ gb350 32 #[.string a0,.int .u16 6,.int .u32 9,.string t351] (0,0) _ rfl (by (with_reducible repeat (first|apply blk_drewN|apply blk_drew|apply blk_alloc));refine blk_put (cs:=#[.string a0,.int .u16 6,.int .u32 9,.string (⟨#[]⟩:ByteArray)]) ?_ 3 _ rfl;(with_reducible repeat (first|apply blk_drewN|apply blk_drew|apply blk_alloc));refine blk_put (cs:=#[.string a0,.int .u16 6,.int .u32 0,.string (⟨#[]⟩:ByteArray)]) ?_ 2 _ rfl;(with_reducible repeat (first|apply blk_drewN|apply blk_drew|apply blk_alloc));refine blk_put (cs:=#[.string a0,.int .u16 0,.int .u32 0,.string (⟨#[]⟩:ByteArray)]) ?_ 1 _ rfl;(with_reducible repeat (first|apply blk_drewN|apply blk_drew|apply blk_alloc));refine blk_put (cs:=#[.string (⟨#[]⟩:ByteArray),.int .u16 0,.int .u32 0,.string (⟨#[]⟩:ByteArray)]) ?_ 0 _ rfl;(with_reducible repeat (first|apply blk_drewN|apply blk_drew|apply blk_alloc));exact BK350.out) Tryd.underlying32 rfl (by kernel_rfl)) rfl ?_
 exact ⟨by first|rfl|(simp [errW_none,errW_some] <;> rfl)|(simp [*,errW_none,errW_some] <;> rfl),by repeat (first|(with_reducible first|exact HB.out|apply below_alloc|apply pw_below_drewN|apply below_drew1|refine below_set ?_ GE350.out)|exact HB.out)⟩
namespace bolterlaw04_Data
section
open Go.Proofs.YtlobjcokopfbkaaDoor.Base
def data4:ByteArray:=⟨#[1,2,3,4]⟩
def data20:ByteArray:=⟨#[48,49,50,51,52,53,54,55,56,57,48,49,50,51,52,53,54,55,56,57]⟩
def data16:ByteArray:=⟨#[48,49,50,51,52,53,54,55,56,57,97,98,99,100,101,102]⟩
def dataV (j:Nat) (x s:ByteArray):Int × ByteArray :=
 if j≤1 then (1,(s ++ data4).extract 0 4)
 else if j = 2 then (2,x)
 else if j = 3 then (5,x)
 else if j = 4 then (6,x ++ (⟨#[0]⟩:ByteArray) ++ x ++ (⟨#[0]⟩:ByteArray) ++ (s ++ data20).extract 0 20)
 else if j = 5 then (16,strOfNums [((min s.size 255:Nat):Int)] ++ s.extract 0 (min s.size 255))
 else if j = 6 then (28,(s ++ data16).extract 0 16)
 else (99,s.extract 0 (min s.size 512))
theorem data_cut (s c:ByteArray) (n:Nat) (hn:c.size = n):∀ W:World,(Instr.slice 9 (.string (s ++ c)) none (some (.int .i64 (n:Int))) none).run Tryd.prog W = .ok (.string ((s ++ c).extract 0 n)) W:=fun W=>by
 rw [run_slice_string_h W _ _ Tryd.underlying9 .i64 _ (by omega) (by rw [ByteArray.size_append];omega)]
 simp
set_option maxHeartbeats 4000000 in
theorem data_calls (A1:Option Addr) (c1:Nat) (l1:List Int) (a0:Int) (a2 x:ByteArray) (j k:Nat) (hj:a0.tmod 8 = (j:Int)) (hj8:j < 8) (w:World) (hr1:Kd.C (Kd.int .u8) w A1 l1.length l1) (hc1:l1.length≤c1) (h:bolterlaw02_Name.f k l1 = some x) (hx:x.size≤1000000000) (h2:a2.size≤1000000000) :
  Calls Tryd.prog 38 #[.int .u16 a0,.slice A1 l1.length c1,.string a2] w fun e w'=>e = .returned (.tuple #[.int .u16 (dataV j x a2).1,.string (dataV j x a2).2])∧Below w.heap.size w w':=by
 have H:=Lib.hid h
 have HR:=Lib.hid hr1
 clear h hr1
 match j,hj8,hj with
 | 0,_,hj =>
  rw [show dataV 0 x a2 = (1,(a2 ++ (⟨#[1,2,3,4]⟩:ByteArray)).extract 0 4) from rfl]
  go_enter Tryd.func38,Tryd.ntmps38
  go_wp2_with fail
  refine (bolterlaw02_Name.calls k A1 c1 l1 _ _ HR.out hc1 H.out).mono ?_
  rintro e w2 ⟨rfl,hb⟩
  have HB:=Lib.hid hb
  clear hb H HR
  have h4:=data_cut a2 (⟨#[1,2,3,4]⟩:ByteArray) 4 rfl
  have ho4:¬ 9223372036854775807 < a2.size + 4:=by omega
  go_wp2
  go_quiet (fail)
  go_wp2
  go_ret2
  exact ⟨rfl,pw_below_drewN HB.out _⟩
 | 1,_,hj =>
  rw [show dataV 1 x a2 = (1,(a2 ++ (⟨#[1,2,3,4]⟩:ByteArray)).extract 0 4) from rfl]
  go_enter Tryd.func38,Tryd.ntmps38
  go_wp2_with fail
  refine (bolterlaw02_Name.calls k A1 c1 l1 _ _ HR.out hc1 H.out).mono ?_
  rintro e w2 ⟨rfl,hb⟩
  have HB:=Lib.hid hb
  clear hb H HR
  have h4:=data_cut a2 (⟨#[1,2,3,4]⟩:ByteArray) 4 rfl
  have ho4:¬ 9223372036854775807 < a2.size + 4:=by omega
  go_wp2
  go_quiet (fail)
  go_wp2
  go_ret2
  exact ⟨rfl,pw_below_drewN HB.out _⟩
 | 2,_,hj =>
  rw [show dataV 2 x a2 = (2,x) from rfl]
  go_enter Tryd.func38,Tryd.ntmps38
  go_wp2_with fail
  refine (bolterlaw02_Name.calls k A1 c1 l1 _ _ HR.out hc1 H.out).mono ?_
  rintro e w2 ⟨rfl,hb⟩
  have HB:=Lib.hid hb
  clear hb H HR
  go_wp2
  go_ret2
  exact ⟨rfl,HB.out⟩
 | 3,_,hj =>
  rw [show dataV 3 x a2 = (5,x) from rfl]
  go_enter Tryd.func38,Tryd.ntmps38
  go_wp2_with fail
  refine (bolterlaw02_Name.calls k A1 c1 l1 _ _ HR.out hc1 H.out).mono ?_
  rintro e w2 ⟨rfl,hb⟩
  have HB:=Lib.hid hb
  clear hb H HR
  go_wp2
  go_ret2
  exact ⟨rfl,HB.out⟩
 | 4,_,hj =>
  rw [show dataV 4 x a2 = (6,x ++ (⟨#[0]⟩:ByteArray) ++ x ++ (⟨#[0]⟩:ByteArray) ++ (a2 ++ (⟨#[48,49,50,51,52,53,54,55,56,57,48,49,50,51,52,53,54,55,56,57]⟩:ByteArray)).extract 0 20) from rfl]
  go_enter Tryd.func38,Tryd.ntmps38
  go_wp2_with fail
  refine (bolterlaw02_Name.calls k A1 c1 l1 _ _ HR.out hc1 H.out).mono ?_
  rintro e w2 ⟨rfl,hb⟩
  have HB:=Lib.hid hb
  clear hb H HR
  have h4:=data_cut a2 (⟨#[48,49,50,51,52,53,54,55,56,57,48,49,50,51,52,53,54,55,56,57]⟩:ByteArray) 20 rfl
  have ho4:¬ 9223372036854775807 < a2.size + 20:=by omega
  have ho5:¬ 9223372036854775807 < x.size + 1:=by omega
  have ho6:¬ 9223372036854775807 < x.size + 1 + x.size:=by omega
  have ho7:¬ 9223372036854775807 < x.size + 1 + x.size + 1:=by omega
  obtain ⟨y,hy⟩:∃ y,(a2 ++ (⟨#[48,49,50,51,52,53,54,55,56,57,48,49,50,51,52,53,54,55,56,57]⟩:ByteArray)).extract 0 20 = y:=⟨_,rfl⟩
  have hys:y.size = 20:=by rw [← hy,ByteArray.size_extract,ByteArray.size_append];show min 20 (a2.size + 20) - 0 = 20;omega
  simp only [hy] at h4
  have ho8:¬ 9223372036854775807 < x.size + 1 + x.size + 1 + y.size:=by omega
  go_wp2
  go_quiet (fail)
  go_wp2
  go_ret2
  subst hy
  exact ⟨rfl,pw_below_drewN HB.out _⟩
 | 5,_,hj =>
  rw [show dataV 5 x a2 = (16,strOfNums [((min a2.size 255:Nat):Int)] ++ a2.extract 0 (min a2.size 255)) from rfl]
  go_enter Tryd.func38,Tryd.ntmps38
  go_wp2_with fail
  refine (bolterlaw02_Name.calls k A1 c1 l1 _ _ HR.out hc1 H.out).mono ?_
  rintro e w2 ⟨rfl,hb⟩
  have HB:=Lib.hid hb
  clear hb H HR
  obtain ⟨n,hn⟩:∃ n,min a2.size 255 = n:=⟨_,rfl⟩
  have hmn:mn (a2.size:Int) 255 = (n:Int):=by unfold mn;split <;> omega
  have hmn2:(if (255:Int) < (a2.size:Int) then (255:Int) else (a2.size:Int)) = (n:Int):=by split <;> omega
  have hmn1:min (a2.size:Int) 255 = (n:Int):=by omega
  have hu8:IntKind.u8.wrap (n:Int) = (n:Int):=by rw [IntKind.wrap_u8];omega
  have hu9:(n:Int) % 256 = (n:Int):=by omega
  have hi0:(0:Int)≤(n:Int):=by omega
  have hi1:(n:Int)≤(a2.size:Int):=by omega
  have hsl:∀ W:World,(Instr.slice 9 (.string a2) none (some (.int .i64 (n:Int))) none).run Tryd.prog W = .ok (.string (a2.extract 0 n)) W:=fun W=>by
   rw [run_slice_string_h W _ _ Tryd.underlying9 .i64 _ hi0 hi1]
   simp
  have hcv:∀ W:World,(convert 43 9 (.slice (some ⟨W.heap.size,0,none⟩) 1 1)).run Tryd.prog (W.alloc (.cells #[.int .u8 (n:Int)] 5)) = .ok (.string (strOfNums [(n:Int)])) (W.alloc (.cells #[.int .u8 (n:Int)] 5)):=fun W=>own_string (P:=Tryd.prog) Tryd.underlying43 Tryd.underlying5 Tryd.underlying9 (own_lit W 0 5 .u8 [(n:Int)] (Nat.zero_le _) (by simp))
  have hcv2:∀ W:World,(convert 43 9 (.slice (some ⟨W.heap.size,0,none⟩) 1 1)).run Tryd.prog (W.alloc (.cells #[.int .u8 (n:Int)] 5)).drew = .ok (.string (strOfNums [(n:Int)])) (W.alloc (.cells #[.int .u8 (n:Int)] 5)).drew:=fun W=>own_string (P:=Tryd.prog) Tryd.underlying43 Tryd.underlying5 Tryd.underlying9 (pw_own_below (own_lit W 0 5 .u8 [(n:Int)] (Nat.zero_le _) (by simp)) (below_drew (Below.refl _ _)))
  have hov:¬ 9223372036854775807 < (strOfNums [(n:Int)]).size + (a2.extract 0 n).size:=by rw [str_size,ByteArray.size_extract];simp;omega
  go_wp2
  go_region
  all_goals
   go_wp2
   go_ret2
   subst hn
   exact ⟨rfl,by first|exact below_drew1 (below_alloc HB.out _)|exact below_alloc (below_drew1 HB.out) _⟩
 | 6,_,hj =>
  rw [show dataV 6 x a2 = (28,(a2 ++ (⟨#[48,49,50,51,52,53,54,55,56,57,97,98,99,100,101,102]⟩:ByteArray)).extract 0 16) from rfl]
  go_enter Tryd.func38,Tryd.ntmps38
  go_wp2_with fail
  refine (bolterlaw02_Name.calls k A1 c1 l1 _ _ HR.out hc1 H.out).mono ?_
  rintro e w2 ⟨rfl,hb⟩
  have HB:=Lib.hid hb
  clear hb H HR
  have h4:=data_cut a2 (⟨#[48,49,50,51,52,53,54,55,56,57,97,98,99,100,101,102]⟩:ByteArray) 16 rfl
  have ho4:¬ 9223372036854775807 < a2.size + 16:=by omega
  go_wp2
  go_quiet (fail)
  go_wp2
  go_ret2
  exact ⟨rfl,pw_below_drewN HB.out _⟩
 | 7,_,hj =>
  rw [show dataV 7 x a2 = (99,a2.extract 0 (min a2.size 512)) from rfl]
  go_enter Tryd.func38,Tryd.ntmps38
  go_wp2_with fail
  refine (bolterlaw02_Name.calls k A1 c1 l1 _ _ HR.out hc1 H.out).mono ?_
  rintro e w2 ⟨rfl,hb⟩
  have HB:=Lib.hid hb
  clear hb H HR
  obtain ⟨n,hn⟩:∃ n,min a2.size 512 = n:=⟨_,rfl⟩
  have hmn1:min (a2.size:Int) 512 = (n:Int):=by omega
  have hmn2:(if (512:Int) < (a2.size:Int) then (512:Int) else (a2.size:Int)) = (n:Int):=by split <;> omega
  have hi0:(0:Int)≤(n:Int):=by omega
  have hi1:(n:Int)≤(a2.size:Int):=by omega
  have hsl:∀ W:World,(Instr.slice 9 (.string a2) none (some (.int .i64 (n:Int))) none).run Tryd.prog W = .ok (.string (a2.extract 0 n)) W:=fun W=>by
   rw [run_slice_string_h W _ _ Tryd.underlying9 .i64 _ hi0 hi1]
   simp
  go_wp2
  go_quiet (fail)
  go_wp2
  go_ret2
  subst hn
  exact ⟨rfl,pw_below_drewN HB.out _⟩
end
end bolterlaw04_Data
def bolterlaw04_Data.f (k:Nat) (a0:Int) (l1:List Int) (a2:ByteArray):Option (Int × ByteArray):=(bolterlaw02_Name.f k l1).bind fun x=>if x.size≤1000000000∧a2.size≤1000000000∧0≤a0 then some (bolterlaw04_Data.dataV (a0.tmod 8).toNat x a2) else none
theorem bolterlaw04_Data.mono:∀ a0 a1 a2 k,LeO (bolterlaw04_Data.f k a0 a1 a2) (bolterlaw04_Data.f (k + 1) a0 a1 a2):=by
 intro a0 a1 a2 k
 unfold bolterlaw04_Data.f
 exact LeO.bind (bolterlaw02_Name.mono _ _) (fun _=>LeO.refl _)
theorem bolterlaw04_Data.calls (k:Nat) (a0:Int) (A1:Option Addr) (c1:Nat) (l1:List Int) (a2:ByteArray) (r1:Int) (r2:ByteArray) (w:World) (hr1:Kd.C (Kd.int .u8) w A1 l1.length l1) (hc1:l1.length≤c1) (h:bolterlaw04_Data.f k a0 l1 a2 = some (r1,r2)) :
  Calls Tryd.prog 38 #[.int .u16 a0,.slice A1 l1.length c1,.string a2] w fun e w'=>e = .returned (.tuple #[.int .u16 r1,.string r2])∧Below w.heap.size w w':=by
 obtain ⟨x,hx,H⟩:=Option.bind_eq_some_iff.mp h
 by_cases hc:x.size≤1000000000∧a2.size≤1000000000∧0≤a0
 ·rw [if_pos hc] at H
  have h1:=Option.some.inj H
  have h0:=Int.tmod_nonneg 8 hc.2.2
  have h8:=Int.tmod_lt_of_pos a0 (show (0:Int) < 8 by omega)
  have key:=bolterlaw04_Data.data_calls A1 c1 l1 a0 a2 x (a0.tmod 8).toNat k (by omega) (by omega) w hr1 hc1 hx hc.1 hc.2.1
  rw [h1] at key
  exact key
 ·rw [if_neg hc] at H
  cases H
end Go.Proofs.YtlobjcokopfbkaaDoor.PY
