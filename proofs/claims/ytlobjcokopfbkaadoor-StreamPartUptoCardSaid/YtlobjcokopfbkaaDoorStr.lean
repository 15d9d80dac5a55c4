/- part of a proof; what it has no use for was struck out -/
import Derived.Test.YtlobjcokopfbkaaDoorSoaM
import Derived.Test.YtlobjcokopfbkaaDoorPYx11
import Derived.Test.YtlobjcokopfbkaaDoorPYx9
import Derived.Test.YtlobjcokopfbkaaDoorPYx12
import Derived.Test.YtlobjcokopfbkaaDoorPYx12
namespace Go.Proofs.YtlobjcokopfbkaaDoor.Str
open Go.RowKit Go.Proofs.YtlobjcokopfbkaaDoor.PY Go.Proofs.YtlobjcokopfbkaaDoorW.PrintWords Go.Proofs.YtlobjcokopfbkaaDoorW.PrintLast Go.Proofs.YtlobjcokopfbkaaDoor.Base Go.Proofs.YtlobjcokopfbkaaDoor.Nam Go.Proofs.YtlobjcokopfbkaaDoor.Soa Go.Proofs.YtlobjcokopfbkaaDoor.QY
set_option linter.unusedVariables false
set_option linter.unusedSimpArgs false
abbrev R:=S32
abbrev LA:=S45
def WfL (a:LA):Prop:=(B8 a.f0∧a.f0.length≤1048576)∧(0≤a.f1∧a.f1 < 256)∧(0≤a.f2∧a.f2 < 4294967296)∧(B8 a.f3∧a.f3.length≤1048576)∧a.f4.size≤1048576
def recD (a:LA):Int × ByteArray:=bolterlaw04_Data.dataV (a.f1 % 8).toNat (strOfNums (nameL a.f3)) (a.f4.extract 0 (min a.f4.size 30))
def recV (a:LA):R:=⟨strOfNums (nameL a.f0),(recD a).1,a.f2,(recD a).2⟩
theorem mn_nat (a:Nat) (b:Nat):mn (a:Int) (b:Int) = ((min a b:Nat):Int):=by unfold mn;split <;> omega
theorem Data_ev (t:Int) (ns:List Int) (s:ByteArray) (ht:0≤t) (hb:B8 ns) (hl:ns.length≤1000000000000) (hs:s.size≤1000000000) :
  Ev (fun k=>bolterlaw04_Data.f k t ns s) (bolterlaw04_Data.dataV (t.tmod 8).toNat (strOfNums (nameL ns)) s):=by
 obtain ⟨K,hK⟩:=Name_ev ns hb hl
 refine ⟨K,fun k hk=>?_⟩
 have h:=hK k hk
 simp only at h
 show bolterlaw04_Data.f k t ns s = _
 unfold bolterlaw04_Data.f
 rw [h,Option.bind_some,if_pos ⟨by rw [str_size];have:=nameL_len ns;omega,hs,ht⟩]
theorem Rec_ev (a:LA) (h:WfL a):Ev (fun k=>bolterlaw05_Record.f k a.f0 a.f1 a.f2 a.f3 a.f4) ((recV a).f0,(recV a).f1,(recV a).f2,(recV a).f3):=by
 obtain ⟨⟨h0,l0⟩,h1,h2,⟨h3,l3⟩,h4⟩:=h
 obtain ⟨m,hm⟩:∃ m,min a.f4.size 30 = m:=⟨_,rfl⟩
 obtain ⟨K0,g0⟩:=Name_ev a.f0 h0 (by omega)
 obtain ⟨K1,g1⟩:=Data_ev a.f1 a.f3 (a.f4.extract 0 m) h1.1 h3 (by omega) (by rw [ByteArray.size_extract];omega)
 refine ⟨max K0 K1,fun k hk=>?_⟩
 have e0:=g0 k (by omega)
 have e1:=g1 k (by omega)
 simp only at e0 e1
 have ht:a.f1.tmod 8 = a.f1 % 8:=Int.tmod_eq_emod_of_nonneg h1.1
 rw [ht] at e1
 have hw:IntKind.u16.wrap a.f1 = a.f1:=by rw [IntKind.wrap_u16];omega
 have hmn:mn (a.f4.size:Int) 30 = (m:Int):=by rw [← hm];exact mn_nat a.f4.size 30
 show bolterlaw05_Record.f k a.f0 a.f1 a.f2 a.f3 a.f4 = _
 unfold bolterlaw05_Record.f
 simp only [hmn,hw]
 rw [if_pos (by omega),if_pos (by omega),show ((m:Int)).toNat = m by omega,e1,Option.bind_some,e0,Option.bind_some]
 unfold recV recD
 rw [hm]
def joinB (a b:ByteArray):Bool:=nm (bytesOf a) && nm (bytesOf b) && decide (a.size + b.size≤254)
theorem Join_ev (a b:ByteArray) (ha:a.size≤1000000000) (hb:b.size≤1000000000):Ev (fun k=>name_Join.f k a b) (if joinB a b = true then (a ++ b,true) else (⟨#[]⟩,false)):=by
 obtain ⟨K0,g0⟩:=May_ev a (by omega)
 obtain ⟨K1,g1⟩:=May_ev b (by omega)
 refine ⟨max K0 K1,fun k hk=>?_⟩
 have e0:=g0 k (by omega)
 have e1:=g1 k (by omega)
 simp only at e0 e1
 have hw:wrap64 ((a.size:Int) + (b.size:Int)) = (a.size:Int) + (b.size:Int):=by unfold wrap64;omega
 show name_Join.f k a b = _
 unfold name_Join.f joinB
 rw [e0,Option.bind_some,hw]
 cases h0:nm (bytesOf a) with
 | false=>rfl
 | true =>
  rw [if_pos rfl,e1,Option.bind_some]
  cases h1:nm (bytesOf b) with
  | false=>rfl
  | true =>
   rw [if_pos rfl]
   by_cases hl:a.size + b.size≤254
   ·rw [if_neg (by omega),if_pos (by omega)]
    simp [hl]
   ·rw [if_pos (by omega)]
    simp [hl]
def sR (x:ByteArray) (n:Int):R:=⟨x,6,9,strOfNums (soaMake [] n 10 3 40)⟩
theorem Soa_ev (x:ByteArray) (n:Int):Ev (fun k=>bolterlaw09_Soa.f k x n) ((sR x n).f0,(sR x n).f1,(sR x n).f2,(sR x n).f3):=by
 obtain ⟨K,hK⟩:=Make_ev [] n 10 3 40 B8.nil (by simp)
 refine ⟨K,fun k hk=>?_⟩
 have h:=hK k hk
 simp only at h
 show bolterlaw09_Soa.f k x n = _
 unfold bolterlaw09_Soa.f
 rw [h]
 rfl
def undR (x:ByteArray) (soas:Bool) (a:LA):R :=
 if (recV a).f1 = 6 then (if soas = true then sR x (a.f2 % 6) else ⟨x,16,a.f2,⟨#[1,120]⟩⟩) else ⟨if joinB (recV a).f0 x = true then (recV a).f0 ++ x else x,(recV a).f1,(recV a).f2,(recV a).f3⟩
def underL (x:ByteArray) (l:List LA) (most:Nat) (soas:Bool):List R:=(l.take most).map (undR x soas)
theorem rd_LA {l:List LA} {i:Nat} {a:LA} (h:l[i]? = some a):rd_T45 l (i:Int) = a:=by
 unfold rd_T45
 rw [List.getD_eq_getElem?_getD,show ((i:Int)).toNat = i by omega,h]
 rfl
theorem rd_R {l:List R} {i:Nat} {a:R} (h:l[i]? = some a):rd_T32 l (i:Int) = a:=by
 unfold rd_T32
 rw [List.getD_eq_getElem?_getD,show ((i:Int)).toNat = i by omega,h]
 rfl
theorem w64n (i:Nat) (h:i≤1000000000000):wrap64 ((i:Int) + 1) = ((i + 1:Nat):Int):=by unfold wrap64;omega
def eqR (a b:R):Bool:=a.f0.toList == b.f0.toList && (a.f1 == b.f1 && (a.f2 == b.f2 && (a.f3.toList == b.f3.toList)))
theorem neR (a b:R):(!(a.f0.toList == b.f0.toList) || (!(a.f1 == b.f1) || (!(a.f2 == b.f2) || !(a.f3.toList == b.f3.toList)))) = !eqR a b:=by
 unfold eqR
 simp only [Bool.not_and]
end Go.Proofs.YtlobjcokopfbkaaDoor.Str
