/- part of a proof; what it has no use for was struck out -/
import Derived.Test.YtlobjcokopfbkaaDoorCut
import Derived.Test.YtlobjcokopfbkaaDoorQYGet32
import Derived.Test.YtlobjcokopfbkaaDoorQYPut32
import Derived.Test.YtlobjcokopfbkaaDoorPYx3
import Derived.Test.YtlobjcokopfbkaaDoorPYx2
import Derived.Test.YtlobjcokopfbkaaDoorPYx6
namespace Go.Proofs.YtlobjcokopfbkaaDoor.Soa
open Go.RowKit Go.Proofs.YtlobjcokopfbkaaDoor.PY Go.Proofs.YtlobjcokopfbkaaDoorW.PrintWords Go.Proofs.YtlobjcokopfbkaaDoorW.PrintLast Go.Proofs.YtlobjcokopfbkaaDoor.Base Go.Proofs.YtlobjcokopfbkaaDoor.Nam Go.Proofs.YtlobjcokopfbkaaDoor.QY
set_option linter.unusedVariables false
set_option linter.unusedSimpArgs false
def num4 (l:List Int) (i:Int):Int:=((rd l i * 256 + rd l (i + 1)) * 256 + rd l (i + 2)) * 256 + rd l (i + 3)
theorem bt_str {l:List Int} (hl:B8 l) {i:Int} (h0:0≤i) (h1:i < l.length):bt (strOfNums l) i = rd l i:=str_bt l hl h0 h1
def soaR (p:List Int × List Int × List Int × Bool):ByteArray × ByteArray × Int × Int × Int × Int × Int × Bool :=
 if p.2.2.2 = true then (strOfNums p.1,strOfNums p.2.1,num4 p.2.2.1 0,num4 p.2.2.1 4,num4 p.2.2.1 8,num4 p.2.2.1 12,num4 p.2.2.1 16,true) else (⟨#[]⟩,⟨#[]⟩,0,0,0,0,0,false)
theorem parse_ev (s:ByteArray) (hs:s.size≤1000000000000):Ev (fun k=>soa_Parse.f k s) (soaR (soaP (bytesOf s))):=by
 obtain ⟨a,b,ok,hc⟩:∃ a b ok,cut (bytesOf s) = (a,b,ok):=⟨_,_,_,rfl⟩
 obtain ⟨a2,b2,ok2,hc2⟩:∃ x y z,cut b = (x,y,z):=⟨_,_,_,rfl⟩
 have hb8:=cut_b8 (of_b8 s) hc
 have hb82:=cut_b8 hb8.2 hc2
 have hl:=cut_len hc
 have e1:=Cut_ev s hs
 rw [hc] at e1
 have e2:=Cut_ev (strOfNums b) (by rw [str_size];rw [of_size] at hl;omega)
 rw [bytes_str hb8.2,hc2] at e2
 simp only at e1 e2
 obtain ⟨K1,h1⟩:=e1
 obtain ⟨K2,h2⟩:=e2
 refine ⟨max K1 K2,fun n hn=>?_⟩
 have h1':=h1 n (by omega)
 have h2':=h2 n (by omega)
 simp only at h1' h2'
 have hsz:=str_size b2
 unfold soaP
 simp only [soa_Parse.f,h1',h2',Option.bind_some,hc,hc2]
 cases ok <;> cases ok2 <;> simp only [Bool.false_eq_true,if_false,if_true,true_and,false_and]
 ·rfl
 ·rfl
 ·rfl
 ·by_cases h20:b2.length = 20
  ·rw [if_pos (by omega),if_pos h20]
   have hn:∀ j:Nat,j < 5→num_Get32.f (strOfNums b2) (4 * (j:Int)) = some (num4 b2 (4 * (j:Int)),true):=by
    intro j hj
    rw [get32_in _ _ (by omega) (by omega) (by omega),bt_str hb82.2 (by omega) (by omega),bt_str hb82.2 (by omega) (by omega),bt_str hb82.2 (by omega) (by omega),bt_str hb82.2 (by omega) (by omega)]
    rfl
   have n0:=hn 0 (by omega)
   have n1:=hn 1 (by omega)
   have n2:=hn 2 (by omega)
   have n3:=hn 3 (by omega)
   have n4:=hn 4 (by omega)
   rw [show 4 * ((0:Nat):Int) = 0 from rfl] at n0
   rw [show 4 * ((1:Nat):Int) = 4 from rfl] at n1
   rw [show 4 * ((2:Nat):Int) = 8 from rfl] at n2
   rw [show 4 * ((3:Nat):Int) = 12 from rfl] at n3
   rw [show 4 * ((4:Nat):Int) = 16 from rfl] at n4
   simp only [n0,n1,n2,n3,n4,Option.bind_some,and_self,if_true,soaR]
  ·rw [if_neg (by omega),if_neg h20]
   rfl
theorem rsoa_ev (s:ByteArray) (hs:s.size≤1000000000000):Ev (fun k=>rdata_soa.f k s) (strOfNums (soaP (bytesOf s)).1,strOfNums (soaP (bytesOf s)).2.1,strOfNums (soaP (bytesOf s)).2.2.1,(soaP (bytesOf s)).2.2.2):=by
 obtain ⟨a,b,ok,hc⟩:∃ a b ok,cut (bytesOf s) = (a,b,ok):=⟨_,_,_,rfl⟩
 obtain ⟨a2,b2,ok2,hc2⟩:∃ x y z,cut b = (x,y,z):=⟨_,_,_,rfl⟩
 have hb8:=cut_b8 (of_b8 s) hc
 have hb82:=cut_b8 hb8.2 hc2
 have hl:=cut_len hc
 have e1:=Cut_ev s hs
 rw [hc] at e1
 have e2:=Cut_ev (strOfNums b) (by rw [str_size];rw [of_size] at hl;omega)
 rw [bytes_str hb8.2,hc2] at e2
 simp only at e1 e2
 obtain ⟨K1,h1⟩:=e1
 obtain ⟨K2,h2⟩:=e2
 refine ⟨max K1 K2,fun n hn=>?_⟩
 have h1':=h1 n (by omega)
 have h2':=h2 n (by omega)
 simp only at h1' h2'
 have hsz:=str_size b2
 unfold soaP
 simp only [rdata_soa.f,h1',h2',Option.bind_some,hc,hc2]
 cases ok <;> cases ok2 <;> simp only [Bool.false_eq_true,if_false,if_true,true_and,false_and]
 ·rfl
 ·rfl
 ·rfl
 ·by_cases h20:b2.length = 20
  ·rw [if_pos (by omega),if_pos h20]
  ·rw [if_neg (by omega),if_neg h20]
   rfl
theorem str0 (a:List Int):strOfNums a ++ (⟨#[0]⟩:ByteArray) = strOfNums (a ++ [0]):=by rw [str_app];rfl
end Go.Proofs.YtlobjcokopfbkaaDoor.Soa
