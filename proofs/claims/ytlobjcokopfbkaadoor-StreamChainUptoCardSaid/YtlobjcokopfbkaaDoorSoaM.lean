/- part of a proof; what it has no use for was struck out -/
import Derived.Test.YtlobjcokopfbkaaDoorSoa
import Derived.Test.YtlobjcokopfbkaaDoorWrd
import Derived.Test.YtlobjcokopfbkaaDoorPYx11
import Derived.Test.YtlobjcokopfbkaaDoorPYx6
namespace Go.Proofs.YtlobjcokopfbkaaDoor.Soa
open Go.RowKit Go.Proofs.YtlobjcokopfbkaaDoor.PY Go.Proofs.YtlobjcokopfbkaaDoorW.PrintWords Go.Proofs.YtlobjcokopfbkaaDoorW.PrintLast Go.Proofs.YtlobjcokopfbkaaDoor.Base Go.Proofs.YtlobjcokopfbkaaDoor.Nam Go.Proofs.YtlobjcokopfbkaaDoor.QY
set_option linter.unusedVariables false
set_option linter.unusedSimpArgs false
def soaMake (ns:List Int) (s r t e:Int):List Int:=nameL ns ++ 0 :: (nameL ns ++ 0 :: all32 [s,r % 4294967296,t % 4294967296,e % 4294967296,1])
theorem all32_five (a b c d e:Int):(all32 [a,b,c,d,e]).length = 20:=by rw [all32_len];rfl
theorem soaMake_len (ns:List Int) (s r t e:Int):(soaMake ns s r t e).length≤190:=by
 have:=nameL_len ns
 unfold soaMake
 simp [all32_five]
 omega
theorem soaMake_b8 (ns:List Int) (s r t e:Int):B8 (soaMake ns s r t e) :=
 (nameL_b8 ns).append (B8.cons (by omega) (by omega) ((nameL_b8 ns).append (B8.cons (by omega) (by omega) (all32_b8 _))))
theorem Make_ev (ns:List Int) (s r t e:Int) (hb:B8 ns) (hl:ns.length≤1000000000000):Ev (fun k=>bolterlaw07_Make.f k ns s r t e) (strOfNums (soaMake ns s r t e)):=by
 obtain ⟨K0,h0⟩:=Name_ev ns hb hl
 obtain ⟨K1,h1⟩:=put32 [] [s,r % 4294967296,t % 4294967296,e % 4294967296,1] (by simp)
 refine ⟨max K0 K1,fun k hk=>?_⟩
 have g0:=h0 k (by omega)
 have g1:=h1 k (by omega)
 simp only [List.nil_append] at g0 g1
 have e0:=nameL_len ns
 unfold soaMake
 obtain ⟨a,ha⟩:∃ a,nameL ns = a:=⟨_,rfl⟩
 rw [ha] at g0 e0 ⊢
 have sa:=str_size a
 have sn:=str_size (all32 [s,r % 4294967296,t % 4294967296,e % 4294967296,1])
 have s5:=all32_five s (r % 4294967296) (t % 4294967296) (e % 4294967296) 1
 have z1:∀ s:ByteArray,(s ++ (⟨#[0]⟩:ByteArray)).size = s.size + 1:=fun s=>ByteArray.size_append
 unfold bolterlaw07_Make.f
 simp only [g0,g1,Option.bind_some]
 rw [if_pos (by omega),if_pos (by rw [z1];omega),if_pos (by rw [ByteArray.size_append,z1];omega),if_pos (by rw [z1,ByteArray.size_append,z1];omega)]
 rw [str0,← str_app,str0,← str_app]
 simp
theorem soaP_make (ns:List Int) (s r t e:Int):soaP (soaMake ns s r t e) = (nameL ns,nameL ns,all32 [s,r % 4294967296,t % 4294967296,e % 4294967296,1],true) :=
 soaP_of (nameL_nm ns) (nameL_nm ns) (all32_five _ _ _ _ _)
theorem nums_of (n0 n1 n2 n3 n4:Int) (h0:0≤n0∧n0 < 4294967296) (h1:0≤n1∧n1 < 4294967296) (h2:0≤n2∧n2 < 4294967296) (h3:0≤n3∧n3 < 4294967296) (h4:0≤n4∧n4 < 4294967296) :
  num4 (all32 [n0,n1,n2,n3,n4]) 0 = n0∧num4 (all32 [n0,n1,n2,n3,n4]) 4 = n1∧num4 (all32 [n0,n1,n2,n3,n4]) 8 = n2∧num4 (all32 [n0,n1,n2,n3,n4]) 12 = n3∧num4 (all32 [n0,n1,n2,n3,n4]) 16 = n4:=by
 have e0:=num4_be [] n0 (all32 [n1,n2,n3,n4]) h0
 have e1:=num4_be (be32 n0) n1 (all32 [n2,n3,n4]) h1
 have e2:=num4_be (be32 n0 ++ be32 n1) n2 (all32 [n3,n4]) h2
 have e3:=num4_be (be32 n0 ++ be32 n1 ++ be32 n2) n3 (all32 [n4]) h3
 have e4:=num4_be (be32 n0 ++ be32 n1 ++ be32 n2 ++ be32 n3) n4 (all32 []) h4
 exact ⟨e0,e1,e2,e3,e4⟩
def ofR (t:Int) (d:List Int):ByteArray × ByteArray × Int × Int × Int × Int × Int × Bool:=if t = 6 then soaR (soaP d) else (⟨#[]⟩,⟨#[]⟩,0,0,0,0,0,false)
theorem Of_ev (a:ByteArray) (t u:Int) (d:ByteArray) (hs:d.size≤1000000000000):Ev (fun k=>soa_Of.f k a t u d) (ofR t (bytesOf d)):=by
 unfold ofR
 by_cases h:t = 6
 ·obtain ⟨K,hK⟩:=parse_ev d hs
  refine ⟨K,fun k hk=>?_⟩
  have:=hK k hk
  simp only at this
  simp only [soa_Of.f]
  rw [if_pos h,if_pos h,this]
  rfl
 ·refine ⟨0,fun k _=>?_⟩
  simp only [soa_Of.f]
  rw [if_neg h,if_neg h]
theorem make_of (ns:List Int) (s r t e:Int) (hs:0≤s∧s < 4294967296):ofR 6 (soaMake ns s r t e) = (strOfNums (nameL ns),strOfNums (nameL ns),s,r % 4294967296,t % 4294967296,e % 4294967296,1,true):=by
 obtain ⟨m0,m1,m2,m3,m4⟩:=nums_of s (r % 4294967296) (t % 4294967296) (e % 4294967296) 1 hs (by omega) (by omega) (by omega) (by omega)
 unfold ofR soaR
 rw [if_pos rfl,soaP_make]
 simp only [if_true,m0,m1,m2,m3,m4]
end Go.Proofs.YtlobjcokopfbkaaDoor.Soa
