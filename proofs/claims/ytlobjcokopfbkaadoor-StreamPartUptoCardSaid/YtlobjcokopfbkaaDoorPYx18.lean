/- part of a proof; what it has no use for was struck out -/
import Derived.Test.YtlobjcokopfbkaaDoorStrF
import Derived.Test.YtlobjcokopfbkaaDoorUnd
import Derived.Test.YtlobjcokopfbkaaDoorNum
import Derived.Test.YtlobjcokopfbkaaDoorPYx11
import Derived.Test.YtlobjcokopfbkaaDoorPYx10
namespace Go.Proofs.YtlobjcokopfbkaaDoor.PY
open Go.RowKit Go.Proofs.YtlobjcokopfbkaaDoorW Go.Proofs.YtlobjcokopfbkaaDoorW.PrintWords Go.Proofs.YtlobjcokopfbkaaDoorW.PrintLast Go.Proofs.YtlobjcokopfbkaaDoorW.PrintMore Go.Proofs.YtlobjcokopfbkaaDoor.Base Go.Proofs.YtlobjcokopfbkaaDoor.Nam Go.Proofs.YtlobjcokopfbkaaDoor.Soa Go.Proofs.YtlobjcokopfbkaaDoor.QY Go.Proofs.YtlobjcokopfbkaaDoor.Str
set_option linter.unusedVariables false
set_option linter.unusedSimpArgs false
set_option maxRecDepth 100000
attribute [local go_sem] errW_none errW_some
theorem Origin_ev (n:Int) (h0:0≤n):Ev (fun k=>bolterlaw09_Origin.f k n) (strOfNums (nameL [n % 6])):=by
 have ht:Int.tmod n 6 = n % 6:=Int.tmod_eq_emod_of_nonneg h0
 obtain ⟨K,hK⟩:=Name_ev [n % 6] (B8.cons (by omega) (by omega) B8.nil) (by simp)
 refine ⟨K,fun k hk=>?_⟩
 have h:=hK k hk
 simp only at h
 show bolterlaw09_Origin.f k n = _
 unfold bolterlaw09_Origin.f
 rw [ht,h]
 rfl
theorem underL_len (x:ByteArray) (l:List LA) (most:Nat) (soas:Bool):(underL x l most soas).length≤most:=by unfold underL;rw [List.length_map,List.length_take];omega
theorem data_sz (j:Nat) (x s:ByteArray) (hx:x.size≤84) (hs:s.size≤30):(bolterlaw04_Data.dataV j x s).2.size≤1000:=by
 unfold bolterlaw04_Data.dataV
 repeat' split
 all_goals (try simp only [ByteArray.size_extract,ByteArray.size_append,str_size,List.length_cons,List.length_nil])
 all_goals (first|omega|(have h0:(⟨#[0]⟩:ByteArray).size = 1:=rfl;omega))
theorem sR_sz (x:ByteArray) (n:Int) (hx:x.size≤1000):Sz (sR x n):=by
 have h:=soaMake_len [] n 10 3 40
 refine ⟨Nat.le_trans hx (by decide),?_⟩
 show (strOfNums (soaMake [] n 10 3 40)).size≤_
 rw [str_size]
 omega
theorem und_sz (x:ByteArray) (hx:x.size≤1000) (l:List LA) (m:Nat) (soas:Bool):∀ y ∈ underL x l m soas,Sz y:=by
 intro y hy
 unfold underL at hy
 obtain ⟨a,_,rfl⟩:=List.mem_map.1 hy
 have hn:(recV a).f0.size≤84:=by show (strOfNums (nameL a.f0)).size≤84;rw [str_size];exact nameL_len a.f0
 have hd:(recV a).f3.size≤1000:=data_sz _ _ _ (by rw [str_size];exact nameL_len a.f3) (by rw [ByteArray.size_extract];omega)
 unfold undR
 split
 ·split
  ·exact sR_sz x _ hx
  ·exact ⟨Nat.le_trans hx (by decide),by show (2:Nat)≤_;decide⟩
 ·refine ⟨?_,Nat.le_trans hd (by decide)⟩
  show (if joinB (recV a).f0 x = true then (recV a).f0 ++ x else x).size≤_
  split
  ·rw [ByteArray.size_append];omega
  ·omega
open Classical in
noncomputable def bolterlaw09_StreamFull.f (a0:Int) (l1:List LA) (a2:Bool):Option Bool:=if (0≤a0∧a0 < 256)∧(∀ a ∈ l1,WfL a)∧l1.length≤1048576 then some true else none
end Go.Proofs.YtlobjcokopfbkaaDoor.PY
