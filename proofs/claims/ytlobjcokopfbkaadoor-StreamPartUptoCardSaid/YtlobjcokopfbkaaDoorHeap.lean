/- part of a proof; what it has no use for was struck out -/
import Derived.Test.YtlobjcokopfbkaaDoorWAll
import Derived.Lib.Hide
import Derived.WalkKit
import Derived.RegionTactic
import Derived.ChangeAlike
import Derived.Outline
namespace Go.Proofs.YtlobjcokopfbkaaDoor.Heap
open Go.RowKit Go.Proofs.YtlobjcokopfbkaaDoorW.PrintWords Go.Proofs.YtlobjcokopfbkaaDoorW.PrintLast
set_option linter.unusedVariables false
set_option linter.unusedSimpArgs false
section
variable {w:World} {g:Nat} {t:TypeId}
theorem cells5 {a0 a1 a2 a3 a4:Value} (k:w.heap[g]? = some (.cells #[a0,a1,a2,a3,a4] t (0,0))):w.cell? ⟨g,0,none⟩ = some a0∧w.cell? ⟨g,1,none⟩ = some a1∧w.cell? ⟨g,2,none⟩ = some a2∧w.cell? ⟨g,3,none⟩ = some a3∧w.cell? ⟨g,4,none⟩ = some a4 :=
 ⟨by rw [blk_cell k];rfl,by rw [blk_cell k];rfl,by rw [blk_cell k];rfl,by rw [blk_cell k];rfl,by rw [blk_cell k];rfl⟩
theorem cells7 {a0 a1 a2 a3 a4 a5 a6:Value} (k:w.heap[g]? = some (.cells #[a0,a1,a2,a3,a4,a5,a6] t (0,0))):w.cell? ⟨g,0,none⟩ = some a0∧w.cell? ⟨g,1,none⟩ = some a1∧w.cell? ⟨g,2,none⟩ = some a2∧w.cell? ⟨g,3,none⟩ = some a3∧w.cell? ⟨g,4,none⟩ = some a4∧w.cell? ⟨g,5,none⟩ = some a5∧w.cell? ⟨g,6,none⟩ = some a6 :=
 ⟨by rw [blk_cell k];rfl,by rw [blk_cell k];rfl,by rw [blk_cell k];rfl,by rw [blk_cell k];rfl,by rw [blk_cell k];rfl,by rw [blk_cell k];rfl,by rw [blk_cell k];rfl⟩
theorem froz7 {a0 a1 a2 a3 a4 a5 a6:Value} (k:w.heap[g]? = some (.cells #[a0,a1,a2,a3,a4,a5,a6] t (0,0))):w.frozen? ⟨g,0,none⟩ = false∧w.frozen? ⟨g,1,none⟩ = false∧w.frozen? ⟨g,2,none⟩ = false∧w.frozen? ⟨g,3,none⟩ = false∧w.frozen? ⟨g,4,none⟩ = false∧w.frozen? ⟨g,5,none⟩ = false∧w.frozen? ⟨g,6,none⟩ = false :=
 ⟨blk_frozen k 0,blk_frozen k 1,blk_frozen k 2,blk_frozen k 3,blk_frozen k 4,blk_frozen k 5,blk_frozen k 6⟩
theorem put7 {a0 a1 a2 a3 a4 a5 a6 b0 b1 b2 b3 b4 b5 b6:Value} (k:w.heap[g]? = some (.cells #[a0,a1,a2,a3,a4,a5,a6] t (0,0))):(((((((w.setCell ⟨g,0,none⟩ b0).setCell ⟨g,1,none⟩ b1).setCell ⟨g,2,none⟩ b2).setCell ⟨g,3,none⟩ b3).setCell ⟨g,4,none⟩ b4).setCell ⟨g,5,none⟩ b5).setCell ⟨g,6,none⟩ b6).heap[g]? = some (.cells #[b0,b1,b2,b3,b4,b5,b6] t (0,0)):=by
 have h:=(blk_set (blk_set (blk_set (blk_set (blk_set (blk_set (blk_set k 0 b0) 1 b1) 2 b2) 3 b3) 4 b4) 5 b5) 6 b6)
 simpa using h
theorem putB7 {B:Nat} {W:World} {b0 b1 b2 b3 b4 b5 b6:Value} (h:Below B W w) (hg:B≤g):Below B W (((((((w.setCell ⟨g,0,none⟩ b0).setCell ⟨g,1,none⟩ b1).setCell ⟨g,2,none⟩ b2).setCell ⟨g,3,none⟩ b3).setCell ⟨g,4,none⟩ b4).setCell ⟨g,5,none⟩ b5).setCell ⟨g,6,none⟩ b6):=by
 exact (((((((h.setCell (p:=⟨g,0,none⟩) hg b0).setCell (p:=⟨g,1,none⟩) hg b1).setCell (p:=⟨g,2,none⟩) hg b2).setCell (p:=⟨g,3,none⟩) hg b3).setCell (p:=⟨g,4,none⟩) hg b4).setCell (p:=⟨g,5,none⟩) hg b5).setCell (p:=⟨g,6,none⟩) hg b6)
end
theorem scal_at {α:Type} {enc:α→Value} {h1:∀ x,(enc x).oneCell' = true} {w:World} {A:Option Addr} {n:Nat} {xs:List α} (h:(Kd.scalar enc h1).C w A n xs) (j:Nat) (x:α) (hx:xs[j]? = some x) :
  ∃ ad,A = some ad∧w.cell? (ad.add j) = some (enc x):=by
 have hj:j < xs.length:=(List.getElem?_eq_some_iff.1 hx).1
 obtain ⟨ad,ha,hc⟩:=h.2.2 (by have:=h.1;omega)
 obtain ⟨cs,hcs⟩:=hc j x hx
 refine ⟨ad,ha,?_⟩
 obtain ⟨e1,e2,e3⟩:=hcs
 have e4:cs = [enc x]:=e2
 subst e4
 have:=e3 0 (enc x) rfl
 rwa [show j * (Kd.scalar enc h1).sz + 0 = j by show j * 1 + 0 = j;omega] at this
theorem two_boxes (w:World) (o1 o2:Obj):((w.alloc o1).alloc o2).heap[w.heap.size]? = some o1∧((w.alloc o1).alloc o2).heap[w.heap.size + 1]? = some o2∧((w.alloc o1).alloc o2).heap.size = w.heap.size + 2:=by
 have e1:((w.alloc o1).alloc o2).heap = (w.heap.push o1).push o2:=rfl
 rw [e1]
 refine ⟨?_,?_,?_⟩
 ·rw [Array.getElem?_push_lt (by rw [Array.size_push];omega)];simp
 ·rw [show w.heap.size + 1 = (w.heap.push o1).size by rw [Array.size_push]]
  exact Array.getElem?_push_size
 ·rw [Array.size_push,Array.size_push]
end Go.Proofs.YtlobjcokopfbkaaDoor.Heap
