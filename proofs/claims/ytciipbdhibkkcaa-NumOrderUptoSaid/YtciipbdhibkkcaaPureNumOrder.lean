/-
  The law NumOrder about numbers and lists alone: numbers' bytes stand in the order of the numbers.
-/
import Derived.Test.YtciipbdhibkkcaaPureSaidNumOrder
import Derived.Test.YtciipbdhibkkcaaQOPut16
import Derived.Test.YtciipbdhibkkcaaQOPut32
namespace Go.Proofs.Ytciipbdhibkkcaa.Pure
open Go.RowKit Go.Proofs.Ytciipbdhibkkcaa.PO Go.Proofs.YtciipbdhibkkcaaW.PrintWords Go.Proofs.YtciipbdhibkkcaaW.PrintLast Go.Proofs.Ytciipbdhibkkcaa.Base Go.Proofs.Ytciipbdhibkkcaa.QO
set_option linter.unusedSimpArgs false
set_option linter.unusedVariables false

namespace NumOrder_
theorem awake : Ev (fun k => bolterlaw01_awake.f k) true := Ev.of (fun k => bolterlaw01_awake.mono k) (k := 10) (by kernel_rfl)
def u8 (n : Int) : UInt8 := UInt8.ofNat n.toNat
theorem u8_lt {x y : Int} (x0 : 0 ≤ x) (x1 : x < 256) (y0 : 0 ≤ y) (y1 : y < 256) : (u8 x < u8 y) ↔ x < y := by
  unfold u8
  rw [UInt8.lt_iff_toNat_lt, UInt8.toNat_ofNat', UInt8.toNat_ofNat']
  omega
theorem u8_eq {x y : Int} (x0 : 0 ≤ x) (x1 : x < 256) (y0 : 0 ≤ y) (y1 : y < 256) : (u8 x = u8 y) ↔ x = y := by
  unfold u8
  rw [← UInt8.toNat_inj, UInt8.toNat_ofNat', UInt8.toNat_ofNat']
  omega
theorem less_cons {x y : Int} (x0 : 0 ≤ x) (x1 : x < 256) (y0 : 0 ≤ y) (y1 : y < 256) (l l' : List UInt8) :
    Op.bytesLess (u8 x :: l) (u8 y :: l') = (decide (x < y) || (decide (x = y) && Op.bytesLess l l')) := by
  have e1 := u8_lt x0 x1 y0 y1
  have e2 := u8_eq x0 x1 y0 y1
  simp only [Op.bytesLess]
  rw [decide_eq_decide.2 e1, Bool.beq_eq_decide_eq, decide_eq_decide.2 e2]
theorem str_list (l : List Int) : (strOfNums l).toList = l.map u8 := Go.Proofs.Ytciipbdhibkkcaa.Base.str_list l
theorem dig {p q x0 x1 x2 x3 y0 y1 y2 y3 : Int} (hx : p = ((x0 * 256 + x1) * 256 + x2) * 256 + x3) (hy : q = ((y0 * 256 + y1) * 256 + y2) * 256 + y3)
    (a0 : 0 ≤ x0) (b0 : x0 < 256) (a1 : 0 ≤ x1) (b1 : x1 < 256) (a2 : 0 ≤ x2) (b2 : x2 < 256) (a3 : 0 ≤ x3) (b3 : x3 < 256)
    (c0 : 0 ≤ y0) (d0 : y0 < 256) (c1 : 0 ≤ y1) (d1 : y1 < 256) (c2 : 0 ≤ y2) (d2 : y2 < 256) (c3 : 0 ≤ y3) (d3 : y3 < 256) :
    Op.bytesLess [u8 x0, u8 x1, u8 x2, u8 x3] [u8 y0, u8 y1, u8 y2, u8 y3] = decide (p < q) := by
  rw [less_cons a0 b0 c0 d0, less_cons a1 b1 c1 d1, less_cons a2 b2 c2 d2, less_cons a3 b3 c3 d3]
  rw [Bool.eq_iff_iff]
  simp only [Op.bytesLess, Bool.or_eq_true, Bool.and_eq_true, decide_eq_true_eq, Bool.and_false, Bool.or_false]
  omega
theorem dig2 {p q x2 x3 y2 y3 : Int} (hx : p = x2 * 256 + x3) (hy : q = y2 * 256 + y3)
    (a2 : 0 ≤ x2) (b2 : x2 < 256) (a3 : 0 ≤ x3) (b3 : x3 < 256)
    (c2 : 0 ≤ y2) (d2 : y2 < 256) (c3 : 0 ≤ y3) (d3 : y3 < 256) :
    Op.bytesLess [u8 x2, u8 x3] [u8 y2, u8 y3] = decide (p < q) := by
  rw [less_cons a2 b2 c2 d2, less_cons a3 b3 c3 d3]
  rw [Bool.eq_iff_iff]
  simp only [Op.bytesLess, Bool.or_eq_true, Bool.and_eq_true, decide_eq_true_eq, Bool.and_false, Bool.or_false]
  omega
theorem less32 (a b : Int) (a0 : 0 ≤ a) (a1 : a ≤ 4294967295) (b0 : 0 ≤ b) (b1 : b ≤ 4294967295) :
    Op.bytesLess (strOfNums (all32 [a])).toList (strOfNums (all32 [b])).toList = decide (a < b) := by
  rw [str_list, str_list]
  exact dig (p := a) (q := b) (x0 := a / 16777216 % 256) (x1 := a / 65536 % 256) (x2 := a / 256 % 256) (x3 := a % 256) (y0 := b / 16777216 % 256) (y1 := b / 65536 % 256) (y2 := b / 256 % 256) (y3 := b % 256)
    (by omega) (by omega) (by omega) (by omega) (by omega) (by omega) (by omega) (by omega) (by omega) (by omega) (by omega) (by omega) (by omega) (by omega) (by omega) (by omega) (by omega) (by omega)
theorem less16 (a b : Int) (a0 : 0 ≤ a) (a1 : a ≤ 65535) (b0 : 0 ≤ b) (b1 : b ≤ 65535) :
    Op.bytesLess (strOfNums (all16 [a])).toList (strOfNums (all16 [b])).toList = decide (a < b) := by
  rw [str_list, str_list]
  exact dig2 (p := a) (q := b) (x2 := a / 256 % 256) (x3 := a % 256) (y2 := b / 256 % 256) (y3 := b % 256)
    (by omega) (by omega) (by omega) (by omega) (by omega) (by omega) (by omega) (by omega) (by omega) (by omega)
end NumOrder_

theorem NumOrder : PureSaid.NumOrder := by
  intro a b c d ha hb hc hd _
  have ha := bounds_u32 ha
  have hb := bounds_u32 hb
  have hc := bounds_u16 hc
  have hd := bounds_u16 hd
  have p1 := put32 [] [a] (by simp)
  have p2 := put32 [] [b] (by simp)
  have p3 := put16 [] [c] (by simp)
  have p4 := put16 [] [d] (by simp)
  rw [List.nil_append] at p1 p2 p3 p4
  refine Ev.rounds ?_
  unfold bolterlaw01_NumOrder.f
  refine Ev.bind NumOrder_.awake ?_
  simp only [if_true]
  refine Ev.bind p1 (Ev.bind p2 (Ev.bind p3 (Ev.bind p4 ?_)))
  refine Ev.congr (f := fun _ => some true) (fun k => ?_) (Ev.now _)
  rw [NumOrder_.less32 a b ha.1 ha.2 hb.1 hb.2, NumOrder_.less16 c d hc.1 hc.2 hd.1 hd.2]
  simp

end Go.Proofs.Ytciipbdhibkkcaa.Pure
