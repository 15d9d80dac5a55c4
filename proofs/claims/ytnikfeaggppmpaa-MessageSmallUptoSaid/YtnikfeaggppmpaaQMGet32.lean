import Derived.Test.YtnikfeaggppmpaaBase
import Derived.Test.YtnikfeaggppmpaaPMx5
import Derived.Test.YtnikfeaggppmpaaPMx8
import Derived.Test.YtnikfeaggppmpaaPMx9
/- part of a proof; what it has no use for was struck out -/
namespace Go.Proofs.Ytnikfeaggppmpaa.QM
open Go.RowKit Go.Proofs.YtnikfeaggppmpaaW.PrintWords Go.Proofs.YtnikfeaggppmpaaW.PrintLast Go.Proofs.Ytnikfeaggppmpaa.Base
set_option linter.unusedVariables false
set_option linter.unusedSimpArgs false
def be16 (n : Int) : List Int := [n / 256 % 256, n % 256]
theorem be16_b8 (n : Int) : B8 (be16 n) := B8.cons (by omega) (by omega) (B8.cons (by omega) (by omega) B8.nil)
theorem be16_len (n : Int) : (be16 n).length = 2 := rfl
def all16 (ns : List Int) : List Int := ns.flatMap be16
theorem all16_append (a b : List Int) : all16 (a ++ b) = all16 a ++ all16 b := List.flatMap_append
theorem all16_cons (n : Int) (r : List Int) : all16 (n :: r) = be16 n ++ all16 r := rfl
theorem all16_len (ns : List Int) : (all16 ns).length = 2 * ns.length := by
  induction ns with
  | nil => rfl
  | cons n r ih => rw [all16_cons, List.length_append, ih, List.length_cons]; have : (be16 n).length = 2 := rfl; omega
theorem all16_b8 (ns : List Int) : B8 (all16 ns) := fun y hy => by
  obtain ⟨n, _, h⟩ := List.mem_flatMap.1 hy
  exact be16_b8 n y h
theorem all16_take (ns : List Int) (i : Nat) (h : i < ns.length) : all16 (ns.take (i + 1)) = all16 (ns.take i) ++ be16 (rd ns i) := by
  rw [List.take_succ_eq_append_getElem h, rd_nat ns i h, all16_append]
  rfl
def be32 (n : Int) : List Int := [n / 16777216 % 256, n / 65536 % 256, n / 256 % 256, n % 256]
theorem be32_b8 (n : Int) : B8 (be32 n) := B8.cons (by omega) (by omega) (B8.cons (by omega) (by omega) (B8.cons (by omega) (by omega) (B8.cons (by omega) (by omega) B8.nil)))
def all32 (ns : List Int) : List Int := ns.flatMap be32
theorem all32_append (a b : List Int) : all32 (a ++ b) = all32 a ++ all32 b := List.flatMap_append
theorem all32_cons (n : Int) (r : List Int) : all32 (n :: r) = be32 n ++ all32 r := rfl
theorem all32_len (ns : List Int) : (all32 ns).length = 4 * ns.length := by
  induction ns with
  | nil => rfl
  | cons n r ih => rw [all32_cons, List.length_append, ih, List.length_cons]; have : (be32 n).length = 4 := rfl; omega
theorem all32_b8 (ns : List Int) : B8 (all32 ns) := fun y hy => by
  obtain ⟨n, _, h⟩ := List.mem_flatMap.1 hy
  exact be32_b8 n y h
theorem all32_take (ns : List Int) (i : Nat) (h : i < ns.length) : all32 (ns.take (i + 1)) = all32 (ns.take i) ++ be32 (rd ns i) := by
  rw [List.take_succ_eq_append_getElem h, rd_nat ns i h, all32_append]
  rfl
end Go.Proofs.Ytnikfeaggppmpaa.QM

/- part of a proof; what it has no use for was struck out -/
namespace Go.Proofs.Ytnikfeaggppmpaa.QM
open Go.RowKit Go.Proofs.Ytnikfeaggppmpaa.PM Go.Proofs.YtnikfeaggppmpaaW.PrintWords Go.Proofs.YtnikfeaggppmpaaW.PrintLast Go.Proofs.Ytnikfeaggppmpaa.Base
set_option linter.unusedVariables false
set_option linter.unusedSimpArgs false
theorem put16_loop (b ns : List Int) (hb : b.length + 2 * ns.length < 140737488355328) (d : Nat) : ∀ (i : Nat), i + d = ns.length →
    Ev (fun k => num_Put16.l0 k (b ++ all16 (ns.take i)) ns (ns.length : Int) (i : Int)) (b ++ all16 ns) := by
  induction d with
  | zero =>
    intro i hi
    obtain rfl : i = ns.length := by omega
    refine Ev.step (f := fun _ => some (b ++ all16 ns)) (fun k => ?_) (Ev.now _)
    simp only [num_Put16.l0, Int.lt_irrefl, if_false, List.take_length]
  | succ d ih =>
    intro i hi
    have hlt : i < ns.length := by omega
    refine Ev.step (fun k => ?_) (ih (i + 1) (by omega))
    have hl := all16_len (ns.take i)
    have ht : (ns.take i).length = i := by rw [List.length_take]; omega
    have e : wrap64 ((i : Int) + 1) = ((i + 1 : Nat) : Int) := by rw [w64 (by omega) (by omega)]; omega
    simp only [num_Put16.l0]
    rw [if_pos (by omega), if_pos (by omega), if_pos (by omega)]
    simp only [Option.bind_some]
    rw [if_pos (by simp only [List.length_append, List.length_cons, List.length_nil]; omega), e, all16_take ns i hlt, List.append_assoc]
    rfl
theorem put16 (b ns : List Int) (hb : b.length + 2 * ns.length < 140737488355328) : Ev (fun k => num_Put16.f k b ns) (b ++ all16 ns) := by
  have h := put16_loop b ns hb ns.length 0 (by omega)
  refine Ev.congr (fun k => ?_) h
  unfold num_Put16.f
  rw [if_pos (by simp only [List.length_nil]; omega)]
  simp [all16]
end Go.Proofs.Ytnikfeaggppmpaa.QM

/- part of a proof; what it has no use for was struck out -/
namespace Go.Proofs.Ytnikfeaggppmpaa.QM
open Go.RowKit Go.Proofs.Ytnikfeaggppmpaa.PM Go.Proofs.YtnikfeaggppmpaaW.PrintWords Go.Proofs.YtnikfeaggppmpaaW.PrintLast Go.Proofs.Ytnikfeaggppmpaa.Base
set_option linter.unusedVariables false
set_option linter.unusedSimpArgs false
theorem put32_loop (b ns : List Int) (hb : b.length + 4 * ns.length < 140737488355328) (d : Nat) : ∀ (i : Nat), i + d = ns.length →
    Ev (fun k => num_Put32.l0 k (b ++ all32 (ns.take i)) ns (ns.length : Int) (i : Int)) (b ++ all32 ns) := by
  induction d with
  | zero =>
    intro i hi
    obtain rfl : i = ns.length := by omega
    refine Ev.step (f := fun _ => some (b ++ all32 ns)) (fun k => ?_) (Ev.now _)
    simp only [num_Put32.l0, Int.lt_irrefl, if_false, List.take_length]
  | succ d ih =>
    intro i hi
    have hlt : i < ns.length := by omega
    refine Ev.step (fun k => ?_) (ih (i + 1) (by omega))
    have hl := all32_len (ns.take i)
    have ht : (ns.take i).length = i := by rw [List.length_take]; omega
    have e : wrap64 ((i : Int) + 1) = ((i + 1 : Nat) : Int) := by rw [w64 (by omega) (by omega)]; omega
    simp only [num_Put32.l0]
    rw [if_pos (by omega), if_pos (by omega), if_pos (by omega)]
    simp only [Option.bind_some]
    rw [if_pos (by simp only [List.length_append, List.length_cons, List.length_nil]; omega), e, all32_take ns i hlt, List.append_assoc]
    rfl
theorem put32 (b ns : List Int) (hb : b.length + 4 * ns.length < 140737488355328) : Ev (fun k => num_Put32.f k b ns) (b ++ all32 ns) := by
  have h := put32_loop b ns hb ns.length 0 (by omega)
  refine Ev.congr (fun k => ?_) h
  unfold num_Put32.f
  rw [if_pos (by simp only [List.length_nil]; omega)]
  simp [all32]
end Go.Proofs.Ytnikfeaggppmpaa.QM

/- part of a proof; what it has no use for was struck out -/
namespace Go.Proofs.Ytnikfeaggppmpaa.QM
open Go.RowKit Go.Proofs.Ytnikfeaggppmpaa.PM Go.Proofs.YtnikfeaggppmpaaW.PrintWords Go.Proofs.YtnikfeaggppmpaaW.PrintLast Go.Proofs.Ytnikfeaggppmpaa.Base
set_option linter.unusedVariables false
set_option linter.unusedSimpArgs false
theorem get16_out (s : ByteArray) (at_ : Int) (h : at_ < 0 ∨ (s.size : Int) < at_ + 2) (hs : s.size ≤ 9223372036854775807) : num_Get16.f s at_ = some (0, false) := by
  unfold num_Get16.f
  by_cases h0 : at_ < 0
  · rw [if_pos h0]
  · rw [if_neg h0, if_pos (by rw [w64 (by omega) (by omega)]; omega)]
theorem get16_in (s : ByteArray) (at_ : Int) (h0 : 0 ≤ at_) (h1 : at_ + 2 ≤ s.size) (hs : s.size ≤ 9223372036854775807) : num_Get16.f s at_ = some (bt s at_ * 256 + bt s (at_ + 1), true) := by
  have r0 := bt_range s at_
  have r1 := bt_range s (at_ + 1)
  have e : wrap64 (at_ + 1) = at_ + 1 := w64 (by omega) (by omega)
  unfold num_Get16.f
  rw [if_neg (by omega), if_neg (by rw [w64 (by omega) (by omega)]; omega), if_pos h0, if_pos (by omega), e, if_pos (by omega), if_pos (by omega)]
  simp only [IntKind.wrap_u16]
  rw [show bt s at_ % 65536 = bt s at_ by omega, show bt s (at_ + 1) % 65536 = bt s (at_ + 1) by omega, show bt s at_ * 256 % 65536 = bt s at_ * 256 by omega, or16 (by omega) (by omega) (by omega) (by omega)]
end Go.Proofs.Ytnikfeaggppmpaa.QM

/- part of a proof; what it has no use for was struck out -/
namespace Go.Proofs.Ytnikfeaggppmpaa.QM
open Go.RowKit Go.Proofs.Ytnikfeaggppmpaa.PM Go.Proofs.YtnikfeaggppmpaaW.PrintWords Go.Proofs.YtnikfeaggppmpaaW.PrintLast Go.Proofs.Ytnikfeaggppmpaa.Base
set_option linter.unusedVariables false
set_option linter.unusedSimpArgs false
theorem get32_in (s : ByteArray) (at_ : Int) (h0 : 0 ≤ at_) (h1 : at_ + 4 ≤ s.size) (hs : s.size ≤ 9223372036854775807) :
    num_Get32.f s at_ = some (((bt s at_ * 256 + bt s (at_ + 1)) * 256 + bt s (at_ + 2)) * 256 + bt s (at_ + 3), true) := by
  have r0 := bt_range s at_
  have r1 := bt_range s (at_ + 1)
  have r2 := bt_range s (at_ + 2)
  have r3 := bt_range s (at_ + 3)
  unfold num_Get32.f
  rw [get16_in s at_ h0 (by omega) hs, w64 (by omega) (by omega), get16_in s (at_ + 2) (by omega) (by omega) hs]
  simp only [Option.bind_some, if_true]
  rw [show at_ + 2 + 1 = at_ + 3 by omega, show (bt s at_ * 256 + bt s (at_ + 1)) % 4294967296 = bt s at_ * 256 + bt s (at_ + 1) by omega, show (bt s (at_ + 2) * 256 + bt s (at_ + 3)) % 4294967296 = bt s (at_ + 2) * 256 + bt s (at_ + 3) by omega,
    show (bt s at_ * 256 + bt s (at_ + 1)) * 65536 % 4294967296 = (bt s at_ * 256 + bt s (at_ + 1)) * 65536 by omega, or32 (by omega) (by omega) (by omega) (by omega)]
  congr 2
  omega
theorem get32_out (s : ByteArray) (at_ : Int) (h : at_ < 0 ∨ (s.size : Int) < at_ + 4) (ha : -9223372036854775808 ≤ at_ ∧ at_ ≤ 9223372036854775807) (hs : s.size ≤ 4611686018427387904) : num_Get32.f s at_ = some (0, false) := by
  have hw : wrap64 (at_ + 2) = at_ + 2 ∨ wrap64 (at_ + 2) < 0 := by
    unfold wrap64
    omega
  unfold num_Get32.f
  by_cases h0 : at_ < 0 ∨ (s.size : Int) < at_ + 2
  · rw [get16_out s at_ h0 (by omega)]
    by_cases h1 : wrap64 (at_ + 2) < 0 ∨ (s.size : Int) < wrap64 (at_ + 2) + 2
    · rw [get16_out s _ h1 (by omega)]
      simp
    · rw [get16_in s _ (by omega) (by omega) (by omega)]
      simp
  · rw [get16_in s at_ (by omega) (by omega) (by omega), get16_out s _ (by omega) (by omega)]
    simp
end Go.Proofs.Ytnikfeaggppmpaa.QM
