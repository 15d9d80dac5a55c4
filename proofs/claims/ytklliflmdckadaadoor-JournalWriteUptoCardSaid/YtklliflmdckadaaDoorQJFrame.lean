/-
  What the functions of package frame answer, in plain words: the check of bytes, their frame. No macro, syntax, notation, axiom, sorry.
-/
import Derived.Test.YtklliflmdckadaaDoorPJx1
import Derived.Test.YtklliflmdckadaaDoorPJx1
import Derived.Test.YtklliflmdckadaaDoorQJPut16
namespace Go.Proofs.YtklliflmdckadaaDoor.QJ
open Go.RowKit Go.Proofs.YtklliflmdckadaaDoor.PJ Go.Proofs.YtklliflmdckadaaDoorW.PrintWords Go.Proofs.YtklliflmdckadaaDoorW.PrintLast Go.Proofs.YtklliflmdckadaaDoor.Base
set_option linter.unusedVariables false
set_option linter.unusedSimpArgs false
attribute [local irreducible] rd bt strOfNums be16 all16

/-- One step of the check: the sum of the bytes, and the sum of these sums. -/
def cstep (p : Int × Int) (c : Int) : Int × Int := ((p.1 + c) % 255, (p.2 + (p.1 + c) % 255) % 255)
def cfold (l : List Int) : Int × Int := l.foldl cstep (0, 0)
/-- The check of bytes. -/
def chk (l : List Int) : Int := (cfold l).2 * 256 + (cfold l).1
theorem cfold_snoc (l : List Int) (c : Int) : cfold (l ++ [c]) = cstep (cfold l) c := by simp [cfold, List.foldl_append]
theorem cfold_rng (l : List Int) : 0 ≤ (cfold l).1 ∧ (cfold l).1 < 255 ∧ 0 ≤ (cfold l).2 ∧ (cfold l).2 < 255 := by
  have key : ∀ (l : List Int) (p : Int × Int), 0 ≤ p.1 ∧ p.1 < 255 ∧ 0 ≤ p.2 ∧ p.2 < 255 → 0 ≤ (l.foldl cstep p).1 ∧ (l.foldl cstep p).1 < 255 ∧ 0 ≤ (l.foldl cstep p).2 ∧ (l.foldl cstep p).2 < 255 := by
    intro l
    induction l with
    | nil => intro p h; exact h
    | cons c r ih =>
      intro p h
      refine ih (cstep p c) ?_
      simp only [cstep]
      omega
  exact key l (0, 0) (by simp)
theorem chk_rng (l : List Int) : 0 ≤ chk l ∧ chk l < 65536 := by
  have := cfold_rng l
  unfold chk
  omega
theorem cfold_take (l : List Int) (i : Nat) (h : i < l.length) : cfold (l.take (i + 1)) = cstep (cfold (l.take i)) (rd l i) := by
  rw [List.take_succ_eq_append_getElem h, rd_nat l i h, cfold_snoc]

theorem check_loop (l : List Int) (hl : l.length ≤ 140737488355328) (B : B8 l) (d : Nat) : ∀ i : Nat, i + d = l.length →
    Ev (fun k => frame_Check.l0 k (cfold (l.take i)).1 (cfold (l.take i)).2 l (l.length : Int) (i : Int)) (chk l) := by
  induction d with
  | zero =>
    intro i hi
    obtain rfl : i = l.length := by omega
    refine Ev.step (f := fun _ => some (chk l)) (fun k => ?_) (Ev.now _)
    have hr := cfold_rng l
    simp only [frame_Check.l0, Int.lt_irrefl, if_false, List.take_length, IntKind.wrap_u16]
    unfold chk
    rw [show (cfold l).2 * 256 % 65536 = (cfold l).2 * 256 by omega, or16 (by omega) (by omega) (by omega) (by omega)]
  | succ d ih =>
    intro i hi
    have hlt : i < l.length := by omega
    have hb := B _ (rd_mem (l := l) (i := (i : Int)) (by omega) (by omega))
    have hr := cfold_rng (l.take i)
    refine Ev.step (fun k => ?_) (ih (i + 1) (by omega))
    have e : wrap64 ((i : Int) + 1) = ((i + 1 : Nat) : Int) := by rw [w64 (by omega) (by omega)]; omega
    rw [cfold_take l i hlt]
    simp only [frame_Check.l0, IntKind.wrap_u16, cstep]
    generalize hv : rd l (i : Int) = v at hb ⊢
    generalize (cfold (l.take i)).1 = a at hr ⊢
    generalize (cfold (l.take i)).2 = b at hr ⊢
    rw [if_pos (by omega), if_pos (by omega), if_pos (by omega), e]
    have e1 : Int.tmod ((a + v % 65536) % 65536) 255 = (a + v) % 255 := by rw [Int.tmod_eq_emod_of_nonneg (by omega)]; omega
    rw [e1]
    have e2 : Int.tmod ((b + (a + v) % 255) % 65536) 255 = (b + (a + v) % 255) % 255 := by rw [Int.tmod_eq_emod_of_nonneg (by omega)]; omega
    rw [e2]
theorem check (l : List Int) (hl : l.length ≤ 140737488355328) (B : B8 l) : Ev (fun k => frame_Check.f k l) (chk l) := by
  have h := check_loop l hl B l.length 0 (by omega)
  exact h

/-- All bits of a number of sixteen bits turned. -/
theorem not16 {n : Int} (h0 : 0 ≤ n) (h1 : n < 65536) : Go.bits .xor .u16 IntKind.u16.max n = 65535 - n := by
  obtain ⟨m, rfl⟩ := Int.eq_ofNat_of_zero_le h0
  have hm : m < 65536 := by omega
  have e : Go.bits .xor .u16 IntKind.u16.max (m : Int) = ((65535 ^^^ m : Nat) : Int) := u16_xor_nat 65535 m (by omega) hm
  rw [e]
  have hx : 65535 ^^^ m = 65535 - m := by
    apply Nat.eq_of_testBit_eq
    intro i
    rw [Nat.testBit_xor, show (65535 : Nat) = 2 ^ 16 - 1 by rfl, Nat.testBit_two_pow_sub_one, show 2 ^ 16 - 1 - m = 2 ^ 16 - (m + 1) by omega, Nat.testBit_two_pow_sub_succ (by omega)]
    by_cases hi : i < 16
    · simp [hi]
    · have : m.testBit i = false := Nat.testBit_lt_two_pow (Nat.lt_of_lt_of_le (by omega : m < 2 ^ 16) (Nat.pow_le_pow_right (by omega) (by omega)))
      simp [hi, this]
  omega

/-- A frame: the length of bytes, it with all bits turned, they, and their check. -/
def hd (n : Int) : List Int := be16 n ++ be16 (65535 - n)
def fr (l : List Int) : List Int := hd l.length ++ l ++ be16 (chk l)
theorem hd_len (n : Int) : (hd n).length = 4 := by unfold hd; rw [List.length_append, be16_len, be16_len]
theorem fr_len (l : List Int) : (fr l).length = l.length + 6 := by unfold fr; rw [List.length_append, List.length_append, hd_len, be16_len]; omega
theorem hd_b8 (n : Int) : B8 (hd n) := B8.append (be16_b8 _) (be16_b8 _)
theorem fr_b8 {l : List Int} (h : B8 l) : B8 (fr l) := B8.append (B8.append (hd_b8 _) h) (be16_b8 _)
theorem all16_two (a b : Int) : all16 [a, b] = be16 a ++ be16 b := by rw [all16_cons, all16_cons]; unfold all16; simp
theorem all16_one (a : Int) : all16 [a] = be16 a := by rw [all16_cons]; unfold all16; simp
theorem make_long (l : List Int) (hl : 600 < l.length) (k : Nat) : frame_Make.f k l = some ([], false) := by
  unfold frame_Make.f
  rw [if_pos (by omega)]
theorem make (l : List Int) (hl : l.length ≤ 600) (B : B8 l) : Ev (fun k => frame_Make.f k l) (fr l, true) := by
  have e1 : IntKind.u16.wrap (l.length : Int) = l.length := by rw [IntKind.wrap_u16]; omega
  have e2 : Go.bits .xor .u16 IntKind.u16.max (l.length : Int) = 65535 - l.length := not16 (by omega) (by omega)
  have h0 := put16 [] [(l.length : Int), 65535 - l.length] (by simp)
  rw [List.nil_append, all16_two] at h0
  have h1 := check l (by omega) B
  have h2 := put16 (hd l.length ++ l) [chk l] (by rw [List.length_append, hd_len]; simp; omega)
  rw [all16_one] at h2
  refine Ev.congr (f := fun k => (num_Put16.f k [] [(l.length : Int), 65535 - l.length]).bind fun t => (if t.length + l.length < 140737488355328 then ((frame_Check.f k l).bind fun t1 => ((num_Put16.f k (t ++ l) [t1]).bind fun t2 => (some (t2, true)))) else none)) (fun k => ?_) ?_
  · unfold frame_Make.f
    rw [if_neg (by omega), e1, e2]
  · refine Ev.bind h0 ?_
    refine Ev.congr (f := fun k => (frame_Check.f k l).bind fun t1 => ((num_Put16.f k (hd l.length ++ l) [t1]).bind fun t2 => (some (t2, true)))) (fun k => ?_) ?_
    · have := hd_len (l.length : Int)
      unfold hd at this
      rw [if_pos (by omega)]
      rfl
    · refine Ev.bind h1 ?_
      refine Ev.bind h2 ?_
      exact Ev.now _
end Go.Proofs.YtklliflmdckadaaDoor.QJ
