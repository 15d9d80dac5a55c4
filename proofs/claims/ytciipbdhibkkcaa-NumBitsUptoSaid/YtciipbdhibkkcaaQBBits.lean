/-
  What num.Bits and num.Flags answer, in plain words. No macro, syntax, notation, axiom, sorry.
-/
import Derived.Test.YtciipbdhibkkcaaPBx1
import Derived.Test.YtciipbdhibkkcaaPBx1
import Derived.Test.YtciipbdhibkkcaaBase
namespace Go.Proofs.Ytciipbdhibkkcaa.QB
open Go.RowKit Go.Proofs.Ytciipbdhibkkcaa.PB Go.Proofs.YtciipbdhibkkcaaW.PrintWords Go.Proofs.YtciipbdhibkkcaaW.PrintLast Go.Proofs.Ytciipbdhibkkcaa.Base
set_option linter.unusedVariables false
set_option linter.unusedSimpArgs false

def bone (b : Bool) : Int := if b = true then 1 else 0
def bstep (v : Int) (b : Bool) : Int := v * 2 % 65536 + bone b
/-- The number of so many flags, the first one highest. -/
def bv (l : List Bool) : Int := l.foldl bstep 0
theorem bv_snoc (l : List Bool) (b : Bool) : bv (l ++ [b]) = bstep (bv l) b := by simp [bv, List.foldl_append]
theorem bv_rng (l : List Bool) : 0 ≤ bv l ∧ bv l < 65536 := by
  have key : ∀ (l : List Bool) (v : Int), 0 ≤ v ∧ v < 65536 → 0 ≤ l.foldl bstep v ∧ l.foldl bstep v < 65536 := by
    intro l
    induction l with
    | nil => intro v h; exact h
    | cons b r ih =>
      intro v h
      refine ih (bstep v b) ?_
      unfold bstep bone
      split <;> omega
  exact key l 0 (by omega)
theorem rdOf_nat (l : List Bool) (i : Nat) (h : i < l.length) : rdOf false l (i : Int) = l[i] := by
  simp [rdOf, List.getD, List.getElem?_eq_getElem h]
theorem bv_take (l : List Bool) (i : Nat) (h : i < l.length) : bv (l.take (i + 1)) = bstep (bv (l.take i)) (rdOf false l i) := by
  rw [List.take_succ_eq_append_getElem h, rdOf_nat l i h, bv_snoc]
theorem or1 {x : Int} (h0 : 0 ≤ x) (h1 : x < 65536) (h2 : x % 2 = 0) : Go.bits .or .u16 x 1 = x + 1 := by
  have e2 : x % 2 ^ 1 = 0 := by omega
  have e3 : x < 2 ^ 16 := by omega
  exact bits_join .u16 16 (by decide) wraps_u16 1 x 1 h0 e2 e3 (by omega) (by omega) (by omega)
theorem and1 {x : Int} (h0 : 0 ≤ x) (h1 : x < 65536) : Go.bits .and .u16 x 1 = x % 2 := by
  have e3 : x < 2 ^ 16 := by omega
  exact bits_mask .u16 16 (by decide) wraps_u16 1 (by decide) x h0 e3
theorem bits_loop (l : List Bool) (hl : l.length ≤ 140737488355328) (d : Nat) : ∀ i : Nat, i + d = l.length →
    Ev (fun k => num_Bits.l0 k (bv (l.take i)) l (l.length : Int) (i : Int)) (bv l) := by
  induction d with
  | zero =>
    intro i hi
    obtain rfl : i = l.length := by omega
    refine Ev.step (f := fun _ => some (bv l)) (fun k => ?_) (Ev.now _)
    simp only [num_Bits.l0, Int.lt_irrefl, if_false, List.take_length]
  | succ d ih =>
    intro i hi
    have hlt : i < l.length := by omega
    have hr := bv_rng (l.take i)
    refine Ev.step (fun k => ?_) (ih (i + 1) (by omega))
    have e : wrap64 ((i : Int) + 1) = ((i + 1 : Nat) : Int) := by rw [w64 (by omega) (by omega)]; omega
    rw [bv_take l i hlt]
    simp only [num_Bits.l0, IntKind.wrap_u16]
    rw [if_pos (by omega), if_pos (by omega), if_pos (by omega), e]
    cases hb : rdOf false l (i : Int)
    · simp [bstep, bone]
    · rw [if_pos rfl, or1 (by omega) (by omega) (by omega)]
      rfl
theorem bitsE (l : List Bool) (hl : l.length ≤ 140737488355328) : Ev (fun k => num_Bits.f k l) (bv l) := bits_loop l hl l.length 0 (by omega)

/-- The flags of a number: so many, the first one highest. -/
def fl (n : Int) : Nat → List Bool
  | 0 => []
  | m + 1 => fl (n / 2) m ++ [n % 2 == 1]
theorem fl_len (m : Nat) : ∀ n : Int, (fl n m).length = m := by
  induction m with
  | zero => intro n; rfl
  | succ m ih => intro n; simp only [fl, List.length_append, ih, List.length_cons, List.length_nil]
theorem flags_loop (j : Nat) : ∀ (n : Int) (suf : List Bool), j + suf.length ≤ 140737488355328 → 0 ≤ n → n < 65536 →
    Ev (fun k => num_Flags.l0 k n (List.replicate j false ++ suf) ((j : Int) - 1)) (fl n j ++ suf) := by
  induction j with
  | zero =>
    intro n suf _ _ _
    refine Ev.step (f := fun _ => some suf) (fun k => ?_) (Ev.now _)
    simp only [num_Flags.l0]
    rw [if_neg (by omega)]
    rfl
  | succ j ih =>
    intro n suf hs h0 h1
    have hi := ih (n / 2) ((n % 2 == 1) :: suf) (by simp only [List.length_cons]; omega) (by omega) (by omega)
    have e : fl (n / 2) j ++ (n % 2 == 1) :: suf = fl n (j + 1) ++ suf := by simp [fl]
    rw [e] at hi
    refine Ev.step (fun k => ?_) hi
    simp only [num_Flags.l0]
    have hl : (List.replicate (j + 1) false ++ suf).length = j + 1 + suf.length := by simp
    rw [if_pos (by omega), if_pos (by omega), if_pos (by rw [hl]; omega), and1 h0 h1, w64 (by omega) (by omega)]
    have es : (List.replicate (j + 1) false ++ suf).set (((j + 1 : Nat) : Int) - 1).toNat (n % 2 == 1) = List.replicate j false ++ (n % 2 == 1) :: suf := by
      rw [show (((j + 1 : Nat) : Int) - 1).toNat = j by omega, List.replicate_succ', List.append_assoc, List.set_append_right _ _ (by simp)]
      simp
    rw [es]
    congr 1
    omega
theorem flags (n : Int) (many : Int) (m : Nat) (h0 : 0 ≤ n) (h1 : n < 65536) (hm : mx 0 (mn many 16) = (m : Int)) (h16 : m ≤ 16) : Ev (fun k => num_Flags.f k n many) (fl n m) := by
  have h := flags_loop m n [] (by simp; omega) h0 h1
  rw [List.append_nil, List.append_nil] at h
  refine Ev.congr (fun k => ?_) h
  unfold num_Flags.f
  rw [hm, if_pos (by omega), if_pos (by omega)]
  simp only [Option.bind_some, Int.toNat_natCast, List.length_replicate]
  rw [w64 (by omega) (by omega)]
theorem pow_step (n : Int) (h : 0 ≤ n) (m : Nat) (hm : m < 16) : n / 2 % 2 ^ m * 2 % 65536 + n % 2 = n % 2 ^ (m + 1) := by
  have hc : m = 0 ∨ m = 1 ∨ m = 2 ∨ m = 3 ∨ m = 4 ∨ m = 5 ∨ m = 6 ∨ m = 7 ∨ m = 8 ∨ m = 9 ∨ m = 10 ∨ m = 11 ∨ m = 12 ∨ m = 13 ∨ m = 14 ∨ m = 15 := by omega
  rcases hc with rfl | rfl | rfl | rfl | rfl | rfl | rfl | rfl | rfl | rfl | rfl | rfl | rfl | rfl | rfl | rfl <;> omega
theorem bv_fl (m : Nat) : ∀ n : Int, 0 ≤ n → m ≤ 16 → bv (fl n m) = n % 2 ^ m := by
  induction m with
  | zero => intro n h _; simp [fl, bv]
  | succ m ih =>
    intro n h hm
    simp only [fl]
    rw [bv_snoc, ih (n / 2) (by omega) (by omega)]
    unfold bstep
    have : bone (n % 2 == 1) = n % 2 := by
      unfold bone
      by_cases hp : n % 2 = 1
      · simp [hp]
      · have : n % 2 = 0 := by omega
        simp [this]
    rw [this]
    exact pow_step n h m (by omega)
end Go.Proofs.Ytciipbdhibkkcaa.QB
