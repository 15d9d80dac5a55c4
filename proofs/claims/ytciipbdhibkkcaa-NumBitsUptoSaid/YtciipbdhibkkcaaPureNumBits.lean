/-
  The law NumBits about numbers and lists alone: flags and the numbers that they are become one another.
-/
import Derived.Test.YtciipbdhibkkcaaPureSaidNumBits
import Derived.Test.YtciipbdhibkkcaaQBBits
namespace Go.Proofs.Ytciipbdhibkkcaa.Pure
open Go.RowKit Go.Proofs.Ytciipbdhibkkcaa.PB Go.Proofs.YtciipbdhibkkcaaW.PrintWords Go.Proofs.YtciipbdhibkkcaaW.PrintLast Go.Proofs.Ytciipbdhibkkcaa.Base Go.Proofs.Ytciipbdhibkkcaa.QB
set_option linter.unusedSimpArgs false
set_option linter.unusedVariables false

namespace NumBits_
theorem awake : Ev (fun k => bolterlaw01_awake.f k) true := Ev.of (fun k => bolterlaw01_awake.mono k) (k := 10) (by kernel_rfl)
theorem pow64 (m : Nat) (h : m ≤ 16) : wrap64 (2 ^ m) = 2 ^ m ∧ (2 : Int) ^ m ≠ 0 ∧ (0 : Int) < 2 ^ m := by
  have hc : m = 0 ∨ m = 1 ∨ m = 2 ∨ m = 3 ∨ m = 4 ∨ m = 5 ∨ m = 6 ∨ m = 7 ∨ m = 8 ∨ m = 9 ∨ m = 10 ∨ m = 11 ∨ m = 12 ∨ m = 13 ∨ m = 14 ∨ m = 15 ∨ m = 16 := by omega
  rcases hc with rfl | rfl | rfl | rfl | rfl | rfl | rfl | rfl | rfl | rfl | rfl | rfl | rfl | rfl | rfl | rfl | rfl <;> exact ⟨by rw [w64 (by omega) (by omega)], by omega, by omega⟩

theorem last (l : List Bool) (hl : l.length ≤ 1048576) (n many : Int) (h0 : 0 ≤ n) (h1 : n < 65536) (hm : -128 ≤ many ∧ many ≤ 127) :
    Ev (fun k => (num_Bits.f k l).bind fun t134 => (if (wrap64 (t134)) = bv l then ((num_Flags.f k n (wrap64 (many))).bind fun t135 => (if (t135.length : Int) = (mx 0 (mn (wrap64 (many)) 16)) then ((num_Bits.f k t135).bind fun t138 => (if (wrap64 (2 ^ (mx 0 (mn (wrap64 (many)) 16)).toNat)) = 0 then (none) else (some ((wrap64 (t138)) == (Int.tmod (wrap64 (n)) (wrap64 (2 ^ (mx 0 (mn (wrap64 (many)) 16)).toNat))))))) else (some false))) else (some false))) true := by
  have hr := bv_rng l
  have ew : wrap64 many = many := w64 (by omega) (by omega)
  obtain ⟨m, hmm, h16⟩ : ∃ m : Nat, mx 0 (mn many 16) = (m : Int) ∧ m ≤ 16 := by
    refine ⟨(mx 0 (mn many 16)).toNat, ?_, ?_⟩
    · unfold mx mn
      (repeat' split) <;> omega
    · unfold mx mn
      (repeat' split) <;> omega
  obtain ⟨hp, hp0, hpp⟩ := pow64 m h16
  refine Ev.bind (bitsE l (by omega)) ?_
  refine Ev.congr (f := fun k => (num_Flags.f k n many).bind fun t135 => (if (t135.length : Int) = (m : Int) then ((num_Bits.f k t135).bind fun t138 => (some ((wrap64 (t138)) == (Int.tmod n (2 ^ m))))) else (some false))) (fun k => ?_) ?_
  · rw [if_pos (w64 (by omega) (by omega)), ew, hmm, Int.toNat_natCast, hp, w64 (n := n) (by omega) (by omega)]
    simp only [hp0, if_false]
  · refine Ev.bind (flags n many m h0 h1 hmm h16) ?_
    refine Ev.congr (f := fun k => (num_Bits.f k (fl n m)).bind fun t138 => (some ((wrap64 (t138)) == (Int.tmod n (2 ^ m))))) (fun k => ?_) ?_
    · rw [if_pos (by rw [fl_len])]
    · have hb := bitsE (fl n m) (by rw [fl_len]; omega)
      refine Ev.bind hb ?_
      have hv := bv_rng (fl n m)
      have : (wrap64 (bv (fl n m)) == Int.tmod n (2 ^ m)) = true := by
        rw [w64 (by omega) (by omega), bv_fl m n h0 h16, Int.tmod_eq_emod_of_nonneg h0]
        simp
      rw [this]
      exact Ev.now _

theorem loop (l : List Bool) (hl : l.length ≤ 1048576) (n many : Int) (h0 : 0 ≤ n) (h1 : n < 65536) (hm : -128 ≤ many ∧ many ≤ 127) (d : Nat) : ∀ i : Nat, i + d = l.length →
    Ev (fun k => bolterlaw01_NumBits.l0 k l n many (bv (l.take i)) l (l.length : Int) (i : Int)) true := by
  induction d with
  | zero =>
    intro i hi
    obtain rfl : i = l.length := by omega
    refine Ev.step (fun k => ?_) (last l hl n many h0 h1 hm)
    simp only [bolterlaw01_NumBits.l0, Int.lt_irrefl, if_false, List.take_length]
  | succ d ih =>
    intro i hi
    have hlt : i < l.length := by omega
    have hr := bv_rng (l.take i)
    refine Ev.step (fun k => ?_) (ih (i + 1) (by omega))
    have e : wrap64 ((i : Int) + 1) = ((i + 1 : Nat) : Int) := by rw [w64 (by omega) (by omega)]; omega
    have e2 : Int.tmod (wrap64 (bv (l.take i) * 2)) 65536 = bv (l.take i) * 2 % 65536 := by rw [w64 (by omega) (by omega), Int.tmod_eq_emod_of_nonneg (by omega)]
    rw [bv_take l i hlt]
    simp only [bolterlaw01_NumBits.l0]
    rw [if_pos (by omega), if_pos (by omega), if_pos (by omega), e, e2]
    cases hb : rdOf false l (i : Int)
    · simp [bstep, bone]
    · rw [if_pos rfl, w64 (by omega) (by omega)]
      rfl
end NumBits_

theorem NumBits : PureSaid.NumBits := by
  intro l n many _ hlm hn hmy hbulk
  rw [opn.bs_one] at hbulk
  have h16 := bounds_u16 hn
  have h8 := bounds_i8 hmy
  refine Ev.rounds ?_
  unfold bolterlaw01_NumBits.f
  refine Ev.bind NumBits_.awake ?_
  simp only [if_true]
  exact NumBits_.loop l (by omega) n many h16.1 (by omega) h8 l.length 0 (by omega)

end Go.Proofs.Ytciipbdhibkkcaa.Pure
