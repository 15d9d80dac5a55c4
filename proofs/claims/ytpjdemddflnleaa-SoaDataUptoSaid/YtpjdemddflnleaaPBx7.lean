-- written by a program of this session out of the loaded program (its tools: wip/tools)
import Derived.Test.YtpjdemddflnleaaPBx0
import Derived.Test.YtpjdemddflnleaaPBx1
import Derived.Test.YtpjdemddflnleaaPBx2
import Derived.Test.YtpjdemddflnleaaPBx3
import Derived.Test.YtpjdemddflnleaaPBx4
import Derived.Test.YtpjdemddflnleaaPBx6
namespace Go.Proofs.Ytpjdemddflnleaa.PB
open Go.RowKit Go.Proofs.YtpjdemddflnleaaW.PrintWords Go.Proofs.YtpjdemddflnleaaW.PrintLast Go.Proofs.YtpjdemddflnleaaW.PrintMore
attribute [local go_sem] max2_int min2_int max_two min_two max_three min_three max_four min_four   -- for this text's walks alone
set_option linter.unusedVariables false
set_option linter.unusedSimpArgs false

attribute [local go_sem high] eqA28
/-! ### bolterlaw07_SoaData: function 7 -/
def bolterlaw07_SoaData.f (k : Nat) (l0 : List Int) (l1 : List Int) (a2 : Int) (a3 : Int) (a4 : Int) (a5 : Int) : Option (Bool) := (bolterlaw07_awake.f k).bind fun t233 => (if t233 = true then ((bolterlaw02_Name.f k l0).bind fun t234 => ((bolterlaw02_Name.f k l1).bind fun t235 => ((soa_Data.f k t234 t235 a2 a3 a4 a5 (Go.bits .xor .u32 a2 a5)).bind fun bt237 => (if t234.size + 1 ≤ 9223372036854775807 then (if (t234 ++ (⟨#[0]⟩ : ByteArray)).size + t235.size ≤ 9223372036854775807 then (if ((t234 ++ (⟨#[0]⟩ : ByteArray)) ++ t235).size + 1 ≤ 9223372036854775807 then ((num_Put32.f k ([] : List Int) (([a2, a3, a4, a5, Go.bits .xor .u32 a2 a5] : List Int))).bind fun t242 => (if (((t234 ++ (⟨#[0]⟩ : ByteArray)) ++ t235) ++ (⟨#[0]⟩ : ByteArray)).size + (strOfNums t242).size ≤ 9223372036854775807 then ((soa_Parse.f k bt237.1).bind fun bt245 => (if bt237.2 = true then (if bt237.1.toList = ((((t234 ++ (⟨#[0]⟩ : ByteArray)) ++ t235) ++ (⟨#[0]⟩ : ByteArray)) ++ (strOfNums t242)).toList then (if bt245.2.2.2.2.2.2.2 = true then (if (bt245.1.toList == t234.toList && (bt245.2.1.toList == t235.toList && (bt245.2.2.1 == a2 && (bt245.2.2.2.1 == a3 && (bt245.2.2.2.2.1 == a4 && (bt245.2.2.2.2.2.1 == a5 && (bt245.2.2.2.2.2.2.1 == (Go.bits .xor .u32 a2 a5)))))))) = true then ((rdata_May.f k 6 bt237.1).bind fun t254 => (some t254)) else (some false)) else (some false)) else (some false)) else (some false))) else (none))) else (none)) else (none)) else (none))))) else (some false))
theorem bolterlaw07_SoaData.mono : ∀ a0 a1 a2 a3 a4 a5 k, LeO (bolterlaw07_SoaData.f k a0 a1 a2 a3 a4 a5) (bolterlaw07_SoaData.f (k + 1) a0 a1 a2 a3 a4 a5) := by
  intro a0 a1 a2 a3 a4 a5 k
  unfold bolterlaw07_SoaData.f
  repeat' first
      | (with_reducible exact bolterlaw02_Name.mono _ _)
      | (with_reducible exact bolterlaw07_awake.mono _)
      | (with_reducible exact num_Put32.mono _ _ _)
      | (with_reducible exact rdata_May.mono _ _ _)
      | (with_reducible exact soa_Data.mono _ _ _ _ _ _ _ _)
      | (with_reducible exact soa_Parse.mono _ _)
      | (with_reducible exact LeO.refl _)
      | (with_reducible exact LeO.none _)
      | (with_reducible refine LeO.ite ?_ ?_)
      | (with_reducible refine LeO.bind ?_ (fun _ => ?_))
      | exact bolterlaw02_Name.mono _ _
      | exact bolterlaw07_awake.mono _
      | exact num_Put32.mono _ _ _
      | exact rdata_May.mono _ _ _
      | exact soa_Data.mono _ _ _ _ _ _ _ _
      | exact soa_Parse.mono _ _
      | exact LeO.none _
      | refine LeO.ite ?_ ?_
      | refine LeO.bind ?_ (fun _ => ?_)
def bolterlaw07_SoaData.T6 : Bool × List (List Nat × List Nat) := (true, [([], []), ([0], [0]), ([1], [1]), ([], []), ([3], [3]), ([2, 4], [2, 4]), ([5], [5]), ([], []), ([], []), ([], []), ([], []), ([], []), ([7, 8, 9, 10, 11], [7, 8, 9, 10, 11]), ([12], [12]), ([13], [13]), ([6, 14], [6, 14]), ([15, 13, 0, 1, 2, 3, 4, 5, 6, 7, 8, 9, 10, 11, 12, 13, 14, 15], [15])])
def bolterlaw07_SoaData.B6 : List Nat := [0, 1, 3, 0, 8, 31, 63, 0, 0, 0, 0, 0, 3968, 8064, 16256, 32767, 65535]
theorem bolterlaw07_SoaData.tab6 : rtab .any (opsOf Try.f7 6) = bolterlaw07_SoaData.T6 := by kernel_rfl
theorem bolterlaw07_SoaData.bits6 : waitsOk bolterlaw07_SoaData.T6.2 bolterlaw07_SoaData.B6 = true := by kernel_rfl
set_option maxHeartbeats 8000000 in
set_option maxRecDepth 100000 in
theorem bolterlaw07_SoaData.calls (k : Nat) (A0 : Option Addr) (c0 : Nat) (l0 : List Int) (A1 : Option Addr) (c1 : Nat) (l1 : List Int) (a2 : Int) (a3 : Int) (a4 : Int) (a5 : Int) (r : Bool) (w : World) (hr0 : Kd.C (Kd.int .u8) w A0 l0.length l0) (hc0 : l0.length ≤ c0) (hr1 : Kd.C (Kd.int .u8) w A1 l1.length l1) (hc1 : l1.length ≤ c1) (h : bolterlaw07_SoaData.f k l0 l1 a2 a3 a4 a5 = some r) :
    Calls Try.prog 7 #[.slice A0 l0.length c0, .slice A1 l1.length c1, .int .u32 a2, .int .u32 a3, .int .u32 a4, .int .u32 a5] w fun e w' => e = .returned (.bool r) ∧ Below w.heap.size w w' := by
  have hu28 := Try.underlying28
  have HR0 := Aside0.mk hr0
  have HC0 := Aside0.mk hc0
  clear hr0 hc0
  have HR1 := Aside0.mk hr1
  have HC1 := Aside0.mk hc1
  clear hr1 hc1
  have HB := Aside0.mk (Below.refl w.heap.size w)
  have H : ((bolterlaw07_awake.f k).bind fun t233 => (if t233 = true then ((bolterlaw02_Name.f k l0).bind fun t234 => ((bolterlaw02_Name.f k l1).bind fun t235 => ((soa_Data.f k t234 t235 a2 a3 a4 a5 (Go.bits .xor .u32 a2 a5)).bind fun bt237 => (if t234.size + 1 ≤ 9223372036854775807 then (if (t234 ++ (⟨#[0]⟩ : ByteArray)).size + t235.size ≤ 9223372036854775807 then (if ((t234 ++ (⟨#[0]⟩ : ByteArray)) ++ t235).size + 1 ≤ 9223372036854775807 then ((num_Put32.f k ([] : List Int) (([a2, a3, a4, a5, Go.bits .xor .u32 a2 a5] : List Int))).bind fun t242 => (if (((t234 ++ (⟨#[0]⟩ : ByteArray)) ++ t235) ++ (⟨#[0]⟩ : ByteArray)).size + (strOfNums t242).size ≤ 9223372036854775807 then ((soa_Parse.f k bt237.1).bind fun bt245 => (if bt237.2 = true then (if bt237.1.toList = ((((t234 ++ (⟨#[0]⟩ : ByteArray)) ++ t235) ++ (⟨#[0]⟩ : ByteArray)) ++ (strOfNums t242)).toList then (if bt245.2.2.2.2.2.2.2 = true then (if (bt245.1.toList == t234.toList && (bt245.2.1.toList == t235.toList && (bt245.2.2.1 == a2 && (bt245.2.2.2.1 == a3 && (bt245.2.2.2.2.1 == a4 && (bt245.2.2.2.2.2.1 == a5 && (bt245.2.2.2.2.2.2.1 == (Go.bits .xor .u32 a2 a5)))))))) = true then ((rdata_May.f k 6 bt237.1).bind fun t254 => (some t254)) else (some false)) else (some false)) else (some false)) else (some false))) else (none))) else (none)) else (none)) else (none))))) else (some false))) = some r := h
  clear h
  replace H := Option.bind_eq_some_iff.mp H
  obtain ⟨t233, A70, H⟩ := H
  replace H : (if t233 = true then ((bolterlaw02_Name.f k l0).bind fun t234 => ((bolterlaw02_Name.f k l1).bind fun t235 => ((soa_Data.f k t234 t235 a2 a3 a4 a5 (Go.bits .xor .u32 a2 a5)).bind fun bt237 => (if t234.size + 1 ≤ 9223372036854775807 then (if (t234 ++ (⟨#[0]⟩ : ByteArray)).size + t235.size ≤ 9223372036854775807 then (if ((t234 ++ (⟨#[0]⟩ : ByteArray)) ++ t235).size + 1 ≤ 9223372036854775807 then ((num_Put32.f k ([] : List Int) (([a2, a3, a4, a5, Go.bits .xor .u32 a2 a5] : List Int))).bind fun t242 => (if (((t234 ++ (⟨#[0]⟩ : ByteArray)) ++ t235) ++ (⟨#[0]⟩ : ByteArray)).size + (strOfNums t242).size ≤ 9223372036854775807 then ((soa_Parse.f k bt237.1).bind fun bt245 => (if bt237.2 = true then (if bt237.1.toList = ((((t234 ++ (⟨#[0]⟩ : ByteArray)) ++ t235) ++ (⟨#[0]⟩ : ByteArray)) ++ (strOfNums t242)).toList then (if bt245.2.2.2.2.2.2.2 = true then (if (bt245.1.toList == t234.toList && (bt245.2.1.toList == t235.toList && (bt245.2.2.1 == a2 && (bt245.2.2.2.1 == a3 && (bt245.2.2.2.2.1 == a4 && (bt245.2.2.2.2.2.1 == a5 && (bt245.2.2.2.2.2.2.1 == (Go.bits .xor .u32 a2 a5)))))))) = true then ((rdata_May.f k 6 bt237.1).bind fun t254 => (some t254)) else (some false)) else (some false)) else (some false)) else (some false))) else (none))) else (none)) else (none)) else (none))))) else (some false)) = some r := H
  have A7 := Aside0.mk A70
  clear A70
  by_cases c8 : t233 = true
  · subst c8
    have H1 : ((bolterlaw02_Name.f k l0).bind fun t234 => ((bolterlaw02_Name.f k l1).bind fun t235 => ((soa_Data.f k t234 t235 a2 a3 a4 a5 (Go.bits .xor .u32 a2 a5)).bind fun bt237 => (if t234.size + 1 ≤ 9223372036854775807 then (if (t234 ++ (⟨#[0]⟩ : ByteArray)).size + t235.size ≤ 9223372036854775807 then (if ((t234 ++ (⟨#[0]⟩ : ByteArray)) ++ t235).size + 1 ≤ 9223372036854775807 then ((num_Put32.f k ([] : List Int) (([a2, a3, a4, a5, Go.bits .xor .u32 a2 a5] : List Int))).bind fun t242 => (if (((t234 ++ (⟨#[0]⟩ : ByteArray)) ++ t235) ++ (⟨#[0]⟩ : ByteArray)).size + (strOfNums t242).size ≤ 9223372036854775807 then ((soa_Parse.f k bt237.1).bind fun bt245 => (if bt237.2 = true then (if bt237.1.toList = ((((t234 ++ (⟨#[0]⟩ : ByteArray)) ++ t235) ++ (⟨#[0]⟩ : ByteArray)) ++ (strOfNums t242)).toList then (if bt245.2.2.2.2.2.2.2 = true then (if (bt245.1.toList == t234.toList && (bt245.2.1.toList == t235.toList && (bt245.2.2.1 == a2 && (bt245.2.2.2.1 == a3 && (bt245.2.2.2.2.1 == a4 && (bt245.2.2.2.2.2.1 == a5 && (bt245.2.2.2.2.2.2.1 == (Go.bits .xor .u32 a2 a5)))))))) = true then ((rdata_May.f k 6 bt237.1).bind fun t254 => (some t254)) else (some false)) else (some false)) else (some false)) else (some false))) else (none))) else (none)) else (none)) else (none))))) = some r := by rw [if_pos rfl] at H; exact H
    clear H
    have H := H1
    clear H1
    replace H := Option.bind_eq_some_iff.mp H
    obtain ⟨t234, A90, H⟩ := H
    replace H : ((bolterlaw02_Name.f k l1).bind fun t235 => ((soa_Data.f k t234 t235 a2 a3 a4 a5 (Go.bits .xor .u32 a2 a5)).bind fun bt237 => (if t234.size + 1 ≤ 9223372036854775807 then (if (t234 ++ (⟨#[0]⟩ : ByteArray)).size + t235.size ≤ 9223372036854775807 then (if ((t234 ++ (⟨#[0]⟩ : ByteArray)) ++ t235).size + 1 ≤ 9223372036854775807 then ((num_Put32.f k ([] : List Int) (([a2, a3, a4, a5, Go.bits .xor .u32 a2 a5] : List Int))).bind fun t242 => (if (((t234 ++ (⟨#[0]⟩ : ByteArray)) ++ t235) ++ (⟨#[0]⟩ : ByteArray)).size + (strOfNums t242).size ≤ 9223372036854775807 then ((soa_Parse.f k bt237.1).bind fun bt245 => (if bt237.2 = true then (if bt237.1.toList = ((((t234 ++ (⟨#[0]⟩ : ByteArray)) ++ t235) ++ (⟨#[0]⟩ : ByteArray)) ++ (strOfNums t242)).toList then (if bt245.2.2.2.2.2.2.2 = true then (if (bt245.1.toList == t234.toList && (bt245.2.1.toList == t235.toList && (bt245.2.2.1 == a2 && (bt245.2.2.2.1 == a3 && (bt245.2.2.2.2.1 == a4 && (bt245.2.2.2.2.2.1 == a5 && (bt245.2.2.2.2.2.2.1 == (Go.bits .xor .u32 a2 a5)))))))) = true then ((rdata_May.f k 6 bt237.1).bind fun t254 => (some t254)) else (some false)) else (some false)) else (some false)) else (some false))) else (none))) else (none)) else (none)) else (none)))) = some r := H
    have A9 := Aside0.mk A90
    clear A90
    replace H := Option.bind_eq_some_iff.mp H
    obtain ⟨t235, A100, H⟩ := H
    replace H : ((soa_Data.f k t234 t235 a2 a3 a4 a5 (Go.bits .xor .u32 a2 a5)).bind fun bt237 => (if t234.size + 1 ≤ 9223372036854775807 then (if (t234 ++ (⟨#[0]⟩ : ByteArray)).size + t235.size ≤ 9223372036854775807 then (if ((t234 ++ (⟨#[0]⟩ : ByteArray)) ++ t235).size + 1 ≤ 9223372036854775807 then ((num_Put32.f k ([] : List Int) (([a2, a3, a4, a5, Go.bits .xor .u32 a2 a5] : List Int))).bind fun t242 => (if (((t234 ++ (⟨#[0]⟩ : ByteArray)) ++ t235) ++ (⟨#[0]⟩ : ByteArray)).size + (strOfNums t242).size ≤ 9223372036854775807 then ((soa_Parse.f k bt237.1).bind fun bt245 => (if bt237.2 = true then (if bt237.1.toList = ((((t234 ++ (⟨#[0]⟩ : ByteArray)) ++ t235) ++ (⟨#[0]⟩ : ByteArray)) ++ (strOfNums t242)).toList then (if bt245.2.2.2.2.2.2.2 = true then (if (bt245.1.toList == t234.toList && (bt245.2.1.toList == t235.toList && (bt245.2.2.1 == a2 && (bt245.2.2.2.1 == a3 && (bt245.2.2.2.2.1 == a4 && (bt245.2.2.2.2.2.1 == a5 && (bt245.2.2.2.2.2.2.1 == (Go.bits .xor .u32 a2 a5)))))))) = true then ((rdata_May.f k 6 bt237.1).bind fun t254 => (some t254)) else (some false)) else (some false)) else (some false)) else (some false))) else (none))) else (none)) else (none)) else (none))) = some r := H
    have A10 := Aside0.mk A100
    clear A100
    replace H := Option.bind_eq_some_iff.mp H
    obtain ⟨⟨t237, t238⟩, A110, H⟩ := H
    replace H : (if t234.size + 1 ≤ 9223372036854775807 then (if (t234 ++ (⟨#[0]⟩ : ByteArray)).size + t235.size ≤ 9223372036854775807 then (if ((t234 ++ (⟨#[0]⟩ : ByteArray)) ++ t235).size + 1 ≤ 9223372036854775807 then ((num_Put32.f k ([] : List Int) (([a2, a3, a4, a5, Go.bits .xor .u32 a2 a5] : List Int))).bind fun t242 => (if (((t234 ++ (⟨#[0]⟩ : ByteArray)) ++ t235) ++ (⟨#[0]⟩ : ByteArray)).size + (strOfNums t242).size ≤ 9223372036854775807 then ((soa_Parse.f k t237).bind fun bt245 => (if t238 = true then (if t237.toList = ((((t234 ++ (⟨#[0]⟩ : ByteArray)) ++ t235) ++ (⟨#[0]⟩ : ByteArray)) ++ (strOfNums t242)).toList then (if bt245.2.2.2.2.2.2.2 = true then (if (bt245.1.toList == t234.toList && (bt245.2.1.toList == t235.toList && (bt245.2.2.1 == a2 && (bt245.2.2.2.1 == a3 && (bt245.2.2.2.2.1 == a4 && (bt245.2.2.2.2.2.1 == a5 && (bt245.2.2.2.2.2.2.1 == (Go.bits .xor .u32 a2 a5)))))))) = true then ((rdata_May.f k 6 t237).bind fun t254 => (some t254)) else (some false)) else (some false)) else (some false)) else (some false))) else (none))) else (none)) else (none)) else (none)) = some r := H
    have A11 := Aside0.mk A110
    clear A110
    by_cases c12 : t234.size + 1 ≤ 9223372036854775807
    · rw [if_pos c12] at H
      have c12b0 := eq_true c12
      have c12b1 : decide (t234.size + 1 ≤ 9223372036854775807) = true := decide_eq_true c12
      try have c12b2 : (9223372036854775807 < t234.size + 1) = False := eq_false (Nat.not_lt.2 c12)
      by_cases c13 : (t234 ++ (⟨#[0]⟩ : ByteArray)).size + t235.size ≤ 9223372036854775807
      · rw [if_pos c13] at H
        (try (have c13S := c13; simp only [ByteArray.size_append] at c13S; have c13Sb := eq_true c13S; have c13Sn := eq_false (Nat.not_lt.2 c13S); clear c13S))
        (try (have c13Q := c13; simp only [ByteArray.size_append, show (⟨#[0]⟩ : ByteArray).size = 1 from rfl] at c13Q; have c13Qb := eq_true c13Q; have c13Qn := eq_false (Nat.not_lt.2 c13Q); clear c13Q))
        have c13b0 := eq_true c13
        have c13b1 : decide ((t234 ++ (⟨#[0]⟩ : ByteArray)).size + t235.size ≤ 9223372036854775807) = true := decide_eq_true c13
        try have c13b2 : (9223372036854775807 < (t234 ++ (⟨#[0]⟩ : ByteArray)).size + t235.size) = False := eq_false (Nat.not_lt.2 c13)
        by_cases c14 : ((t234 ++ (⟨#[0]⟩ : ByteArray)) ++ t235).size + 1 ≤ 9223372036854775807
        · rw [if_pos c14] at H
          (try (have c14S := c14; simp only [ByteArray.size_append] at c14S; have c14Sb := eq_true c14S; have c14Sn := eq_false (Nat.not_lt.2 c14S); clear c14S))
          (try (have c14Q := c14; simp only [ByteArray.size_append, show (⟨#[0]⟩ : ByteArray).size = 1 from rfl] at c14Q; have c14Qb := eq_true c14Q; have c14Qn := eq_false (Nat.not_lt.2 c14Q); clear c14Q))
          have c14b0 := eq_true c14
          have c14b1 : decide (((t234 ++ (⟨#[0]⟩ : ByteArray)) ++ t235).size + 1 ≤ 9223372036854775807) = true := decide_eq_true c14
          try have c14b2 : (9223372036854775807 < ((t234 ++ (⟨#[0]⟩ : ByteArray)) ++ t235).size + 1) = False := eq_false (Nat.not_lt.2 c14)
          obtain ⟨y239, hy239⟩ : ∃ y_ : List Int, y_ = (([a2, a3, a4, a5, Go.bits .xor .u32 a2 a5] : List Int)) := ⟨_, rfl⟩
          replace H : ((num_Put32.f k ([] : List Int) y239).bind fun t242 => (if (((t234 ++ (⟨#[0]⟩ : ByteArray)) ++ t235) ++ (⟨#[0]⟩ : ByteArray)).size + (strOfNums t242).size ≤ 9223372036854775807 then ((soa_Parse.f k t237).bind fun bt245 => (if t238 = true then (if t237.toList = ((((t234 ++ (⟨#[0]⟩ : ByteArray)) ++ t235) ++ (⟨#[0]⟩ : ByteArray)) ++ (strOfNums t242)).toList then (if bt245.2.2.2.2.2.2.2 = true then (if (bt245.1.toList == t234.toList && (bt245.2.1.toList == t235.toList && (bt245.2.2.1 == a2 && (bt245.2.2.2.1 == a3 && (bt245.2.2.2.2.1 == a4 && (bt245.2.2.2.2.2.1 == a5 && (bt245.2.2.2.2.2.2.1 == (Go.bits .xor .u32 a2 a5)))))))) = true then ((rdata_May.f k 6 t237).bind fun t254 => (some t254)) else (some false)) else (some false)) else (some false)) else (some false))) else (none))) = some r := by first | (rw [hy239]; with_reducible exact H) | (have H2_ := (Option.bind_some _ _).symm.trans H; rw [hy239]; with_reducible exact H2_) | (have H2_ := (Option.bind_some _ _).symm.trans H; with_reducible exact H2_) | with_reducible exact H | (rw [hy239]; exact H) | exact H
          have Ny239 := Aside0.mk hy239
          clear hy239
          replace H := Option.bind_eq_some_iff.mp H
          obtain ⟨t242, A150, H⟩ := H
          replace H : (if (((t234 ++ (⟨#[0]⟩ : ByteArray)) ++ t235) ++ (⟨#[0]⟩ : ByteArray)).size + (strOfNums t242).size ≤ 9223372036854775807 then ((soa_Parse.f k t237).bind fun bt245 => (if t238 = true then (if t237.toList = ((((t234 ++ (⟨#[0]⟩ : ByteArray)) ++ t235) ++ (⟨#[0]⟩ : ByteArray)) ++ (strOfNums t242)).toList then (if bt245.2.2.2.2.2.2.2 = true then (if (bt245.1.toList == t234.toList && (bt245.2.1.toList == t235.toList && (bt245.2.2.1 == a2 && (bt245.2.2.2.1 == a3 && (bt245.2.2.2.2.1 == a4 && (bt245.2.2.2.2.2.1 == a5 && (bt245.2.2.2.2.2.2.1 == (Go.bits .xor .u32 a2 a5)))))))) = true then ((rdata_May.f k 6 t237).bind fun t254 => (some t254)) else (some false)) else (some false)) else (some false)) else (some false))) else (none)) = some r := H
          have A15 := Aside0.mk A150
          clear A150
          by_cases c16 : (((t234 ++ (⟨#[0]⟩ : ByteArray)) ++ t235) ++ (⟨#[0]⟩ : ByteArray)).size + (strOfNums t242).size ≤ 9223372036854775807
          · rw [if_pos c16] at H
            (try (have c16S := c16; simp only [ByteArray.size_append] at c16S; have c16Sb := eq_true c16S; have c16Sn := eq_false (Nat.not_lt.2 c16S); clear c16S))
            (try (have c16Q := c16; simp only [ByteArray.size_append, show (⟨#[0]⟩ : ByteArray).size = 1 from rfl] at c16Q; have c16Qb := eq_true c16Q; have c16Qn := eq_false (Nat.not_lt.2 c16Q); clear c16Q))
            have c16b0 := eq_true c16
            have c16b1 : decide ((((t234 ++ (⟨#[0]⟩ : ByteArray)) ++ t235) ++ (⟨#[0]⟩ : ByteArray)).size + (strOfNums t242).size ≤ 9223372036854775807) = true := decide_eq_true c16
            try have c16b2 : (9223372036854775807 < (((t234 ++ (⟨#[0]⟩ : ByteArray)) ++ t235) ++ (⟨#[0]⟩ : ByteArray)).size + (strOfNums t242).size) = False := eq_false (Nat.not_lt.2 c16)
            replace H := Option.bind_eq_some_iff.mp H
            obtain ⟨⟨t245, t246, t247, t248, t249, t250, t251, t252⟩, A170, H⟩ := H
            replace H : (if t238 = true then (if t237.toList = ((((t234 ++ (⟨#[0]⟩ : ByteArray)) ++ t235) ++ (⟨#[0]⟩ : ByteArray)) ++ (strOfNums t242)).toList then (if t252 = true then (if (t245.toList == t234.toList && (t246.toList == t235.toList && (t247 == a2 && (t248 == a3 && (t249 == a4 && (t250 == a5 && (t251 == (Go.bits .xor .u32 a2 a5)))))))) = true then ((rdata_May.f k 6 t237).bind fun t254 => (some t254)) else (some false)) else (some false)) else (some false)) else (some false)) = some r := H
            have A17 := Aside0.mk A170
            clear A170
            by_cases c18 : t238 = true
            · subst c18
              have H1 : (if t237.toList = ((((t234 ++ (⟨#[0]⟩ : ByteArray)) ++ t235) ++ (⟨#[0]⟩ : ByteArray)) ++ (strOfNums t242)).toList then (if t252 = true then (if (t245.toList == t234.toList && (t246.toList == t235.toList && (t247 == a2 && (t248 == a3 && (t249 == a4 && (t250 == a5 && (t251 == (Go.bits .xor .u32 a2 a5)))))))) = true then ((rdata_May.f k 6 t237).bind fun t254 => (some t254)) else (some false)) else (some false)) else (some false)) = some r := by rw [if_pos rfl] at H; exact H
              clear H
              have H := H1
              clear H1
              by_cases c19 : t237.toList = ((((t234 ++ (⟨#[0]⟩ : ByteArray)) ++ t235) ++ (⟨#[0]⟩ : ByteArray)) ++ (strOfNums t242)).toList
              · rw [if_pos c19] at H
                have c19b0 : (t237.toList == ((((t234 ++ (⟨#[0]⟩ : ByteArray)) ++ t235) ++ (⟨#[0]⟩ : ByteArray)) ++ (strOfNums t242)).toList) = true := beq_iff_eq.mpr c19
                have c19b1 : (t237.toList != ((((t234 ++ (⟨#[0]⟩ : ByteArray)) ++ t235) ++ (⟨#[0]⟩ : ByteArray)) ++ (strOfNums t242)).toList) = false := bne_eq_false_iff_eq.mpr c19
                clear c19
                by_cases c20 : t252 = true
                · subst c20
                  have H1 : (if (t245.toList == t234.toList && (t246.toList == t235.toList && (t247 == a2 && (t248 == a3 && (t249 == a4 && (t250 == a5 && (t251 == (Go.bits .xor .u32 a2 a5)))))))) = true then ((rdata_May.f k 6 t237).bind fun t254 => (some t254)) else (some false)) = some r := by rw [if_pos rfl] at H; exact H
                  clear H
                  have H := H1
                  clear H1
                  by_cases c21 : (t245.toList == t234.toList && (t246.toList == t235.toList && (t247 == a2 && (t248 == a3 && (t249 == a4 && (t250 == a5 && (t251 == (Go.bits .xor .u32 a2 a5)))))))) = true
                  · rw [if_pos c21] at H
                    have c21b0 : (t245.toList == t234.toList && (t246.toList == t235.toList && (t247 == a2 && (t248 == a3 && (t249 == a4 && (t250 == a5 && (t251 == (Go.bits .xor .u32 a2 a5)))))))) = true := c21
                    (try (have c21b1 : decide (t245.toList = t234.toList && (t246.toList == t235.toList && (t247 == a2 && (t248 == a3 && (t249 == a4 && (t250 == a5 && (t251 == (Go.bits .xor .u32 a2 a5)))))))) = true := by simpa using c21))
                    (try (have c21b2 : (t245.toList == t234.toList && (t246.toList == t235.toList && (t247 == a2 && (t248 == a3 && (t249 == a4 && (t250 == a5 && (t251 == (Go.bits .xor .u32 a2 a5)))))))) = true := by simpa using c21))
                    clear c21
                    replace H := Option.bind_eq_some_iff.mp H
                    obtain ⟨t254, A220, H⟩ := H
                    replace H : (some t254) = some r := H
                    have A22 := Aside0.mk A220
                    clear A220
                    obtain rfl := Option.some.inj H
                    go_enter Try.func7, Try.ntmps7
                    try go_wp2_with (first | ((with_reducible refine gate_callee (f := 8) rfl ?_); refine goesL_ (some 20) rfl rfl Try.func8 (by kernel_rfl) rfl #[] rfl (by (try simp only [List.map_toArray, List.map_cons, List.map_nil]); first | done | rfl | (simp only [List.length_drop, List.length_take]; rfl)) ?_; (with_reducible refine (bolterlaw07_awake.calls k  true _ A7.out).mono ?_); rintro e w23 ⟨rfl, hb⟩; refine ⟨_, rfl, ?_⟩; have n0_ := Aside0.mk (below_step (by repeat (first | (with_reducible first | exact HB.out | apply below_alloc | apply pw_below_drewN | apply below_drew1) | exact HB.out)) hb); clear HB; have HB := n0_; clear n0_; (try clear hb); (try clear hb2); (try clear hk); (try clear hi)) | ((with_reducible refine gate_callee (f := 11) rfl ?_); refine goesL_ (some 26) rfl rfl Try.func11 (by kernel_rfl) rfl #[.slice A0 l0.length c0] rfl (by (try simp only [List.map_toArray, List.map_cons, List.map_nil]); first | done | rfl | (simp only [List.length_drop, List.length_take]; rfl)) ?_; (with_reducible refine (bolterlaw02_Name.calls k _ _ l0 t234 _ ?side1 ?side2 A9.out).mono ?_); (case side1 => repeat (first | exact (Kd.C_below HR0.out HB.out) | (with_reducible refine Kd.C_alloc ?_ _) | (with_reducible refine Kd.C_drewN ?_ _) | (with_reducible refine Kd.C_drew ?_))); (case side2 => exact HC0.out); rintro e w24 ⟨rfl, hb⟩; refine ⟨_, rfl, ?_⟩; have n0_ := Aside0.mk (below_step (by repeat (first | (with_reducible first | exact HB.out | apply below_alloc | apply pw_below_drewN | apply below_drew1) | exact HB.out)) hb); clear HB; have HB := n0_; clear n0_; (try clear hb); (try clear hb2); (try clear hk); (try clear hi)) | ((with_reducible refine gate_callee (f := 11) rfl ?_); refine goesL_ (some 28) rfl rfl Try.func11 (by kernel_rfl) rfl #[.slice A1 l1.length c1] rfl (by (try simp only [List.map_toArray, List.map_cons, List.map_nil]); first | done | rfl | (simp only [List.length_drop, List.length_take]; rfl)) ?_; (with_reducible refine (bolterlaw02_Name.calls k _ _ l1 t235 _ ?side1 ?side2 A10.out).mono ?_); (case side1 => repeat (first | exact (Kd.C_below HR1.out HB.out) | (with_reducible refine Kd.C_alloc ?_ _) | (with_reducible refine Kd.C_drewN ?_ _) | (with_reducible refine Kd.C_drew ?_))); (case side2 => exact HC1.out); rintro e w25 ⟨rfl, hb⟩; refine ⟨_, rfl, ?_⟩; have n0_ := Aside0.mk (below_step (by repeat (first | (with_reducible first | exact HB.out | apply below_alloc | apply pw_below_drewN | apply below_drew1) | exact HB.out)) hb); clear HB; have HB := n0_; clear n0_; (try clear hb); (try clear hb2); (try clear hk); (try clear hi)) | ((with_reducible refine gate_dst (N := 14) rfl ?_); refine box_event ?hg (N := 14) ?hd (cs := #[.string (⟨#[]⟩ : ByteArray), .string (⟨#[]⟩ : ByteArray), .int .u32 0, .int .u32 0, .int .u32 0, .int .u32 0, .int .u32 0]) (t := 28) ?hr ?_; (case hd => rfl); (case hg => rfl); (case hr => first | (go_simp; done) | (go_simp; rfl)); intro gb236 hg w26 hbox hb; have n0_ := Aside0.mk (below_step (by repeat (first | (with_reducible first | exact HB.out | apply below_alloc | apply pw_below_drewN | apply below_drew1) | exact HB.out)) hb); have n1_ := Aside0.mk (hbox); have n2_ := Aside0.mk ((by rw [hg]; exact (below_size (by repeat (first | (with_reducible first | exact HB.out | apply below_alloc | apply pw_below_drewN | apply below_drew1) | exact HB.out))) : w.heap.size ≤ gb236)); have n3_ := Aside0.mk ((by rw [hg]; exact (below_size (by repeat (first | (with_reducible first | exact HB.out | apply below_alloc | apply pw_below_drewN | apply below_drew1) | exact HB.out))) : w.heap.size ≤ gb236)); clear HB; have HB := n0_; have BK236 := n1_; have GW236 := n2_; have GE236 := n3_; clear n0_ n1_ n2_ n3_; clear hb hbox hg; have hcz27_0 : w26.cell? ⟨gb236, 0, none⟩ = some (.string (⟨#[]⟩ : ByteArray)) := (blk_cell BK236.out 0).trans rfl; have hcz27_1 : w26.cell? ⟨gb236, 1, none⟩ = some (.string (⟨#[]⟩ : ByteArray)) := (blk_cell BK236.out 1).trans rfl; have hcz27_2 : w26.cell? ⟨gb236, 2, none⟩ = some (.int .u32 0) := (blk_cell BK236.out 2).trans rfl; have hcz27_3 : w26.cell? ⟨gb236, 3, none⟩ = some (.int .u32 0) := (blk_cell BK236.out 3).trans rfl; have hcz27_4 : w26.cell? ⟨gb236, 4, none⟩ = some (.int .u32 0) := (blk_cell BK236.out 4).trans rfl; have hcz27_5 : w26.cell? ⟨gb236, 5, none⟩ = some (.int .u32 0) := (blk_cell BK236.out 5).trans rfl; have hcz27_6 : w26.cell? ⟨gb236, 6, none⟩ = some (.int .u32 0) := (blk_cell BK236.out 6).trans rfl; have hfz27_0 := blk_frozen BK236.out 0; have hfz27_1 := blk_frozen BK236.out 1; have hfz27_2 := blk_frozen BK236.out 2; have hfz27_3 := blk_frozen BK236.out 3; have hfz27_4 := blk_frozen BK236.out 4; have hfz27_5 := blk_frozen BK236.out 5; have hfz27_6 := blk_frozen BK236.out 6) | ((with_reducible refine gate_callee (f := 9) rfl ?_); refine goesL_ (some 37) rfl rfl Try.func9 (by kernel_rfl) rfl #[.agg #[.string t234, .string t235, .int .u32 a2, .int .u32 a3, .int .u32 a4, .int .u32 a5, .int .u32 (Go.bits .xor .u32 a2 a5)]] rfl (by (try simp only [List.map_toArray, List.map_cons, List.map_nil]); first | done | rfl | (simp only [List.length_drop, List.length_take]; rfl)) ?_; (with_reducible refine (soa_Data.calls k t234 t235 a2 a3 a4 a5 (Go.bits .xor .u32 a2 a5) t237 true _ A11.out).mono ?_); rintro e w28 ⟨rfl, hb⟩; refine ⟨_, rfl, ?_⟩; have n0_ := Aside0.mk (blk_below (g := gb236) (o := .cells #[.string t234, .string t235, .int .u32 a2, .int .u32 a3, .int .u32 a4, .int .u32 a5, .int .u32 (Go.bits .xor .u32 a2 a5)] 28 (0, 0)) (by (with_reducible repeat (first | refine blk_drewN ?_ _ | refine blk_drew ?_ | refine blk_alloc ?_ _)); refine blk_put (cs := #[.string t234, .string t235, .int .u32 a2, .int .u32 a3, .int .u32 a4, .int .u32 a5, .int .u32 0]) ?_ 6 _ rfl; (with_reducible repeat (first | refine blk_drewN ?_ _ | refine blk_drew ?_ | refine blk_alloc ?_ _)); refine blk_put (cs := #[.string t234, .string t235, .int .u32 a2, .int .u32 a3, .int .u32 a4, .int .u32 0, .int .u32 0]) ?_ 5 _ rfl; (with_reducible repeat (first | refine blk_drewN ?_ _ | refine blk_drew ?_ | refine blk_alloc ?_ _)); refine blk_put (cs := #[.string t234, .string t235, .int .u32 a2, .int .u32 a3, .int .u32 0, .int .u32 0, .int .u32 0]) ?_ 4 _ rfl; (with_reducible repeat (first | refine blk_drewN ?_ _ | refine blk_drew ?_ | refine blk_alloc ?_ _)); refine blk_put (cs := #[.string t234, .string t235, .int .u32 a2, .int .u32 0, .int .u32 0, .int .u32 0, .int .u32 0]) ?_ 3 _ rfl; (with_reducible repeat (first | refine blk_drewN ?_ _ | refine blk_drew ?_ | refine blk_alloc ?_ _)); refine blk_put (cs := #[.string t234, .string t235, .int .u32 0, .int .u32 0, .int .u32 0, .int .u32 0, .int .u32 0]) ?_ 2 _ rfl; (with_reducible repeat (first | refine blk_drewN ?_ _ | refine blk_drew ?_ | refine blk_alloc ?_ _)); refine blk_put (cs := #[.string t234, .string (⟨#[]⟩ : ByteArray), .int .u32 0, .int .u32 0, .int .u32 0, .int .u32 0, .int .u32 0]) ?_ 1 _ rfl; (with_reducible repeat (first | refine blk_drewN ?_ _ | refine blk_drew ?_ | refine blk_alloc ?_ _)); refine blk_put (cs := #[.string (⟨#[]⟩ : ByteArray), .string (⟨#[]⟩ : ByteArray), .int .u32 0, .int .u32 0, .int .u32 0, .int .u32 0, .int .u32 0]) ?_ 0 _ rfl; (with_reducible repeat (first | refine blk_drewN ?_ _ | refine blk_drew ?_ | refine blk_alloc ?_ _)); exact BK236.out) hb); have n1_ := Aside0.mk (below_step (by repeat (first | (with_reducible first | exact HB.out | apply below_alloc | apply pw_below_drewN | apply below_drew1 | refine below_set ?_ GE236.out) | exact HB.out)) hb); clear BK236; clear HB; have BK236 := n0_; have HB := n1_; clear n0_ n1_; (try clear hb); (try clear hb2); (try clear hk); (try clear hi)))
                    have n0_ := Aside0.mk (blk_drew BK236.out)
                    have n1_ := Aside0.mk (below_drew1 HB.out)
                    clear BK236
                    clear HB
                    have BK236 := n0_
                    have HB := n1_
                    clear n0_ n1_
                    refine start_ (n := 17) (S := fun w' => w'.cell? ⟨gb236, 0, none⟩ = some (.string t234) ∧ w'.cell? ⟨gb236, 1, none⟩ = some (.string t235) ∧ w'.cell? ⟨gb236, 2, none⟩ = some (.int .u32 a2) ∧ w'.cell? ⟨gb236, 3, none⟩ = some (.int .u32 a3) ∧ w'.cell? ⟨gb236, 4, none⟩ = some (.int .u32 a4) ∧ w'.cell? ⟨gb236, 5, none⟩ = some (.int .u32 a5) ∧ w'.cell? ⟨gb236, 6, none⟩ = some (.int .u32 (Go.bits .xor .u32 a2 a5))) (ds := []) #[false, false, false, false, false, false, false, false, false, false, false, false, false, false, false, false, false] (by kernel_rfl) rfl rfl ⟨(blk_cell BK236.out 0).trans rfl, (blk_cell BK236.out 1).trans rfl, (blk_cell BK236.out 2).trans rfl, (blk_cell BK236.out 3).trans rfl, (blk_cell BK236.out 4).trans rfl, (blk_cell BK236.out 5).trans rfl, (blk_cell BK236.out 6).trans rfl⟩ (fun hHeld => ?_); refine with_tabW bolterlaw07_SoaData.tab6 bolterlaw07_SoaData.bits6 (fun HT_ HW_ => ?_)
                    generalize w28.drew = w29 at BK236 HB hHeld ⊢
                    refine pure_ (i := 0) (N := some 40) (v := ?_) (a' := ?_) #[true, false, false, false, false, false, false, false, false, false, false, false, false, false, false, false, false] rfl rfl (any_of HT_.out (by kernel_rfl)) (fun _ _ _ h => h) (Or.inl ⟨by rfl, ?_⟩) ?_ ?_
                    rotate_left
                    · intro w'
                      go_simp
                      with_reducible rfl
                    rotate_left
                    · simp only [Act.put, List.setIfInBounds_toArray, List.set_cons_zero, List.set_cons_succ, i64_w, i32_w]
                      rfl
                    refine pure_ (i := 3) (N := some 43) (v := ?_) (a' := ?_) #[true, false, false, true, false, false, false, false, false, false, false, false, false, false, false, false, false] rfl rfl (any_of HT_.out (by kernel_rfl)) (fun _ _ _ h => h) (Or.inl ⟨by rfl, ?_⟩) ?_ ?_
                    rotate_left
                    · intro w'
                      go_simp
                      with_reducible rfl
                    rotate_left
                    · simp only [Act.put, List.setIfInBounds_toArray, List.set_cons_zero, List.set_cons_succ, i64_w, i32_w]
                      rfl
                    refine pure_ (i := 7) (N := some 47) (v := ?_) (a' := ?_) #[true, false, false, true, false, false, false, true, false, false, false, false, false, false, false, false, false] rfl rfl (any_of HT_.out (by kernel_rfl)) (fun _ _ _ h => h) (Or.inl ⟨by rfl, ?_⟩) ?_ ?_
                    rotate_left
                    · intro w'
                      go_simp
                      with_reducible rfl
                    rotate_left
                    · simp only [Act.put, List.setIfInBounds_toArray, List.set_cons_zero, List.set_cons_succ, i64_w, i32_w]
                      rfl
                    refine pure_ (i := 8) (N := some 48) (v := ?_) (a' := ?_) #[true, false, false, true, false, false, false, true, true, false, false, false, false, false, false, false, false] rfl rfl (any_of HT_.out (by kernel_rfl)) (fun _ _ _ h => h) (Or.inl ⟨by rfl, ?_⟩) ?_ ?_
                    rotate_left
                    · intro w'
                      go_simp
                      with_reducible rfl
                    rotate_left
                    · simp only [Act.put, List.setIfInBounds_toArray, List.set_cons_zero, List.set_cons_succ, i64_w, i32_w]
                      rfl
                    refine pure_ (i := 9) (N := some 49) (v := ?_) (a' := ?_) #[true, false, false, true, false, false, false, true, true, true, false, false, false, false, false, false, false] rfl rfl (any_of HT_.out (by kernel_rfl)) (fun _ _ _ h => h) (Or.inl ⟨by rfl, ?_⟩) ?_ ?_
                    rotate_left
                    · intro w'
                      go_simp
                      with_reducible rfl
                    rotate_left
                    · simp only [Act.put, List.setIfInBounds_toArray, List.set_cons_zero, List.set_cons_succ, i64_w, i32_w]
                      rfl
                    refine pure_ (i := 10) (N := some 50) (v := ?_) (a' := ?_) #[true, false, false, true, false, false, false, true, true, true, true, false, false, false, false, false, false] rfl rfl (any_of HT_.out (by kernel_rfl)) (fun _ _ _ h => h) (Or.inl ⟨by rfl, ?_⟩) ?_ ?_
                    rotate_left
                    · intro w'
                      go_simp
                      with_reducible rfl
                    rotate_left
                    · simp only [Act.put, List.setIfInBounds_toArray, List.set_cons_zero, List.set_cons_succ, i64_w, i32_w]
                      rfl
                    refine pure_ (i := 11) (N := some 51) (v := ?_) (a' := ?_) #[true, false, false, true, false, false, false, true, true, true, true, true, false, false, false, false, false] rfl rfl (any_of HT_.out (by kernel_rfl)) (fun _ _ _ h => h) (Or.inl ⟨by rfl, ?_⟩) ?_ ?_
                    rotate_left
                    · intro w'
                      go_simp
                      with_reducible rfl
                    rotate_left
                    · simp only [Act.put, List.setIfInBounds_toArray, List.set_cons_zero, List.set_cons_succ, i64_w, i32_w]
                      rfl
                    refine take_ (i := 1) (N := some 41) (v := ?_) (a' := ?_) #[true, true, false, true, false, false, false, true, true, true, true, true, false, false, false, false, false] rfl rfl (take_ofW HT_.out HW_.out (by kernel_rfl)) (fun _ _ _ h => h) (Or.inl ⟨by rfl, ?_⟩) hHeld ?_ ?_
                    rotate_left
                    · rintro w' ⟨s0, s1, s2, s3, s4, s5, s6⟩
                      go_simp
                      with_reducible rfl
                    rotate_left
                    · simp only [Act.put, List.setIfInBounds_toArray, List.set_cons_zero, List.set_cons_succ, i64_w, i32_w]
                      rfl
                    refine pure_ (i := 2) (N := some 42) (v := ?_) (a' := ?_) #[true, true, true, true, false, false, false, true, true, true, true, true, false, false, false, false, false] rfl rfl (any_of HT_.out (by kernel_rfl)) (fun _ _ _ h => h) (Or.inl ⟨by rfl, ?_⟩) ?_ ?_
                    rotate_left
                    · intro w'
                      go_simp
                      with_reducible rfl
                    rotate_left
                    · simp only [Act.put, List.setIfInBounds_toArray, List.set_cons_zero, List.set_cons_succ, i64_w, i32_w]
                      rfl
                    refine take_ (i := 4) (N := some 44) (v := ?_) (a' := ?_) #[true, true, true, true, true, false, false, true, true, true, true, true, false, false, false, false, false] rfl rfl (take_ofW HT_.out HW_.out (by kernel_rfl)) (fun _ _ _ h => h) (Or.inl ⟨by rfl, ?_⟩) hHeld ?_ ?_
                    rotate_left
                    · rintro w' ⟨s0, s1, s2, s3, s4, s5, s6⟩
                      go_simp
                      with_reducible rfl
                    rotate_left
                    · simp only [Act.put, List.setIfInBounds_toArray, List.set_cons_zero, List.set_cons_succ, i64_w, i32_w]
                      rfl
                    refine pure_ (i := 5) (N := some 45) (v := ?_) (a' := ?_) #[true, true, true, true, true, true, false, true, true, true, true, true, false, false, false, false, false] rfl rfl (any_of HT_.out (by kernel_rfl)) (fun _ _ _ h => h) (Or.inl ⟨by rfl, ?_⟩) ?_ ?_
                    rotate_left
                    · intro w'
                      go_simp
                      with_reducible rfl
                    rotate_left
                    · simp only [Act.put, List.setIfInBounds_toArray, List.set_cons_zero, List.set_cons_succ, i64_w, i32_w]
                      rfl
                    refine pure_ (i := 6) (N := some 46) (v := ?_) (a' := ?_) #[true, true, true, true, true, true, true, true, true, true, true, true, false, false, false, false, false] rfl rfl (any_of HT_.out (by kernel_rfl)) (fun _ _ _ h => h) (Or.inl ⟨by rfl, ?_⟩) ?_ ?_
                    rotate_left
                    · intro w'
                      go_simp
                      with_reducible rfl
                    rotate_left
                    · simp only [Act.put, List.setIfInBounds_toArray, List.set_cons_zero, List.set_cons_succ, i64_w, i32_w]
                      rfl
                    refine one_ (i := 12) (N := some 52) #[true, true, true, true, true, true, true, true, true, true, true, true, true, false, false, false, false] rfl rfl (one_of HT_.out (by kernel_rfl)) (by decide) (fun K hK => ?_)
                    refine Kd.R_lit_step (Kd.int .u32) _ 26 ?hg (N := 52) ?hd (xs := ([a2, a3, a4, a5, Go.bits .xor .u32 a2 a5] : List Int)) (inner := [.int .u32 a2, .int .u32 a3, .int .u32 a4, .int .u32 a5, .int .u32 (Go.bits .xor .u32 a2 a5)]) (ok := fun _ => True) (okp := fun _ => True) ?hr ?hp (fun _ hk => hk) trivial (Below.refl _ _) (Nat.le_refl _) (by simp) ?_; (case hd => rfl); (case hg => rfl); (case hr => first | (go_simp; done) | (go_simp; rfl)); (case hp => exact (Reps.one (show Kd.M (Kd.int .u32) _ _ _ a2 [.int .u32 a2] from rfl) (Reps.one (show Kd.M (Kd.int .u32) _ _ _ a3 [.int .u32 a3] from rfl) (Reps.one (show Kd.M (Kd.int .u32) _ _ _ a4 [.int .u32 a4] from rfl) (Reps.one (show Kd.M (Kd.int .u32) _ _ _ a5 [.int .u32 a5] from rfl) (Reps.one (show Kd.M (Kd.int .u32) _ _ _ (Go.bits .xor .u32 a2 a5) [.int .u32 (Go.bits .xor .u32 a2 a5)] from rfl) (Reps.none _ _)))))))
                    intro v240 w30 ho31 hb hg_ hnew_
                    clear hg_ hnew_
                    (first | rw [← Ny239.out] at ho31 | (simp only [Int.reduceToNat] at ho31; rw [← Ny239.out] at ho31))
                    have n0_ := Aside0.mk (Kd.R_lower ho31 (below_size (by repeat (first | (with_reducible first | exact HB.out | apply below_alloc | apply pw_below_drewN | apply below_drew1 | refine below_set ?_ GE236.out) | exact HB.out))))
                    have n1_ := Aside0.mk (blk_below (g := gb236) (o := .cells #[.string t234, .string t235, .int .u32 a2, .int .u32 a3, .int .u32 a4, .int .u32 a5, .int .u32 (Go.bits .xor .u32 a2 a5)] 28 (0, 0)) (by (with_reducible repeat (first | refine blk_drewN ?_ _ | refine blk_drew ?_ | refine blk_alloc ?_ _)); exact BK236.out) hb)
                    have n2_ := Aside0.mk (below_step (by repeat (first | (with_reducible first | exact HB.out | apply below_alloc | apply pw_below_drewN | apply below_drew1 | refine below_set ?_ GE236.out) | exact HB.out)) hb)
                    clear BK236
                    clear HB
                    have HO241 := n0_
                    have BK236 := n1_
                    have HB := n2_
                    clear n0_ n1_ n2_
                    clear hb ho31
                    obtain ⟨Ao32, co32, eo32⟩ := Kd.R_slice HO241.out
                    (first | subst eo32 | (injection eo32 with f1_ f2_ f3_; have f4_ := f1_.symm; have f5_ := f3_.symm; clear f1_ f2_ f3_; subst f4_; subst f5_))
                    refine hK.out _ _ ⟨(blk_cell BK236.out 0).trans rfl, (blk_cell BK236.out 1).trans rfl, (blk_cell BK236.out 2).trans rfl, (blk_cell BK236.out 3).trans rfl, (blk_cell BK236.out 4).trans rfl, (blk_cell BK236.out 5).trans rfl, (blk_cell BK236.out 6).trans rfl⟩ (fun hHeld => ?_)
                    clear hK K
                    refine norm_ (a' := ?_) ?_ ?_
                    rotate_left
                    · show Act.put _ (some 52) _ = _
                      simp only [Act.put, List.setIfInBounds_toArray, List.set_cons_zero, List.set_cons_succ, i64_w, i32_w]
                      rfl
                    refine one_ (i := 13) (N := some 53) #[true, true, true, true, true, true, true, true, true, true, true, true, true, true, false, false, false] rfl rfl (one_of HT_.out (by kernel_rfl)) (by decide) (fun K hK => ?_)
                    refine goes_ Try.func16 (by kernel_rfl) rfl #[.slice none 0 0, .slice Ao32 y239.length co32] (by rfl) rfl rfl (by (try simp only [List.map_toArray, List.map_cons, List.map_nil]); first | done | rfl | (simp only [List.length_drop, List.length_take]; rfl)) ?_
                    refine (num_Put32.calls k _ _ ([] : List Int) _ _ y239 t242 _ ?side1 ?side2 ?side3 ?side4 A15.out).mono ?_
                    (case side1 => exact Kd.C_nil _ _)
                    (case side2 => exact Nat.le_refl _)
                    (case side3 => repeat (first | exact (Kd.R_reads' HO241.out).2.2 | (with_reducible refine Kd.C_alloc ?_ _) | (with_reducible refine Kd.C_drewN ?_ _) | (with_reducible refine Kd.C_drew ?_)))
                    (case side4 => exact (Kd.R_reads' HO241.out).2.1)
                    rintro e w33 ⟨v243, rfl, ho0, hb⟩
                    refine ⟨_, rfl, ?_⟩
                    have n0_ := Aside0.mk (Kd.R_below (by (with_reducible repeat (first | apply Kd.R_alloc | apply Kd.R_drewN | apply Kd.R_drew)); exact HO241.out) hb)
                    have n1_ := Aside0.mk (Kd.R_lower ho0 (below_size (by repeat (first | (with_reducible first | exact HB.out | apply below_alloc | apply pw_below_drewN | apply below_drew1 | refine below_set ?_ GE236.out) | exact HB.out))))
                    have n2_ := Aside0.mk (blk_below (g := gb236) (o := .cells #[.string t234, .string t235, .int .u32 a2, .int .u32 a3, .int .u32 a4, .int .u32 a5, .int .u32 (Go.bits .xor .u32 a2 a5)] 28 (0, 0)) (by (with_reducible repeat (first | refine blk_drewN ?_ _ | refine blk_drew ?_ | refine blk_alloc ?_ _)); exact BK236.out) hb)
                    have n3_ := Aside0.mk (below_step (by repeat (first | (with_reducible first | exact HB.out | apply below_alloc | apply pw_below_drewN | apply below_drew1 | refine below_set ?_ GE236.out) | exact HB.out)) hb)
                    clear HO241
                    clear BK236
                    clear HB
                    have HO241 := n0_
                    have HO244 := n1_
                    have BK236 := n2_
                    have HB := n3_
                    clear n0_ n1_ n2_ n3_
                    (try clear hb)
                    (try clear hb2)
                    (try clear hk)
                    (try clear hi)
                    (try clear ho0)
                    refine hK.out _ _ ⟨(blk_cell BK236.out 0).trans rfl, (blk_cell BK236.out 1).trans rfl, (blk_cell BK236.out 2).trans rfl, (blk_cell BK236.out 3).trans rfl, (blk_cell BK236.out 4).trans rfl, (blk_cell BK236.out 5).trans rfl, (blk_cell BK236.out 6).trans rfl⟩ (fun hHeld => ?_)
                    clear hK K
                    refine norm_ (a' := ?_) ?_ ?_
                    rotate_left
                    · show Act.put _ (some 53) _ = _
                      simp only [Act.put, List.setIfInBounds_toArray, List.set_cons_zero, List.set_cons_succ, i64_w, i32_w]
                      rfl
                    refine one_ (i := 14) (N := some 54) #[true, true, true, true, true, true, true, true, true, true, true, true, true, true, true, false, false] rfl rfl (one_of HT_.out (by kernel_rfl)) (by decide) (fun K hK => ?_)
                    have hcv34 := own_string (P := Try.prog) Try.underlying31 Try.underlying5 Try.underlying9 (Kd.own_of_R HO244.out)
                    refine value_ (w1 := ?_) (v := ?_) (by rfl) rfl ?_ ?_
                    rotate_left 2
                    · go_simp
                      constructor
                      · rfl
                      · rfl
                    clear hcv34
                    refine hK.out _ _ ⟨(blk_cell BK236.out 0).trans rfl, (blk_cell BK236.out 1).trans rfl, (blk_cell BK236.out 2).trans rfl, (blk_cell BK236.out 3).trans rfl, (blk_cell BK236.out 4).trans rfl, (blk_cell BK236.out 5).trans rfl, (blk_cell BK236.out 6).trans rfl⟩ (fun hHeld => ?_)
                    clear hK K
                    refine norm_ (a' := ?_) ?_ ?_
                    rotate_left
                    · show Act.put _ (some 54) _ = _
                      simp only [Act.put, List.setIfInBounds_toArray, List.set_cons_zero, List.set_cons_succ, i64_w, i32_w]
                      rfl
                    refine pure_ (i := 15) (N := some 55) (v := ?_) (a' := ?_) #[true, true, true, true, true, true, true, true, true, true, true, true, true, true, true, true, false] rfl rfl (any_of HT_.out (by kernel_rfl)) (fun _ _ _ h => h) (Or.inl ⟨by rfl, ?_⟩) ?_ ?_
                    rotate_left
                    · intro w'
                      go_simp
                      with_reducible rfl
                    rotate_left
                    · simp only [Act.put, List.setIfInBounds_toArray, List.set_cons_zero, List.set_cons_succ, i64_w, i32_w]
                      rfl
                    refine pure_ (i := 16) (N := some 17) (v := ?_) (a' := ?_) #[true, true, true, true, true, true, true, true, true, true, true, true, true, true, true, true, true] rfl rfl (any_of HT_.out (by kernel_rfl)) (fun _ _ _ h => h) (Or.inl ⟨by rfl, ?_⟩) ?_ ?_
                    rotate_left
                    · intro w'
                      go_simp
                      with_reducible rfl
                    rotate_left
                    · simp only [Act.put, List.setIfInBounds_toArray, List.set_cons_zero, List.set_cons_succ, i64_w, i32_w]
                      rfl
                    refine done_ (done_of HT_.out (by kernel_rfl)) ?_
                    try go_wp2_with (first | ((with_reducible refine gate_callee (f := 12) rfl ?_); refine goesL_ (some 58) rfl rfl Try.func12 (by kernel_rfl) rfl #[.string t237] rfl (by (try simp only [List.map_toArray, List.map_cons, List.map_nil]); first | done | rfl | (simp only [List.length_drop, List.length_take]; rfl)) ?_; (with_reducible refine (soa_Parse.calls k t237 t245 t246 t247 t248 t249 t250 t251 true _ A17.out).mono ?_); rintro e w35 ⟨rfl, hb⟩; refine ⟨_, rfl, ?_⟩; have n0_ := Aside0.mk (Kd.R_below (by (with_reducible repeat (first | apply Kd.R_alloc | apply Kd.R_drewN | apply Kd.R_drew)); exact HO241.out) hb); have n1_ := Aside0.mk (Kd.R_below (by (with_reducible repeat (first | apply Kd.R_alloc | apply Kd.R_drewN | apply Kd.R_drew)); exact HO244.out) hb); have n2_ := Aside0.mk (blk_below (g := gb236) (o := .cells #[.string t234, .string t235, .int .u32 a2, .int .u32 a3, .int .u32 a4, .int .u32 a5, .int .u32 (Go.bits .xor .u32 a2 a5)] 28 (0, 0)) (by (with_reducible repeat (first | refine blk_drewN ?_ _ | refine blk_drew ?_ | refine blk_alloc ?_ _)); exact BK236.out) hb); have n3_ := Aside0.mk (below_step (by repeat (first | (with_reducible first | exact HB.out | apply below_alloc | apply pw_below_drewN | apply below_drew1 | refine below_set ?_ GE236.out) | exact HB.out)) hb); clear HO241; clear HO244; clear BK236; clear HB; have HO241 := n0_; have HO244 := n1_; have BK236 := n2_; have HB := n3_; clear n0_ n1_ n2_ n3_; (try clear hb); (try clear hb2); (try clear hk); (try clear hi)) | ((with_reducible refine gate_dst (N := 18) rfl ?_); refine box_event ?hg (N := 18) ?hd (cs := #[.string (⟨#[]⟩ : ByteArray), .string (⟨#[]⟩ : ByteArray), .int .u32 0, .int .u32 0, .int .u32 0, .int .u32 0, .int .u32 0]) (t := 28) ?hr ?_; (case hd => rfl); (case hg => rfl); (case hr => first | (go_simp; done) | (go_simp; rfl)); intro gb253 hg w36 hbox hb; have n0_ := Aside0.mk (Kd.R_below (by (with_reducible repeat (first | apply Kd.R_alloc | apply Kd.R_drewN | apply Kd.R_drew)); exact HO241.out) hb); have n1_ := Aside0.mk (Kd.R_below (by (with_reducible repeat (first | apply Kd.R_alloc | apply Kd.R_drewN | apply Kd.R_drew)); exact HO244.out) hb); have n2_ := Aside0.mk (blk_below (g := gb236) (o := .cells #[.string t234, .string t235, .int .u32 a2, .int .u32 a3, .int .u32 a4, .int .u32 a5, .int .u32 (Go.bits .xor .u32 a2 a5)] 28 (0, 0)) (by (with_reducible repeat (first | refine blk_drewN ?_ _ | refine blk_drew ?_ | refine blk_alloc ?_ _)); exact BK236.out) hb); have n3_ := Aside0.mk (below_step (by repeat (first | (with_reducible first | exact HB.out | apply below_alloc | apply pw_below_drewN | apply below_drew1 | refine below_set ?_ GE236.out) | exact HB.out)) hb); have n4_ := Aside0.mk (hbox); have n5_ := Aside0.mk ((by rw [hg]; exact (below_size (by repeat (first | (with_reducible first | exact HB.out | apply below_alloc | apply pw_below_drewN | apply below_drew1 | refine below_set ?_ GE236.out) | exact HB.out))) : w.heap.size ≤ gb253)); have n6_ := Aside0.mk ((by rw [hg]; exact (below_size (by repeat (first | (with_reducible first | exact HB.out | apply below_alloc | apply pw_below_drewN | apply below_drew1 | refine below_set ?_ GE236.out) | exact HB.out))) : w.heap.size ≤ gb253)); have n7_ := Aside0.mk ((by rw [hg]; exact Nat.ne_of_lt (blk_lt (g := gb236) (o := .cells #[.string t234, .string t235, .int .u32 a2, .int .u32 a3, .int .u32 a4, .int .u32 a5, .int .u32 (Go.bits .xor .u32 a2 a5)] 28 (0, 0)) (by (with_reducible repeat (first | refine blk_drewN ?_ _ | refine blk_drew ?_ | refine blk_alloc ?_ _)); exact BK236.out)) : gb236 ≠ gb253)); have n8_ := Aside0.mk ((by rw [hg]; exact Nat.ne_of_gt (blk_lt (g := gb236) (o := .cells #[.string t234, .string t235, .int .u32 a2, .int .u32 a3, .int .u32 a4, .int .u32 a5, .int .u32 (Go.bits .xor .u32 a2 a5)] 28 (0, 0)) (by (with_reducible repeat (first | refine blk_drewN ?_ _ | refine blk_drew ?_ | refine blk_alloc ?_ _)); exact BK236.out)) : gb253 ≠ gb236)); clear HO241; clear HO244; clear BK236; clear HB; have HO241 := n0_; have HO244 := n1_; have BK236 := n2_; have HB := n3_; have BK253 := n4_; have GW253 := n5_; have GE253 := n6_; have NB236_253 := n7_; have NB253_236 := n8_; clear n0_ n1_ n2_ n3_ n4_ n5_ n6_ n7_ n8_; clear hb hbox hg; have hnb37 := NB253_236.out; have hnc37 := NB236_253.out; have hcz38_0 : w36.cell? ⟨gb253, 0, none⟩ = some (.string (⟨#[]⟩ : ByteArray)) := (blk_cell BK253.out 0).trans rfl; have hcz38_1 : w36.cell? ⟨gb253, 1, none⟩ = some (.string (⟨#[]⟩ : ByteArray)) := (blk_cell BK253.out 1).trans rfl; have hcz38_2 : w36.cell? ⟨gb253, 2, none⟩ = some (.int .u32 0) := (blk_cell BK253.out 2).trans rfl; have hcz38_3 : w36.cell? ⟨gb253, 3, none⟩ = some (.int .u32 0) := (blk_cell BK253.out 3).trans rfl; have hcz38_4 : w36.cell? ⟨gb253, 4, none⟩ = some (.int .u32 0) := (blk_cell BK253.out 4).trans rfl; have hcz38_5 : w36.cell? ⟨gb253, 5, none⟩ = some (.int .u32 0) := (blk_cell BK253.out 5).trans rfl; have hcz38_6 : w36.cell? ⟨gb253, 6, none⟩ = some (.int .u32 0) := (blk_cell BK253.out 6).trans rfl; have hfz38_0 := blk_frozen BK253.out 0; have hfz38_1 := blk_frozen BK253.out 1; have hfz38_2 := blk_frozen BK253.out 2; have hfz38_3 := blk_frozen BK253.out 3; have hfz38_4 := blk_frozen BK253.out 4; have hfz38_5 := blk_frozen BK253.out 5; have hfz38_6 := blk_frozen BK253.out 6; have hcz39_0 : w36.cell? ⟨gb236, 0, none⟩ = some (.string t234) := (blk_cell BK236.out 0).trans rfl; have hcz39_1 : w36.cell? ⟨gb236, 1, none⟩ = some (.string t235) := (blk_cell BK236.out 1).trans rfl; have hcz39_2 : w36.cell? ⟨gb236, 2, none⟩ = some (.int .u32 a2) := (blk_cell BK236.out 2).trans rfl; have hcz39_3 : w36.cell? ⟨gb236, 3, none⟩ = some (.int .u32 a3) := (blk_cell BK236.out 3).trans rfl; have hcz39_4 : w36.cell? ⟨gb236, 4, none⟩ = some (.int .u32 a4) := (blk_cell BK236.out 4).trans rfl; have hcz39_5 : w36.cell? ⟨gb236, 5, none⟩ = some (.int .u32 a5) := (blk_cell BK236.out 5).trans rfl; have hcz39_6 : w36.cell? ⟨gb236, 6, none⟩ = some (.int .u32 (Go.bits .xor .u32 a2 a5)) := (blk_cell BK236.out 6).trans rfl; have hfz39_0 := blk_frozen BK236.out 0; have hfz39_1 := blk_frozen BK236.out 1; have hfz39_2 := blk_frozen BK236.out 2; have hfz39_3 := blk_frozen BK236.out 3; have hfz39_4 := blk_frozen BK236.out 4; have hfz39_5 := blk_frozen BK236.out 5; have hfz39_6 := blk_frozen BK236.out 6) | (go_at_call 13; (with_reducible refine (rdata_May.calls k 6 t237 t254 _ A22.out).mono ?_); rintro e w40 ⟨rfl, hb⟩; have n0_ := Aside0.mk (Kd.R_below (by (with_reducible repeat (first | apply Kd.R_alloc | apply Kd.R_drewN | apply Kd.R_drew)); exact (Kd.R_mono (Kd.R_far (p := ⟨gb253, 6, none⟩) (Kd.R_far (p := ⟨gb253, 5, none⟩) (Kd.R_far (p := ⟨gb253, 4, none⟩) (Kd.R_far (p := ⟨gb253, 3, none⟩) (Kd.R_far (p := ⟨gb253, 2, none⟩) (Kd.R_far (p := ⟨gb253, 1, none⟩) (Kd.R_far (p := ⟨gb253, 0, none⟩) (Kd.R_types HO241.out BK253.out (by decide)) (fun _ hk => hk.2) (.string t245)) (fun _ hk => hk.2) (.string t246)) (fun _ hk => hk.2) (.int .u32 t247)) (fun _ hk => hk.2) (.int .u32 t248)) (fun _ hk => hk.2) (.int .u32 t249)) (fun _ hk => hk.2) (.int .u32 t250)) (fun _ hk => hk.2) (.int .u32 t251)) (fun _ h_ => h_.1))) hb); have n1_ := Aside0.mk (Kd.R_below (by (with_reducible repeat (first | apply Kd.R_alloc | apply Kd.R_drewN | apply Kd.R_drew)); exact (Kd.R_mono (Kd.R_far (p := ⟨gb253, 6, none⟩) (Kd.R_far (p := ⟨gb253, 5, none⟩) (Kd.R_far (p := ⟨gb253, 4, none⟩) (Kd.R_far (p := ⟨gb253, 3, none⟩) (Kd.R_far (p := ⟨gb253, 2, none⟩) (Kd.R_far (p := ⟨gb253, 1, none⟩) (Kd.R_far (p := ⟨gb253, 0, none⟩) (Kd.R_types HO244.out BK253.out (by decide)) (fun _ hk => hk.2) (.string t245)) (fun _ hk => hk.2) (.string t246)) (fun _ hk => hk.2) (.int .u32 t247)) (fun _ hk => hk.2) (.int .u32 t248)) (fun _ hk => hk.2) (.int .u32 t249)) (fun _ hk => hk.2) (.int .u32 t250)) (fun _ hk => hk.2) (.int .u32 t251)) (fun _ h_ => h_.1))) hb); have n2_ := Aside0.mk (blk_below (g := gb236) (o := .cells #[.string t234, .string t235, .int .u32 a2, .int .u32 a3, .int .u32 a4, .int .u32 a5, .int .u32 (Go.bits .xor .u32 a2 a5)] 28 (0, 0)) (by (with_reducible repeat (first | refine blk_drewN ?_ _ | refine blk_drew ?_ | refine blk_alloc ?_ _)); refine blk_far ?_ NB236_253.out _; (with_reducible repeat (first | refine blk_drewN ?_ _ | refine blk_drew ?_ | refine blk_alloc ?_ _)); refine blk_far ?_ NB236_253.out _; (with_reducible repeat (first | refine blk_drewN ?_ _ | refine blk_drew ?_ | refine blk_alloc ?_ _)); refine blk_far ?_ NB236_253.out _; (with_reducible repeat (first | refine blk_drewN ?_ _ | refine blk_drew ?_ | refine blk_alloc ?_ _)); refine blk_far ?_ NB236_253.out _; (with_reducible repeat (first | refine blk_drewN ?_ _ | refine blk_drew ?_ | refine blk_alloc ?_ _)); refine blk_far ?_ NB236_253.out _; (with_reducible repeat (first | refine blk_drewN ?_ _ | refine blk_drew ?_ | refine blk_alloc ?_ _)); refine blk_far ?_ NB236_253.out _; (with_reducible repeat (first | refine blk_drewN ?_ _ | refine blk_drew ?_ | refine blk_alloc ?_ _)); refine blk_far ?_ NB236_253.out _; (with_reducible repeat (first | refine blk_drewN ?_ _ | refine blk_drew ?_ | refine blk_alloc ?_ _)); exact BK236.out) hb); have n3_ := Aside0.mk (blk_below (g := gb253) (o := .cells #[.string t245, .string t246, .int .u32 t247, .int .u32 t248, .int .u32 t249, .int .u32 t250, .int .u32 t251] 28 (0, 0)) (by (with_reducible repeat (first | refine blk_drewN ?_ _ | refine blk_drew ?_ | refine blk_alloc ?_ _)); refine blk_put (cs := #[.string t245, .string t246, .int .u32 t247, .int .u32 t248, .int .u32 t249, .int .u32 t250, .int .u32 0]) ?_ 6 _ rfl; (with_reducible repeat (first | refine blk_drewN ?_ _ | refine blk_drew ?_ | refine blk_alloc ?_ _)); refine blk_put (cs := #[.string t245, .string t246, .int .u32 t247, .int .u32 t248, .int .u32 t249, .int .u32 0, .int .u32 0]) ?_ 5 _ rfl; (with_reducible repeat (first | refine blk_drewN ?_ _ | refine blk_drew ?_ | refine blk_alloc ?_ _)); refine blk_put (cs := #[.string t245, .string t246, .int .u32 t247, .int .u32 t248, .int .u32 0, .int .u32 0, .int .u32 0]) ?_ 4 _ rfl; (with_reducible repeat (first | refine blk_drewN ?_ _ | refine blk_drew ?_ | refine blk_alloc ?_ _)); refine blk_put (cs := #[.string t245, .string t246, .int .u32 t247, .int .u32 0, .int .u32 0, .int .u32 0, .int .u32 0]) ?_ 3 _ rfl; (with_reducible repeat (first | refine blk_drewN ?_ _ | refine blk_drew ?_ | refine blk_alloc ?_ _)); refine blk_put (cs := #[.string t245, .string t246, .int .u32 0, .int .u32 0, .int .u32 0, .int .u32 0, .int .u32 0]) ?_ 2 _ rfl; (with_reducible repeat (first | refine blk_drewN ?_ _ | refine blk_drew ?_ | refine blk_alloc ?_ _)); refine blk_put (cs := #[.string t245, .string (⟨#[]⟩ : ByteArray), .int .u32 0, .int .u32 0, .int .u32 0, .int .u32 0, .int .u32 0]) ?_ 1 _ rfl; (with_reducible repeat (first | refine blk_drewN ?_ _ | refine blk_drew ?_ | refine blk_alloc ?_ _)); refine blk_put (cs := #[.string (⟨#[]⟩ : ByteArray), .string (⟨#[]⟩ : ByteArray), .int .u32 0, .int .u32 0, .int .u32 0, .int .u32 0, .int .u32 0]) ?_ 0 _ rfl; (with_reducible repeat (first | refine blk_drewN ?_ _ | refine blk_drew ?_ | refine blk_alloc ?_ _)); exact BK253.out) hb); have n4_ := Aside0.mk (below_step (by repeat (first | (with_reducible first | exact HB.out | apply below_alloc | apply pw_below_drewN | apply below_drew1 | refine below_set ?_ GE236.out | refine below_set ?_ GE253.out) | exact HB.out)) hb); clear HO241; clear HO244; clear BK236; clear BK253; clear HB; have HO241 := n0_; have HO244 := n1_; have BK236 := n2_; have BK253 := n3_; have HB := n4_; clear n0_ n1_ n2_ n3_ n4_; (try clear hb); (try clear hb2); (try clear hk); (try clear hi)))
                    go_ret
                    exact ⟨by first | rfl | (simp [errW_none, errW_some] <;> rfl) | (simp [*, errW_none, errW_some] <;> rfl), by repeat (first | (with_reducible first | exact HB.out | apply below_alloc | apply pw_below_drewN | apply below_drew1 | refine below_set ?_ GE236.out | refine below_set ?_ GE253.out) | exact HB.out)⟩
                  · rw [if_neg c21] at H
                    have c21b0 : (t245.toList == t234.toList && (t246.toList == t235.toList && (t247 == a2 && (t248 == a3 && (t249 == a4 && (t250 == a5 && (t251 == (Go.bits .xor .u32 a2 a5)))))))) = false := by simpa using c21
                    (try (have c21b1 : decide (t245.toList = t234.toList && (t246.toList == t235.toList && (t247 == a2 && (t248 == a3 && (t249 == a4 && (t250 == a5 && (t251 == (Go.bits .xor .u32 a2 a5)))))))) = false := by simpa using c21))
                    (try (have c21b2 : (t245.toList == t234.toList && (t246.toList == t235.toList && (t247 == a2 && (t248 == a3 && (t249 == a4 && (t250 == a5 && (t251 == (Go.bits .xor .u32 a2 a5)))))))) = false := by simpa using c21))
                    (try (have c21b3 : ¬ (t245.toList = t234.toList && (t246.toList == t235.toList && (t247 == a2 && (t248 == a3 && (t249 == a4 && (t250 == a5 && (t251 == (Go.bits .xor .u32 a2 a5)))))))) := by simpa using c21))
                    clear c21
                    obtain rfl := Option.some.inj H
                    go_enter Try.func7, Try.ntmps7
                    try go_wp2_with (first | ((with_reducible refine gate_callee (f := 8) rfl ?_); refine goesL_ (some 20) rfl rfl Try.func8 (by kernel_rfl) rfl #[] rfl (by (try simp only [List.map_toArray, List.map_cons, List.map_nil]); first | done | rfl | (simp only [List.length_drop, List.length_take]; rfl)) ?_; (with_reducible refine (bolterlaw07_awake.calls k  true _ A7.out).mono ?_); rintro e w41 ⟨rfl, hb⟩; refine ⟨_, rfl, ?_⟩; have n0_ := Aside0.mk (below_step (by repeat (first | (with_reducible first | exact HB.out | apply below_alloc | apply pw_below_drewN | apply below_drew1) | exact HB.out)) hb); clear HB; have HB := n0_; clear n0_; (try clear hb); (try clear hb2); (try clear hk); (try clear hi)) | ((with_reducible refine gate_callee (f := 11) rfl ?_); refine goesL_ (some 26) rfl rfl Try.func11 (by kernel_rfl) rfl #[.slice A0 l0.length c0] rfl (by (try simp only [List.map_toArray, List.map_cons, List.map_nil]); first | done | rfl | (simp only [List.length_drop, List.length_take]; rfl)) ?_; (with_reducible refine (bolterlaw02_Name.calls k _ _ l0 t234 _ ?side1 ?side2 A9.out).mono ?_); (case side1 => repeat (first | exact (Kd.C_below HR0.out HB.out) | (with_reducible refine Kd.C_alloc ?_ _) | (with_reducible refine Kd.C_drewN ?_ _) | (with_reducible refine Kd.C_drew ?_))); (case side2 => exact HC0.out); rintro e w42 ⟨rfl, hb⟩; refine ⟨_, rfl, ?_⟩; have n0_ := Aside0.mk (below_step (by repeat (first | (with_reducible first | exact HB.out | apply below_alloc | apply pw_below_drewN | apply below_drew1) | exact HB.out)) hb); clear HB; have HB := n0_; clear n0_; (try clear hb); (try clear hb2); (try clear hk); (try clear hi)) | ((with_reducible refine gate_callee (f := 11) rfl ?_); refine goesL_ (some 28) rfl rfl Try.func11 (by kernel_rfl) rfl #[.slice A1 l1.length c1] rfl (by (try simp only [List.map_toArray, List.map_cons, List.map_nil]); first | done | rfl | (simp only [List.length_drop, List.length_take]; rfl)) ?_; (with_reducible refine (bolterlaw02_Name.calls k _ _ l1 t235 _ ?side1 ?side2 A10.out).mono ?_); (case side1 => repeat (first | exact (Kd.C_below HR1.out HB.out) | (with_reducible refine Kd.C_alloc ?_ _) | (with_reducible refine Kd.C_drewN ?_ _) | (with_reducible refine Kd.C_drew ?_))); (case side2 => exact HC1.out); rintro e w43 ⟨rfl, hb⟩; refine ⟨_, rfl, ?_⟩; have n0_ := Aside0.mk (below_step (by repeat (first | (with_reducible first | exact HB.out | apply below_alloc | apply pw_below_drewN | apply below_drew1) | exact HB.out)) hb); clear HB; have HB := n0_; clear n0_; (try clear hb); (try clear hb2); (try clear hk); (try clear hi)) | ((with_reducible refine gate_dst (N := 14) rfl ?_); refine box_event ?hg (N := 14) ?hd (cs := #[.string (⟨#[]⟩ : ByteArray), .string (⟨#[]⟩ : ByteArray), .int .u32 0, .int .u32 0, .int .u32 0, .int .u32 0, .int .u32 0]) (t := 28) ?hr ?_; (case hd => rfl); (case hg => rfl); (case hr => first | (go_simp; done) | (go_simp; rfl)); intro gb236 hg w44 hbox hb; have n0_ := Aside0.mk (below_step (by repeat (first | (with_reducible first | exact HB.out | apply below_alloc | apply pw_below_drewN | apply below_drew1) | exact HB.out)) hb); have n1_ := Aside0.mk (hbox); have n2_ := Aside0.mk ((by rw [hg]; exact (below_size (by repeat (first | (with_reducible first | exact HB.out | apply below_alloc | apply pw_below_drewN | apply below_drew1) | exact HB.out))) : w.heap.size ≤ gb236)); have n3_ := Aside0.mk ((by rw [hg]; exact (below_size (by repeat (first | (with_reducible first | exact HB.out | apply below_alloc | apply pw_below_drewN | apply below_drew1) | exact HB.out))) : w.heap.size ≤ gb236)); clear HB; have HB := n0_; have BK236 := n1_; have GW236 := n2_; have GE236 := n3_; clear n0_ n1_ n2_ n3_; clear hb hbox hg; have hcz45_0 : w44.cell? ⟨gb236, 0, none⟩ = some (.string (⟨#[]⟩ : ByteArray)) := (blk_cell BK236.out 0).trans rfl; have hcz45_1 : w44.cell? ⟨gb236, 1, none⟩ = some (.string (⟨#[]⟩ : ByteArray)) := (blk_cell BK236.out 1).trans rfl; have hcz45_2 : w44.cell? ⟨gb236, 2, none⟩ = some (.int .u32 0) := (blk_cell BK236.out 2).trans rfl; have hcz45_3 : w44.cell? ⟨gb236, 3, none⟩ = some (.int .u32 0) := (blk_cell BK236.out 3).trans rfl; have hcz45_4 : w44.cell? ⟨gb236, 4, none⟩ = some (.int .u32 0) := (blk_cell BK236.out 4).trans rfl; have hcz45_5 : w44.cell? ⟨gb236, 5, none⟩ = some (.int .u32 0) := (blk_cell BK236.out 5).trans rfl; have hcz45_6 : w44.cell? ⟨gb236, 6, none⟩ = some (.int .u32 0) := (blk_cell BK236.out 6).trans rfl; have hfz45_0 := blk_frozen BK236.out 0; have hfz45_1 := blk_frozen BK236.out 1; have hfz45_2 := blk_frozen BK236.out 2; have hfz45_3 := blk_frozen BK236.out 3; have hfz45_4 := blk_frozen BK236.out 4; have hfz45_5 := blk_frozen BK236.out 5; have hfz45_6 := blk_frozen BK236.out 6) | ((with_reducible refine gate_callee (f := 9) rfl ?_); refine goesL_ (some 37) rfl rfl Try.func9 (by kernel_rfl) rfl #[.agg #[.string t234, .string t235, .int .u32 a2, .int .u32 a3, .int .u32 a4, .int .u32 a5, .int .u32 (Go.bits .xor .u32 a2 a5)]] rfl (by (try simp only [List.map_toArray, List.map_cons, List.map_nil]); first | done | rfl | (simp only [List.length_drop, List.length_take]; rfl)) ?_; (with_reducible refine (soa_Data.calls k t234 t235 a2 a3 a4 a5 (Go.bits .xor .u32 a2 a5) t237 true _ A11.out).mono ?_); rintro e w46 ⟨rfl, hb⟩; refine ⟨_, rfl, ?_⟩; have n0_ := Aside0.mk (blk_below (g := gb236) (o := .cells #[.string t234, .string t235, .int .u32 a2, .int .u32 a3, .int .u32 a4, .int .u32 a5, .int .u32 (Go.bits .xor .u32 a2 a5)] 28 (0, 0)) (by (with_reducible repeat (first | refine blk_drewN ?_ _ | refine blk_drew ?_ | refine blk_alloc ?_ _)); refine blk_put (cs := #[.string t234, .string t235, .int .u32 a2, .int .u32 a3, .int .u32 a4, .int .u32 a5, .int .u32 0]) ?_ 6 _ rfl; (with_reducible repeat (first | refine blk_drewN ?_ _ | refine blk_drew ?_ | refine blk_alloc ?_ _)); refine blk_put (cs := #[.string t234, .string t235, .int .u32 a2, .int .u32 a3, .int .u32 a4, .int .u32 0, .int .u32 0]) ?_ 5 _ rfl; (with_reducible repeat (first | refine blk_drewN ?_ _ | refine blk_drew ?_ | refine blk_alloc ?_ _)); refine blk_put (cs := #[.string t234, .string t235, .int .u32 a2, .int .u32 a3, .int .u32 0, .int .u32 0, .int .u32 0]) ?_ 4 _ rfl; (with_reducible repeat (first | refine blk_drewN ?_ _ | refine blk_drew ?_ | refine blk_alloc ?_ _)); refine blk_put (cs := #[.string t234, .string t235, .int .u32 a2, .int .u32 0, .int .u32 0, .int .u32 0, .int .u32 0]) ?_ 3 _ rfl; (with_reducible repeat (first | refine blk_drewN ?_ _ | refine blk_drew ?_ | refine blk_alloc ?_ _)); refine blk_put (cs := #[.string t234, .string t235, .int .u32 0, .int .u32 0, .int .u32 0, .int .u32 0, .int .u32 0]) ?_ 2 _ rfl; (with_reducible repeat (first | refine blk_drewN ?_ _ | refine blk_drew ?_ | refine blk_alloc ?_ _)); refine blk_put (cs := #[.string t234, .string (⟨#[]⟩ : ByteArray), .int .u32 0, .int .u32 0, .int .u32 0, .int .u32 0, .int .u32 0]) ?_ 1 _ rfl; (with_reducible repeat (first | refine blk_drewN ?_ _ | refine blk_drew ?_ | refine blk_alloc ?_ _)); refine blk_put (cs := #[.string (⟨#[]⟩ : ByteArray), .string (⟨#[]⟩ : ByteArray), .int .u32 0, .int .u32 0, .int .u32 0, .int .u32 0, .int .u32 0]) ?_ 0 _ rfl; (with_reducible repeat (first | refine blk_drewN ?_ _ | refine blk_drew ?_ | refine blk_alloc ?_ _)); exact BK236.out) hb); have n1_ := Aside0.mk (below_step (by repeat (first | (with_reducible first | exact HB.out | apply below_alloc | apply pw_below_drewN | apply below_drew1 | refine below_set ?_ GE236.out) | exact HB.out)) hb); clear BK236; clear HB; have BK236 := n0_; have HB := n1_; clear n0_ n1_; (try clear hb); (try clear hb2); (try clear hk); (try clear hi)))
                    have n0_ := Aside0.mk (blk_drew BK236.out)
                    have n1_ := Aside0.mk (below_drew1 HB.out)
                    clear BK236
                    clear HB
                    have BK236 := n0_
                    have HB := n1_
                    clear n0_ n1_
                    refine start_ (n := 17) (S := fun w' => w'.cell? ⟨gb236, 0, none⟩ = some (.string t234) ∧ w'.cell? ⟨gb236, 1, none⟩ = some (.string t235) ∧ w'.cell? ⟨gb236, 2, none⟩ = some (.int .u32 a2) ∧ w'.cell? ⟨gb236, 3, none⟩ = some (.int .u32 a3) ∧ w'.cell? ⟨gb236, 4, none⟩ = some (.int .u32 a4) ∧ w'.cell? ⟨gb236, 5, none⟩ = some (.int .u32 a5) ∧ w'.cell? ⟨gb236, 6, none⟩ = some (.int .u32 (Go.bits .xor .u32 a2 a5))) (ds := []) #[false, false, false, false, false, false, false, false, false, false, false, false, false, false, false, false, false] (by kernel_rfl) rfl rfl ⟨(blk_cell BK236.out 0).trans rfl, (blk_cell BK236.out 1).trans rfl, (blk_cell BK236.out 2).trans rfl, (blk_cell BK236.out 3).trans rfl, (blk_cell BK236.out 4).trans rfl, (blk_cell BK236.out 5).trans rfl, (blk_cell BK236.out 6).trans rfl⟩ (fun hHeld => ?_); refine with_tabW bolterlaw07_SoaData.tab6 bolterlaw07_SoaData.bits6 (fun HT_ HW_ => ?_)
                    generalize w46.drew = w47 at BK236 HB hHeld ⊢
                    refine pure_ (i := 0) (N := some 40) (v := ?_) (a' := ?_) #[true, false, false, false, false, false, false, false, false, false, false, false, false, false, false, false, false] rfl rfl (any_of HT_.out (by kernel_rfl)) (fun _ _ _ h => h) (Or.inl ⟨by rfl, ?_⟩) ?_ ?_
                    rotate_left
                    · intro w'
                      go_simp
                      with_reducible rfl
                    rotate_left
                    · simp only [Act.put, List.setIfInBounds_toArray, List.set_cons_zero, List.set_cons_succ, i64_w, i32_w]
                      rfl
                    refine pure_ (i := 3) (N := some 43) (v := ?_) (a' := ?_) #[true, false, false, true, false, false, false, false, false, false, false, false, false, false, false, false, false] rfl rfl (any_of HT_.out (by kernel_rfl)) (fun _ _ _ h => h) (Or.inl ⟨by rfl, ?_⟩) ?_ ?_
                    rotate_left
                    · intro w'
                      go_simp
                      with_reducible rfl
                    rotate_left
                    · simp only [Act.put, List.setIfInBounds_toArray, List.set_cons_zero, List.set_cons_succ, i64_w, i32_w]
                      rfl
                    refine pure_ (i := 7) (N := some 47) (v := ?_) (a' := ?_) #[true, false, false, true, false, false, false, true, false, false, false, false, false, false, false, false, false] rfl rfl (any_of HT_.out (by kernel_rfl)) (fun _ _ _ h => h) (Or.inl ⟨by rfl, ?_⟩) ?_ ?_
                    rotate_left
                    · intro w'
                      go_simp
                      with_reducible rfl
                    rotate_left
                    · simp only [Act.put, List.setIfInBounds_toArray, List.set_cons_zero, List.set_cons_succ, i64_w, i32_w]
                      rfl
                    refine pure_ (i := 8) (N := some 48) (v := ?_) (a' := ?_) #[true, false, false, true, false, false, false, true, true, false, false, false, false, false, false, false, false] rfl rfl (any_of HT_.out (by kernel_rfl)) (fun _ _ _ h => h) (Or.inl ⟨by rfl, ?_⟩) ?_ ?_
                    rotate_left
                    · intro w'
                      go_simp
                      with_reducible rfl
                    rotate_left
                    · simp only [Act.put, List.setIfInBounds_toArray, List.set_cons_zero, List.set_cons_succ, i64_w, i32_w]
                      rfl
                    refine pure_ (i := 9) (N := some 49) (v := ?_) (a' := ?_) #[true, false, false, true, false, false, false, true, true, true, false, false, false, false, false, false, false] rfl rfl (any_of HT_.out (by kernel_rfl)) (fun _ _ _ h => h) (Or.inl ⟨by rfl, ?_⟩) ?_ ?_
                    rotate_left
                    · intro w'
                      go_simp
                      with_reducible rfl
                    rotate_left
                    · simp only [Act.put, List.setIfInBounds_toArray, List.set_cons_zero, List.set_cons_succ, i64_w, i32_w]
                      rfl
                    refine pure_ (i := 10) (N := some 50) (v := ?_) (a' := ?_) #[true, false, false, true, false, false, false, true, true, true, true, false, false, false, false, false, false] rfl rfl (any_of HT_.out (by kernel_rfl)) (fun _ _ _ h => h) (Or.inl ⟨by rfl, ?_⟩) ?_ ?_
                    rotate_left
                    · intro w'
                      go_simp
                      with_reducible rfl
                    rotate_left
                    · simp only [Act.put, List.setIfInBounds_toArray, List.set_cons_zero, List.set_cons_succ, i64_w, i32_w]
                      rfl
                    refine pure_ (i := 11) (N := some 51) (v := ?_) (a' := ?_) #[true, false, false, true, false, false, false, true, true, true, true, true, false, false, false, false, false] rfl rfl (any_of HT_.out (by kernel_rfl)) (fun _ _ _ h => h) (Or.inl ⟨by rfl, ?_⟩) ?_ ?_
                    rotate_left
                    · intro w'
                      go_simp
                      with_reducible rfl
                    rotate_left
                    · simp only [Act.put, List.setIfInBounds_toArray, List.set_cons_zero, List.set_cons_succ, i64_w, i32_w]
                      rfl
                    refine take_ (i := 1) (N := some 41) (v := ?_) (a' := ?_) #[true, true, false, true, false, false, false, true, true, true, true, true, false, false, false, false, false] rfl rfl (take_ofW HT_.out HW_.out (by kernel_rfl)) (fun _ _ _ h => h) (Or.inl ⟨by rfl, ?_⟩) hHeld ?_ ?_
                    rotate_left
                    · rintro w' ⟨s0, s1, s2, s3, s4, s5, s6⟩
                      go_simp
                      with_reducible rfl
                    rotate_left
                    · simp only [Act.put, List.setIfInBounds_toArray, List.set_cons_zero, List.set_cons_succ, i64_w, i32_w]
                      rfl
                    refine pure_ (i := 2) (N := some 42) (v := ?_) (a' := ?_) #[true, true, true, true, false, false, false, true, true, true, true, true, false, false, false, false, false] rfl rfl (any_of HT_.out (by kernel_rfl)) (fun _ _ _ h => h) (Or.inl ⟨by rfl, ?_⟩) ?_ ?_
                    rotate_left
                    · intro w'
                      go_simp
                      with_reducible rfl
                    rotate_left
                    · simp only [Act.put, List.setIfInBounds_toArray, List.set_cons_zero, List.set_cons_succ, i64_w, i32_w]
                      rfl
                    refine take_ (i := 4) (N := some 44) (v := ?_) (a' := ?_) #[true, true, true, true, true, false, false, true, true, true, true, true, false, false, false, false, false] rfl rfl (take_ofW HT_.out HW_.out (by kernel_rfl)) (fun _ _ _ h => h) (Or.inl ⟨by rfl, ?_⟩) hHeld ?_ ?_
                    rotate_left
                    · rintro w' ⟨s0, s1, s2, s3, s4, s5, s6⟩
                      go_simp
                      with_reducible rfl
                    rotate_left
                    · simp only [Act.put, List.setIfInBounds_toArray, List.set_cons_zero, List.set_cons_succ, i64_w, i32_w]
                      rfl
                    refine pure_ (i := 5) (N := some 45) (v := ?_) (a' := ?_) #[true, true, true, true, true, true, false, true, true, true, true, true, false, false, false, false, false] rfl rfl (any_of HT_.out (by kernel_rfl)) (fun _ _ _ h => h) (Or.inl ⟨by rfl, ?_⟩) ?_ ?_
                    rotate_left
                    · intro w'
                      go_simp
                      with_reducible rfl
                    rotate_left
                    · simp only [Act.put, List.setIfInBounds_toArray, List.set_cons_zero, List.set_cons_succ, i64_w, i32_w]
                      rfl
                    refine pure_ (i := 6) (N := some 46) (v := ?_) (a' := ?_) #[true, true, true, true, true, true, true, true, true, true, true, true, false, false, false, false, false] rfl rfl (any_of HT_.out (by kernel_rfl)) (fun _ _ _ h => h) (Or.inl ⟨by rfl, ?_⟩) ?_ ?_
                    rotate_left
                    · intro w'
                      go_simp
                      with_reducible rfl
                    rotate_left
                    · simp only [Act.put, List.setIfInBounds_toArray, List.set_cons_zero, List.set_cons_succ, i64_w, i32_w]
                      rfl
                    refine one_ (i := 12) (N := some 52) #[true, true, true, true, true, true, true, true, true, true, true, true, true, false, false, false, false] rfl rfl (one_of HT_.out (by kernel_rfl)) (by decide) (fun K hK => ?_)
                    refine Kd.R_lit_step (Kd.int .u32) _ 26 ?hg (N := 52) ?hd (xs := ([a2, a3, a4, a5, Go.bits .xor .u32 a2 a5] : List Int)) (inner := [.int .u32 a2, .int .u32 a3, .int .u32 a4, .int .u32 a5, .int .u32 (Go.bits .xor .u32 a2 a5)]) (ok := fun _ => True) (okp := fun _ => True) ?hr ?hp (fun _ hk => hk) trivial (Below.refl _ _) (Nat.le_refl _) (by simp) ?_; (case hd => rfl); (case hg => rfl); (case hr => first | (go_simp; done) | (go_simp; rfl)); (case hp => exact (Reps.one (show Kd.M (Kd.int .u32) _ _ _ a2 [.int .u32 a2] from rfl) (Reps.one (show Kd.M (Kd.int .u32) _ _ _ a3 [.int .u32 a3] from rfl) (Reps.one (show Kd.M (Kd.int .u32) _ _ _ a4 [.int .u32 a4] from rfl) (Reps.one (show Kd.M (Kd.int .u32) _ _ _ a5 [.int .u32 a5] from rfl) (Reps.one (show Kd.M (Kd.int .u32) _ _ _ (Go.bits .xor .u32 a2 a5) [.int .u32 (Go.bits .xor .u32 a2 a5)] from rfl) (Reps.none _ _)))))))
                    intro v240 w48 ho49 hb hg_ hnew_
                    clear hg_ hnew_
                    (first | rw [← Ny239.out] at ho49 | (simp only [Int.reduceToNat] at ho49; rw [← Ny239.out] at ho49))
                    have n0_ := Aside0.mk (Kd.R_lower ho49 (below_size (by repeat (first | (with_reducible first | exact HB.out | apply below_alloc | apply pw_below_drewN | apply below_drew1 | refine below_set ?_ GE236.out) | exact HB.out))))
                    have n1_ := Aside0.mk (blk_below (g := gb236) (o := .cells #[.string t234, .string t235, .int .u32 a2, .int .u32 a3, .int .u32 a4, .int .u32 a5, .int .u32 (Go.bits .xor .u32 a2 a5)] 28 (0, 0)) (by (with_reducible repeat (first | refine blk_drewN ?_ _ | refine blk_drew ?_ | refine blk_alloc ?_ _)); exact BK236.out) hb)
                    have n2_ := Aside0.mk (below_step (by repeat (first | (with_reducible first | exact HB.out | apply below_alloc | apply pw_below_drewN | apply below_drew1 | refine below_set ?_ GE236.out) | exact HB.out)) hb)
                    clear BK236
                    clear HB
                    have HO241 := n0_
                    have BK236 := n1_
                    have HB := n2_
                    clear n0_ n1_ n2_
                    clear hb ho49
                    obtain ⟨Ao50, co50, eo50⟩ := Kd.R_slice HO241.out
                    (first | subst eo50 | (injection eo50 with f1_ f2_ f3_; have f4_ := f1_.symm; have f5_ := f3_.symm; clear f1_ f2_ f3_; subst f4_; subst f5_))
                    refine hK.out _ _ ⟨(blk_cell BK236.out 0).trans rfl, (blk_cell BK236.out 1).trans rfl, (blk_cell BK236.out 2).trans rfl, (blk_cell BK236.out 3).trans rfl, (blk_cell BK236.out 4).trans rfl, (blk_cell BK236.out 5).trans rfl, (blk_cell BK236.out 6).trans rfl⟩ (fun hHeld => ?_)
                    clear hK K
                    refine norm_ (a' := ?_) ?_ ?_
                    rotate_left
                    · show Act.put _ (some 52) _ = _
                      simp only [Act.put, List.setIfInBounds_toArray, List.set_cons_zero, List.set_cons_succ, i64_w, i32_w]
                      rfl
                    refine one_ (i := 13) (N := some 53) #[true, true, true, true, true, true, true, true, true, true, true, true, true, true, false, false, false] rfl rfl (one_of HT_.out (by kernel_rfl)) (by decide) (fun K hK => ?_)
                    refine goes_ Try.func16 (by kernel_rfl) rfl #[.slice none 0 0, .slice Ao50 y239.length co50] (by rfl) rfl rfl (by (try simp only [List.map_toArray, List.map_cons, List.map_nil]); first | done | rfl | (simp only [List.length_drop, List.length_take]; rfl)) ?_
                    refine (num_Put32.calls k _ _ ([] : List Int) _ _ y239 t242 _ ?side1 ?side2 ?side3 ?side4 A15.out).mono ?_
                    (case side1 => exact Kd.C_nil _ _)
                    (case side2 => exact Nat.le_refl _)
                    (case side3 => repeat (first | exact (Kd.R_reads' HO241.out).2.2 | (with_reducible refine Kd.C_alloc ?_ _) | (with_reducible refine Kd.C_drewN ?_ _) | (with_reducible refine Kd.C_drew ?_)))
                    (case side4 => exact (Kd.R_reads' HO241.out).2.1)
                    rintro e w51 ⟨v243, rfl, ho0, hb⟩
                    refine ⟨_, rfl, ?_⟩
                    have n0_ := Aside0.mk (Kd.R_below (by (with_reducible repeat (first | apply Kd.R_alloc | apply Kd.R_drewN | apply Kd.R_drew)); exact HO241.out) hb)
                    have n1_ := Aside0.mk (Kd.R_lower ho0 (below_size (by repeat (first | (with_reducible first | exact HB.out | apply below_alloc | apply pw_below_drewN | apply below_drew1 | refine below_set ?_ GE236.out) | exact HB.out))))
                    have n2_ := Aside0.mk (blk_below (g := gb236) (o := .cells #[.string t234, .string t235, .int .u32 a2, .int .u32 a3, .int .u32 a4, .int .u32 a5, .int .u32 (Go.bits .xor .u32 a2 a5)] 28 (0, 0)) (by (with_reducible repeat (first | refine blk_drewN ?_ _ | refine blk_drew ?_ | refine blk_alloc ?_ _)); exact BK236.out) hb)
                    have n3_ := Aside0.mk (below_step (by repeat (first | (with_reducible first | exact HB.out | apply below_alloc | apply pw_below_drewN | apply below_drew1 | refine below_set ?_ GE236.out) | exact HB.out)) hb)
                    clear HO241
                    clear BK236
                    clear HB
                    have HO241 := n0_
                    have HO244 := n1_
                    have BK236 := n2_
                    have HB := n3_
                    clear n0_ n1_ n2_ n3_
                    (try clear hb)
                    (try clear hb2)
                    (try clear hk)
                    (try clear hi)
                    (try clear ho0)
                    refine hK.out _ _ ⟨(blk_cell BK236.out 0).trans rfl, (blk_cell BK236.out 1).trans rfl, (blk_cell BK236.out 2).trans rfl, (blk_cell BK236.out 3).trans rfl, (blk_cell BK236.out 4).trans rfl, (blk_cell BK236.out 5).trans rfl, (blk_cell BK236.out 6).trans rfl⟩ (fun hHeld => ?_)
                    clear hK K
                    refine norm_ (a' := ?_) ?_ ?_
                    rotate_left
                    · show Act.put _ (some 53) _ = _
                      simp only [Act.put, List.setIfInBounds_toArray, List.set_cons_zero, List.set_cons_succ, i64_w, i32_w]
                      rfl
                    refine one_ (i := 14) (N := some 54) #[true, true, true, true, true, true, true, true, true, true, true, true, true, true, true, false, false] rfl rfl (one_of HT_.out (by kernel_rfl)) (by decide) (fun K hK => ?_)
                    have hcv52 := own_string (P := Try.prog) Try.underlying31 Try.underlying5 Try.underlying9 (Kd.own_of_R HO244.out)
                    refine value_ (w1 := ?_) (v := ?_) (by rfl) rfl ?_ ?_
                    rotate_left 2
                    · go_simp
                      constructor
                      · rfl
                      · rfl
                    clear hcv52
                    refine hK.out _ _ ⟨(blk_cell BK236.out 0).trans rfl, (blk_cell BK236.out 1).trans rfl, (blk_cell BK236.out 2).trans rfl, (blk_cell BK236.out 3).trans rfl, (blk_cell BK236.out 4).trans rfl, (blk_cell BK236.out 5).trans rfl, (blk_cell BK236.out 6).trans rfl⟩ (fun hHeld => ?_)
                    clear hK K
                    refine norm_ (a' := ?_) ?_ ?_
                    rotate_left
                    · show Act.put _ (some 54) _ = _
                      simp only [Act.put, List.setIfInBounds_toArray, List.set_cons_zero, List.set_cons_succ, i64_w, i32_w]
                      rfl
                    refine pure_ (i := 15) (N := some 55) (v := ?_) (a' := ?_) #[true, true, true, true, true, true, true, true, true, true, true, true, true, true, true, true, false] rfl rfl (any_of HT_.out (by kernel_rfl)) (fun _ _ _ h => h) (Or.inl ⟨by rfl, ?_⟩) ?_ ?_
                    rotate_left
                    · intro w'
                      go_simp
                      with_reducible rfl
                    rotate_left
                    · simp only [Act.put, List.setIfInBounds_toArray, List.set_cons_zero, List.set_cons_succ, i64_w, i32_w]
                      rfl
                    refine pure_ (i := 16) (N := some 17) (v := ?_) (a' := ?_) #[true, true, true, true, true, true, true, true, true, true, true, true, true, true, true, true, true] rfl rfl (any_of HT_.out (by kernel_rfl)) (fun _ _ _ h => h) (Or.inl ⟨by rfl, ?_⟩) ?_ ?_
                    rotate_left
                    · intro w'
                      go_simp
                      with_reducible rfl
                    rotate_left
                    · simp only [Act.put, List.setIfInBounds_toArray, List.set_cons_zero, List.set_cons_succ, i64_w, i32_w]
                      rfl
                    refine done_ (done_of HT_.out (by kernel_rfl)) ?_
                    try go_wp2_with (first | ((with_reducible refine gate_callee (f := 12) rfl ?_); refine goesL_ (some 58) rfl rfl Try.func12 (by kernel_rfl) rfl #[.string t237] rfl (by (try simp only [List.map_toArray, List.map_cons, List.map_nil]); first | done | rfl | (simp only [List.length_drop, List.length_take]; rfl)) ?_; (with_reducible refine (soa_Parse.calls k t237 t245 t246 t247 t248 t249 t250 t251 true _ A17.out).mono ?_); rintro e w53 ⟨rfl, hb⟩; refine ⟨_, rfl, ?_⟩; have n0_ := Aside0.mk (Kd.R_below (by (with_reducible repeat (first | apply Kd.R_alloc | apply Kd.R_drewN | apply Kd.R_drew)); exact HO241.out) hb); have n1_ := Aside0.mk (Kd.R_below (by (with_reducible repeat (first | apply Kd.R_alloc | apply Kd.R_drewN | apply Kd.R_drew)); exact HO244.out) hb); have n2_ := Aside0.mk (blk_below (g := gb236) (o := .cells #[.string t234, .string t235, .int .u32 a2, .int .u32 a3, .int .u32 a4, .int .u32 a5, .int .u32 (Go.bits .xor .u32 a2 a5)] 28 (0, 0)) (by (with_reducible repeat (first | refine blk_drewN ?_ _ | refine blk_drew ?_ | refine blk_alloc ?_ _)); exact BK236.out) hb); have n3_ := Aside0.mk (below_step (by repeat (first | (with_reducible first | exact HB.out | apply below_alloc | apply pw_below_drewN | apply below_drew1 | refine below_set ?_ GE236.out) | exact HB.out)) hb); clear HO241; clear HO244; clear BK236; clear HB; have HO241 := n0_; have HO244 := n1_; have BK236 := n2_; have HB := n3_; clear n0_ n1_ n2_ n3_; (try clear hb); (try clear hb2); (try clear hk); (try clear hi)) | ((with_reducible refine gate_dst (N := 18) rfl ?_); refine box_event ?hg (N := 18) ?hd (cs := #[.string (⟨#[]⟩ : ByteArray), .string (⟨#[]⟩ : ByteArray), .int .u32 0, .int .u32 0, .int .u32 0, .int .u32 0, .int .u32 0]) (t := 28) ?hr ?_; (case hd => rfl); (case hg => rfl); (case hr => first | (go_simp; done) | (go_simp; rfl)); intro gb253 hg w54 hbox hb; have n0_ := Aside0.mk (Kd.R_below (by (with_reducible repeat (first | apply Kd.R_alloc | apply Kd.R_drewN | apply Kd.R_drew)); exact HO241.out) hb); have n1_ := Aside0.mk (Kd.R_below (by (with_reducible repeat (first | apply Kd.R_alloc | apply Kd.R_drewN | apply Kd.R_drew)); exact HO244.out) hb); have n2_ := Aside0.mk (blk_below (g := gb236) (o := .cells #[.string t234, .string t235, .int .u32 a2, .int .u32 a3, .int .u32 a4, .int .u32 a5, .int .u32 (Go.bits .xor .u32 a2 a5)] 28 (0, 0)) (by (with_reducible repeat (first | refine blk_drewN ?_ _ | refine blk_drew ?_ | refine blk_alloc ?_ _)); exact BK236.out) hb); have n3_ := Aside0.mk (below_step (by repeat (first | (with_reducible first | exact HB.out | apply below_alloc | apply pw_below_drewN | apply below_drew1 | refine below_set ?_ GE236.out) | exact HB.out)) hb); have n4_ := Aside0.mk (hbox); have n5_ := Aside0.mk ((by rw [hg]; exact (below_size (by repeat (first | (with_reducible first | exact HB.out | apply below_alloc | apply pw_below_drewN | apply below_drew1 | refine below_set ?_ GE236.out) | exact HB.out))) : w.heap.size ≤ gb253)); have n6_ := Aside0.mk ((by rw [hg]; exact (below_size (by repeat (first | (with_reducible first | exact HB.out | apply below_alloc | apply pw_below_drewN | apply below_drew1 | refine below_set ?_ GE236.out) | exact HB.out))) : w.heap.size ≤ gb253)); have n7_ := Aside0.mk ((by rw [hg]; exact Nat.ne_of_lt (blk_lt (g := gb236) (o := .cells #[.string t234, .string t235, .int .u32 a2, .int .u32 a3, .int .u32 a4, .int .u32 a5, .int .u32 (Go.bits .xor .u32 a2 a5)] 28 (0, 0)) (by (with_reducible repeat (first | refine blk_drewN ?_ _ | refine blk_drew ?_ | refine blk_alloc ?_ _)); exact BK236.out)) : gb236 ≠ gb253)); have n8_ := Aside0.mk ((by rw [hg]; exact Nat.ne_of_gt (blk_lt (g := gb236) (o := .cells #[.string t234, .string t235, .int .u32 a2, .int .u32 a3, .int .u32 a4, .int .u32 a5, .int .u32 (Go.bits .xor .u32 a2 a5)] 28 (0, 0)) (by (with_reducible repeat (first | refine blk_drewN ?_ _ | refine blk_drew ?_ | refine blk_alloc ?_ _)); exact BK236.out)) : gb253 ≠ gb236)); clear HO241; clear HO244; clear BK236; clear HB; have HO241 := n0_; have HO244 := n1_; have BK236 := n2_; have HB := n3_; have BK253 := n4_; have GW253 := n5_; have GE253 := n6_; have NB236_253 := n7_; have NB253_236 := n8_; clear n0_ n1_ n2_ n3_ n4_ n5_ n6_ n7_ n8_; clear hb hbox hg; have hnb55 := NB253_236.out; have hnc55 := NB236_253.out; have hcz56_0 : w54.cell? ⟨gb253, 0, none⟩ = some (.string (⟨#[]⟩ : ByteArray)) := (blk_cell BK253.out 0).trans rfl; have hcz56_1 : w54.cell? ⟨gb253, 1, none⟩ = some (.string (⟨#[]⟩ : ByteArray)) := (blk_cell BK253.out 1).trans rfl; have hcz56_2 : w54.cell? ⟨gb253, 2, none⟩ = some (.int .u32 0) := (blk_cell BK253.out 2).trans rfl; have hcz56_3 : w54.cell? ⟨gb253, 3, none⟩ = some (.int .u32 0) := (blk_cell BK253.out 3).trans rfl; have hcz56_4 : w54.cell? ⟨gb253, 4, none⟩ = some (.int .u32 0) := (blk_cell BK253.out 4).trans rfl; have hcz56_5 : w54.cell? ⟨gb253, 5, none⟩ = some (.int .u32 0) := (blk_cell BK253.out 5).trans rfl; have hcz56_6 : w54.cell? ⟨gb253, 6, none⟩ = some (.int .u32 0) := (blk_cell BK253.out 6).trans rfl; have hfz56_0 := blk_frozen BK253.out 0; have hfz56_1 := blk_frozen BK253.out 1; have hfz56_2 := blk_frozen BK253.out 2; have hfz56_3 := blk_frozen BK253.out 3; have hfz56_4 := blk_frozen BK253.out 4; have hfz56_5 := blk_frozen BK253.out 5; have hfz56_6 := blk_frozen BK253.out 6; have hcz57_0 : w54.cell? ⟨gb236, 0, none⟩ = some (.string t234) := (blk_cell BK236.out 0).trans rfl; have hcz57_1 : w54.cell? ⟨gb236, 1, none⟩ = some (.string t235) := (blk_cell BK236.out 1).trans rfl; have hcz57_2 : w54.cell? ⟨gb236, 2, none⟩ = some (.int .u32 a2) := (blk_cell BK236.out 2).trans rfl; have hcz57_3 : w54.cell? ⟨gb236, 3, none⟩ = some (.int .u32 a3) := (blk_cell BK236.out 3).trans rfl; have hcz57_4 : w54.cell? ⟨gb236, 4, none⟩ = some (.int .u32 a4) := (blk_cell BK236.out 4).trans rfl; have hcz57_5 : w54.cell? ⟨gb236, 5, none⟩ = some (.int .u32 a5) := (blk_cell BK236.out 5).trans rfl; have hcz57_6 : w54.cell? ⟨gb236, 6, none⟩ = some (.int .u32 (Go.bits .xor .u32 a2 a5)) := (blk_cell BK236.out 6).trans rfl; have hfz57_0 := blk_frozen BK236.out 0; have hfz57_1 := blk_frozen BK236.out 1; have hfz57_2 := blk_frozen BK236.out 2; have hfz57_3 := blk_frozen BK236.out 3; have hfz57_4 := blk_frozen BK236.out 4; have hfz57_5 := blk_frozen BK236.out 5; have hfz57_6 := blk_frozen BK236.out 6))
                    go_ret
                    exact ⟨by first | rfl | (simp [errW_none, errW_some] <;> rfl) | (simp [*, errW_none, errW_some] <;> rfl), by repeat (first | (with_reducible first | exact HB.out | apply below_alloc | apply pw_below_drewN | apply below_drew1 | refine below_set ?_ GE236.out | refine below_set ?_ GE253.out) | exact HB.out)⟩
                · replace c20 := Bool.eq_false_iff.mpr c20
                  subst c20
                  have H1 : (some false) = some r := by rw [if_neg (show ¬ (false = true) by decide)] at H; exact H
                  clear H
                  have H := H1
                  clear H1
                  obtain rfl := Option.some.inj H
                  go_enter Try.func7, Try.ntmps7
                  try go_wp2_with (first | ((with_reducible refine gate_callee (f := 8) rfl ?_); refine goesL_ (some 20) rfl rfl Try.func8 (by kernel_rfl) rfl #[] rfl (by (try simp only [List.map_toArray, List.map_cons, List.map_nil]); first | done | rfl | (simp only [List.length_drop, List.length_take]; rfl)) ?_; (with_reducible refine (bolterlaw07_awake.calls k  true _ A7.out).mono ?_); rintro e w58 ⟨rfl, hb⟩; refine ⟨_, rfl, ?_⟩; have n0_ := Aside0.mk (below_step (by repeat (first | (with_reducible first | exact HB.out | apply below_alloc | apply pw_below_drewN | apply below_drew1) | exact HB.out)) hb); clear HB; have HB := n0_; clear n0_; (try clear hb); (try clear hb2); (try clear hk); (try clear hi)) | ((with_reducible refine gate_callee (f := 11) rfl ?_); refine goesL_ (some 26) rfl rfl Try.func11 (by kernel_rfl) rfl #[.slice A0 l0.length c0] rfl (by (try simp only [List.map_toArray, List.map_cons, List.map_nil]); first | done | rfl | (simp only [List.length_drop, List.length_take]; rfl)) ?_; (with_reducible refine (bolterlaw02_Name.calls k _ _ l0 t234 _ ?side1 ?side2 A9.out).mono ?_); (case side1 => repeat (first | exact (Kd.C_below HR0.out HB.out) | (with_reducible refine Kd.C_alloc ?_ _) | (with_reducible refine Kd.C_drewN ?_ _) | (with_reducible refine Kd.C_drew ?_))); (case side2 => exact HC0.out); rintro e w59 ⟨rfl, hb⟩; refine ⟨_, rfl, ?_⟩; have n0_ := Aside0.mk (below_step (by repeat (first | (with_reducible first | exact HB.out | apply below_alloc | apply pw_below_drewN | apply below_drew1) | exact HB.out)) hb); clear HB; have HB := n0_; clear n0_; (try clear hb); (try clear hb2); (try clear hk); (try clear hi)) | ((with_reducible refine gate_callee (f := 11) rfl ?_); refine goesL_ (some 28) rfl rfl Try.func11 (by kernel_rfl) rfl #[.slice A1 l1.length c1] rfl (by (try simp only [List.map_toArray, List.map_cons, List.map_nil]); first | done | rfl | (simp only [List.length_drop, List.length_take]; rfl)) ?_; (with_reducible refine (bolterlaw02_Name.calls k _ _ l1 t235 _ ?side1 ?side2 A10.out).mono ?_); (case side1 => repeat (first | exact (Kd.C_below HR1.out HB.out) | (with_reducible refine Kd.C_alloc ?_ _) | (with_reducible refine Kd.C_drewN ?_ _) | (with_reducible refine Kd.C_drew ?_))); (case side2 => exact HC1.out); rintro e w60 ⟨rfl, hb⟩; refine ⟨_, rfl, ?_⟩; have n0_ := Aside0.mk (below_step (by repeat (first | (with_reducible first | exact HB.out | apply below_alloc | apply pw_below_drewN | apply below_drew1) | exact HB.out)) hb); clear HB; have HB := n0_; clear n0_; (try clear hb); (try clear hb2); (try clear hk); (try clear hi)) | ((with_reducible refine gate_dst (N := 14) rfl ?_); refine box_event ?hg (N := 14) ?hd (cs := #[.string (⟨#[]⟩ : ByteArray), .string (⟨#[]⟩ : ByteArray), .int .u32 0, .int .u32 0, .int .u32 0, .int .u32 0, .int .u32 0]) (t := 28) ?hr ?_; (case hd => rfl); (case hg => rfl); (case hr => first | (go_simp; done) | (go_simp; rfl)); intro gb236 hg w61 hbox hb; have n0_ := Aside0.mk (below_step (by repeat (first | (with_reducible first | exact HB.out | apply below_alloc | apply pw_below_drewN | apply below_drew1) | exact HB.out)) hb); have n1_ := Aside0.mk (hbox); have n2_ := Aside0.mk ((by rw [hg]; exact (below_size (by repeat (first | (with_reducible first | exact HB.out | apply below_alloc | apply pw_below_drewN | apply below_drew1) | exact HB.out))) : w.heap.size ≤ gb236)); have n3_ := Aside0.mk ((by rw [hg]; exact (below_size (by repeat (first | (with_reducible first | exact HB.out | apply below_alloc | apply pw_below_drewN | apply below_drew1) | exact HB.out))) : w.heap.size ≤ gb236)); clear HB; have HB := n0_; have BK236 := n1_; have GW236 := n2_; have GE236 := n3_; clear n0_ n1_ n2_ n3_; clear hb hbox hg; have hcz62_0 : w61.cell? ⟨gb236, 0, none⟩ = some (.string (⟨#[]⟩ : ByteArray)) := (blk_cell BK236.out 0).trans rfl; have hcz62_1 : w61.cell? ⟨gb236, 1, none⟩ = some (.string (⟨#[]⟩ : ByteArray)) := (blk_cell BK236.out 1).trans rfl; have hcz62_2 : w61.cell? ⟨gb236, 2, none⟩ = some (.int .u32 0) := (blk_cell BK236.out 2).trans rfl; have hcz62_3 : w61.cell? ⟨gb236, 3, none⟩ = some (.int .u32 0) := (blk_cell BK236.out 3).trans rfl; have hcz62_4 : w61.cell? ⟨gb236, 4, none⟩ = some (.int .u32 0) := (blk_cell BK236.out 4).trans rfl; have hcz62_5 : w61.cell? ⟨gb236, 5, none⟩ = some (.int .u32 0) := (blk_cell BK236.out 5).trans rfl; have hcz62_6 : w61.cell? ⟨gb236, 6, none⟩ = some (.int .u32 0) := (blk_cell BK236.out 6).trans rfl; have hfz62_0 := blk_frozen BK236.out 0; have hfz62_1 := blk_frozen BK236.out 1; have hfz62_2 := blk_frozen BK236.out 2; have hfz62_3 := blk_frozen BK236.out 3; have hfz62_4 := blk_frozen BK236.out 4; have hfz62_5 := blk_frozen BK236.out 5; have hfz62_6 := blk_frozen BK236.out 6) | ((with_reducible refine gate_callee (f := 9) rfl ?_); refine goesL_ (some 37) rfl rfl Try.func9 (by kernel_rfl) rfl #[.agg #[.string t234, .string t235, .int .u32 a2, .int .u32 a3, .int .u32 a4, .int .u32 a5, .int .u32 (Go.bits .xor .u32 a2 a5)]] rfl (by (try simp only [List.map_toArray, List.map_cons, List.map_nil]); first | done | rfl | (simp only [List.length_drop, List.length_take]; rfl)) ?_; (with_reducible refine (soa_Data.calls k t234 t235 a2 a3 a4 a5 (Go.bits .xor .u32 a2 a5) t237 true _ A11.out).mono ?_); rintro e w63 ⟨rfl, hb⟩; refine ⟨_, rfl, ?_⟩; have n0_ := Aside0.mk (blk_below (g := gb236) (o := .cells #[.string t234, .string t235, .int .u32 a2, .int .u32 a3, .int .u32 a4, .int .u32 a5, .int .u32 (Go.bits .xor .u32 a2 a5)] 28 (0, 0)) (by (with_reducible repeat (first | refine blk_drewN ?_ _ | refine blk_drew ?_ | refine blk_alloc ?_ _)); refine blk_put (cs := #[.string t234, .string t235, .int .u32 a2, .int .u32 a3, .int .u32 a4, .int .u32 a5, .int .u32 0]) ?_ 6 _ rfl; (with_reducible repeat (first | refine blk_drewN ?_ _ | refine blk_drew ?_ | refine blk_alloc ?_ _)); refine blk_put (cs := #[.string t234, .string t235, .int .u32 a2, .int .u32 a3, .int .u32 a4, .int .u32 0, .int .u32 0]) ?_ 5 _ rfl; (with_reducible repeat (first | refine blk_drewN ?_ _ | refine blk_drew ?_ | refine blk_alloc ?_ _)); refine blk_put (cs := #[.string t234, .string t235, .int .u32 a2, .int .u32 a3, .int .u32 0, .int .u32 0, .int .u32 0]) ?_ 4 _ rfl; (with_reducible repeat (first | refine blk_drewN ?_ _ | refine blk_drew ?_ | refine blk_alloc ?_ _)); refine blk_put (cs := #[.string t234, .string t235, .int .u32 a2, .int .u32 0, .int .u32 0, .int .u32 0, .int .u32 0]) ?_ 3 _ rfl; (with_reducible repeat (first | refine blk_drewN ?_ _ | refine blk_drew ?_ | refine blk_alloc ?_ _)); refine blk_put (cs := #[.string t234, .string t235, .int .u32 0, .int .u32 0, .int .u32 0, .int .u32 0, .int .u32 0]) ?_ 2 _ rfl; (with_reducible repeat (first | refine blk_drewN ?_ _ | refine blk_drew ?_ | refine blk_alloc ?_ _)); refine blk_put (cs := #[.string t234, .string (⟨#[]⟩ : ByteArray), .int .u32 0, .int .u32 0, .int .u32 0, .int .u32 0, .int .u32 0]) ?_ 1 _ rfl; (with_reducible repeat (first | refine blk_drewN ?_ _ | refine blk_drew ?_ | refine blk_alloc ?_ _)); refine blk_put (cs := #[.string (⟨#[]⟩ : ByteArray), .string (⟨#[]⟩ : ByteArray), .int .u32 0, .int .u32 0, .int .u32 0, .int .u32 0, .int .u32 0]) ?_ 0 _ rfl; (with_reducible repeat (first | refine blk_drewN ?_ _ | refine blk_drew ?_ | refine blk_alloc ?_ _)); exact BK236.out) hb); have n1_ := Aside0.mk (below_step (by repeat (first | (with_reducible first | exact HB.out | apply below_alloc | apply pw_below_drewN | apply below_drew1 | refine below_set ?_ GE236.out) | exact HB.out)) hb); clear BK236; clear HB; have BK236 := n0_; have HB := n1_; clear n0_ n1_; (try clear hb); (try clear hb2); (try clear hk); (try clear hi)))
                  have n0_ := Aside0.mk (blk_drew BK236.out)
                  have n1_ := Aside0.mk (below_drew1 HB.out)
                  clear BK236
                  clear HB
                  have BK236 := n0_
                  have HB := n1_
                  clear n0_ n1_
                  refine start_ (n := 17) (S := fun w' => w'.cell? ⟨gb236, 0, none⟩ = some (.string t234) ∧ w'.cell? ⟨gb236, 1, none⟩ = some (.string t235) ∧ w'.cell? ⟨gb236, 2, none⟩ = some (.int .u32 a2) ∧ w'.cell? ⟨gb236, 3, none⟩ = some (.int .u32 a3) ∧ w'.cell? ⟨gb236, 4, none⟩ = some (.int .u32 a4) ∧ w'.cell? ⟨gb236, 5, none⟩ = some (.int .u32 a5) ∧ w'.cell? ⟨gb236, 6, none⟩ = some (.int .u32 (Go.bits .xor .u32 a2 a5))) (ds := []) #[false, false, false, false, false, false, false, false, false, false, false, false, false, false, false, false, false] (by kernel_rfl) rfl rfl ⟨(blk_cell BK236.out 0).trans rfl, (blk_cell BK236.out 1).trans rfl, (blk_cell BK236.out 2).trans rfl, (blk_cell BK236.out 3).trans rfl, (blk_cell BK236.out 4).trans rfl, (blk_cell BK236.out 5).trans rfl, (blk_cell BK236.out 6).trans rfl⟩ (fun hHeld => ?_); refine with_tabW bolterlaw07_SoaData.tab6 bolterlaw07_SoaData.bits6 (fun HT_ HW_ => ?_)
                  generalize w63.drew = w64 at BK236 HB hHeld ⊢
                  refine pure_ (i := 0) (N := some 40) (v := ?_) (a' := ?_) #[true, false, false, false, false, false, false, false, false, false, false, false, false, false, false, false, false] rfl rfl (any_of HT_.out (by kernel_rfl)) (fun _ _ _ h => h) (Or.inl ⟨by rfl, ?_⟩) ?_ ?_
                  rotate_left
                  · intro w'
                    go_simp
                    with_reducible rfl
                  rotate_left
                  · simp only [Act.put, List.setIfInBounds_toArray, List.set_cons_zero, List.set_cons_succ, i64_w, i32_w]
                    rfl
                  refine pure_ (i := 3) (N := some 43) (v := ?_) (a' := ?_) #[true, false, false, true, false, false, false, false, false, false, false, false, false, false, false, false, false] rfl rfl (any_of HT_.out (by kernel_rfl)) (fun _ _ _ h => h) (Or.inl ⟨by rfl, ?_⟩) ?_ ?_
                  rotate_left
                  · intro w'
                    go_simp
                    with_reducible rfl
                  rotate_left
                  · simp only [Act.put, List.setIfInBounds_toArray, List.set_cons_zero, List.set_cons_succ, i64_w, i32_w]
                    rfl
                  refine pure_ (i := 7) (N := some 47) (v := ?_) (a' := ?_) #[true, false, false, true, false, false, false, true, false, false, false, false, false, false, false, false, false] rfl rfl (any_of HT_.out (by kernel_rfl)) (fun _ _ _ h => h) (Or.inl ⟨by rfl, ?_⟩) ?_ ?_
                  rotate_left
                  · intro w'
                    go_simp
                    with_reducible rfl
                  rotate_left
                  · simp only [Act.put, List.setIfInBounds_toArray, List.set_cons_zero, List.set_cons_succ, i64_w, i32_w]
                    rfl
                  refine pure_ (i := 8) (N := some 48) (v := ?_) (a' := ?_) #[true, false, false, true, false, false, false, true, true, false, false, false, false, false, false, false, false] rfl rfl (any_of HT_.out (by kernel_rfl)) (fun _ _ _ h => h) (Or.inl ⟨by rfl, ?_⟩) ?_ ?_
                  rotate_left
                  · intro w'
                    go_simp
                    with_reducible rfl
                  rotate_left
                  · simp only [Act.put, List.setIfInBounds_toArray, List.set_cons_zero, List.set_cons_succ, i64_w, i32_w]
                    rfl
                  refine pure_ (i := 9) (N := some 49) (v := ?_) (a' := ?_) #[true, false, false, true, false, false, false, true, true, true, false, false, false, false, false, false, false] rfl rfl (any_of HT_.out (by kernel_rfl)) (fun _ _ _ h => h) (Or.inl ⟨by rfl, ?_⟩) ?_ ?_
                  rotate_left
                  · intro w'
                    go_simp
                    with_reducible rfl
                  rotate_left
                  · simp only [Act.put, List.setIfInBounds_toArray, List.set_cons_zero, List.set_cons_succ, i64_w, i32_w]
                    rfl
                  refine pure_ (i := 10) (N := some 50) (v := ?_) (a' := ?_) #[true, false, false, true, false, false, false, true, true, true, true, false, false, false, false, false, false] rfl rfl (any_of HT_.out (by kernel_rfl)) (fun _ _ _ h => h) (Or.inl ⟨by rfl, ?_⟩) ?_ ?_
                  rotate_left
                  · intro w'
                    go_simp
                    with_reducible rfl
                  rotate_left
                  · simp only [Act.put, List.setIfInBounds_toArray, List.set_cons_zero, List.set_cons_succ, i64_w, i32_w]
                    rfl
                  refine pure_ (i := 11) (N := some 51) (v := ?_) (a' := ?_) #[true, false, false, true, false, false, false, true, true, true, true, true, false, false, false, false, false] rfl rfl (any_of HT_.out (by kernel_rfl)) (fun _ _ _ h => h) (Or.inl ⟨by rfl, ?_⟩) ?_ ?_
                  rotate_left
                  · intro w'
                    go_simp
                    with_reducible rfl
                  rotate_left
                  · simp only [Act.put, List.setIfInBounds_toArray, List.set_cons_zero, List.set_cons_succ, i64_w, i32_w]
                    rfl
                  refine take_ (i := 1) (N := some 41) (v := ?_) (a' := ?_) #[true, true, false, true, false, false, false, true, true, true, true, true, false, false, false, false, false] rfl rfl (take_ofW HT_.out HW_.out (by kernel_rfl)) (fun _ _ _ h => h) (Or.inl ⟨by rfl, ?_⟩) hHeld ?_ ?_
                  rotate_left
                  · rintro w' ⟨s0, s1, s2, s3, s4, s5, s6⟩
                    go_simp
                    with_reducible rfl
                  rotate_left
                  · simp only [Act.put, List.setIfInBounds_toArray, List.set_cons_zero, List.set_cons_succ, i64_w, i32_w]
                    rfl
                  refine pure_ (i := 2) (N := some 42) (v := ?_) (a' := ?_) #[true, true, true, true, false, false, false, true, true, true, true, true, false, false, false, false, false] rfl rfl (any_of HT_.out (by kernel_rfl)) (fun _ _ _ h => h) (Or.inl ⟨by rfl, ?_⟩) ?_ ?_
                  rotate_left
                  · intro w'
                    go_simp
                    with_reducible rfl
                  rotate_left
                  · simp only [Act.put, List.setIfInBounds_toArray, List.set_cons_zero, List.set_cons_succ, i64_w, i32_w]
                    rfl
                  refine take_ (i := 4) (N := some 44) (v := ?_) (a' := ?_) #[true, true, true, true, true, false, false, true, true, true, true, true, false, false, false, false, false] rfl rfl (take_ofW HT_.out HW_.out (by kernel_rfl)) (fun _ _ _ h => h) (Or.inl ⟨by rfl, ?_⟩) hHeld ?_ ?_
                  rotate_left
                  · rintro w' ⟨s0, s1, s2, s3, s4, s5, s6⟩
                    go_simp
                    with_reducible rfl
                  rotate_left
                  · simp only [Act.put, List.setIfInBounds_toArray, List.set_cons_zero, List.set_cons_succ, i64_w, i32_w]
                    rfl
                  refine pure_ (i := 5) (N := some 45) (v := ?_) (a' := ?_) #[true, true, true, true, true, true, false, true, true, true, true, true, false, false, false, false, false] rfl rfl (any_of HT_.out (by kernel_rfl)) (fun _ _ _ h => h) (Or.inl ⟨by rfl, ?_⟩) ?_ ?_
                  rotate_left
                  · intro w'
                    go_simp
                    with_reducible rfl
                  rotate_left
                  · simp only [Act.put, List.setIfInBounds_toArray, List.set_cons_zero, List.set_cons_succ, i64_w, i32_w]
                    rfl
                  refine pure_ (i := 6) (N := some 46) (v := ?_) (a' := ?_) #[true, true, true, true, true, true, true, true, true, true, true, true, false, false, false, false, false] rfl rfl (any_of HT_.out (by kernel_rfl)) (fun _ _ _ h => h) (Or.inl ⟨by rfl, ?_⟩) ?_ ?_
                  rotate_left
                  · intro w'
                    go_simp
                    with_reducible rfl
                  rotate_left
                  · simp only [Act.put, List.setIfInBounds_toArray, List.set_cons_zero, List.set_cons_succ, i64_w, i32_w]
                    rfl
                  refine one_ (i := 12) (N := some 52) #[true, true, true, true, true, true, true, true, true, true, true, true, true, false, false, false, false] rfl rfl (one_of HT_.out (by kernel_rfl)) (by decide) (fun K hK => ?_)
                  refine Kd.R_lit_step (Kd.int .u32) _ 26 ?hg (N := 52) ?hd (xs := ([a2, a3, a4, a5, Go.bits .xor .u32 a2 a5] : List Int)) (inner := [.int .u32 a2, .int .u32 a3, .int .u32 a4, .int .u32 a5, .int .u32 (Go.bits .xor .u32 a2 a5)]) (ok := fun _ => True) (okp := fun _ => True) ?hr ?hp (fun _ hk => hk) trivial (Below.refl _ _) (Nat.le_refl _) (by simp) ?_; (case hd => rfl); (case hg => rfl); (case hr => first | (go_simp; done) | (go_simp; rfl)); (case hp => exact (Reps.one (show Kd.M (Kd.int .u32) _ _ _ a2 [.int .u32 a2] from rfl) (Reps.one (show Kd.M (Kd.int .u32) _ _ _ a3 [.int .u32 a3] from rfl) (Reps.one (show Kd.M (Kd.int .u32) _ _ _ a4 [.int .u32 a4] from rfl) (Reps.one (show Kd.M (Kd.int .u32) _ _ _ a5 [.int .u32 a5] from rfl) (Reps.one (show Kd.M (Kd.int .u32) _ _ _ (Go.bits .xor .u32 a2 a5) [.int .u32 (Go.bits .xor .u32 a2 a5)] from rfl) (Reps.none _ _)))))))
                  intro v240 w65 ho66 hb hg_ hnew_
                  clear hg_ hnew_
                  (first | rw [← Ny239.out] at ho66 | (simp only [Int.reduceToNat] at ho66; rw [← Ny239.out] at ho66))
                  have n0_ := Aside0.mk (Kd.R_lower ho66 (below_size (by repeat (first | (with_reducible first | exact HB.out | apply below_alloc | apply pw_below_drewN | apply below_drew1 | refine below_set ?_ GE236.out) | exact HB.out))))
                  have n1_ := Aside0.mk (blk_below (g := gb236) (o := .cells #[.string t234, .string t235, .int .u32 a2, .int .u32 a3, .int .u32 a4, .int .u32 a5, .int .u32 (Go.bits .xor .u32 a2 a5)] 28 (0, 0)) (by (with_reducible repeat (first | refine blk_drewN ?_ _ | refine blk_drew ?_ | refine blk_alloc ?_ _)); exact BK236.out) hb)
                  have n2_ := Aside0.mk (below_step (by repeat (first | (with_reducible first | exact HB.out | apply below_alloc | apply pw_below_drewN | apply below_drew1 | refine below_set ?_ GE236.out) | exact HB.out)) hb)
                  clear BK236
                  clear HB
                  have HO241 := n0_
                  have BK236 := n1_
                  have HB := n2_
                  clear n0_ n1_ n2_
                  clear hb ho66
                  obtain ⟨Ao67, co67, eo67⟩ := Kd.R_slice HO241.out
                  (first | subst eo67 | (injection eo67 with f1_ f2_ f3_; have f4_ := f1_.symm; have f5_ := f3_.symm; clear f1_ f2_ f3_; subst f4_; subst f5_))
                  refine hK.out _ _ ⟨(blk_cell BK236.out 0).trans rfl, (blk_cell BK236.out 1).trans rfl, (blk_cell BK236.out 2).trans rfl, (blk_cell BK236.out 3).trans rfl, (blk_cell BK236.out 4).trans rfl, (blk_cell BK236.out 5).trans rfl, (blk_cell BK236.out 6).trans rfl⟩ (fun hHeld => ?_)
                  clear hK K
                  refine norm_ (a' := ?_) ?_ ?_
                  rotate_left
                  · show Act.put _ (some 52) _ = _
                    simp only [Act.put, List.setIfInBounds_toArray, List.set_cons_zero, List.set_cons_succ, i64_w, i32_w]
                    rfl
                  refine one_ (i := 13) (N := some 53) #[true, true, true, true, true, true, true, true, true, true, true, true, true, true, false, false, false] rfl rfl (one_of HT_.out (by kernel_rfl)) (by decide) (fun K hK => ?_)
                  refine goes_ Try.func16 (by kernel_rfl) rfl #[.slice none 0 0, .slice Ao67 y239.length co67] (by rfl) rfl rfl (by (try simp only [List.map_toArray, List.map_cons, List.map_nil]); first | done | rfl | (simp only [List.length_drop, List.length_take]; rfl)) ?_
                  refine (num_Put32.calls k _ _ ([] : List Int) _ _ y239 t242 _ ?side1 ?side2 ?side3 ?side4 A15.out).mono ?_
                  (case side1 => exact Kd.C_nil _ _)
                  (case side2 => exact Nat.le_refl _)
                  (case side3 => repeat (first | exact (Kd.R_reads' HO241.out).2.2 | (with_reducible refine Kd.C_alloc ?_ _) | (with_reducible refine Kd.C_drewN ?_ _) | (with_reducible refine Kd.C_drew ?_)))
                  (case side4 => exact (Kd.R_reads' HO241.out).2.1)
                  rintro e w68 ⟨v243, rfl, ho0, hb⟩
                  refine ⟨_, rfl, ?_⟩
                  have n0_ := Aside0.mk (Kd.R_below (by (with_reducible repeat (first | apply Kd.R_alloc | apply Kd.R_drewN | apply Kd.R_drew)); exact HO241.out) hb)
                  have n1_ := Aside0.mk (Kd.R_lower ho0 (below_size (by repeat (first | (with_reducible first | exact HB.out | apply below_alloc | apply pw_below_drewN | apply below_drew1 | refine below_set ?_ GE236.out) | exact HB.out))))
                  have n2_ := Aside0.mk (blk_below (g := gb236) (o := .cells #[.string t234, .string t235, .int .u32 a2, .int .u32 a3, .int .u32 a4, .int .u32 a5, .int .u32 (Go.bits .xor .u32 a2 a5)] 28 (0, 0)) (by (with_reducible repeat (first | refine blk_drewN ?_ _ | refine blk_drew ?_ | refine blk_alloc ?_ _)); exact BK236.out) hb)
                  have n3_ := Aside0.mk (below_step (by repeat (first | (with_reducible first | exact HB.out | apply below_alloc | apply pw_below_drewN | apply below_drew1 | refine below_set ?_ GE236.out) | exact HB.out)) hb)
                  clear HO241
                  clear BK236
                  clear HB
                  have HO241 := n0_
                  have HO244 := n1_
                  have BK236 := n2_
                  have HB := n3_
                  clear n0_ n1_ n2_ n3_
                  (try clear hb)
                  (try clear hb2)
                  (try clear hk)
                  (try clear hi)
                  (try clear ho0)
                  refine hK.out _ _ ⟨(blk_cell BK236.out 0).trans rfl, (blk_cell BK236.out 1).trans rfl, (blk_cell BK236.out 2).trans rfl, (blk_cell BK236.out 3).trans rfl, (blk_cell BK236.out 4).trans rfl, (blk_cell BK236.out 5).trans rfl, (blk_cell BK236.out 6).trans rfl⟩ (fun hHeld => ?_)
                  clear hK K
                  refine norm_ (a' := ?_) ?_ ?_
                  rotate_left
                  · show Act.put _ (some 53) _ = _
                    simp only [Act.put, List.setIfInBounds_toArray, List.set_cons_zero, List.set_cons_succ, i64_w, i32_w]
                    rfl
                  refine one_ (i := 14) (N := some 54) #[true, true, true, true, true, true, true, true, true, true, true, true, true, true, true, false, false] rfl rfl (one_of HT_.out (by kernel_rfl)) (by decide) (fun K hK => ?_)
                  have hcv69 := own_string (P := Try.prog) Try.underlying31 Try.underlying5 Try.underlying9 (Kd.own_of_R HO244.out)
                  refine value_ (w1 := ?_) (v := ?_) (by rfl) rfl ?_ ?_
                  rotate_left 2
                  · go_simp
                    constructor
                    · rfl
                    · rfl
                  clear hcv69
                  refine hK.out _ _ ⟨(blk_cell BK236.out 0).trans rfl, (blk_cell BK236.out 1).trans rfl, (blk_cell BK236.out 2).trans rfl, (blk_cell BK236.out 3).trans rfl, (blk_cell BK236.out 4).trans rfl, (blk_cell BK236.out 5).trans rfl, (blk_cell BK236.out 6).trans rfl⟩ (fun hHeld => ?_)
                  clear hK K
                  refine norm_ (a' := ?_) ?_ ?_
                  rotate_left
                  · show Act.put _ (some 54) _ = _
                    simp only [Act.put, List.setIfInBounds_toArray, List.set_cons_zero, List.set_cons_succ, i64_w, i32_w]
                    rfl
                  refine pure_ (i := 15) (N := some 55) (v := ?_) (a' := ?_) #[true, true, true, true, true, true, true, true, true, true, true, true, true, true, true, true, false] rfl rfl (any_of HT_.out (by kernel_rfl)) (fun _ _ _ h => h) (Or.inl ⟨by rfl, ?_⟩) ?_ ?_
                  rotate_left
                  · intro w'
                    go_simp
                    with_reducible rfl
                  rotate_left
                  · simp only [Act.put, List.setIfInBounds_toArray, List.set_cons_zero, List.set_cons_succ, i64_w, i32_w]
                    rfl
                  refine pure_ (i := 16) (N := some 17) (v := ?_) (a' := ?_) #[true, true, true, true, true, true, true, true, true, true, true, true, true, true, true, true, true] rfl rfl (any_of HT_.out (by kernel_rfl)) (fun _ _ _ h => h) (Or.inl ⟨by rfl, ?_⟩) ?_ ?_
                  rotate_left
                  · intro w'
                    go_simp
                    with_reducible rfl
                  rotate_left
                  · simp only [Act.put, List.setIfInBounds_toArray, List.set_cons_zero, List.set_cons_succ, i64_w, i32_w]
                    rfl
                  refine done_ (done_of HT_.out (by kernel_rfl)) ?_
                  try go_wp2_with (first | ((with_reducible refine gate_callee (f := 12) rfl ?_); refine goesL_ (some 58) rfl rfl Try.func12 (by kernel_rfl) rfl #[.string t237] rfl (by (try simp only [List.map_toArray, List.map_cons, List.map_nil]); first | done | rfl | (simp only [List.length_drop, List.length_take]; rfl)) ?_; (with_reducible refine (soa_Parse.calls k t237 t245 t246 t247 t248 t249 t250 t251 false _ A17.out).mono ?_); rintro e w70 ⟨rfl, hb⟩; refine ⟨_, rfl, ?_⟩; have n0_ := Aside0.mk (Kd.R_below (by (with_reducible repeat (first | apply Kd.R_alloc | apply Kd.R_drewN | apply Kd.R_drew)); exact HO241.out) hb); have n1_ := Aside0.mk (Kd.R_below (by (with_reducible repeat (first | apply Kd.R_alloc | apply Kd.R_drewN | apply Kd.R_drew)); exact HO244.out) hb); have n2_ := Aside0.mk (blk_below (g := gb236) (o := .cells #[.string t234, .string t235, .int .u32 a2, .int .u32 a3, .int .u32 a4, .int .u32 a5, .int .u32 (Go.bits .xor .u32 a2 a5)] 28 (0, 0)) (by (with_reducible repeat (first | refine blk_drewN ?_ _ | refine blk_drew ?_ | refine blk_alloc ?_ _)); exact BK236.out) hb); have n3_ := Aside0.mk (below_step (by repeat (first | (with_reducible first | exact HB.out | apply below_alloc | apply pw_below_drewN | apply below_drew1 | refine below_set ?_ GE236.out) | exact HB.out)) hb); clear HO241; clear HO244; clear BK236; clear HB; have HO241 := n0_; have HO244 := n1_; have BK236 := n2_; have HB := n3_; clear n0_ n1_ n2_ n3_; (try clear hb); (try clear hb2); (try clear hk); (try clear hi)) | ((with_reducible refine gate_dst (N := 18) rfl ?_); refine box_event ?hg (N := 18) ?hd (cs := #[.string (⟨#[]⟩ : ByteArray), .string (⟨#[]⟩ : ByteArray), .int .u32 0, .int .u32 0, .int .u32 0, .int .u32 0, .int .u32 0]) (t := 28) ?hr ?_; (case hd => rfl); (case hg => rfl); (case hr => first | (go_simp; done) | (go_simp; rfl)); intro gb253 hg w71 hbox hb; have n0_ := Aside0.mk (Kd.R_below (by (with_reducible repeat (first | apply Kd.R_alloc | apply Kd.R_drewN | apply Kd.R_drew)); exact HO241.out) hb); have n1_ := Aside0.mk (Kd.R_below (by (with_reducible repeat (first | apply Kd.R_alloc | apply Kd.R_drewN | apply Kd.R_drew)); exact HO244.out) hb); have n2_ := Aside0.mk (blk_below (g := gb236) (o := .cells #[.string t234, .string t235, .int .u32 a2, .int .u32 a3, .int .u32 a4, .int .u32 a5, .int .u32 (Go.bits .xor .u32 a2 a5)] 28 (0, 0)) (by (with_reducible repeat (first | refine blk_drewN ?_ _ | refine blk_drew ?_ | refine blk_alloc ?_ _)); exact BK236.out) hb); have n3_ := Aside0.mk (below_step (by repeat (first | (with_reducible first | exact HB.out | apply below_alloc | apply pw_below_drewN | apply below_drew1 | refine below_set ?_ GE236.out) | exact HB.out)) hb); have n4_ := Aside0.mk (hbox); have n5_ := Aside0.mk ((by rw [hg]; exact (below_size (by repeat (first | (with_reducible first | exact HB.out | apply below_alloc | apply pw_below_drewN | apply below_drew1 | refine below_set ?_ GE236.out) | exact HB.out))) : w.heap.size ≤ gb253)); have n6_ := Aside0.mk ((by rw [hg]; exact (below_size (by repeat (first | (with_reducible first | exact HB.out | apply below_alloc | apply pw_below_drewN | apply below_drew1 | refine below_set ?_ GE236.out) | exact HB.out))) : w.heap.size ≤ gb253)); have n7_ := Aside0.mk ((by rw [hg]; exact Nat.ne_of_lt (blk_lt (g := gb236) (o := .cells #[.string t234, .string t235, .int .u32 a2, .int .u32 a3, .int .u32 a4, .int .u32 a5, .int .u32 (Go.bits .xor .u32 a2 a5)] 28 (0, 0)) (by (with_reducible repeat (first | refine blk_drewN ?_ _ | refine blk_drew ?_ | refine blk_alloc ?_ _)); exact BK236.out)) : gb236 ≠ gb253)); have n8_ := Aside0.mk ((by rw [hg]; exact Nat.ne_of_gt (blk_lt (g := gb236) (o := .cells #[.string t234, .string t235, .int .u32 a2, .int .u32 a3, .int .u32 a4, .int .u32 a5, .int .u32 (Go.bits .xor .u32 a2 a5)] 28 (0, 0)) (by (with_reducible repeat (first | refine blk_drewN ?_ _ | refine blk_drew ?_ | refine blk_alloc ?_ _)); exact BK236.out)) : gb253 ≠ gb236)); clear HO241; clear HO244; clear BK236; clear HB; have HO241 := n0_; have HO244 := n1_; have BK236 := n2_; have HB := n3_; have BK253 := n4_; have GW253 := n5_; have GE253 := n6_; have NB236_253 := n7_; have NB253_236 := n8_; clear n0_ n1_ n2_ n3_ n4_ n5_ n6_ n7_ n8_; clear hb hbox hg; have hnb72 := NB253_236.out; have hnc72 := NB236_253.out; have hcz73_0 : w71.cell? ⟨gb253, 0, none⟩ = some (.string (⟨#[]⟩ : ByteArray)) := (blk_cell BK253.out 0).trans rfl; have hcz73_1 : w71.cell? ⟨gb253, 1, none⟩ = some (.string (⟨#[]⟩ : ByteArray)) := (blk_cell BK253.out 1).trans rfl; have hcz73_2 : w71.cell? ⟨gb253, 2, none⟩ = some (.int .u32 0) := (blk_cell BK253.out 2).trans rfl; have hcz73_3 : w71.cell? ⟨gb253, 3, none⟩ = some (.int .u32 0) := (blk_cell BK253.out 3).trans rfl; have hcz73_4 : w71.cell? ⟨gb253, 4, none⟩ = some (.int .u32 0) := (blk_cell BK253.out 4).trans rfl; have hcz73_5 : w71.cell? ⟨gb253, 5, none⟩ = some (.int .u32 0) := (blk_cell BK253.out 5).trans rfl; have hcz73_6 : w71.cell? ⟨gb253, 6, none⟩ = some (.int .u32 0) := (blk_cell BK253.out 6).trans rfl; have hfz73_0 := blk_frozen BK253.out 0; have hfz73_1 := blk_frozen BK253.out 1; have hfz73_2 := blk_frozen BK253.out 2; have hfz73_3 := blk_frozen BK253.out 3; have hfz73_4 := blk_frozen BK253.out 4; have hfz73_5 := blk_frozen BK253.out 5; have hfz73_6 := blk_frozen BK253.out 6))
                  go_ret
                  exact ⟨by first | rfl | (simp [errW_none, errW_some] <;> rfl) | (simp [*, errW_none, errW_some] <;> rfl), by repeat (first | (with_reducible first | exact HB.out | apply below_alloc | apply pw_below_drewN | apply below_drew1 | refine below_set ?_ GE236.out | refine below_set ?_ GE253.out) | exact HB.out)⟩
              · rw [if_neg c19] at H
                have c19b0 : (t237.toList == ((((t234 ++ (⟨#[0]⟩ : ByteArray)) ++ t235) ++ (⟨#[0]⟩ : ByteArray)) ++ (strOfNums t242)).toList) = false := beq_eq_false_iff_ne.mpr c19
                have c19b1 : (t237.toList != ((((t234 ++ (⟨#[0]⟩ : ByteArray)) ++ t235) ++ (⟨#[0]⟩ : ByteArray)) ++ (strOfNums t242)).toList) = true := bne_iff_ne.mpr c19
                obtain rfl := Option.some.inj H
                go_enter Try.func7, Try.ntmps7
                try go_wp2_with (first | ((with_reducible refine gate_callee (f := 8) rfl ?_); refine goesL_ (some 20) rfl rfl Try.func8 (by kernel_rfl) rfl #[] rfl (by (try simp only [List.map_toArray, List.map_cons, List.map_nil]); first | done | rfl | (simp only [List.length_drop, List.length_take]; rfl)) ?_; (with_reducible refine (bolterlaw07_awake.calls k  true _ A7.out).mono ?_); rintro e w74 ⟨rfl, hb⟩; refine ⟨_, rfl, ?_⟩; have n0_ := Aside0.mk (below_step (by repeat (first | (with_reducible first | exact HB.out | apply below_alloc | apply pw_below_drewN | apply below_drew1) | exact HB.out)) hb); clear HB; have HB := n0_; clear n0_; (try clear hb); (try clear hb2); (try clear hk); (try clear hi)) | ((with_reducible refine gate_callee (f := 11) rfl ?_); refine goesL_ (some 26) rfl rfl Try.func11 (by kernel_rfl) rfl #[.slice A0 l0.length c0] rfl (by (try simp only [List.map_toArray, List.map_cons, List.map_nil]); first | done | rfl | (simp only [List.length_drop, List.length_take]; rfl)) ?_; (with_reducible refine (bolterlaw02_Name.calls k _ _ l0 t234 _ ?side1 ?side2 A9.out).mono ?_); (case side1 => repeat (first | exact (Kd.C_below HR0.out HB.out) | (with_reducible refine Kd.C_alloc ?_ _) | (with_reducible refine Kd.C_drewN ?_ _) | (with_reducible refine Kd.C_drew ?_))); (case side2 => exact HC0.out); rintro e w75 ⟨rfl, hb⟩; refine ⟨_, rfl, ?_⟩; have n0_ := Aside0.mk (below_step (by repeat (first | (with_reducible first | exact HB.out | apply below_alloc | apply pw_below_drewN | apply below_drew1) | exact HB.out)) hb); clear HB; have HB := n0_; clear n0_; (try clear hb); (try clear hb2); (try clear hk); (try clear hi)) | ((with_reducible refine gate_callee (f := 11) rfl ?_); refine goesL_ (some 28) rfl rfl Try.func11 (by kernel_rfl) rfl #[.slice A1 l1.length c1] rfl (by (try simp only [List.map_toArray, List.map_cons, List.map_nil]); first | done | rfl | (simp only [List.length_drop, List.length_take]; rfl)) ?_; (with_reducible refine (bolterlaw02_Name.calls k _ _ l1 t235 _ ?side1 ?side2 A10.out).mono ?_); (case side1 => repeat (first | exact (Kd.C_below HR1.out HB.out) | (with_reducible refine Kd.C_alloc ?_ _) | (with_reducible refine Kd.C_drewN ?_ _) | (with_reducible refine Kd.C_drew ?_))); (case side2 => exact HC1.out); rintro e w76 ⟨rfl, hb⟩; refine ⟨_, rfl, ?_⟩; have n0_ := Aside0.mk (below_step (by repeat (first | (with_reducible first | exact HB.out | apply below_alloc | apply pw_below_drewN | apply below_drew1) | exact HB.out)) hb); clear HB; have HB := n0_; clear n0_; (try clear hb); (try clear hb2); (try clear hk); (try clear hi)) | ((with_reducible refine gate_dst (N := 14) rfl ?_); refine box_event ?hg (N := 14) ?hd (cs := #[.string (⟨#[]⟩ : ByteArray), .string (⟨#[]⟩ : ByteArray), .int .u32 0, .int .u32 0, .int .u32 0, .int .u32 0, .int .u32 0]) (t := 28) ?hr ?_; (case hd => rfl); (case hg => rfl); (case hr => first | (go_simp; done) | (go_simp; rfl)); intro gb236 hg w77 hbox hb; have n0_ := Aside0.mk (below_step (by repeat (first | (with_reducible first | exact HB.out | apply below_alloc | apply pw_below_drewN | apply below_drew1) | exact HB.out)) hb); have n1_ := Aside0.mk (hbox); have n2_ := Aside0.mk ((by rw [hg]; exact (below_size (by repeat (first | (with_reducible first | exact HB.out | apply below_alloc | apply pw_below_drewN | apply below_drew1) | exact HB.out))) : w.heap.size ≤ gb236)); have n3_ := Aside0.mk ((by rw [hg]; exact (below_size (by repeat (first | (with_reducible first | exact HB.out | apply below_alloc | apply pw_below_drewN | apply below_drew1) | exact HB.out))) : w.heap.size ≤ gb236)); clear HB; have HB := n0_; have BK236 := n1_; have GW236 := n2_; have GE236 := n3_; clear n0_ n1_ n2_ n3_; clear hb hbox hg; have hcz78_0 : w77.cell? ⟨gb236, 0, none⟩ = some (.string (⟨#[]⟩ : ByteArray)) := (blk_cell BK236.out 0).trans rfl; have hcz78_1 : w77.cell? ⟨gb236, 1, none⟩ = some (.string (⟨#[]⟩ : ByteArray)) := (blk_cell BK236.out 1).trans rfl; have hcz78_2 : w77.cell? ⟨gb236, 2, none⟩ = some (.int .u32 0) := (blk_cell BK236.out 2).trans rfl; have hcz78_3 : w77.cell? ⟨gb236, 3, none⟩ = some (.int .u32 0) := (blk_cell BK236.out 3).trans rfl; have hcz78_4 : w77.cell? ⟨gb236, 4, none⟩ = some (.int .u32 0) := (blk_cell BK236.out 4).trans rfl; have hcz78_5 : w77.cell? ⟨gb236, 5, none⟩ = some (.int .u32 0) := (blk_cell BK236.out 5).trans rfl; have hcz78_6 : w77.cell? ⟨gb236, 6, none⟩ = some (.int .u32 0) := (blk_cell BK236.out 6).trans rfl; have hfz78_0 := blk_frozen BK236.out 0; have hfz78_1 := blk_frozen BK236.out 1; have hfz78_2 := blk_frozen BK236.out 2; have hfz78_3 := blk_frozen BK236.out 3; have hfz78_4 := blk_frozen BK236.out 4; have hfz78_5 := blk_frozen BK236.out 5; have hfz78_6 := blk_frozen BK236.out 6) | ((with_reducible refine gate_callee (f := 9) rfl ?_); refine goesL_ (some 37) rfl rfl Try.func9 (by kernel_rfl) rfl #[.agg #[.string t234, .string t235, .int .u32 a2, .int .u32 a3, .int .u32 a4, .int .u32 a5, .int .u32 (Go.bits .xor .u32 a2 a5)]] rfl (by (try simp only [List.map_toArray, List.map_cons, List.map_nil]); first | done | rfl | (simp only [List.length_drop, List.length_take]; rfl)) ?_; (with_reducible refine (soa_Data.calls k t234 t235 a2 a3 a4 a5 (Go.bits .xor .u32 a2 a5) t237 true _ A11.out).mono ?_); rintro e w79 ⟨rfl, hb⟩; refine ⟨_, rfl, ?_⟩; have n0_ := Aside0.mk (blk_below (g := gb236) (o := .cells #[.string t234, .string t235, .int .u32 a2, .int .u32 a3, .int .u32 a4, .int .u32 a5, .int .u32 (Go.bits .xor .u32 a2 a5)] 28 (0, 0)) (by (with_reducible repeat (first | refine blk_drewN ?_ _ | refine blk_drew ?_ | refine blk_alloc ?_ _)); refine blk_put (cs := #[.string t234, .string t235, .int .u32 a2, .int .u32 a3, .int .u32 a4, .int .u32 a5, .int .u32 0]) ?_ 6 _ rfl; (with_reducible repeat (first | refine blk_drewN ?_ _ | refine blk_drew ?_ | refine blk_alloc ?_ _)); refine blk_put (cs := #[.string t234, .string t235, .int .u32 a2, .int .u32 a3, .int .u32 a4, .int .u32 0, .int .u32 0]) ?_ 5 _ rfl; (with_reducible repeat (first | refine blk_drewN ?_ _ | refine blk_drew ?_ | refine blk_alloc ?_ _)); refine blk_put (cs := #[.string t234, .string t235, .int .u32 a2, .int .u32 a3, .int .u32 0, .int .u32 0, .int .u32 0]) ?_ 4 _ rfl; (with_reducible repeat (first | refine blk_drewN ?_ _ | refine blk_drew ?_ | refine blk_alloc ?_ _)); refine blk_put (cs := #[.string t234, .string t235, .int .u32 a2, .int .u32 0, .int .u32 0, .int .u32 0, .int .u32 0]) ?_ 3 _ rfl; (with_reducible repeat (first | refine blk_drewN ?_ _ | refine blk_drew ?_ | refine blk_alloc ?_ _)); refine blk_put (cs := #[.string t234, .string t235, .int .u32 0, .int .u32 0, .int .u32 0, .int .u32 0, .int .u32 0]) ?_ 2 _ rfl; (with_reducible repeat (first | refine blk_drewN ?_ _ | refine blk_drew ?_ | refine blk_alloc ?_ _)); refine blk_put (cs := #[.string t234, .string (⟨#[]⟩ : ByteArray), .int .u32 0, .int .u32 0, .int .u32 0, .int .u32 0, .int .u32 0]) ?_ 1 _ rfl; (with_reducible repeat (first | refine blk_drewN ?_ _ | refine blk_drew ?_ | refine blk_alloc ?_ _)); refine blk_put (cs := #[.string (⟨#[]⟩ : ByteArray), .string (⟨#[]⟩ : ByteArray), .int .u32 0, .int .u32 0, .int .u32 0, .int .u32 0, .int .u32 0]) ?_ 0 _ rfl; (with_reducible repeat (first | refine blk_drewN ?_ _ | refine blk_drew ?_ | refine blk_alloc ?_ _)); exact BK236.out) hb); have n1_ := Aside0.mk (below_step (by repeat (first | (with_reducible first | exact HB.out | apply below_alloc | apply pw_below_drewN | apply below_drew1 | refine below_set ?_ GE236.out) | exact HB.out)) hb); clear BK236; clear HB; have BK236 := n0_; have HB := n1_; clear n0_ n1_; (try clear hb); (try clear hb2); (try clear hk); (try clear hi)))
                have n0_ := Aside0.mk (blk_drew BK236.out)
                have n1_ := Aside0.mk (below_drew1 HB.out)
                clear BK236
                clear HB
                have BK236 := n0_
                have HB := n1_
                clear n0_ n1_
                refine start_ (n := 17) (S := fun w' => w'.cell? ⟨gb236, 0, none⟩ = some (.string t234) ∧ w'.cell? ⟨gb236, 1, none⟩ = some (.string t235) ∧ w'.cell? ⟨gb236, 2, none⟩ = some (.int .u32 a2) ∧ w'.cell? ⟨gb236, 3, none⟩ = some (.int .u32 a3) ∧ w'.cell? ⟨gb236, 4, none⟩ = some (.int .u32 a4) ∧ w'.cell? ⟨gb236, 5, none⟩ = some (.int .u32 a5) ∧ w'.cell? ⟨gb236, 6, none⟩ = some (.int .u32 (Go.bits .xor .u32 a2 a5))) (ds := []) #[false, false, false, false, false, false, false, false, false, false, false, false, false, false, false, false, false] (by kernel_rfl) rfl rfl ⟨(blk_cell BK236.out 0).trans rfl, (blk_cell BK236.out 1).trans rfl, (blk_cell BK236.out 2).trans rfl, (blk_cell BK236.out 3).trans rfl, (blk_cell BK236.out 4).trans rfl, (blk_cell BK236.out 5).trans rfl, (blk_cell BK236.out 6).trans rfl⟩ (fun hHeld => ?_); refine with_tabW bolterlaw07_SoaData.tab6 bolterlaw07_SoaData.bits6 (fun HT_ HW_ => ?_)
                generalize w79.drew = w80 at BK236 HB hHeld ⊢
                refine pure_ (i := 0) (N := some 40) (v := ?_) (a' := ?_) #[true, false, false, false, false, false, false, false, false, false, false, false, false, false, false, false, false] rfl rfl (any_of HT_.out (by kernel_rfl)) (fun _ _ _ h => h) (Or.inl ⟨by rfl, ?_⟩) ?_ ?_
                rotate_left
                · intro w'
                  go_simp
                  with_reducible rfl
                rotate_left
                · simp only [Act.put, List.setIfInBounds_toArray, List.set_cons_zero, List.set_cons_succ, i64_w, i32_w]
                  rfl
                refine pure_ (i := 3) (N := some 43) (v := ?_) (a' := ?_) #[true, false, false, true, false, false, false, false, false, false, false, false, false, false, false, false, false] rfl rfl (any_of HT_.out (by kernel_rfl)) (fun _ _ _ h => h) (Or.inl ⟨by rfl, ?_⟩) ?_ ?_
                rotate_left
                · intro w'
                  go_simp
                  with_reducible rfl
                rotate_left
                · simp only [Act.put, List.setIfInBounds_toArray, List.set_cons_zero, List.set_cons_succ, i64_w, i32_w]
                  rfl
                refine pure_ (i := 7) (N := some 47) (v := ?_) (a' := ?_) #[true, false, false, true, false, false, false, true, false, false, false, false, false, false, false, false, false] rfl rfl (any_of HT_.out (by kernel_rfl)) (fun _ _ _ h => h) (Or.inl ⟨by rfl, ?_⟩) ?_ ?_
                rotate_left
                · intro w'
                  go_simp
                  with_reducible rfl
                rotate_left
                · simp only [Act.put, List.setIfInBounds_toArray, List.set_cons_zero, List.set_cons_succ, i64_w, i32_w]
                  rfl
                refine pure_ (i := 8) (N := some 48) (v := ?_) (a' := ?_) #[true, false, false, true, false, false, false, true, true, false, false, false, false, false, false, false, false] rfl rfl (any_of HT_.out (by kernel_rfl)) (fun _ _ _ h => h) (Or.inl ⟨by rfl, ?_⟩) ?_ ?_
                rotate_left
                · intro w'
                  go_simp
                  with_reducible rfl
                rotate_left
                · simp only [Act.put, List.setIfInBounds_toArray, List.set_cons_zero, List.set_cons_succ, i64_w, i32_w]
                  rfl
                refine pure_ (i := 9) (N := some 49) (v := ?_) (a' := ?_) #[true, false, false, true, false, false, false, true, true, true, false, false, false, false, false, false, false] rfl rfl (any_of HT_.out (by kernel_rfl)) (fun _ _ _ h => h) (Or.inl ⟨by rfl, ?_⟩) ?_ ?_
                rotate_left
                · intro w'
                  go_simp
                  with_reducible rfl
                rotate_left
                · simp only [Act.put, List.setIfInBounds_toArray, List.set_cons_zero, List.set_cons_succ, i64_w, i32_w]
                  rfl
                refine pure_ (i := 10) (N := some 50) (v := ?_) (a' := ?_) #[true, false, false, true, false, false, false, true, true, true, true, false, false, false, false, false, false] rfl rfl (any_of HT_.out (by kernel_rfl)) (fun _ _ _ h => h) (Or.inl ⟨by rfl, ?_⟩) ?_ ?_
                rotate_left
                · intro w'
                  go_simp
                  with_reducible rfl
                rotate_left
                · simp only [Act.put, List.setIfInBounds_toArray, List.set_cons_zero, List.set_cons_succ, i64_w, i32_w]
                  rfl
                refine pure_ (i := 11) (N := some 51) (v := ?_) (a' := ?_) #[true, false, false, true, false, false, false, true, true, true, true, true, false, false, false, false, false] rfl rfl (any_of HT_.out (by kernel_rfl)) (fun _ _ _ h => h) (Or.inl ⟨by rfl, ?_⟩) ?_ ?_
                rotate_left
                · intro w'
                  go_simp
                  with_reducible rfl
                rotate_left
                · simp only [Act.put, List.setIfInBounds_toArray, List.set_cons_zero, List.set_cons_succ, i64_w, i32_w]
                  rfl
                refine take_ (i := 1) (N := some 41) (v := ?_) (a' := ?_) #[true, true, false, true, false, false, false, true, true, true, true, true, false, false, false, false, false] rfl rfl (take_ofW HT_.out HW_.out (by kernel_rfl)) (fun _ _ _ h => h) (Or.inl ⟨by rfl, ?_⟩) hHeld ?_ ?_
                rotate_left
                · rintro w' ⟨s0, s1, s2, s3, s4, s5, s6⟩
                  go_simp
                  with_reducible rfl
                rotate_left
                · simp only [Act.put, List.setIfInBounds_toArray, List.set_cons_zero, List.set_cons_succ, i64_w, i32_w]
                  rfl
                refine pure_ (i := 2) (N := some 42) (v := ?_) (a' := ?_) #[true, true, true, true, false, false, false, true, true, true, true, true, false, false, false, false, false] rfl rfl (any_of HT_.out (by kernel_rfl)) (fun _ _ _ h => h) (Or.inl ⟨by rfl, ?_⟩) ?_ ?_
                rotate_left
                · intro w'
                  go_simp
                  with_reducible rfl
                rotate_left
                · simp only [Act.put, List.setIfInBounds_toArray, List.set_cons_zero, List.set_cons_succ, i64_w, i32_w]
                  rfl
                refine take_ (i := 4) (N := some 44) (v := ?_) (a' := ?_) #[true, true, true, true, true, false, false, true, true, true, true, true, false, false, false, false, false] rfl rfl (take_ofW HT_.out HW_.out (by kernel_rfl)) (fun _ _ _ h => h) (Or.inl ⟨by rfl, ?_⟩) hHeld ?_ ?_
                rotate_left
                · rintro w' ⟨s0, s1, s2, s3, s4, s5, s6⟩
                  go_simp
                  with_reducible rfl
                rotate_left
                · simp only [Act.put, List.setIfInBounds_toArray, List.set_cons_zero, List.set_cons_succ, i64_w, i32_w]
                  rfl
                refine pure_ (i := 5) (N := some 45) (v := ?_) (a' := ?_) #[true, true, true, true, true, true, false, true, true, true, true, true, false, false, false, false, false] rfl rfl (any_of HT_.out (by kernel_rfl)) (fun _ _ _ h => h) (Or.inl ⟨by rfl, ?_⟩) ?_ ?_
                rotate_left
                · intro w'
                  go_simp
                  with_reducible rfl
                rotate_left
                · simp only [Act.put, List.setIfInBounds_toArray, List.set_cons_zero, List.set_cons_succ, i64_w, i32_w]
                  rfl
                refine pure_ (i := 6) (N := some 46) (v := ?_) (a' := ?_) #[true, true, true, true, true, true, true, true, true, true, true, true, false, false, false, false, false] rfl rfl (any_of HT_.out (by kernel_rfl)) (fun _ _ _ h => h) (Or.inl ⟨by rfl, ?_⟩) ?_ ?_
                rotate_left
                · intro w'
                  go_simp
                  with_reducible rfl
                rotate_left
                · simp only [Act.put, List.setIfInBounds_toArray, List.set_cons_zero, List.set_cons_succ, i64_w, i32_w]
                  rfl
                refine one_ (i := 12) (N := some 52) #[true, true, true, true, true, true, true, true, true, true, true, true, true, false, false, false, false] rfl rfl (one_of HT_.out (by kernel_rfl)) (by decide) (fun K hK => ?_)
                refine Kd.R_lit_step (Kd.int .u32) _ 26 ?hg (N := 52) ?hd (xs := ([a2, a3, a4, a5, Go.bits .xor .u32 a2 a5] : List Int)) (inner := [.int .u32 a2, .int .u32 a3, .int .u32 a4, .int .u32 a5, .int .u32 (Go.bits .xor .u32 a2 a5)]) (ok := fun _ => True) (okp := fun _ => True) ?hr ?hp (fun _ hk => hk) trivial (Below.refl _ _) (Nat.le_refl _) (by simp) ?_; (case hd => rfl); (case hg => rfl); (case hr => first | (go_simp; done) | (go_simp; rfl)); (case hp => exact (Reps.one (show Kd.M (Kd.int .u32) _ _ _ a2 [.int .u32 a2] from rfl) (Reps.one (show Kd.M (Kd.int .u32) _ _ _ a3 [.int .u32 a3] from rfl) (Reps.one (show Kd.M (Kd.int .u32) _ _ _ a4 [.int .u32 a4] from rfl) (Reps.one (show Kd.M (Kd.int .u32) _ _ _ a5 [.int .u32 a5] from rfl) (Reps.one (show Kd.M (Kd.int .u32) _ _ _ (Go.bits .xor .u32 a2 a5) [.int .u32 (Go.bits .xor .u32 a2 a5)] from rfl) (Reps.none _ _)))))))
                intro v240 w81 ho82 hb hg_ hnew_
                clear hg_ hnew_
                (first | rw [← Ny239.out] at ho82 | (simp only [Int.reduceToNat] at ho82; rw [← Ny239.out] at ho82))
                have n0_ := Aside0.mk (Kd.R_lower ho82 (below_size (by repeat (first | (with_reducible first | exact HB.out | apply below_alloc | apply pw_below_drewN | apply below_drew1 | refine below_set ?_ GE236.out) | exact HB.out))))
                have n1_ := Aside0.mk (blk_below (g := gb236) (o := .cells #[.string t234, .string t235, .int .u32 a2, .int .u32 a3, .int .u32 a4, .int .u32 a5, .int .u32 (Go.bits .xor .u32 a2 a5)] 28 (0, 0)) (by (with_reducible repeat (first | refine blk_drewN ?_ _ | refine blk_drew ?_ | refine blk_alloc ?_ _)); exact BK236.out) hb)
                have n2_ := Aside0.mk (below_step (by repeat (first | (with_reducible first | exact HB.out | apply below_alloc | apply pw_below_drewN | apply below_drew1 | refine below_set ?_ GE236.out) | exact HB.out)) hb)
                clear BK236
                clear HB
                have HO241 := n0_
                have BK236 := n1_
                have HB := n2_
                clear n0_ n1_ n2_
                clear hb ho82
                obtain ⟨Ao83, co83, eo83⟩ := Kd.R_slice HO241.out
                (first | subst eo83 | (injection eo83 with f1_ f2_ f3_; have f4_ := f1_.symm; have f5_ := f3_.symm; clear f1_ f2_ f3_; subst f4_; subst f5_))
                refine hK.out _ _ ⟨(blk_cell BK236.out 0).trans rfl, (blk_cell BK236.out 1).trans rfl, (blk_cell BK236.out 2).trans rfl, (blk_cell BK236.out 3).trans rfl, (blk_cell BK236.out 4).trans rfl, (blk_cell BK236.out 5).trans rfl, (blk_cell BK236.out 6).trans rfl⟩ (fun hHeld => ?_)
                clear hK K
                refine norm_ (a' := ?_) ?_ ?_
                rotate_left
                · show Act.put _ (some 52) _ = _
                  simp only [Act.put, List.setIfInBounds_toArray, List.set_cons_zero, List.set_cons_succ, i64_w, i32_w]
                  rfl
                refine one_ (i := 13) (N := some 53) #[true, true, true, true, true, true, true, true, true, true, true, true, true, true, false, false, false] rfl rfl (one_of HT_.out (by kernel_rfl)) (by decide) (fun K hK => ?_)
                refine goes_ Try.func16 (by kernel_rfl) rfl #[.slice none 0 0, .slice Ao83 y239.length co83] (by rfl) rfl rfl (by (try simp only [List.map_toArray, List.map_cons, List.map_nil]); first | done | rfl | (simp only [List.length_drop, List.length_take]; rfl)) ?_
                refine (num_Put32.calls k _ _ ([] : List Int) _ _ y239 t242 _ ?side1 ?side2 ?side3 ?side4 A15.out).mono ?_
                (case side1 => exact Kd.C_nil _ _)
                (case side2 => exact Nat.le_refl _)
                (case side3 => repeat (first | exact (Kd.R_reads' HO241.out).2.2 | (with_reducible refine Kd.C_alloc ?_ _) | (with_reducible refine Kd.C_drewN ?_ _) | (with_reducible refine Kd.C_drew ?_)))
                (case side4 => exact (Kd.R_reads' HO241.out).2.1)
                rintro e w84 ⟨v243, rfl, ho0, hb⟩
                refine ⟨_, rfl, ?_⟩
                have n0_ := Aside0.mk (Kd.R_below (by (with_reducible repeat (first | apply Kd.R_alloc | apply Kd.R_drewN | apply Kd.R_drew)); exact HO241.out) hb)
                have n1_ := Aside0.mk (Kd.R_lower ho0 (below_size (by repeat (first | (with_reducible first | exact HB.out | apply below_alloc | apply pw_below_drewN | apply below_drew1 | refine below_set ?_ GE236.out) | exact HB.out))))
                have n2_ := Aside0.mk (blk_below (g := gb236) (o := .cells #[.string t234, .string t235, .int .u32 a2, .int .u32 a3, .int .u32 a4, .int .u32 a5, .int .u32 (Go.bits .xor .u32 a2 a5)] 28 (0, 0)) (by (with_reducible repeat (first | refine blk_drewN ?_ _ | refine blk_drew ?_ | refine blk_alloc ?_ _)); exact BK236.out) hb)
                have n3_ := Aside0.mk (below_step (by repeat (first | (with_reducible first | exact HB.out | apply below_alloc | apply pw_below_drewN | apply below_drew1 | refine below_set ?_ GE236.out) | exact HB.out)) hb)
                clear HO241
                clear BK236
                clear HB
                have HO241 := n0_
                have HO244 := n1_
                have BK236 := n2_
                have HB := n3_
                clear n0_ n1_ n2_ n3_
                (try clear hb)
                (try clear hb2)
                (try clear hk)
                (try clear hi)
                (try clear ho0)
                refine hK.out _ _ ⟨(blk_cell BK236.out 0).trans rfl, (blk_cell BK236.out 1).trans rfl, (blk_cell BK236.out 2).trans rfl, (blk_cell BK236.out 3).trans rfl, (blk_cell BK236.out 4).trans rfl, (blk_cell BK236.out 5).trans rfl, (blk_cell BK236.out 6).trans rfl⟩ (fun hHeld => ?_)
                clear hK K
                refine norm_ (a' := ?_) ?_ ?_
                rotate_left
                · show Act.put _ (some 53) _ = _
                  simp only [Act.put, List.setIfInBounds_toArray, List.set_cons_zero, List.set_cons_succ, i64_w, i32_w]
                  rfl
                refine one_ (i := 14) (N := some 54) #[true, true, true, true, true, true, true, true, true, true, true, true, true, true, true, false, false] rfl rfl (one_of HT_.out (by kernel_rfl)) (by decide) (fun K hK => ?_)
                have hcv85 := own_string (P := Try.prog) Try.underlying31 Try.underlying5 Try.underlying9 (Kd.own_of_R HO244.out)
                refine value_ (w1 := ?_) (v := ?_) (by rfl) rfl ?_ ?_
                rotate_left 2
                · go_simp
                  constructor
                  · rfl
                  · rfl
                clear hcv85
                refine hK.out _ _ ⟨(blk_cell BK236.out 0).trans rfl, (blk_cell BK236.out 1).trans rfl, (blk_cell BK236.out 2).trans rfl, (blk_cell BK236.out 3).trans rfl, (blk_cell BK236.out 4).trans rfl, (blk_cell BK236.out 5).trans rfl, (blk_cell BK236.out 6).trans rfl⟩ (fun hHeld => ?_)
                clear hK K
                refine norm_ (a' := ?_) ?_ ?_
                rotate_left
                · show Act.put _ (some 54) _ = _
                  simp only [Act.put, List.setIfInBounds_toArray, List.set_cons_zero, List.set_cons_succ, i64_w, i32_w]
                  rfl
                refine pure_ (i := 15) (N := some 55) (v := ?_) (a' := ?_) #[true, true, true, true, true, true, true, true, true, true, true, true, true, true, true, true, false] rfl rfl (any_of HT_.out (by kernel_rfl)) (fun _ _ _ h => h) (Or.inl ⟨by rfl, ?_⟩) ?_ ?_
                rotate_left
                · intro w'
                  go_simp
                  with_reducible rfl
                rotate_left
                · simp only [Act.put, List.setIfInBounds_toArray, List.set_cons_zero, List.set_cons_succ, i64_w, i32_w]
                  rfl
                refine pure_ (i := 16) (N := some 17) (v := ?_) (a' := ?_) #[true, true, true, true, true, true, true, true, true, true, true, true, true, true, true, true, true] rfl rfl (any_of HT_.out (by kernel_rfl)) (fun _ _ _ h => h) (Or.inl ⟨by rfl, ?_⟩) ?_ ?_
                rotate_left
                · intro w'
                  go_simp
                  with_reducible rfl
                rotate_left
                · simp only [Act.put, List.setIfInBounds_toArray, List.set_cons_zero, List.set_cons_succ, i64_w, i32_w]
                  rfl
                refine done_ (done_of HT_.out (by kernel_rfl)) ?_
                try go_wp2_with (first | ((with_reducible refine gate_callee (f := 12) rfl ?_); refine goesL_ (some 58) rfl rfl Try.func12 (by kernel_rfl) rfl #[.string t237] rfl (by (try simp only [List.map_toArray, List.map_cons, List.map_nil]); first | done | rfl | (simp only [List.length_drop, List.length_take]; rfl)) ?_; (with_reducible refine (soa_Parse.calls k t237 t245 t246 t247 t248 t249 t250 t251 t252 _ A17.out).mono ?_); rintro e w86 ⟨rfl, hb⟩; refine ⟨_, rfl, ?_⟩; have n0_ := Aside0.mk (Kd.R_below (by (with_reducible repeat (first | apply Kd.R_alloc | apply Kd.R_drewN | apply Kd.R_drew)); exact HO241.out) hb); have n1_ := Aside0.mk (Kd.R_below (by (with_reducible repeat (first | apply Kd.R_alloc | apply Kd.R_drewN | apply Kd.R_drew)); exact HO244.out) hb); have n2_ := Aside0.mk (blk_below (g := gb236) (o := .cells #[.string t234, .string t235, .int .u32 a2, .int .u32 a3, .int .u32 a4, .int .u32 a5, .int .u32 (Go.bits .xor .u32 a2 a5)] 28 (0, 0)) (by (with_reducible repeat (first | refine blk_drewN ?_ _ | refine blk_drew ?_ | refine blk_alloc ?_ _)); exact BK236.out) hb); have n3_ := Aside0.mk (below_step (by repeat (first | (with_reducible first | exact HB.out | apply below_alloc | apply pw_below_drewN | apply below_drew1 | refine below_set ?_ GE236.out) | exact HB.out)) hb); clear HO241; clear HO244; clear BK236; clear HB; have HO241 := n0_; have HO244 := n1_; have BK236 := n2_; have HB := n3_; clear n0_ n1_ n2_ n3_; (try clear hb); (try clear hb2); (try clear hk); (try clear hi)) | ((with_reducible refine gate_dst (N := 18) rfl ?_); refine box_event ?hg (N := 18) ?hd (cs := #[.string (⟨#[]⟩ : ByteArray), .string (⟨#[]⟩ : ByteArray), .int .u32 0, .int .u32 0, .int .u32 0, .int .u32 0, .int .u32 0]) (t := 28) ?hr ?_; (case hd => rfl); (case hg => rfl); (case hr => first | (go_simp; done) | (go_simp; rfl)); intro gb253 hg w87 hbox hb; have n0_ := Aside0.mk (Kd.R_below (by (with_reducible repeat (first | apply Kd.R_alloc | apply Kd.R_drewN | apply Kd.R_drew)); exact HO241.out) hb); have n1_ := Aside0.mk (Kd.R_below (by (with_reducible repeat (first | apply Kd.R_alloc | apply Kd.R_drewN | apply Kd.R_drew)); exact HO244.out) hb); have n2_ := Aside0.mk (blk_below (g := gb236) (o := .cells #[.string t234, .string t235, .int .u32 a2, .int .u32 a3, .int .u32 a4, .int .u32 a5, .int .u32 (Go.bits .xor .u32 a2 a5)] 28 (0, 0)) (by (with_reducible repeat (first | refine blk_drewN ?_ _ | refine blk_drew ?_ | refine blk_alloc ?_ _)); exact BK236.out) hb); have n3_ := Aside0.mk (below_step (by repeat (first | (with_reducible first | exact HB.out | apply below_alloc | apply pw_below_drewN | apply below_drew1 | refine below_set ?_ GE236.out) | exact HB.out)) hb); have n4_ := Aside0.mk (hbox); have n5_ := Aside0.mk ((by rw [hg]; exact (below_size (by repeat (first | (with_reducible first | exact HB.out | apply below_alloc | apply pw_below_drewN | apply below_drew1 | refine below_set ?_ GE236.out) | exact HB.out))) : w.heap.size ≤ gb253)); have n6_ := Aside0.mk ((by rw [hg]; exact (below_size (by repeat (first | (with_reducible first | exact HB.out | apply below_alloc | apply pw_below_drewN | apply below_drew1 | refine below_set ?_ GE236.out) | exact HB.out))) : w.heap.size ≤ gb253)); have n7_ := Aside0.mk ((by rw [hg]; exact Nat.ne_of_lt (blk_lt (g := gb236) (o := .cells #[.string t234, .string t235, .int .u32 a2, .int .u32 a3, .int .u32 a4, .int .u32 a5, .int .u32 (Go.bits .xor .u32 a2 a5)] 28 (0, 0)) (by (with_reducible repeat (first | refine blk_drewN ?_ _ | refine blk_drew ?_ | refine blk_alloc ?_ _)); exact BK236.out)) : gb236 ≠ gb253)); have n8_ := Aside0.mk ((by rw [hg]; exact Nat.ne_of_gt (blk_lt (g := gb236) (o := .cells #[.string t234, .string t235, .int .u32 a2, .int .u32 a3, .int .u32 a4, .int .u32 a5, .int .u32 (Go.bits .xor .u32 a2 a5)] 28 (0, 0)) (by (with_reducible repeat (first | refine blk_drewN ?_ _ | refine blk_drew ?_ | refine blk_alloc ?_ _)); exact BK236.out)) : gb253 ≠ gb236)); clear HO241; clear HO244; clear BK236; clear HB; have HO241 := n0_; have HO244 := n1_; have BK236 := n2_; have HB := n3_; have BK253 := n4_; have GW253 := n5_; have GE253 := n6_; have NB236_253 := n7_; have NB253_236 := n8_; clear n0_ n1_ n2_ n3_ n4_ n5_ n6_ n7_ n8_; clear hb hbox hg; have hnb88 := NB253_236.out; have hnc88 := NB236_253.out; have hcz89_0 : w87.cell? ⟨gb253, 0, none⟩ = some (.string (⟨#[]⟩ : ByteArray)) := (blk_cell BK253.out 0).trans rfl; have hcz89_1 : w87.cell? ⟨gb253, 1, none⟩ = some (.string (⟨#[]⟩ : ByteArray)) := (blk_cell BK253.out 1).trans rfl; have hcz89_2 : w87.cell? ⟨gb253, 2, none⟩ = some (.int .u32 0) := (blk_cell BK253.out 2).trans rfl; have hcz89_3 : w87.cell? ⟨gb253, 3, none⟩ = some (.int .u32 0) := (blk_cell BK253.out 3).trans rfl; have hcz89_4 : w87.cell? ⟨gb253, 4, none⟩ = some (.int .u32 0) := (blk_cell BK253.out 4).trans rfl; have hcz89_5 : w87.cell? ⟨gb253, 5, none⟩ = some (.int .u32 0) := (blk_cell BK253.out 5).trans rfl; have hcz89_6 : w87.cell? ⟨gb253, 6, none⟩ = some (.int .u32 0) := (blk_cell BK253.out 6).trans rfl; have hfz89_0 := blk_frozen BK253.out 0; have hfz89_1 := blk_frozen BK253.out 1; have hfz89_2 := blk_frozen BK253.out 2; have hfz89_3 := blk_frozen BK253.out 3; have hfz89_4 := blk_frozen BK253.out 4; have hfz89_5 := blk_frozen BK253.out 5; have hfz89_6 := blk_frozen BK253.out 6))
                go_ret
                exact ⟨by first | rfl | (simp [errW_none, errW_some] <;> rfl) | (simp [*, errW_none, errW_some] <;> rfl), by repeat (first | (with_reducible first | exact HB.out | apply below_alloc | apply pw_below_drewN | apply below_drew1 | refine below_set ?_ GE236.out | refine below_set ?_ GE253.out) | exact HB.out)⟩
            · replace c18 := Bool.eq_false_iff.mpr c18
              subst c18
              have H1 : (some false) = some r := by rw [if_neg (show ¬ (false = true) by decide)] at H; exact H
              clear H
              have H := H1
              clear H1
              obtain rfl := Option.some.inj H
              go_enter Try.func7, Try.ntmps7
              try go_wp2_with (first | ((with_reducible refine gate_callee (f := 8) rfl ?_); refine goesL_ (some 20) rfl rfl Try.func8 (by kernel_rfl) rfl #[] rfl (by (try simp only [List.map_toArray, List.map_cons, List.map_nil]); first | done | rfl | (simp only [List.length_drop, List.length_take]; rfl)) ?_; (with_reducible refine (bolterlaw07_awake.calls k  true _ A7.out).mono ?_); rintro e w90 ⟨rfl, hb⟩; refine ⟨_, rfl, ?_⟩; have n0_ := Aside0.mk (below_step (by repeat (first | (with_reducible first | exact HB.out | apply below_alloc | apply pw_below_drewN | apply below_drew1) | exact HB.out)) hb); clear HB; have HB := n0_; clear n0_; (try clear hb); (try clear hb2); (try clear hk); (try clear hi)) | ((with_reducible refine gate_callee (f := 11) rfl ?_); refine goesL_ (some 26) rfl rfl Try.func11 (by kernel_rfl) rfl #[.slice A0 l0.length c0] rfl (by (try simp only [List.map_toArray, List.map_cons, List.map_nil]); first | done | rfl | (simp only [List.length_drop, List.length_take]; rfl)) ?_; (with_reducible refine (bolterlaw02_Name.calls k _ _ l0 t234 _ ?side1 ?side2 A9.out).mono ?_); (case side1 => repeat (first | exact (Kd.C_below HR0.out HB.out) | (with_reducible refine Kd.C_alloc ?_ _) | (with_reducible refine Kd.C_drewN ?_ _) | (with_reducible refine Kd.C_drew ?_))); (case side2 => exact HC0.out); rintro e w91 ⟨rfl, hb⟩; refine ⟨_, rfl, ?_⟩; have n0_ := Aside0.mk (below_step (by repeat (first | (with_reducible first | exact HB.out | apply below_alloc | apply pw_below_drewN | apply below_drew1) | exact HB.out)) hb); clear HB; have HB := n0_; clear n0_; (try clear hb); (try clear hb2); (try clear hk); (try clear hi)) | ((with_reducible refine gate_callee (f := 11) rfl ?_); refine goesL_ (some 28) rfl rfl Try.func11 (by kernel_rfl) rfl #[.slice A1 l1.length c1] rfl (by (try simp only [List.map_toArray, List.map_cons, List.map_nil]); first | done | rfl | (simp only [List.length_drop, List.length_take]; rfl)) ?_; (with_reducible refine (bolterlaw02_Name.calls k _ _ l1 t235 _ ?side1 ?side2 A10.out).mono ?_); (case side1 => repeat (first | exact (Kd.C_below HR1.out HB.out) | (with_reducible refine Kd.C_alloc ?_ _) | (with_reducible refine Kd.C_drewN ?_ _) | (with_reducible refine Kd.C_drew ?_))); (case side2 => exact HC1.out); rintro e w92 ⟨rfl, hb⟩; refine ⟨_, rfl, ?_⟩; have n0_ := Aside0.mk (below_step (by repeat (first | (with_reducible first | exact HB.out | apply below_alloc | apply pw_below_drewN | apply below_drew1) | exact HB.out)) hb); clear HB; have HB := n0_; clear n0_; (try clear hb); (try clear hb2); (try clear hk); (try clear hi)) | ((with_reducible refine gate_dst (N := 14) rfl ?_); refine box_event ?hg (N := 14) ?hd (cs := #[.string (⟨#[]⟩ : ByteArray), .string (⟨#[]⟩ : ByteArray), .int .u32 0, .int .u32 0, .int .u32 0, .int .u32 0, .int .u32 0]) (t := 28) ?hr ?_; (case hd => rfl); (case hg => rfl); (case hr => first | (go_simp; done) | (go_simp; rfl)); intro gb236 hg w93 hbox hb; have n0_ := Aside0.mk (below_step (by repeat (first | (with_reducible first | exact HB.out | apply below_alloc | apply pw_below_drewN | apply below_drew1) | exact HB.out)) hb); have n1_ := Aside0.mk (hbox); have n2_ := Aside0.mk ((by rw [hg]; exact (below_size (by repeat (first | (with_reducible first | exact HB.out | apply below_alloc | apply pw_below_drewN | apply below_drew1) | exact HB.out))) : w.heap.size ≤ gb236)); have n3_ := Aside0.mk ((by rw [hg]; exact (below_size (by repeat (first | (with_reducible first | exact HB.out | apply below_alloc | apply pw_below_drewN | apply below_drew1) | exact HB.out))) : w.heap.size ≤ gb236)); clear HB; have HB := n0_; have BK236 := n1_; have GW236 := n2_; have GE236 := n3_; clear n0_ n1_ n2_ n3_; clear hb hbox hg; have hcz94_0 : w93.cell? ⟨gb236, 0, none⟩ = some (.string (⟨#[]⟩ : ByteArray)) := (blk_cell BK236.out 0).trans rfl; have hcz94_1 : w93.cell? ⟨gb236, 1, none⟩ = some (.string (⟨#[]⟩ : ByteArray)) := (blk_cell BK236.out 1).trans rfl; have hcz94_2 : w93.cell? ⟨gb236, 2, none⟩ = some (.int .u32 0) := (blk_cell BK236.out 2).trans rfl; have hcz94_3 : w93.cell? ⟨gb236, 3, none⟩ = some (.int .u32 0) := (blk_cell BK236.out 3).trans rfl; have hcz94_4 : w93.cell? ⟨gb236, 4, none⟩ = some (.int .u32 0) := (blk_cell BK236.out 4).trans rfl; have hcz94_5 : w93.cell? ⟨gb236, 5, none⟩ = some (.int .u32 0) := (blk_cell BK236.out 5).trans rfl; have hcz94_6 : w93.cell? ⟨gb236, 6, none⟩ = some (.int .u32 0) := (blk_cell BK236.out 6).trans rfl; have hfz94_0 := blk_frozen BK236.out 0; have hfz94_1 := blk_frozen BK236.out 1; have hfz94_2 := blk_frozen BK236.out 2; have hfz94_3 := blk_frozen BK236.out 3; have hfz94_4 := blk_frozen BK236.out 4; have hfz94_5 := blk_frozen BK236.out 5; have hfz94_6 := blk_frozen BK236.out 6) | ((with_reducible refine gate_callee (f := 9) rfl ?_); refine goesL_ (some 37) rfl rfl Try.func9 (by kernel_rfl) rfl #[.agg #[.string t234, .string t235, .int .u32 a2, .int .u32 a3, .int .u32 a4, .int .u32 a5, .int .u32 (Go.bits .xor .u32 a2 a5)]] rfl (by (try simp only [List.map_toArray, List.map_cons, List.map_nil]); first | done | rfl | (simp only [List.length_drop, List.length_take]; rfl)) ?_; (with_reducible refine (soa_Data.calls k t234 t235 a2 a3 a4 a5 (Go.bits .xor .u32 a2 a5) t237 false _ A11.out).mono ?_); rintro e w95 ⟨rfl, hb⟩; refine ⟨_, rfl, ?_⟩; have n0_ := Aside0.mk (blk_below (g := gb236) (o := .cells #[.string t234, .string t235, .int .u32 a2, .int .u32 a3, .int .u32 a4, .int .u32 a5, .int .u32 (Go.bits .xor .u32 a2 a5)] 28 (0, 0)) (by (with_reducible repeat (first | refine blk_drewN ?_ _ | refine blk_drew ?_ | refine blk_alloc ?_ _)); refine blk_put (cs := #[.string t234, .string t235, .int .u32 a2, .int .u32 a3, .int .u32 a4, .int .u32 a5, .int .u32 0]) ?_ 6 _ rfl; (with_reducible repeat (first | refine blk_drewN ?_ _ | refine blk_drew ?_ | refine blk_alloc ?_ _)); refine blk_put (cs := #[.string t234, .string t235, .int .u32 a2, .int .u32 a3, .int .u32 a4, .int .u32 0, .int .u32 0]) ?_ 5 _ rfl; (with_reducible repeat (first | refine blk_drewN ?_ _ | refine blk_drew ?_ | refine blk_alloc ?_ _)); refine blk_put (cs := #[.string t234, .string t235, .int .u32 a2, .int .u32 a3, .int .u32 0, .int .u32 0, .int .u32 0]) ?_ 4 _ rfl; (with_reducible repeat (first | refine blk_drewN ?_ _ | refine blk_drew ?_ | refine blk_alloc ?_ _)); refine blk_put (cs := #[.string t234, .string t235, .int .u32 a2, .int .u32 0, .int .u32 0, .int .u32 0, .int .u32 0]) ?_ 3 _ rfl; (with_reducible repeat (first | refine blk_drewN ?_ _ | refine blk_drew ?_ | refine blk_alloc ?_ _)); refine blk_put (cs := #[.string t234, .string t235, .int .u32 0, .int .u32 0, .int .u32 0, .int .u32 0, .int .u32 0]) ?_ 2 _ rfl; (with_reducible repeat (first | refine blk_drewN ?_ _ | refine blk_drew ?_ | refine blk_alloc ?_ _)); refine blk_put (cs := #[.string t234, .string (⟨#[]⟩ : ByteArray), .int .u32 0, .int .u32 0, .int .u32 0, .int .u32 0, .int .u32 0]) ?_ 1 _ rfl; (with_reducible repeat (first | refine blk_drewN ?_ _ | refine blk_drew ?_ | refine blk_alloc ?_ _)); refine blk_put (cs := #[.string (⟨#[]⟩ : ByteArray), .string (⟨#[]⟩ : ByteArray), .int .u32 0, .int .u32 0, .int .u32 0, .int .u32 0, .int .u32 0]) ?_ 0 _ rfl; (with_reducible repeat (first | refine blk_drewN ?_ _ | refine blk_drew ?_ | refine blk_alloc ?_ _)); exact BK236.out) hb); have n1_ := Aside0.mk (below_step (by repeat (first | (with_reducible first | exact HB.out | apply below_alloc | apply pw_below_drewN | apply below_drew1 | refine below_set ?_ GE236.out) | exact HB.out)) hb); clear BK236; clear HB; have BK236 := n0_; have HB := n1_; clear n0_ n1_; (try clear hb); (try clear hb2); (try clear hk); (try clear hi)))
              have n0_ := Aside0.mk (blk_drew BK236.out)
              have n1_ := Aside0.mk (below_drew1 HB.out)
              clear BK236
              clear HB
              have BK236 := n0_
              have HB := n1_
              clear n0_ n1_
              refine start_ (n := 17) (S := fun w' => w'.cell? ⟨gb236, 0, none⟩ = some (.string t234) ∧ w'.cell? ⟨gb236, 1, none⟩ = some (.string t235) ∧ w'.cell? ⟨gb236, 2, none⟩ = some (.int .u32 a2) ∧ w'.cell? ⟨gb236, 3, none⟩ = some (.int .u32 a3) ∧ w'.cell? ⟨gb236, 4, none⟩ = some (.int .u32 a4) ∧ w'.cell? ⟨gb236, 5, none⟩ = some (.int .u32 a5) ∧ w'.cell? ⟨gb236, 6, none⟩ = some (.int .u32 (Go.bits .xor .u32 a2 a5))) (ds := []) #[false, false, false, false, false, false, false, false, false, false, false, false, false, false, false, false, false] (by kernel_rfl) rfl rfl ⟨(blk_cell BK236.out 0).trans rfl, (blk_cell BK236.out 1).trans rfl, (blk_cell BK236.out 2).trans rfl, (blk_cell BK236.out 3).trans rfl, (blk_cell BK236.out 4).trans rfl, (blk_cell BK236.out 5).trans rfl, (blk_cell BK236.out 6).trans rfl⟩ (fun hHeld => ?_); refine with_tabW bolterlaw07_SoaData.tab6 bolterlaw07_SoaData.bits6 (fun HT_ HW_ => ?_)
              generalize w95.drew = w96 at BK236 HB hHeld ⊢
              refine pure_ (i := 0) (N := some 40) (v := ?_) (a' := ?_) #[true, false, false, false, false, false, false, false, false, false, false, false, false, false, false, false, false] rfl rfl (any_of HT_.out (by kernel_rfl)) (fun _ _ _ h => h) (Or.inl ⟨by rfl, ?_⟩) ?_ ?_
              rotate_left
              · intro w'
                go_simp
                with_reducible rfl
              rotate_left
              · simp only [Act.put, List.setIfInBounds_toArray, List.set_cons_zero, List.set_cons_succ, i64_w, i32_w]
                rfl
              refine pure_ (i := 3) (N := some 43) (v := ?_) (a' := ?_) #[true, false, false, true, false, false, false, false, false, false, false, false, false, false, false, false, false] rfl rfl (any_of HT_.out (by kernel_rfl)) (fun _ _ _ h => h) (Or.inl ⟨by rfl, ?_⟩) ?_ ?_
              rotate_left
              · intro w'
                go_simp
                with_reducible rfl
              rotate_left
              · simp only [Act.put, List.setIfInBounds_toArray, List.set_cons_zero, List.set_cons_succ, i64_w, i32_w]
                rfl
              refine pure_ (i := 7) (N := some 47) (v := ?_) (a' := ?_) #[true, false, false, true, false, false, false, true, false, false, false, false, false, false, false, false, false] rfl rfl (any_of HT_.out (by kernel_rfl)) (fun _ _ _ h => h) (Or.inl ⟨by rfl, ?_⟩) ?_ ?_
              rotate_left
              · intro w'
                go_simp
                with_reducible rfl
              rotate_left
              · simp only [Act.put, List.setIfInBounds_toArray, List.set_cons_zero, List.set_cons_succ, i64_w, i32_w]
                rfl
              refine pure_ (i := 8) (N := some 48) (v := ?_) (a' := ?_) #[true, false, false, true, false, false, false, true, true, false, false, false, false, false, false, false, false] rfl rfl (any_of HT_.out (by kernel_rfl)) (fun _ _ _ h => h) (Or.inl ⟨by rfl, ?_⟩) ?_ ?_
              rotate_left
              · intro w'
                go_simp
                with_reducible rfl
              rotate_left
              · simp only [Act.put, List.setIfInBounds_toArray, List.set_cons_zero, List.set_cons_succ, i64_w, i32_w]
                rfl
              refine pure_ (i := 9) (N := some 49) (v := ?_) (a' := ?_) #[true, false, false, true, false, false, false, true, true, true, false, false, false, false, false, false, false] rfl rfl (any_of HT_.out (by kernel_rfl)) (fun _ _ _ h => h) (Or.inl ⟨by rfl, ?_⟩) ?_ ?_
              rotate_left
              · intro w'
                go_simp
                with_reducible rfl
              rotate_left
              · simp only [Act.put, List.setIfInBounds_toArray, List.set_cons_zero, List.set_cons_succ, i64_w, i32_w]
                rfl
              refine pure_ (i := 10) (N := some 50) (v := ?_) (a' := ?_) #[true, false, false, true, false, false, false, true, true, true, true, false, false, false, false, false, false] rfl rfl (any_of HT_.out (by kernel_rfl)) (fun _ _ _ h => h) (Or.inl ⟨by rfl, ?_⟩) ?_ ?_
              rotate_left
              · intro w'
                go_simp
                with_reducible rfl
              rotate_left
              · simp only [Act.put, List.setIfInBounds_toArray, List.set_cons_zero, List.set_cons_succ, i64_w, i32_w]
                rfl
              refine pure_ (i := 11) (N := some 51) (v := ?_) (a' := ?_) #[true, false, false, true, false, false, false, true, true, true, true, true, false, false, false, false, false] rfl rfl (any_of HT_.out (by kernel_rfl)) (fun _ _ _ h => h) (Or.inl ⟨by rfl, ?_⟩) ?_ ?_
              rotate_left
              · intro w'
                go_simp
                with_reducible rfl
              rotate_left
              · simp only [Act.put, List.setIfInBounds_toArray, List.set_cons_zero, List.set_cons_succ, i64_w, i32_w]
                rfl
              refine take_ (i := 1) (N := some 41) (v := ?_) (a' := ?_) #[true, true, false, true, false, false, false, true, true, true, true, true, false, false, false, false, false] rfl rfl (take_ofW HT_.out HW_.out (by kernel_rfl)) (fun _ _ _ h => h) (Or.inl ⟨by rfl, ?_⟩) hHeld ?_ ?_
              rotate_left
              · rintro w' ⟨s0, s1, s2, s3, s4, s5, s6⟩
                go_simp
                with_reducible rfl
              rotate_left
              · simp only [Act.put, List.setIfInBounds_toArray, List.set_cons_zero, List.set_cons_succ, i64_w, i32_w]
                rfl
              refine pure_ (i := 2) (N := some 42) (v := ?_) (a' := ?_) #[true, true, true, true, false, false, false, true, true, true, true, true, false, false, false, false, false] rfl rfl (any_of HT_.out (by kernel_rfl)) (fun _ _ _ h => h) (Or.inl ⟨by rfl, ?_⟩) ?_ ?_
              rotate_left
              · intro w'
                go_simp
                with_reducible rfl
              rotate_left
              · simp only [Act.put, List.setIfInBounds_toArray, List.set_cons_zero, List.set_cons_succ, i64_w, i32_w]
                rfl
              refine take_ (i := 4) (N := some 44) (v := ?_) (a' := ?_) #[true, true, true, true, true, false, false, true, true, true, true, true, false, false, false, false, false] rfl rfl (take_ofW HT_.out HW_.out (by kernel_rfl)) (fun _ _ _ h => h) (Or.inl ⟨by rfl, ?_⟩) hHeld ?_ ?_
              rotate_left
              · rintro w' ⟨s0, s1, s2, s3, s4, s5, s6⟩
                go_simp
                with_reducible rfl
              rotate_left
              · simp only [Act.put, List.setIfInBounds_toArray, List.set_cons_zero, List.set_cons_succ, i64_w, i32_w]
                rfl
              refine pure_ (i := 5) (N := some 45) (v := ?_) (a' := ?_) #[true, true, true, true, true, true, false, true, true, true, true, true, false, false, false, false, false] rfl rfl (any_of HT_.out (by kernel_rfl)) (fun _ _ _ h => h) (Or.inl ⟨by rfl, ?_⟩) ?_ ?_
              rotate_left
              · intro w'
                go_simp
                with_reducible rfl
              rotate_left
              · simp only [Act.put, List.setIfInBounds_toArray, List.set_cons_zero, List.set_cons_succ, i64_w, i32_w]
                rfl
              refine pure_ (i := 6) (N := some 46) (v := ?_) (a' := ?_) #[true, true, true, true, true, true, true, true, true, true, true, true, false, false, false, false, false] rfl rfl (any_of HT_.out (by kernel_rfl)) (fun _ _ _ h => h) (Or.inl ⟨by rfl, ?_⟩) ?_ ?_
              rotate_left
              · intro w'
                go_simp
                with_reducible rfl
              rotate_left
              · simp only [Act.put, List.setIfInBounds_toArray, List.set_cons_zero, List.set_cons_succ, i64_w, i32_w]
                rfl
              refine one_ (i := 12) (N := some 52) #[true, true, true, true, true, true, true, true, true, true, true, true, true, false, false, false, false] rfl rfl (one_of HT_.out (by kernel_rfl)) (by decide) (fun K hK => ?_)
              refine Kd.R_lit_step (Kd.int .u32) _ 26 ?hg (N := 52) ?hd (xs := ([a2, a3, a4, a5, Go.bits .xor .u32 a2 a5] : List Int)) (inner := [.int .u32 a2, .int .u32 a3, .int .u32 a4, .int .u32 a5, .int .u32 (Go.bits .xor .u32 a2 a5)]) (ok := fun _ => True) (okp := fun _ => True) ?hr ?hp (fun _ hk => hk) trivial (Below.refl _ _) (Nat.le_refl _) (by simp) ?_; (case hd => rfl); (case hg => rfl); (case hr => first | (go_simp; done) | (go_simp; rfl)); (case hp => exact (Reps.one (show Kd.M (Kd.int .u32) _ _ _ a2 [.int .u32 a2] from rfl) (Reps.one (show Kd.M (Kd.int .u32) _ _ _ a3 [.int .u32 a3] from rfl) (Reps.one (show Kd.M (Kd.int .u32) _ _ _ a4 [.int .u32 a4] from rfl) (Reps.one (show Kd.M (Kd.int .u32) _ _ _ a5 [.int .u32 a5] from rfl) (Reps.one (show Kd.M (Kd.int .u32) _ _ _ (Go.bits .xor .u32 a2 a5) [.int .u32 (Go.bits .xor .u32 a2 a5)] from rfl) (Reps.none _ _)))))))
              intro v240 w97 ho98 hb hg_ hnew_
              clear hg_ hnew_
              (first | rw [← Ny239.out] at ho98 | (simp only [Int.reduceToNat] at ho98; rw [← Ny239.out] at ho98))
              have n0_ := Aside0.mk (Kd.R_lower ho98 (below_size (by repeat (first | (with_reducible first | exact HB.out | apply below_alloc | apply pw_below_drewN | apply below_drew1 | refine below_set ?_ GE236.out) | exact HB.out))))
              have n1_ := Aside0.mk (blk_below (g := gb236) (o := .cells #[.string t234, .string t235, .int .u32 a2, .int .u32 a3, .int .u32 a4, .int .u32 a5, .int .u32 (Go.bits .xor .u32 a2 a5)] 28 (0, 0)) (by (with_reducible repeat (first | refine blk_drewN ?_ _ | refine blk_drew ?_ | refine blk_alloc ?_ _)); exact BK236.out) hb)
              have n2_ := Aside0.mk (below_step (by repeat (first | (with_reducible first | exact HB.out | apply below_alloc | apply pw_below_drewN | apply below_drew1 | refine below_set ?_ GE236.out) | exact HB.out)) hb)
              clear BK236
              clear HB
              have HO241 := n0_
              have BK236 := n1_
              have HB := n2_
              clear n0_ n1_ n2_
              clear hb ho98
              obtain ⟨Ao99, co99, eo99⟩ := Kd.R_slice HO241.out
              (first | subst eo99 | (injection eo99 with f1_ f2_ f3_; have f4_ := f1_.symm; have f5_ := f3_.symm; clear f1_ f2_ f3_; subst f4_; subst f5_))
              refine hK.out _ _ ⟨(blk_cell BK236.out 0).trans rfl, (blk_cell BK236.out 1).trans rfl, (blk_cell BK236.out 2).trans rfl, (blk_cell BK236.out 3).trans rfl, (blk_cell BK236.out 4).trans rfl, (blk_cell BK236.out 5).trans rfl, (blk_cell BK236.out 6).trans rfl⟩ (fun hHeld => ?_)
              clear hK K
              refine norm_ (a' := ?_) ?_ ?_
              rotate_left
              · show Act.put _ (some 52) _ = _
                simp only [Act.put, List.setIfInBounds_toArray, List.set_cons_zero, List.set_cons_succ, i64_w, i32_w]
                rfl
              refine one_ (i := 13) (N := some 53) #[true, true, true, true, true, true, true, true, true, true, true, true, true, true, false, false, false] rfl rfl (one_of HT_.out (by kernel_rfl)) (by decide) (fun K hK => ?_)
              refine goes_ Try.func16 (by kernel_rfl) rfl #[.slice none 0 0, .slice Ao99 y239.length co99] (by rfl) rfl rfl (by (try simp only [List.map_toArray, List.map_cons, List.map_nil]); first | done | rfl | (simp only [List.length_drop, List.length_take]; rfl)) ?_
              refine (num_Put32.calls k _ _ ([] : List Int) _ _ y239 t242 _ ?side1 ?side2 ?side3 ?side4 A15.out).mono ?_
              (case side1 => exact Kd.C_nil _ _)
              (case side2 => exact Nat.le_refl _)
              (case side3 => repeat (first | exact (Kd.R_reads' HO241.out).2.2 | (with_reducible refine Kd.C_alloc ?_ _) | (with_reducible refine Kd.C_drewN ?_ _) | (with_reducible refine Kd.C_drew ?_)))
              (case side4 => exact (Kd.R_reads' HO241.out).2.1)
              rintro e w100 ⟨v243, rfl, ho0, hb⟩
              refine ⟨_, rfl, ?_⟩
              have n0_ := Aside0.mk (Kd.R_below (by (with_reducible repeat (first | apply Kd.R_alloc | apply Kd.R_drewN | apply Kd.R_drew)); exact HO241.out) hb)
              have n1_ := Aside0.mk (Kd.R_lower ho0 (below_size (by repeat (first | (with_reducible first | exact HB.out | apply below_alloc | apply pw_below_drewN | apply below_drew1 | refine below_set ?_ GE236.out) | exact HB.out))))
              have n2_ := Aside0.mk (blk_below (g := gb236) (o := .cells #[.string t234, .string t235, .int .u32 a2, .int .u32 a3, .int .u32 a4, .int .u32 a5, .int .u32 (Go.bits .xor .u32 a2 a5)] 28 (0, 0)) (by (with_reducible repeat (first | refine blk_drewN ?_ _ | refine blk_drew ?_ | refine blk_alloc ?_ _)); exact BK236.out) hb)
              have n3_ := Aside0.mk (below_step (by repeat (first | (with_reducible first | exact HB.out | apply below_alloc | apply pw_below_drewN | apply below_drew1 | refine below_set ?_ GE236.out) | exact HB.out)) hb)
              clear HO241
              clear BK236
              clear HB
              have HO241 := n0_
              have HO244 := n1_
              have BK236 := n2_
              have HB := n3_
              clear n0_ n1_ n2_ n3_
              (try clear hb)
              (try clear hb2)
              (try clear hk)
              (try clear hi)
              (try clear ho0)
              refine hK.out _ _ ⟨(blk_cell BK236.out 0).trans rfl, (blk_cell BK236.out 1).trans rfl, (blk_cell BK236.out 2).trans rfl, (blk_cell BK236.out 3).trans rfl, (blk_cell BK236.out 4).trans rfl, (blk_cell BK236.out 5).trans rfl, (blk_cell BK236.out 6).trans rfl⟩ (fun hHeld => ?_)
              clear hK K
              refine norm_ (a' := ?_) ?_ ?_
              rotate_left
              · show Act.put _ (some 53) _ = _
                simp only [Act.put, List.setIfInBounds_toArray, List.set_cons_zero, List.set_cons_succ, i64_w, i32_w]
                rfl
              refine one_ (i := 14) (N := some 54) #[true, true, true, true, true, true, true, true, true, true, true, true, true, true, true, false, false] rfl rfl (one_of HT_.out (by kernel_rfl)) (by decide) (fun K hK => ?_)
              have hcv101 := own_string (P := Try.prog) Try.underlying31 Try.underlying5 Try.underlying9 (Kd.own_of_R HO244.out)
              refine value_ (w1 := ?_) (v := ?_) (by rfl) rfl ?_ ?_
              rotate_left 2
              · go_simp
                constructor
                · rfl
                · rfl
              clear hcv101
              refine hK.out _ _ ⟨(blk_cell BK236.out 0).trans rfl, (blk_cell BK236.out 1).trans rfl, (blk_cell BK236.out 2).trans rfl, (blk_cell BK236.out 3).trans rfl, (blk_cell BK236.out 4).trans rfl, (blk_cell BK236.out 5).trans rfl, (blk_cell BK236.out 6).trans rfl⟩ (fun hHeld => ?_)
              clear hK K
              refine norm_ (a' := ?_) ?_ ?_
              rotate_left
              · show Act.put _ (some 54) _ = _
                simp only [Act.put, List.setIfInBounds_toArray, List.set_cons_zero, List.set_cons_succ, i64_w, i32_w]
                rfl
              refine pure_ (i := 15) (N := some 55) (v := ?_) (a' := ?_) #[true, true, true, true, true, true, true, true, true, true, true, true, true, true, true, true, false] rfl rfl (any_of HT_.out (by kernel_rfl)) (fun _ _ _ h => h) (Or.inl ⟨by rfl, ?_⟩) ?_ ?_
              rotate_left
              · intro w'
                go_simp
                with_reducible rfl
              rotate_left
              · simp only [Act.put, List.setIfInBounds_toArray, List.set_cons_zero, List.set_cons_succ, i64_w, i32_w]
                rfl
              refine pure_ (i := 16) (N := some 17) (v := ?_) (a' := ?_) #[true, true, true, true, true, true, true, true, true, true, true, true, true, true, true, true, true] rfl rfl (any_of HT_.out (by kernel_rfl)) (fun _ _ _ h => h) (Or.inl ⟨by rfl, ?_⟩) ?_ ?_
              rotate_left
              · intro w'
                go_simp
                with_reducible rfl
              rotate_left
              · simp only [Act.put, List.setIfInBounds_toArray, List.set_cons_zero, List.set_cons_succ, i64_w, i32_w]
                rfl
              refine done_ (done_of HT_.out (by kernel_rfl)) ?_
              try go_wp2_with (first | ((with_reducible refine gate_callee (f := 12) rfl ?_); refine goesL_ (some 58) rfl rfl Try.func12 (by kernel_rfl) rfl #[.string t237] rfl (by (try simp only [List.map_toArray, List.map_cons, List.map_nil]); first | done | rfl | (simp only [List.length_drop, List.length_take]; rfl)) ?_; (with_reducible refine (soa_Parse.calls k t237 t245 t246 t247 t248 t249 t250 t251 t252 _ A17.out).mono ?_); rintro e w102 ⟨rfl, hb⟩; refine ⟨_, rfl, ?_⟩; have n0_ := Aside0.mk (Kd.R_below (by (with_reducible repeat (first | apply Kd.R_alloc | apply Kd.R_drewN | apply Kd.R_drew)); exact HO241.out) hb); have n1_ := Aside0.mk (Kd.R_below (by (with_reducible repeat (first | apply Kd.R_alloc | apply Kd.R_drewN | apply Kd.R_drew)); exact HO244.out) hb); have n2_ := Aside0.mk (blk_below (g := gb236) (o := .cells #[.string t234, .string t235, .int .u32 a2, .int .u32 a3, .int .u32 a4, .int .u32 a5, .int .u32 (Go.bits .xor .u32 a2 a5)] 28 (0, 0)) (by (with_reducible repeat (first | refine blk_drewN ?_ _ | refine blk_drew ?_ | refine blk_alloc ?_ _)); exact BK236.out) hb); have n3_ := Aside0.mk (below_step (by repeat (first | (with_reducible first | exact HB.out | apply below_alloc | apply pw_below_drewN | apply below_drew1 | refine below_set ?_ GE236.out) | exact HB.out)) hb); clear HO241; clear HO244; clear BK236; clear HB; have HO241 := n0_; have HO244 := n1_; have BK236 := n2_; have HB := n3_; clear n0_ n1_ n2_ n3_; (try clear hb); (try clear hb2); (try clear hk); (try clear hi)) | ((with_reducible refine gate_dst (N := 18) rfl ?_); refine box_event ?hg (N := 18) ?hd (cs := #[.string (⟨#[]⟩ : ByteArray), .string (⟨#[]⟩ : ByteArray), .int .u32 0, .int .u32 0, .int .u32 0, .int .u32 0, .int .u32 0]) (t := 28) ?hr ?_; (case hd => rfl); (case hg => rfl); (case hr => first | (go_simp; done) | (go_simp; rfl)); intro gb253 hg w103 hbox hb; have n0_ := Aside0.mk (Kd.R_below (by (with_reducible repeat (first | apply Kd.R_alloc | apply Kd.R_drewN | apply Kd.R_drew)); exact HO241.out) hb); have n1_ := Aside0.mk (Kd.R_below (by (with_reducible repeat (first | apply Kd.R_alloc | apply Kd.R_drewN | apply Kd.R_drew)); exact HO244.out) hb); have n2_ := Aside0.mk (blk_below (g := gb236) (o := .cells #[.string t234, .string t235, .int .u32 a2, .int .u32 a3, .int .u32 a4, .int .u32 a5, .int .u32 (Go.bits .xor .u32 a2 a5)] 28 (0, 0)) (by (with_reducible repeat (first | refine blk_drewN ?_ _ | refine blk_drew ?_ | refine blk_alloc ?_ _)); exact BK236.out) hb); have n3_ := Aside0.mk (below_step (by repeat (first | (with_reducible first | exact HB.out | apply below_alloc | apply pw_below_drewN | apply below_drew1 | refine below_set ?_ GE236.out) | exact HB.out)) hb); have n4_ := Aside0.mk (hbox); have n5_ := Aside0.mk ((by rw [hg]; exact (below_size (by repeat (first | (with_reducible first | exact HB.out | apply below_alloc | apply pw_below_drewN | apply below_drew1 | refine below_set ?_ GE236.out) | exact HB.out))) : w.heap.size ≤ gb253)); have n6_ := Aside0.mk ((by rw [hg]; exact (below_size (by repeat (first | (with_reducible first | exact HB.out | apply below_alloc | apply pw_below_drewN | apply below_drew1 | refine below_set ?_ GE236.out) | exact HB.out))) : w.heap.size ≤ gb253)); have n7_ := Aside0.mk ((by rw [hg]; exact Nat.ne_of_lt (blk_lt (g := gb236) (o := .cells #[.string t234, .string t235, .int .u32 a2, .int .u32 a3, .int .u32 a4, .int .u32 a5, .int .u32 (Go.bits .xor .u32 a2 a5)] 28 (0, 0)) (by (with_reducible repeat (first | refine blk_drewN ?_ _ | refine blk_drew ?_ | refine blk_alloc ?_ _)); exact BK236.out)) : gb236 ≠ gb253)); have n8_ := Aside0.mk ((by rw [hg]; exact Nat.ne_of_gt (blk_lt (g := gb236) (o := .cells #[.string t234, .string t235, .int .u32 a2, .int .u32 a3, .int .u32 a4, .int .u32 a5, .int .u32 (Go.bits .xor .u32 a2 a5)] 28 (0, 0)) (by (with_reducible repeat (first | refine blk_drewN ?_ _ | refine blk_drew ?_ | refine blk_alloc ?_ _)); exact BK236.out)) : gb253 ≠ gb236)); clear HO241; clear HO244; clear BK236; clear HB; have HO241 := n0_; have HO244 := n1_; have BK236 := n2_; have HB := n3_; have BK253 := n4_; have GW253 := n5_; have GE253 := n6_; have NB236_253 := n7_; have NB253_236 := n8_; clear n0_ n1_ n2_ n3_ n4_ n5_ n6_ n7_ n8_; clear hb hbox hg; have hnb104 := NB253_236.out; have hnc104 := NB236_253.out; have hcz105_0 : w103.cell? ⟨gb253, 0, none⟩ = some (.string (⟨#[]⟩ : ByteArray)) := (blk_cell BK253.out 0).trans rfl; have hcz105_1 : w103.cell? ⟨gb253, 1, none⟩ = some (.string (⟨#[]⟩ : ByteArray)) := (blk_cell BK253.out 1).trans rfl; have hcz105_2 : w103.cell? ⟨gb253, 2, none⟩ = some (.int .u32 0) := (blk_cell BK253.out 2).trans rfl; have hcz105_3 : w103.cell? ⟨gb253, 3, none⟩ = some (.int .u32 0) := (blk_cell BK253.out 3).trans rfl; have hcz105_4 : w103.cell? ⟨gb253, 4, none⟩ = some (.int .u32 0) := (blk_cell BK253.out 4).trans rfl; have hcz105_5 : w103.cell? ⟨gb253, 5, none⟩ = some (.int .u32 0) := (blk_cell BK253.out 5).trans rfl; have hcz105_6 : w103.cell? ⟨gb253, 6, none⟩ = some (.int .u32 0) := (blk_cell BK253.out 6).trans rfl; have hfz105_0 := blk_frozen BK253.out 0; have hfz105_1 := blk_frozen BK253.out 1; have hfz105_2 := blk_frozen BK253.out 2; have hfz105_3 := blk_frozen BK253.out 3; have hfz105_4 := blk_frozen BK253.out 4; have hfz105_5 := blk_frozen BK253.out 5; have hfz105_6 := blk_frozen BK253.out 6))
              go_ret
              exact ⟨by first | rfl | (simp [errW_none, errW_some] <;> rfl) | (simp [*, errW_none, errW_some] <;> rfl), by repeat (first | (with_reducible first | exact HB.out | apply below_alloc | apply pw_below_drewN | apply below_drew1 | refine below_set ?_ GE236.out | refine below_set ?_ GE253.out) | exact HB.out)⟩
          · rw [if_neg c16] at H
            exact absurd H (by simp)
        · rw [if_neg c14] at H
          exact absurd H (by simp)
      · rw [if_neg c13] at H
        exact absurd H (by simp)
    · rw [if_neg c12] at H
      exact absurd H (by simp)
  · replace c8 := Bool.eq_false_iff.mpr c8
    subst c8
    have H1 : (some false) = some r := by rw [if_neg (show ¬ (false = true) by decide)] at H; exact H
    clear H
    have H := H1
    clear H1
    obtain rfl := Option.some.inj H
    go_enter Try.func7, Try.ntmps7
    go_wp2_with (first | ((with_reducible refine gate_callee (f := 8) rfl ?_); refine goesL_ (some 20) rfl rfl Try.func8 (by kernel_rfl) rfl #[] rfl (by (try simp only [List.map_toArray, List.map_cons, List.map_nil]); first | done | rfl | (simp only [List.length_drop, List.length_take]; rfl)) ?_; (with_reducible refine (bolterlaw07_awake.calls k  false _ A7.out).mono ?_); rintro e w106 ⟨rfl, hb⟩; refine ⟨_, rfl, ?_⟩; have n0_ := Aside0.mk (below_step (by repeat (first | (with_reducible first | exact HB.out | apply below_alloc | apply pw_below_drewN | apply below_drew1) | exact HB.out)) hb); clear HB; have HB := n0_; clear n0_; (try clear hb); (try clear hb2); (try clear hk); (try clear hi)))
    go_ret
    exact ⟨by first | rfl | (simp [errW_none, errW_some] <;> rfl) | (simp [*, errW_none, errW_some] <;> rfl), by repeat (first | (with_reducible first | exact HB.out | apply below_alloc | apply pw_below_drewN | apply below_drew1) | exact HB.out)⟩

/-- THE ONE PURE STATEMENT of bolterlaw07_SoaData: yours. -/
def bolterlaw07_SoaData.Pure : Prop := ∀ (l0 : List Int) (l1 : List Int) (a2 : Int) (a3 : Int) (a4 : Int) (a5 : Int), l0.length ≤ maxLen → l0.length * 1 ≤ 140737488351232 → (∀ x ∈ l0, (Lit.int .u8 x).wf = true) → l1.length ≤ maxLen → l1.length * 1 ≤ 140737488351232 → (∀ x ∈ l1, (Lit.int .u8 x).wf = true) → (Lit.int .u32 a2).wf = true → (Lit.int .u32 a3).wf = true → (Lit.int .u32 a4).wf = true → (Lit.int .u32 a5).wf = true → ∃ k, bolterlaw07_SoaData.f k l0 l1 a2 a3 a4 a5 = some true
theorem bolterlaw07_SoaData.walk (P : bolterlaw07_SoaData.Pure) (a0 : Option Addr) (len0 cap0 : Nat) (z0 : List Int) (a1 : Option Addr) (len1 cap1 : Nat) (z1 : List Int) (a2 : Int) (a3 : Int) (a4 : Int) (a5 : Int) (w : World) (w0 : (a0 = none ∧ len0 = 0 ∧ cap0 = 0 ∧ z0 = []) ∨ ∃ x, a0 = some x ∧ len0 ≤ cap0 ∧ cap0 ≤ maxLen ∧ z0.length = cap0 ∧ (∀ i, i < z0.length → w.cell? (x.add i) = some (.int .u8 (z0.getD i 0))) ∧ ∀ n ∈ z0, (Lit.int .u8 n).wf = true) (y0 : len0 * 1 ≤ 140737488351232) (w1 : (a1 = none ∧ len1 = 0 ∧ cap1 = 0 ∧ z1 = []) ∨ ∃ x, a1 = some x ∧ len1 ≤ cap1 ∧ cap1 ≤ maxLen ∧ z1.length = cap1 ∧ (∀ i, i < z1.length → w.cell? (x.add i) = some (.int .u8 (z1.getD i 0))) ∧ ∀ n ∈ z1, (Lit.int .u8 n).wf = true) (y1 : len1 * 1 ≤ 140737488351232) (w2 : (Lit.int .u32 a2).wf = true) (w3 : (Lit.int .u32 a3).wf = true) (w4 : (Lit.int .u32 a4).wf = true) (w5 : (Lit.int .u32 a5).wf = true) :
    Calls Try.prog 7 #[.slice a0 len0 cap0, .slice a1 len1 cap1, .int .u32 a2, .int .u32 a3, .int .u32 a4, .int .u32 a5] w fun e w' => e = .returned (.bool true) ∧ Below w.heap.size w w' := by
  obtain ⟨l0, rfl, hr0, hm0, hw0, hc0⟩ := ReadsInt.ofRowC w0
  obtain ⟨l1, rfl, hr1, hm1, hw1, hc1⟩ := ReadsInt.ofRowC w1
  obtain ⟨k, h⟩ := P l0 l1 a2 a3 a4 a5 hm0 y0 hw0 hm1 y1 hw1 w2 w3 w4 w5
  refine (bolterlaw07_SoaData.calls k _ _ l0 _ _ l1 a2 a3 a4 a5 true w (Kd.C_of_reads (d := (0 : Int)) (h1 := fun _ => rfl) hr0) hc0 (Kd.C_of_reads (d := (0 : Int)) (h1 := fun _ => rfl) hr1) hc1 h).mono ?_
  rintro e w' ⟨rfl, hd⟩
  exact ⟨rfl, hd⟩

end Go.Proofs.Ytpjdemddflnleaa.PB
