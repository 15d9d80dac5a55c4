/-
  The law JournalCrash: what an act writes, by hand. No macro, syntax, notation, axiom, sorry.
-/
import Derived.Test.YtklliflmdckadaaDoorPJx8
namespace Go.Proofs.YtklliflmdckadaaDoor.PJ
open Go.RowKit Go.Proofs.YtklliflmdckadaaDoorW.PrintWords Go.Proofs.YtklliflmdckadaaDoorW.PrintLast Go.Proofs.YtklliflmdckadaaDoor.DevW Go.Proofs.YtklliflmdckadaaDoor.DevC
set_option linter.unusedVariables false
set_option linter.unusedSimpArgs false
set_option maxRecDepth 100000

/-- What an act writes. -/
def abytes (bs : List Int) (z : Nat) : List Int := if z % 8 = 7 then List.replicate (100 + 2 * z) 0 else bs
set_option maxHeartbeats 2000000 in
theorem bytes_ (w : World) (op : Int) (Ab : Option Addr) (cb : Nat) (bs : List Int) (z : Nat) (n : Int) (hz : z < 256) (hcb : bs.length ≤ cb) (hC : Kd.C (Kd.int .u8) w Ab bs.length bs) :
    Calls Tryd.prog 6 #[.agg #[.int .u8 op, .slice Ab bs.length cb, .int .u8 z, .int .i8 n]] w fun e w' => ∃ A c, e = .returned (.slice A (abytes bs z).length c) ∧ (abytes bs z).length ≤ c ∧ Kd.C (Kd.int .u8) w' A (abytes bs z).length (abytes bs z) ∧ Below w.heap.size w w' := by
  have HC := Lib.hid hC
  clear hC
  obtain ⟨y, hy⟩ : ∃ y, z % 8 = y := ⟨_, rfl⟩
  have hn : Int.tmod (z : Int) 8 = (y : Int) := by rw [← hy]; rfl
  have hn3 : (z : Int) % 8 = (y : Int) := by omega
  by_cases h7 : y = 7
  · subst h7
    have ha : abytes bs z = List.replicate (100 + 2 * z) 0 := if_pos hy
    rw [ha]
    obtain ⟨m, hm⟩ : ∃ m : Nat, 100 + 2 * z = m := ⟨_, rfl⟩
    have hs : 100 + 2 * (z : Int) = (m : Int) := by omega
    have hm6 : m ≤ 1000 := by omega
    have hmk := print_make (P := Tryd.prog) 32 5 .u8 1 Tryd.underlying32 info5 (by decide) m (by omega)
    rw [hm]
    have HY := Lib.hid hy
    clear hy ha hm
    have hw1 : IntKind.i64.wrap (z : Int) = (z : Int) := by rw [Go.Proofs.YtklliflmdckadaaDoor.DevC.i64_w]; unfold wrap64; omega
    go_enter Tryd.func6, Tryd.ntmps6
    go_wp2
    go_ret
    have hown := own_made' (w.alloc (.cells #[.int .u8 op, .slice Ab bs.length cb, .int .u8 z, .int .i8 n] 35)) w.heap.size 5 .u8 m (by rw [World.alloc]; show w.heap.size ≤ (w.heap.push _).size; rw [Array.size_push]; omega) (by omega)
    have hl : (List.replicate m (0 : Int)).length = m := List.length_replicate
    refine ⟨some ⟨(w.alloc (.cells #[.int .u8 op, .slice Ab bs.length cb, .int .u8 z, .int .i8 n] 35)).heap.size, 0, none⟩, m, ?_, by rw [hl]; exact Nat.le_refl _, own_C (by rw [hl] at hown ⊢; exact hown), by repeat (first | exact Below.refl _ _ | apply below_alloc)⟩
    rw [hl]
    first | rfl | simp
  · have ha : abytes bs z = bs := if_neg (by omega)
    rw [ha]
    have e7 : ((y : Int) == 7) = false := beq_eq_false_iff_ne.mpr (by omega)
    have HY := Lib.hid hy
    have H7 := Lib.hid h7
    clear hy h7 ha
    go_enter Tryd.func6, Tryd.ntmps6
    go_wp2
    go_ret
    exact ⟨_, _, rfl, hcb, Kd.C_below HC.out (by repeat (first | exact Below.refl _ _ | apply below_alloc)), by repeat (first | exact Below.refl _ _ | apply below_alloc)⟩
end Go.Proofs.YtklliflmdckadaaDoor.PJ
