/-
  The law SoaTwo about numbers and lists alone: two of them have the same data just if they are the same.
-/
import Derived.Test.YtpjdemddflnleaaPureSaidSoaTwo
import Derived.Test.YtpjdemddflnleaaSoa
import Derived.Test.YtpjdemddflnleaaWrd
namespace Go.Proofs.Ytpjdemddflnleaa.Pure
open Go.RowKit Go.Proofs.Ytpjdemddflnleaa.PB Go.Proofs.YtpjdemddflnleaaW.PrintWords Go.Proofs.YtpjdemddflnleaaW.PrintLast Go.Proofs.Ytpjdemddflnleaa.Base Go.Proofs.Ytpjdemddflnleaa.Nam Go.Proofs.Ytpjdemddflnleaa.Soa Go.Proofs.Ytpjdemddflnleaa.QB
set_option linter.unusedVariables false

namespace SoaTwo_
theorem eqb {a b : List Int} (ha : B8 a) (hb : B8 b) : ((strOfNums a).toList == (strOfNums b).toList) = decide (a = b) := by
  by_cases h : a = b
  · subst h; simp
  · simp only [h, decide_false, beq_eq_false_iff_ne, ne_eq]
    exact fun e => h (str_inj ha hb e)
theorem dat_b8 {a b : List Int} (ns : List Int) (ha : B8 a) (hb : B8 b) : B8 (dataL a b ns) := by
  unfold dataL
  split
  · exact ha.append (B8.cons (by omega) (by omega) (hb.append (B8.cons (by omega) (by omega) (all32_b8 ns))))
  · exact B8.nil
theorem all_len (a b c d e : Int) : (all32 [a, b, c, d, e]).length = 20 := by rw [all32_len]; rfl
end SoaTwo_
open SoaTwo_
theorem SoaTwo : PureSaid.SoaTwo := by
  intro l0 l1 a2 a3 hw0 hm0 hw1 hm1 hw2 hw3 hb
  have r3 := bounds_u32 hw3
  have b0 := B8.of_wf hw0
  have b1 := B8.of_wf hw1
  have hlen : l0.length ≤ 1048576 ∧ l1.length ≤ 1048576 := by
    have h1 := opn.bs_one l0
    have h2 := opn.bs_one l1
    omega
  obtain ⟨K0, h0⟩ := Name_ev l0 b0 (by omega)
  obtain ⟨K1, h1⟩ := Name_ev l1 b1 (by omega)
  have n0 := nameL_nm l0
  have n1 := nameL_nm l1
  have c0 := nameL_b8 l0
  have c1 := nameL_b8 l1
  have e0 := nameL_len l0
  have e1 := nameL_len l1
  obtain ⟨a, ha⟩ : ∃ a, nameL l0 = a := ⟨_, rfl⟩
  obtain ⟨b, hb'⟩ : ∃ b, nameL l1 = b := ⟨_, rfl⟩
  rw [ha] at h0 n0 c0 e0
  rw [hb'] at h1 n1 c1 e1
  obtain ⟨K2, h2⟩ := data_ev a b a2 0 a3 0 0 c0 c1 (by omega)
  obtain ⟨K3, h3⟩ := data_ev b a a2 0 a3 0 0 c1 c0 (by omega)
  obtain ⟨K4, h4⟩ := data_ev a b a2 0 a3 a3 0 c0 c1 (by omega)
  obtain ⟨K5, h5⟩ := awake07
  refine ⟨max K0 (max K1 (max K2 (max K3 (max K4 K5)))), ?_⟩
  generalize hk : max K0 (max K1 (max K2 (max K3 (max K4 K5)))) = k
  have g0 := h0 k (by omega)
  have g1 := h1 k (by omega)
  have g2 := h2 k (by omega)
  have g3 := h3 k (by omega)
  have g4 := h4 k (by omega)
  have g5 := h5 k (by omega)
  simp only at g0 g1 g2 g3 g4 g5
  unfold bolterlaw07_SoaTwo.f
  simp only [g5, g0, g1, g2, g3, g4, Option.bind_some, if_true, n0, n1, Bool.and_self]
  rw [eqb (dat_b8 _ c0 c1) (dat_b8 _ c1 c0), eqb c0 c1, eqb c1 c0, eqb (dat_b8 _ c0 c1) (dat_b8 _ c0 c1)]
  have dab : ∀ ns, dataL a b ns = a ++ 0 :: (b ++ 0 :: all32 ns) := fun ns => by unfold dataL; rw [if_pos ⟨n0, n1⟩]
  have dba : ∀ ns, dataL b a ns = b ++ 0 :: (a ++ 0 :: all32 ns) := fun ns => by unfold dataL; rw [if_pos ⟨n1, n0⟩]
  have x1 : decide (dataL a b [a2, 0, a3, 0, 0] = dataL b a [a2, 0, a3, 0, 0]) = (decide (a = b) && decide (b = a)) := by
    by_cases h : a = b
    · subst h; simp
    · simp only [h, decide_false, Bool.false_and, decide_eq_false_iff_not]
      intro he
      have p1 := soaP_of n0 n1 (all_len a2 0 a3 0 0)
      have p2 := soaP_of n1 n0 (all_len a2 0 a3 0 0)
      rw [← dab] at p1
      rw [← dba, ← he, p1] at p2
      injection p2 with q1 _
      exact h q1
  have x2 : decide (dataL a b [a2, 0, a3, 0, 0] = dataL a b [a2, 0, a3, a3, 0]) = (a3 == 0) := by
    by_cases h : a3 = 0
    · subst h; simp
    · have : (a3 == 0) = false := by simpa using h
      rw [this, decide_eq_false_iff_not, dab, dab]
      intro he
      have he := List.append_cancel_left he
      injection he with _ he
      have he := List.append_cancel_left he
      injection he with _ he
      have := congrArg (fun l => l.drop 12) he
      simp only [all32_cons, be32, List.cons_append, List.nil_append, List.drop_succ_cons, List.drop_zero] at this
      injection this with q0 this
      injection this with q1 this
      injection this with q2 this
      injection this with q3 this
      omega
  rw [x1, x2]
  simp
end Go.Proofs.Ytpjdemddflnleaa.Pure
