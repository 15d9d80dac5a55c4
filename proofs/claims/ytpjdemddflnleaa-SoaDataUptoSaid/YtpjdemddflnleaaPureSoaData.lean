/-
  The law SoaData about numbers and lists alone: its data are what the document says, and it is read of them.
-/
import Derived.Test.YtpjdemddflnleaaPureSaidSoaData
import Derived.Test.YtpjdemddflnleaaSoa
import Derived.Test.YtpjdemddflnleaaWrd
namespace Go.Proofs.Ytpjdemddflnleaa.Pure
open Go.RowKit Go.Proofs.Ytpjdemddflnleaa.PB Go.Proofs.YtpjdemddflnleaaW.PrintWords Go.Proofs.YtpjdemddflnleaaW.PrintLast Go.Proofs.Ytpjdemddflnleaa.Base Go.Proofs.Ytpjdemddflnleaa.Nam Go.Proofs.Ytpjdemddflnleaa.Soa Go.Proofs.Ytpjdemddflnleaa.QB
set_option linter.unusedVariables false

namespace SoaData_
theorem nums_of (n0 n1 n2 n3 n4 : Int) (h0 : 0 ≤ n0 ∧ n0 < 4294967296) (h1 : 0 ≤ n1 ∧ n1 < 4294967296) (h2 : 0 ≤ n2 ∧ n2 < 4294967296) (h3 : 0 ≤ n3 ∧ n3 < 4294967296) (h4 : 0 ≤ n4 ∧ n4 < 4294967296) :
    num4 (all32 [n0, n1, n2, n3, n4]) 0 = n0 ∧ num4 (all32 [n0, n1, n2, n3, n4]) 4 = n1 ∧ num4 (all32 [n0, n1, n2, n3, n4]) 8 = n2 ∧ num4 (all32 [n0, n1, n2, n3, n4]) 12 = n3 ∧ num4 (all32 [n0, n1, n2, n3, n4]) 16 = n4 := by
  have e0 := num4_be [] n0 (all32 [n1, n2, n3, n4]) h0
  have e1 := num4_be (be32 n0) n1 (all32 [n2, n3, n4]) h1
  have e2 := num4_be (be32 n0 ++ be32 n1) n2 (all32 [n3, n4]) h2
  have e3 := num4_be (be32 n0 ++ be32 n1 ++ be32 n2) n3 (all32 [n4]) h3
  have e4 := num4_be (be32 n0 ++ be32 n1 ++ be32 n2 ++ be32 n3) n4 (all32 []) h4
  exact ⟨e0, e1, e2, e3, e4⟩
end SoaData_
open SoaData_
theorem SoaData : PureSaid.SoaData := by
  intro l0 l1 a2 a3 a4 a5 hw0 hm0 hw1 hm1 hw2 hw3 hw4 hw5 hb
  have r2 := bounds_u32 hw2
  have r3 := bounds_u32 hw3
  have r4 := bounds_u32 hw4
  have r5 := bounds_u32 hw5
  have r6 : 0 ≤ Go.bits .xor .u32 a2 a5 ∧ Go.bits .xor .u32 a2 a5 < 4294967296 := by
    unfold Go.bits
    rw [IntKind.wrap_u32]
    omega
  have b0 := B8.of_wf hw0
  have b1 := B8.of_wf hw1
  have hlen : l0.length ≤ 1048576 ∧ l1.length ≤ 1048576 := by
    have h1 := opn.bs_one l0
    have h2 := opn.bs_one l1
    omega
  obtain ⟨K0, h0⟩ := Name_ev l0 b0 (by omega)
  obtain ⟨K1, h1⟩ := Name_ev l1 b1 (by omega)
  have n0 := nameL_nm l0
  have n1 := nameL_nm l1
  have c0 := nameL_b8 l0
  have c1 := nameL_b8 l1
  have e0 := nameL_len l0
  have e1 := nameL_len l1
  obtain ⟨a, ha⟩ : ∃ a, nameL l0 = a := ⟨_, rfl⟩
  obtain ⟨b, hb'⟩ : ∃ b, nameL l1 = b := ⟨_, rfl⟩
  rw [ha] at h0 n0 c0 e0
  rw [hb'] at h1 n1 c1 e1
  obtain ⟨x, hx⟩ : ∃ x, Go.bits .xor .u32 a2 a5 = x := ⟨_, rfl⟩
  rw [hx] at r6
  have hl := all32_len [a2, a3, a4, a5, x]
  have hl20 : (all32 [a2, a3, a4, a5, x]).length = 20 := hl
  have dab : dataL a b [a2, a3, a4, a5, x] = a ++ 0 :: (b ++ 0 :: all32 [a2, a3, a4, a5, x]) := by unfold dataL; rw [if_pos ⟨n0, n1⟩]
  have d8 : B8 (a ++ 0 :: (b ++ 0 :: all32 [a2, a3, a4, a5, x])) := c0.append (B8.cons (by omega) (by omega) (c1.append (B8.cons (by omega) (by omega) (all32_b8 _))))
  obtain ⟨K2, h2⟩ := data_ev a b a2 a3 a4 a5 x c0 c1 (by omega)
  obtain ⟨K3, h3⟩ := put32 [] [a2, a3, a4, a5, x] (by simp)
  rw [dab] at h2
  have hsz : (strOfNums (a ++ 0 :: (b ++ 0 :: all32 [a2, a3, a4, a5, x]))).size ≤ 1000000000000 := by rw [str_size]; simp [hl20]; omega
  obtain ⟨K4, h4⟩ := parse_ev _ hsz
  obtain ⟨K5, h5⟩ := rmay_soa _ hsz
  rw [bytes_str d8, soaP_of n0 n1 hl20] at h4 h5
  obtain ⟨K6, h6⟩ := awake07
  obtain ⟨m0, m1, m2, m3, m4⟩ := nums_of a2 a3 a4 a5 x (by omega) (by omega) (by omega) (by omega) r6
  refine ⟨max K0 (max K1 (max K2 (max K3 (max K4 (max K5 K6))))), ?_⟩
  generalize hk : max K0 (max K1 (max K2 (max K3 (max K4 (max K5 K6))))) = k
  have g0 := h0 k (by omega)
  have g1 := h1 k (by omega)
  have g2 := h2 k (by omega)
  have g3 := h3 k (by omega)
  have g4 := h4 k (by omega)
  have g5 := h5 k (by omega)
  have g6 := h6 k (by omega)
  simp only [List.nil_append] at g0 g1 g2 g3 g4 g5 g6
  unfold bolterlaw07_SoaData.f
  rw [hx]
  have sa := str_size a
  have sb := str_size b
  have sn := str_size (all32 [a2, a3, a4, a5, x])
  have z1 : ∀ s : ByteArray, (s ++ (⟨#[0]⟩ : ByteArray)).size = s.size + 1 := fun s => ByteArray.size_append
  simp only [g6, g0, g1, g2, g3, Option.bind_some, if_true, n0, n1, Bool.and_self]
  rw [if_pos (by omega), if_pos (by rw [z1]; omega), if_pos (by rw [ByteArray.size_append, z1]; omega), if_pos (by rw [z1, ByteArray.size_append, z1]; omega)]
  simp only [g4, g5, Option.bind_some, soaR, if_true, m0, m1, m2, m3, m4]
  have hcat : (((strOfNums a ++ (⟨#[0]⟩ : ByteArray)) ++ strOfNums b) ++ (⟨#[0]⟩ : ByteArray)) ++ strOfNums (all32 [a2, a3, a4, a5, x]) = strOfNums (a ++ 0 :: (b ++ 0 :: all32 [a2, a3, a4, a5, x])) := by
    rw [str0, ← str_app, str0, ← str_app]
    simp
  rw [hcat]
  simp
end Go.Proofs.Ytpjdemddflnleaa.Pure
