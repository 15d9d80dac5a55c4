/-
  The law SoaOf about numbers and lists alone: a record has one just if it is an SOA whose data are one's.
-/
import Derived.Test.YtpjdemddflnleaaPureSaidSoaOf
import Derived.Test.YtpjdemddflnleaaSoaM
namespace Go.Proofs.Ytpjdemddflnleaa.Pure
open Go.RowKit Go.Proofs.Ytpjdemddflnleaa.PB Go.Proofs.YtpjdemddflnleaaW.PrintWords Go.Proofs.YtpjdemddflnleaaW.PrintLast Go.Proofs.Ytpjdemddflnleaa.Base Go.Proofs.Ytpjdemddflnleaa.Nam Go.Proofs.Ytpjdemddflnleaa.Soa Go.Proofs.Ytpjdemddflnleaa.QB
set_option linter.unusedVariables false
set_option linter.unusedSimpArgs false

theorem SoaOf : PureSaid.SoaOf := by
  intro a0 l1 a2 hw0 hw1 hm1 hw2 hb
  have r2 := bounds_u32 hw2
  have b1 := B8.of_wf hw1
  obtain ⟨nm0, ty, ttl, d⟩ := a0
  have hlen : l1.length ≤ 1048576 ∧ d.size ≤ 1048576 := by
    have h1 := opn.bs_one l1
    simp only at hb
    omega
  obtain ⟨K0, h0⟩ := Of_ev nm0 ty ttl d (by omega)
  obtain ⟨K1, h1⟩ := parse_ev d (by omega)
  obtain ⟨K2, h2⟩ := Make_ev l1 a2 1 2 3 b1 (by omega)
  have hsz : (strOfNums (soaMake l1 a2 1 2 3)).size ≤ 1000000000000 := by rw [str_size]; have := soaMake_len l1 a2 1 2 3; omega
  obtain ⟨K3, h3⟩ := Of_ev ⟨#[]⟩ 6 0 (strOfNums (soaMake l1 a2 1 2 3)) hsz
  obtain ⟨K4, h4⟩ := Of_ev ⟨#[]⟩ 16 0 (strOfNums (soaMake l1 a2 1 2 3)) hsz
  rw [bytes_str (soaMake_b8 l1 a2 1 2 3)] at h3 h4
  rw [make_of l1 a2 1 2 3 (by omega)] at h3
  obtain ⟨K5, h5⟩ := awake07
  obtain ⟨k, hk⟩ : ∃ k, max K0 (max K1 (max K2 (max K3 (max K4 K5)))) = k := ⟨_, rfl⟩
  refine ⟨k + 2, ?_⟩
  have g0 := h0 (k + 2) (by omega)
  have g1 := h1 (k + 2) (by omega)
  have g2 := h2 k (by omega)
  have g3 := h3 k (by omega)
  have g4 := h4 k (by omega)
  have g5 := h5 (k + 2) (by omega)
  simp only at g0 g1 g2 g3 g4 g5
  have hj : bolterlaw07_SoaOf.j1 (k + 1) l1 a2 false = some true := by
    simp only [bolterlaw07_SoaOf.j1, g2, g3, g4, Option.bind_some]
    simp [ofR]
  simp only [bolterlaw07_SoaOf.f, g5, Option.bind_some, if_true, g0, g1]
  unfold ofR soaR
  by_cases hty : ty = 6
  · subst hty
    cases hok : (soaP (bytesOf d)).2.2.2
    · simp [bolterlaw07_SoaOf.j0, hj, hok]
    · simp [bolterlaw07_SoaOf.j0, hj, hok]
  · have hne : (ty == 6) = false := by simpa using hty
    cases hok : (soaP (bytesOf d)).2.2.2
    · simp [bolterlaw07_SoaOf.j0, hj, hok, hty]
    · simp [bolterlaw07_SoaOf.j0, hj, hok, hty, hne]
end Go.Proofs.Ytpjdemddflnleaa.Pure
