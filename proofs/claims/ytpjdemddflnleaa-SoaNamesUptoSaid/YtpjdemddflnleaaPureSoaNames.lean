/-
  The law SoaNames about numbers and lists alone: there are no data of what is no name.
-/
import Derived.Test.YtpjdemddflnleaaPureSaidSoaNames
import Derived.Test.YtpjdemddflnleaaQSMay
import Derived.Test.YtpjdemddflnleaaQSPut32
namespace Go.Proofs.Ytpjdemddflnleaa.Pure
open Go.RowKit Go.Proofs.Ytpjdemddflnleaa.PS Go.Proofs.YtpjdemddflnleaaW.PrintWords Go.Proofs.YtpjdemddflnleaaW.PrintLast Go.Proofs.Ytpjdemddflnleaa.Base Go.Proofs.Ytpjdemddflnleaa.QS
set_option linter.unusedSimpArgs false
set_option linter.unusedVariables false

namespace SoaNames_
theorem awake : Ev (fun k => bolterlaw07_awake.f k) true := Ev.of (fun k => bolterlaw07_awake.mono k) (k := 30) (by kernel_rfl)
theorem no_j (a b : ByteArray) : Ev (fun k => soa_Data.j0 k true a b 0 0 0 0 0) (⟨#[]⟩, false) :=
  Ev.step (f := fun _ => some (⟨#[]⟩, false)) (fun k => by simp only [soa_Data.j0, if_true]) (Ev.now _)
theorem yes_j (a b : ByteArray) (ha : a.size + b.size ≤ 1048576) : ∃ d : ByteArray, d.size = a.size + b.size + 22 ∧ Ev (fun k => soa_Data.j0 k false a b 0 0 0 0 0) (d, true) := by
  have h0 := put32 [] [0, 0, 0, 0, 0] (by simp)
  rw [List.nil_append] at h0
  have hl : (all32 [0, 0, 0, 0, 0]).length = 20 := by rw [all32_len]; rfl
  have hs := str_size (all32 [0, 0, 0, 0, 0])
  have s1 : (a ++ (⟨#[0]⟩ : ByteArray)).size = a.size + 1 := ByteArray.size_append
  have s2 : (b ++ (⟨#[0]⟩ : ByteArray)).size = b.size + 1 := ByteArray.size_append
  have s3 : ((a ++ (⟨#[0]⟩ : ByteArray)) ++ (b ++ (⟨#[0]⟩ : ByteArray))).size = a.size + b.size + 2 := by
    have h1 := ByteArray.size_append (a := a ++ (⟨#[0]⟩ : ByteArray)) (b := b ++ (⟨#[0]⟩ : ByteArray))
    omega
  refine ⟨((a ++ (⟨#[0]⟩ : ByteArray)) ++ (b ++ (⟨#[0]⟩ : ByteArray))) ++ strOfNums (all32 [0, 0, 0, 0, 0]), by
    have h1 := ByteArray.size_append (a := (a ++ (⟨#[0]⟩ : ByteArray)) ++ (b ++ (⟨#[0]⟩ : ByteArray))) (b := strOfNums (all32 [0, 0, 0, 0, 0]))
    omega, ?_⟩
  have hp : ∀ x : ByteArray, x.size ≤ 1048576 → point_Plain.f x = some (x ++ (⟨#[0]⟩ : ByteArray)) := fun x hx => by
    unfold point_Plain.f
    rw [if_pos (by omega)]
  refine Ev.step (f := fun k => (num_Put32.f k [] [0, 0, 0, 0, 0]).bind fun t => if ((a ++ (⟨#[0]⟩ : ByteArray)) ++ (b ++ (⟨#[0]⟩ : ByteArray))).size + (strOfNums t).size ≤ 9223372036854775807 then some (((a ++ (⟨#[0]⟩ : ByteArray)) ++ (b ++ (⟨#[0]⟩ : ByteArray))) ++ strOfNums t, true) else none) (fun k => ?_) ?_
  · simp only [soa_Data.j0]
    rw [if_neg (by simp), hp a (by omega), hp b (by omega)]
    simp only [Option.bind_some]
    cases num_Put32.f k [] [0, 0, 0, 0, 0] with
    | none => rfl
    | some t =>
      simp only [Option.bind_some]
      rw [if_pos (by rw [s1, s2]; omega)]
  · refine Ev.bind h0 ?_
    refine Ev.congr (f := fun _ => some (((a ++ (⟨#[0]⟩ : ByteArray)) ++ (b ++ (⟨#[0]⟩ : ByteArray))) ++ strOfNums (all32 [0, 0, 0, 0, 0]), true)) (fun k => ?_) (Ev.now _)
    rw [if_pos (by rw [s3, hs, hl]; omega)]
/-- What Data answers, by what its names are. -/
theorem data (a b : ByteArray) (ha : a.size + b.size ≤ 1048576) (p q : Bool) (hp : Ev (fun k => name_May.f k a) p) (hq : Ev (fun k => name_May.f k b) q) :
    ∃ d : ByteArray, (p = true → q = true → d.size = a.size + b.size + 22) ∧ ((p && q) = false → d = ⟨#[]⟩) ∧ Ev (fun k => soa_Data.f k a b 0 0 0 0 0) (d, p && q) := by
  cases p with
  | false =>
    refine ⟨⟨#[]⟩, fun h => (by cases h), fun _ => rfl, ?_⟩
    exact Ev.bind hp (no_j a b)
  | true =>
    cases q with
    | false =>
      refine ⟨⟨#[]⟩, fun _ h => (by cases h), fun _ => rfl, ?_⟩
      refine Ev.bind hp ?_
      simp only [if_true]
      exact Ev.bind hq (no_j a b)
    | true =>
      obtain ⟨d, hd, he⟩ := yes_j a b ha
      refine ⟨d, fun _ _ => hd, fun h => (by cases h), ?_⟩
      refine Ev.bind hp ?_
      simp only [if_true]
      exact Ev.bind hq he
end SoaNames_

theorem SoaNames : PureSaid.SoaNames := by
  intro a b _ _ hbulk
  have hbulk' : a.size + 1 + (b.size + 1) ≤ 1048576 := hbulk
  obtain ⟨p, hp⟩ := may_total a (by omega)
  obtain ⟨q, hq⟩ := may_total b (by omega)
  obtain ⟨d, hd, hn, he⟩ := SoaNames_.data a b (by omega) p q hp hq
  refine Ev.rounds ?_
  unfold bolterlaw07_SoaNames.f
  refine Ev.bind SoaNames_.awake ?_
  simp only [if_true]
  refine Ev.bind he ?_
  refine Ev.bind hp ?_
  cases p with
  | false =>
    rw [hn rfl]
    exact Ev.congr (f := fun _ => some true) (fun k => by simp) (Ev.now _)
  | true =>
    simp only [if_true, Bool.true_and]
    refine Ev.bind hq ?_
    cases q with
    | false =>
      rw [hn rfl]
      exact Ev.congr (f := fun _ => some true) (fun k => by simp) (Ev.now _)
    | true =>
      have hs := hd rfl rfl
      refine Ev.congr (f := fun _ => some true) (fun k => ?_) (Ev.now _)
      rw [if_pos (show (true == true) = true from rfl)]
      rw [w64 (n := (a.size : Int) + (b.size : Int)) (by omega) (by omega)]
      rw [w64 (n := (a.size : Int) + (b.size : Int) + 22) (by omega) (by omega)]
      have e : (d.size : Int) = (a.size : Int) + (b.size : Int) + 22 := by rw [hs]; rfl
      rw [if_pos e]
      rfl

end Go.Proofs.Ytpjdemddflnleaa.Pure
