/- part of a proof; what it has no use for was struck out -/
import Derived.Test.YtlobjcokopfbkaaDoorSoa
import Derived.Test.YtlobjcokopfbkaaDoorWrd
import Derived.Test.YtlobjcokopfbkaaDoorPYx11
import Derived.Test.YtlobjcokopfbkaaDoorPYx6
namespace Go.Proofs.YtlobjcokopfbkaaDoor.Soa
open Go.RowKit Go.Proofs.YtlobjcokopfbkaaDoor.PY Go.Proofs.YtlobjcokopfbkaaDoorW.PrintWords Go.Proofs.YtlobjcokopfbkaaDoorW.PrintLast Go.Proofs.YtlobjcokopfbkaaDoor.Base Go.Proofs.YtlobjcokopfbkaaDoor.Nam Go.Proofs.YtlobjcokopfbkaaDoor.QY
set_option linter.unusedVariables false
set_option linter.unusedSimpArgs false
def soaMake (ns : List Int) (s r t e : Int) : List Int := nameL ns ++ 0 :: (nameL ns ++ 0 :: all32 [s, r % 4294967296, t % 4294967296, e % 4294967296, 1])
theorem all32_five (a b c d e : Int) : (all32 [a, b, c, d, e]).length = 20 := by rw [all32_len]; rfl
theorem soaMake_len (ns : List Int) (s r t e : Int) : (soaMake ns s r t e).length ≤ 190 := by
  have := nameL_len ns
  unfold soaMake
  simp [all32_five]
  omega
theorem Make_ev (ns : List Int) (s r t e : Int) (hb : B8 ns) (hl : ns.length ≤ 1000000000000) : Ev (fun k => bolterlaw07_Make.f k ns s r t e) (strOfNums (soaMake ns s r t e)) := by
  obtain ⟨K0, h0⟩ := Name_ev ns hb hl
  obtain ⟨K1, h1⟩ := put32 [] [s, r % 4294967296, t % 4294967296, e % 4294967296, 1] (by simp)
  refine ⟨max K0 K1, fun k hk => ?_⟩
  have g0 := h0 k (by omega)
  have g1 := h1 k (by omega)
  simp only [List.nil_append] at g0 g1
  have e0 := nameL_len ns
  unfold soaMake
  obtain ⟨a, ha⟩ : ∃ a, nameL ns = a := ⟨_, rfl⟩
  rw [ha] at g0 e0 ⊢
  have sa := str_size a
  have sn := str_size (all32 [s, r % 4294967296, t % 4294967296, e % 4294967296, 1])
  have s5 := all32_five s (r % 4294967296) (t % 4294967296) (e % 4294967296) 1
  have z1 : ∀ s : ByteArray, (s ++ (⟨#[0]⟩ : ByteArray)).size = s.size + 1 := fun s => ByteArray.size_append
  unfold bolterlaw07_Make.f
  simp only [g0, g1, Option.bind_some]
  rw [if_pos (by omega), if_pos (by rw [z1]; omega), if_pos (by rw [ByteArray.size_append, z1]; omega), if_pos (by rw [z1, ByteArray.size_append, z1]; omega)]
  rw [str0, ← str_app, str0, ← str_app]
  simp
def ofR (t : Int) (d : List Int) : ByteArray × ByteArray × Int × Int × Int × Int × Int × Bool := if t = 6 then soaR (soaP d) else (⟨#[]⟩, ⟨#[]⟩, 0, 0, 0, 0, 0, false)
theorem Of_ev (a : ByteArray) (t u : Int) (d : ByteArray) (hs : d.size ≤ 1000000000000) : Ev (fun k => soa_Of.f k a t u d) (ofR t (bytesOf d)) := by
  unfold ofR
  by_cases h : t = 6
  · obtain ⟨K, hK⟩ := parse_ev d hs
    refine ⟨K, fun k hk => ?_⟩
    have := hK k hk
    simp only at this
    simp only [soa_Of.f]
    rw [if_pos h, if_pos h, this]
    rfl
  · refine ⟨0, fun k _ => ?_⟩
    simp only [soa_Of.f]
    rw [if_neg h, if_neg h]
end Go.Proofs.YtlobjcokopfbkaaDoor.Soa
