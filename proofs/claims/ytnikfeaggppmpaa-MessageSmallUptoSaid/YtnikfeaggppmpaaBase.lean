/- part of a proof; what it has no use for was struck out -/
import Derived.Test.YtnikfeaggppmpaaWAll
import Derived.Test.YtnikfeaggppmpaaOpn
import Derived.Laws.Strings
import Derived.Laws.BitsLemmas
import Derived.Laws.BitsAllLaws
namespace Go.Proofs.Ytnikfeaggppmpaa.Base
open Go.RowKit Go.Proofs.YtnikfeaggppmpaaW.PrintWords Go.Proofs.YtnikfeaggppmpaaW.PrintLast
set_option linter.unusedVariables false
theorem w64 {n : Int} (h1 : -9223372036854775808 ≤ n) (h2 : n ≤ 9223372036854775807) : wrap64 n = n := by
  unfold wrap64
  omega
def B8 (l : List Int) : Prop := ∀ y ∈ l, 0 ≤ y ∧ y < 256
theorem B8.of_wf {l : List Int} (h : ∀ y ∈ l, (Lit.int .u8 y).wf = true) : B8 l := fun y hy => by
  have := bounds_u8 (h y hy)
  omega
theorem B8.nil : B8 [] := fun _ h => absurd h List.not_mem_nil
theorem B8.append {a b : List Int} (ha : B8 a) (hb : B8 b) : B8 (a ++ b) := fun y hy => (List.mem_append.1 hy).elim (ha y) (hb y)
theorem B8.cons {x : Int} {l : List Int} (h0 : 0 ≤ x) (h1 : x < 256) (h : B8 l) : B8 (x :: l) := fun y hy => by
  rcases List.mem_cons.1 hy with rfl | hy
  · exact ⟨h0, h1⟩
  · exact h y hy
theorem B8.take {l : List Int} (h : B8 l) (n : Nat) : B8 (l.take n) := fun y hy => h y (List.mem_of_mem_take hy)
theorem B8.drop {l : List Int} (h : B8 l) (n : Nat) : B8 (l.drop n) := fun y hy => h y (List.mem_of_mem_drop hy)
theorem B8.left {a b : List Int} (h : B8 (a ++ b)) : B8 a := fun y hy => h y (List.mem_append_left _ hy)
theorem B8.right {a b : List Int} (h : B8 (a ++ b)) : B8 b := fun y hy => h y (List.mem_append_right _ hy)
theorem rd_nat (l : List Int) (i : Nat) (h : i < l.length) : rd l (i : Int) = l[i] := by
  simp [rd, List.getD, List.getElem?_eq_getElem h]
theorem rd_mem {l : List Int} {i : Int} (h0 : 0 ≤ i) (h1 : i < l.length) : rd l i ∈ l := by
  obtain ⟨n, rfl⟩ := Int.eq_ofNat_of_zero_le h0
  rw [rd_nat l n (by omega)]
  exact List.getElem_mem _
theorem str_size (l : List Int) : (strOfNums l).size = l.length := by simp [strOfNums, ByteArray.size]
theorem str_list (l : List Int) : (strOfNums l).toList = l.map fun n => UInt8.ofNat n.toNat := by
  rw [ByteArray.toList_eq]
  simp [strOfNums]
theorem str_bt (l : List Int) (h : B8 l) {i : Int} (h0 : 0 ≤ i) (h1 : i < l.length) : bt (strOfNums l) i = rd l i := by
  obtain ⟨n, rfl⟩ := Int.eq_ofNat_of_zero_le h0
  have hn : n < l.length := by omega
  have hs : n < (strOfNums l).size := by rw [str_size]; exact hn
  have hb := h _ (List.getElem_mem hn)
  rw [rd_nat l n hn]
  simp only [bt, Int.toNat_natCast, hs, dif_pos]
  have : (strOfNums l)[n] = UInt8.ofNat (l[n]).toNat := by
    show (strOfNums l).data[n]'_ = _
    simp [strOfNums]
  rw [this]
  simp
  omega
theorem str_inj {a b : List Int} (ha : B8 a) (hb : B8 b) (h : (strOfNums a).toList = (strOfNums b).toList) : a = b := by
  rw [str_list, str_list] at h
  have hl : a.length = b.length := by simpa using congrArg List.length h
  apply List.ext_getElem hl
  intro i h1 h2
  have := congrArg (fun l => l[i]?) h
  simp [h1, h2] at this
  have e := congrArg UInt8.toNat this
  simp at e
  have p := ha _ (List.getElem_mem h1)
  have q := hb _ (List.getElem_mem h2)
  omega
theorem of_size (s : ByteArray) : (bytesOf s).length = s.size := bytesOf_length s
theorem of_b8 (s : ByteArray) : B8 (bytesOf s) := fun y hy => by
  obtain ⟨b, _, rfl⟩ := List.mem_map.1 hy
  have := b.toNat_lt
  omega
theorem str_of (s : ByteArray) : strOfNums (bytesOf s) = s := by
  cases s with
  | mk d =>
    simp [strOfNums, bytesOf, List.map_map, Function.comp_def]
theorem wraps_u16 (n : Int) (h₀ : 0 ≤ n) (h₁ : n < 2 ^ 16) : IntKind.u16.wrap n = n := by rw [IntKind.wrap_u16]; omega
theorem wraps_u32 (n : Int) (h₀ : 0 ≤ n) (h₁ : n < 2 ^ 32) : IntKind.u32.wrap n = n := by rw [IntKind.wrap_u32]; omega
theorem or16 {a b : Int} (h0 : 0 ≤ a) (h1 : a < 256) (h2 : 0 ≤ b) (h3 : b < 256) : Go.bits .or .u16 (a * 256) b = a * 256 + b := by
  have e1 : 0 ≤ a * 256 := by omega
  have e2 : a * 256 % 2 ^ 8 = 0 := by omega
  have e3 : a * 256 < 2 ^ 16 := by omega
  have e4 : b < 2 ^ 8 := by omega
  have e5 : b < 2 ^ 16 := by omega
  exact bits_join .u16 16 (by decide) wraps_u16 8 (a * 256) b e1 e2 e3 h2 e4 e5
theorem or32 {a b : Int} (h0 : 0 ≤ a) (h1 : a < 65536) (h2 : 0 ≤ b) (h3 : b < 65536) : Go.bits .or .u32 (a * 65536) b = a * 65536 + b := by
  have e1 : 0 ≤ a * 65536 := by omega
  have e2 : a * 65536 % 2 ^ 16 = 0 := by omega
  have e3 : a * 65536 < 2 ^ 32 := by omega
  have e4 : b < 2 ^ 16 := by omega
  have e5 : b < 2 ^ 32 := by omega
  exact bits_join .u32 32 (by decide) wraps_u32 16 (a * 65536) b e1 e2 e3 h2 e4 e5
end Go.Proofs.Ytnikfeaggppmpaa.Base
