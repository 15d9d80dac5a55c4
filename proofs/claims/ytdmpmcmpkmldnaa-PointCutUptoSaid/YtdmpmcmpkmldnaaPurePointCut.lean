/-
  The law PointCut about numbers and lists alone: what is cut is a name and what stands behind it.
-/
import Derived.Test.YtdmpmcmpkmldnaaPureSaidPointCut
namespace Go.Proofs.Ytdmpmcmpkmldnaa.Pure
open Go.RowKit Go.Proofs.Ytdmpmcmpkmldnaa.PC Go.Proofs.YtdmpmcmpkmldnaaW.PrintWords Go.Proofs.YtdmpmcmpkmldnaaW.PrintLast Go.Proofs.Ytdmpmcmpkmldnaa.Base Go.Proofs.Ytdmpmcmpkmldnaa.Nam
set_option linter.unusedSimpArgs false
set_option linter.unusedVariables false

namespace PointCut_
theorem stop_ (k : Nat) (x0 : ByteArray) (i : Int) : bolterlaw03_PointCut.j2 (k + 1) x0 (strOfNums []) (strOfNums []) i false = some true := by
  simp only [bolterlaw03_PointCut.j2]
  have h0 : (strOfNums []).toList = ([] : List UInt8) := by first | kernel_rfl | decide | simp [strOfNums]
  rw [if_neg (by decide), if_pos h0, h0]
  rfl
theorem loop (x0 : ByteArray) (hs : x0.size ≤ 1048576) (hc : (cut (bytesOf x0)).2.2 = false) : ∀ (d i k : Nat), i + d = x0.size → 2 * d + 2 ≤ k → bolterlaw03_PointCut.l0 k x0 (strOfNums []) (strOfNums []) (i : Int) = some true := by
  intro d
  induction d with
  | zero =>
    intro i k hi hk
    obtain ⟨k, rfl⟩ : ∃ q, k = q + 1 + 1 := ⟨k - 2, by omega⟩
    rw [show bolterlaw03_PointCut.l0 (k + 1 + 1) x0 (strOfNums []) (strOfNums []) (i : Int) = (if (i : Int) < (x0.size : Int) then (bolterlaw03_PointCut.j2 (k + 1) x0 (strOfNums []) (strOfNums []) i (decide ((i : Int) < 300))) else (bolterlaw03_PointCut.j2 (k + 1) x0 (strOfNums []) (strOfNums []) i false)) by simp only [bolterlaw03_PointCut.l0]]
    rw [if_neg (by omega)]
    exact stop_ k x0 _
  | succ d ih =>
    intro i k hi hk
    obtain ⟨k, rfl⟩ : ∃ q, k = q + 1 + 1 := ⟨k - 2, by omega⟩
    rw [show bolterlaw03_PointCut.l0 (k + 1 + 1) x0 (strOfNums []) (strOfNums []) (i : Int) = (if (i : Int) < (x0.size : Int) then (bolterlaw03_PointCut.j2 (k + 1) x0 (strOfNums []) (strOfNums []) i (decide ((i : Int) < 300))) else (bolterlaw03_PointCut.j2 (k + 1) x0 (strOfNums []) (strOfNums []) i false)) by simp only [bolterlaw03_PointCut.l0]]
    rw [if_pos (by omega)]
    by_cases h3 : (i : Int) < 300
    · rw [decide_eq_true h3]
      have hw : wrap64 ((i : Int) + 1) = ((i + 1 : Nat) : Int) := by rw [w64 (by omega) (by omega)]; omega
      have hn := ih (i + 1) k (by omega) (by omega)
      simp only [bolterlaw03_PointCut.j2, if_true, hw, hn]
      rw [if_pos (by omega), if_pos (by omega)]
      by_cases hz : bt x0 (i : Int) = 0
      · rw [if_pos hz, if_pos (by omega)]
        have hm : name_May.f (x0.extract 0 ((i : Int)).toNat) = some false := by
          unfold name_May.f
          rw [if_pos (by rw [ByteArray.size_extract]; omega), bytes_ex]
          congr 1
          rw [List.drop_zero, show ((i : Int)).toNat = i by omega]
          have h0 : (bytesOf x0)[i]? = some 0 := by
            rw [bt_get x0 i (by omega), hz]
          obtain ⟨⟨a, b, c⟩, hcc⟩ : ∃ x, cut (bytesOf x0) = x := ⟨_, rfl⟩
          rw [hcc] at hc
          have hc : c = false := hc
          subst hc
          exact cut_not hcc i h0
        rw [hm]
        simp
      · rw [if_neg hz]
    · rw [decide_eq_false h3]
      exact stop_ k x0 _
theorem rest (x0 : ByteArray) (hs : x0.size ≤ 1048576) (k : Nat) (hk : 2 * x0.size + 2 ≤ k) : bolterlaw03_PointCut.j0 (k + 1) x0 false = some true := by
  have hcf : point_Cut.f x0 = some (strOfNums (cut (bytesOf x0)).1, strOfNums (cut (bytesOf x0)).2.1, (cut (bytesOf x0)).2.2) := if_pos (by omega)
  simp only [bolterlaw03_PointCut.j0, hcf, Option.bind_some]
  rw [if_neg (by decide)]
  obtain ⟨⟨a, b, c⟩, hcc⟩ : ∃ x, cut (bytesOf x0) = x := ⟨_, rfl⟩
  have hc8 := cut_b8 (of_b8 x0) hcc
  have hcl := cut_len hcc
  rw [of_size] at hcl
  rw [hcc]
  cases c with
  | false =>
    obtain ⟨rfl, rfl⟩ := cut_none hcc
    rw [if_neg (by decide)]
    exact loop x0 hs (by rw [hcc]) x0.size 0 k (by omega) (by omega)
  | true =>
    obtain ⟨h1, h2⟩ := cut_some hcc
    have hm : name_May.f (strOfNums a) = some true := by
      unfold name_May.f
      rw [if_pos (by rw [str_size]; omega), bytes_str hc8.1, h1]
    have hp : point_Plain.f (strOfNums a) = some (strOfNums a ++ (⟨#[0]⟩ : ByteArray)) := by
      unfold point_Plain.f
      rw [if_pos (by rw [str_size]; omega)]
    have hx : strOfNums a ++ (⟨#[0]⟩ : ByteArray) ++ strOfNums b = x0 := by
      rw [show (⟨#[0]⟩ : ByteArray) = strOfNums [0] from rfl, ← str_app, ← str_app]
      have := str_of x0
      rw [h2] at this
      rw [← this]
      congr 1
      simp
    rw [if_pos rfl, hm]
    simp only [Option.bind_some, if_true, hp, hx]
    have hz : (strOfNums a ++ (⟨#[0]⟩ : ByteArray)).size + (strOfNums b).size = x0.size := by rw [← ByteArray.size_append, hx]
    rw [if_pos (by omega)]
    simp
end PointCut_
open PointCut_
theorem PointCut : PureSaid.PointCut := by
  intro a0 l1 a2 hw0 hw1 hw2 hw3 hb
  have hb0 : a0.size + 1 + opn.bs (fun _ => 1) l1 + (a2.size + 1) ≤ 1048576 := hb
  have hl1 : l1.length ≤ opn.bs (fun _ => 1) l1 := by rw [opn.bs_one]; omega
  have h8 := B8.of_wf hw1
  refine ⟨2 * a0.size + 3, ?_⟩
  have hn : bolterlaw02_Name.f l1 = some (strOfNums (nameL l1)) := if_pos ⟨h8, by omega⟩
  have hnl := nameL_len l1
  have hp : point_Plain.f (strOfNums (nameL l1)) = some (strOfNums (nameL l1) ++ (⟨#[0]⟩ : ByteArray)) := by
    unfold point_Plain.f
    rw [if_pos (by rw [str_size]; omega)]
  have hsz : (strOfNums (nameL l1) ++ (⟨#[0]⟩ : ByteArray)).size = (nameL l1).length + 1 := by rw [ByteArray.size_append, str_size]; rfl
  have hc : point_Cut.f (strOfNums (nameL l1) ++ (⟨#[0]⟩ : ByteArray) ++ a2) = some (strOfNums (nameL l1), a2, true) := by
    unfold point_Cut.f
    rw [if_pos (by rw [ByteArray.size_append, hsz]; omega)]
    have e : bytesOf (strOfNums (nameL l1) ++ (⟨#[0]⟩ : ByteArray) ++ a2) = nameL l1 ++ 0 :: bytesOf a2 := by
      have e1 : strOfNums (nameL l1) ++ (⟨#[0]⟩ : ByteArray) ++ a2 = strOfNums (nameL l1 ++ 0 :: bytesOf a2) := by
        rw [show (⟨#[0]⟩ : ByteArray) = strOfNums [0] from rfl, ← str_app]
        conv => lhs; rw [← str_of a2, ← str_app]
        congr 1
        simp
      rw [e1, bytes_str]
      intro y hy
      rcases List.mem_append.1 hy with hy | hy
      · exact nameL_b8 l1 y hy
      · rcases List.mem_cons.1 hy with rfl | hy
        · omega
        · exact of_b8 a2 y hy
    rw [e, cut_name (nameL_nm l1), str_of]
  simp only [bolterlaw03_PointCut.f, bolterlaw03_awake.f, hn, hp, hc, Option.bind_some, if_true]
  rw [if_pos (by rw [hsz]; omega), if_pos (by rw [str_size]; omega)]
  rw [show ((strOfNums (nameL l1) ++ (⟨#[0]⟩ : ByteArray)).toList != (strOfNums (nameL l1) ++ (⟨#[0]⟩ : ByteArray)).toList) = false by simp]
  exact rest a0 (by omega) _ (by omega)

end Go.Proofs.Ytdmpmcmpkmldnaa.Pure
