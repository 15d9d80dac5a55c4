/-
  The law PointNone walked: what is no name is not written. No macro, syntax, notation, axiom, sorry.
-/
import Derived.Test.YtdmpmcmpkmldnaaPPx4
import Derived.Test.YtdmpmcmpkmldnaaPPx2
import Derived.Deep.QuietTactic
import Derived.BigQuiet
namespace Go.Proofs.Ytdmpmcmpkmldnaa.PP
open Go.RowKit Go.Proofs.YtdmpmcmpkmldnaaW.PrintWords Go.Proofs.YtdmpmcmpkmldnaaW.PrintLast Go.Proofs.Ytdmpmcmpkmldnaa.Base Go.Proofs.Ytdmpmcmpkmldnaa.Nam Go.Proofs.Ytdmpmcmpkmldnaa.Trn Go.Proofs.Ytdmpmcmpkmldnaa.MapS Go.Proofs.Ytdmpmcmpkmldnaa.Wr Go.Proofs.Ytdmpmcmpkmldnaa.Rd
set_option linter.unusedVariables false
set_option linter.unusedSimpArgs false
set_option maxRecDepth 100000

theorem wN_fresh : ∀ (ls : List (List Int)) (bs : List Int) (f : List Int → Option Int), (∀ x, x.length ≤ (lay ls).length → f x = none) → (wN bs f ls).1 = bs ++ lay ls ++ [0]
  | [], bs, f, h => by simp [wN, lay]
  | l :: ls, bs, f, h => by
    rw [wN_new (h _ (Nat.le_refl _)), wN_fresh ls]
    · simp [lay]
    · intro x hx
      have h1 : x.length < (lay (l :: ls)).length := by rw [lay_cons]; simp; omega
      have h2 := h x (by omega)
      split
      · unfold upd
        rw [if_neg (by rintro rfl; omega)]
        exact h2
      · exact h2
theorem nm_b8 {n : List Int} (h : nm n = true) (hb : B8 n) : ∃ ls, n = lay ls ∧ (∀ x ∈ ls, Lab x) ∧ (∀ x ∈ ls, fold x = x) ∧ (lay ls).length ≤ 254 ∧ ∀ x ∈ ls, B8 x := by
  obtain ⟨ls, rfl, h1, h2, h3⟩ := nm_labs h
  refine ⟨ls, rfl, h1, h2, h3, fun x hx y hy => hb y ?_⟩
  unfold lay
  rw [List.mem_flatMap]
  exact ⟨x, hx, List.mem_cons_of_mem _ hy⟩
def bolterlaw03_PointNone.f (a0 : ByteArray) : Option Bool := if a0.size ≤ 1048576 then some true else none
set_option maxHeartbeats 2000000 in
theorem bolterlaw03_PointNone.calls (a0 : ByteArray) (r : Bool) (w : World) (h : bolterlaw03_PointNone.f a0 = some r) :
    Calls Try.prog 6 #[.string a0] w fun e w' => e = .returned (.bool r) ∧ Below w.heap.size w w' := by
  unfold bolterlaw03_PointNone.f at h
  by_cases hc : a0.size ≤ 1048576
  case neg => rw [if_neg hc] at h; cases h
  rw [if_pos hc] at h
  obtain rfl := Option.some.inj h
  clear h
  have ha := str_of a0
  obtain ⟨n, hn⟩ : ∃ n, bytesOf a0 = n := ⟨_, rfl⟩
  have hn8 : B8 n := by rw [← hn]; exact of_b8 a0
  have hsz : n.length ≤ 1048576 := by rw [← hn, of_size]; exact hc
  rw [hn] at ha
  subst ha
  clear hn hc
  have HN8 := Lib.hid hn8
  have HM := Lib.hid (fun w => may_ (strOfNums n) (by rw [str_size]; omega) w)
  have HBY := Lib.hid (bytes_str hn8)
  clear hn8
  go_enter Try.func6, Try.ntmps6
  go_wp2_with fail
  refine (awake_ w).mono ?_
  rintro e w1 ⟨rfl, hb⟩
  have HB := Lib.hid hb
  clear hb
  go_wp2_with fail
  obtain ⟨w2, hw2⟩ : ∃ w2, w1.alloc (.cells #[.int .u8 7] 5) = w2 := ⟨_, rfl⟩
  have hown : w2.ownsRow w.heap.size 5 1 (.slice (some ⟨w1.heap.size, 0, none⟩) 1 1) [(7 : Int)].length (nums .u8 [7]) := by
    rw [← hw2]
    exact own_lit_of (enc := Value.int .u8) w1 w.heap.size 5 [(7 : Int)] HB.out.size (by simp)
  have hs2 : w2.heap.size = w1.heap.size + 1 := by rw [← hw2]; simp
  have hb2 : Below w.heap.size w w2 := by rw [← hw2]; exact below_alloc HB.out _
  obtain ⟨F, hW, hF⟩ := Wr.freshOf w2 (base := w.heap.size) (by have := HB.out.size; omega) hown
  obtain ⟨g, hg⟩ : ∃ g, w1.heap.size + 1 = g := ⟨_, rfl⟩
  rw [hs2, hg] at hW
  rw [hw2, hg]
  have HFB := Lib.hid (show ∀ k ∈ F, w.heap.size ≤ k from fun k hk => (hW.foot k hk).1)
  have HW := Lib.hid hW
  have hb3 := below_alloc hb2 (.cells #[.slice (some ⟨w1.heap.size, 0, none⟩) 1 1, .map none] 33)
  obtain ⟨w3, hw3⟩ : ∃ w3, w2.alloc (.cells #[.slice (some ⟨w1.heap.size, 0, none⟩) 1 1, .map none] 33) = w3 := ⟨_, rfl⟩
  rw [hw3] at HW hb3 ⊢
  have HB3 := Lib.hid hb3
  clear hb3 hw3 hw2 hg hs2 hb2 hown hF hW
  cases hn : nm n with
  | false =>
    have HNM := Lib.hid hn
    clear hn
    with_reducible refine (name_no HW.out n HN8.out HNM.out (by omega)).mono ?_
    rintro e w4 ⟨rfl, hb⟩
    have HW4 := Lib.hid (HW.out.below hb)
    have HB4 := Lib.hid (HB3.out.trans (hb.mono HB3.out.size))
    clear hb
    go_wp2_with fail
    with_reducible refine (HM.out w4).mono ?_
    rintro e w5 ⟨rfl, hb⟩
    rw [HBY.out, HNM.out]
    have HW5 := Lib.hid (HW4.out.below hb)
    have HB5 := Lib.hid (HB4.out.trans (hb.mono HB4.out.size))
    clear hb
    obtain ⟨A, c, hc0, hf0, ho, -⟩ := HW5.out.cell
    have hc0 : w5.cell? ⟨g, 0, none⟩ = some (.slice A 1 c) := hc0
    obtain ⟨g1, cap, hv, hle, -⟩ : ∃ g1 cap, (Value.slice A 1 c) = .slice (some ⟨g1, 0, none⟩) 1 cap ∧ 1 ≤ cap ∧ True := by
      rcases ho.2 with ⟨_, h0⟩ | ⟨g1, cap, cur, hv, h1, h2, h3, h4⟩
      · cases h0
      · exact ⟨g1, cap, hv, h3, trivial⟩
    injection hv with e1 _ e3
    subst e1 e3
    have hc1 : w5.cell? ⟨g1, 0, none⟩ = some (.int .u8 7) := by
      have := ho.cells (g := g1) rfl 0 (.int .u8 7) rfl
      exact this
    clear hf0 ho
    go_wp2
    go_ret
    exact ⟨by first | rfl | simp, HB5.out⟩
  | true =>
    obtain ⟨ls, rfl, h1, h2, h3, h4⟩ := nm_b8 hn HN8.out
    have HNM := Lib.hid hn
    clear hn
    with_reducible refine (name_yes HW.out ls h1 h2 h3 h4 (by decide)).mono ?_
    rintro e w4 ⟨rfl, F4, hW4, hF4, hT⟩
    rw [wN_fresh ls [7] _ (fun _ _ => rfl)] at hW4
    have HB4 := Lib.hid (HB3.out.trans (hT.below HFB.out HB3.out.size))
    have HW4 := Lib.hid hW4
    clear hW4 hF4 hT h1 h2 h4
    go_wp2_with fail
    with_reducible refine (HM.out w4).mono ?_
    rintro e w5 ⟨rfl, hb⟩
    rw [HBY.out, HNM.out]
    have HW5 := Lib.hid (HW4.out.below hb)
    have HB5 := Lib.hid (HB4.out.trans (hb.mono HB4.out.size))
    clear hb
    obtain ⟨z, hz⟩ : ∃ z, [7] ++ lay ls ++ [0] = z := ⟨_, rfl⟩
    have HZ := Lib.hid hz
    rw [hz] at HW5
    clear hz
    obtain ⟨A, c, hc0, hf0, ho, -⟩ := HW5.out.cell
    have hc0d := fun m_ : Nat => (show (w5.drewN m_).cell? ⟨g, 0, none⟩ = _ from hc0)
    have hcv := fun m_ : Nat => own_string (P := Try.prog) Try.underlying30 Try.underlying5 Try.underlying9 (pw_own_drewN ho m_)
    have hpl : point_Plain.f (strOfNums (lay ls)) = some (strOfNums (lay ls ++ [0])) := by
      unfold point_Plain.f
      rw [if_pos (by rw [str_size]; omega), str_app]
      rfl
    have HPL := Lib.hid hpl
    have hsum : (⟨#[7]⟩ : ByteArray) ++ strOfNums (lay ls ++ [0]) = strOfNums z := by
      rw [← HZ.out, show (⟨#[7]⟩ : ByteArray) = strOfNums [7] from rfl, ← str_app]
      simp
    have hov : ¬ 9223372036854775807 < (⟨#[7]⟩ : ByteArray).size + (strOfNums (lay ls ++ [0])).size := by
      rw [str_size]
      simp
      show 1 + _ ≤ _
      omega
    clear hf0 ho hpl
    go_wp2
    go_quiet ((go_at_call 14; exact Calls.quiet_of ((point_Plain.calls _ _ _ HPL.out).mono fun e w6 h => ⟨h.1, h.2.out⟩)))
    go_wp2
    go_ret
    exact ⟨by first | rfl | simp, pw_below_drewN HB5.out _⟩
end Go.Proofs.Ytdmpmcmpkmldnaa.PP
