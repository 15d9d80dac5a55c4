/-
  The law JournalNone walked: a journal on a device without segments has nothing to read, or to recover. No macro, syntax, notation, axiom, sorry.
-/
import Derived.Test.YtklliflmdckadaaPJx5
namespace Go.Proofs.Ytklliflmdckadaa.PJ
open Go.RowKit Go.Proofs.YtklliflmdckadaaW.PrintWords Go.Proofs.YtklliflmdckadaaW.PrintLast Go.Proofs.Ytklliflmdckadaa.DevW Go.Proofs.Ytklliflmdckadaa.DevC
set_option linter.unusedVariables false
set_option linter.unusedSimpArgs false
set_option maxRecDepth 100000

/-- So many segments begun. -/
def jbegun : Nat → St
  | 0 => []
  | k + 1 => dbegin (jbegun k)
theorem jbegun_len (k : Nat) : (jbegun k).length = k := by
  induction k with
  | zero => rfl
  | succ k ih => rw [jbegun, dbegin_len, ih]
theorem jbegun_all (k : Nat) : ∀ b s, (b, s) ∈ jbegun k → b = [] ∧ s = 0 := by
  induction k with
  | zero => intro b s h; cases h
  | succ k ih =>
    intro b s h
    unfold jbegun dbegin at h
    rcases List.mem_append.1 h with h | h
    · obtain ⟨x, hx, he⟩ := List.mem_map.1 h
      injection he with h1 h2
      have := ih x.1 x.2 hx
      subst h1 h2
      rw [this.1]
      exact ⟨rfl, rfl⟩
    · simp at h
      exact h
theorem jbegun_total (k : Nat) : total (jbegun k) = 0 := by
  induction k with
  | zero => rfl
  | succ k ih => rw [jbegun, dbegin_total, ih]
theorem jrec_len (A : List Int → List (List Int) × Int) (st : St) : (jrec A st).length = st.length := by
  unfold jrec
  split
  · rfl
  · unfold dcut; rw [dsync_len, onLast_len]
def bolterlaw24_JournalNone.f (a0 : Int) : Option Bool := if 0 ≤ a0 ∧ a0 < 256 then some true else none
set_option maxHeartbeats 8000000 in
theorem bolterlaw24_JournalNone.calls (a0 : Int) (r : Bool) (w : World) (h : bolterlaw24_JournalNone.f a0 = some r) :
    Calls Try.prog 4 #[.int .u8 a0] w fun e w' => e = .returned (.bool r) ∧ Below w.heap.size w w' := by
  unfold bolterlaw24_JournalNone.f at h
  by_cases hc : 0 ≤ a0 ∧ a0 < 256
  case neg => rw [if_neg hc] at h; cases h
  rw [if_pos hc] at h
  obtain rfl := Option.some.inj h
  clear h
  obtain ⟨h0, h1⟩ := hc
  obtain ⟨z, rfl⟩ := Int.eq_ofNat_of_zero_le h0
  obtain ⟨y, hy⟩ : ∃ y, z % 5 = y := ⟨_, rfl⟩
  have hy5 : y < 5 := by omega
  have hn : Int.tmod (z : Int) 5 = (y : Int) := by rw [← hy]; rfl
  have hn3 : (z : Int) % 5 = (y : Int) := by omega
  have hn4 : IntKind.u8.wrap (y : Int) = (y : Int) := by unfold IntKind.wrap; simp [IntKind.bits, IntKind.signed]; omega
  have A0 : frame_All.f 20 [] = some ([], 0) := by kernel_rfl
  have HA := Lib.hid A0
  have HY := Lib.hid hy
  clear A0 hy
  go_enter Try.func4, Try.ntmps4
  go_wp2_with fail
  refine (awake w).mono ?_
  rintro e w1 ⟨rfl, hB⟩
  have HJ0 := Lib.hid (JL.fresh (Live.fresh w w1 hB))
  clear hB
  go_wp2_with fail
  refine (of_ _ _).mono ?_
  rintro e w2 ⟨rfl, rfl⟩
  obtain ⟨gj, hgj⟩ : ∃ gj, (w1.alloc (.cells #[.slice none 0 0, .int .i64 0] 30)).heap.size = gj := ⟨_, rfl⟩
  rw [hgj] at HJ0 ⊢
  obtain ⟨w2, hw2⟩ : ∃ w2, (w1.alloc (.cells #[.slice none 0 0, .int .i64 0] 30)).alloc (.cells #[.pointer (some ⟨w1.heap.size, 0, none⟩)] 37) = w2 := ⟨_, rfl⟩
  rw [hw2] at HJ0 ⊢
  clear hgj hw2
  obtain ⟨g, hg⟩ : ∃ g, w1.heap.size = g := ⟨_, rfl⟩
  rw [hg] at HJ0 ⊢
  obtain ⟨F0, hF0⟩ : ∃ F0, [g] = F0 := ⟨_, rfl⟩
  rw [hF0] at HJ0
  clear hg hF0
  have c0 := HJ0.out.cell
  go_wp2_with fail
  refine (read_ HJ0.out.live (by decide) (by intro b s h; cases h) (fun _ => ([], 0)) (by intro b h; cases h) (by decide)).mono ?_
  rintro e w3 ⟨v, rfl, hV, hb⟩
  change Kd.V _ _ w3 0 _ v [] at hV
  obtain ⟨A8, c8, hv⟩ := Kd.V_slice hV
  change v = .slice A8 0 c8 at hv
  subst hv
  have HJ3 := Lib.hid (HJ0.out.below hb)
  have hwh : jwhole (fun _ => (([] : List (List Int)), (0 : Int))) (dsegs []) = true := rfl
  rw [hwh]
  clear hV hb c0 hwh
  go_wp2_with fail
  refine (recover_ HJ3.out (by decide) (by intro b s h; cases h) (by decide) (fun _ => ([], 0)) (by intro b s h; cases h)).mono ?_
  rintro e w4 ⟨rfl, F4, hJ, ht, hF⟩
  change JL w w4 gj g F4 [] 0 at hJ
  have HJ4 := Lib.hid hJ
  have hz : jgone (fun _ => (([] : List (List Int)), (0 : Int))) [] = 0 := rfl
  rw [hz]
  clear hJ ht hF HJ3 hz
  go_wp2_with fail
  refine (live_segments HJ4.out.live (by decide) (by intro b s h; cases h)).mono ?_
  rintro e w5 ⟨v, rfl, hR, hB⟩
  obtain ⟨As, cs, hv⟩ := Kd.R_slice hR
  change v = .slice As 0 cs at hv
  subst hv
  have HJ5 := Lib.hid (HJ4.out.below hB)
  clear hR hB HJ4
  go_wp2_with fail
  go_loopw [7] (fun v7 wx => ∃ k : Nat, k ≤ y ∧ v7 = .int .i64 k ∧ Aside0 (∃ F', JL w wx gj g F' (jbegun k) 0))
    (fun v7 _ => y - (intOf v7).toNat)
  case atStart => exact ⟨0, Nat.zero_le _, rfl, ⟨F4, HJ5.out⟩⟩
  case round =>
    obtain ⟨k, hk, rfl, hJJ⟩ := hrel
    obtain ⟨F', hJ⟩ := hJJ.out
    have HJ6 := Lib.hid hJ
    have c6 := hJ.cell
    clear hJ hJJ
    by_cases hlt : k < y
    · have d1 : decide ((k : Int) < (y : Int)) = true := decide_eq_true (by omega)
      go_wp2_with fail
      refine (live_begin HJ6.out.live (by rw [jbegun_len]; omega)).mono ?_
      rintro e w7 ⟨rfl, F7, hL, ht, hF⟩
      have HJ7 := Lib.hid (HJ6.out.next hL ht hF)
      clear hL ht hF c6
      go_wp2
      go_roundw
      case rel => exact ⟨k + 1, by omega, by go_num, ⟨F7, HJ7.out⟩⟩
      case measure => simp [intOf]; omega
    · have hky : k = y := by omega
      subst hky
      have d1 : decide ((k : Int) < (k : Int)) = false := decide_eq_false (by omega)
      have hlen := jbegun_len k
      have hall := jbegun_all k
      have htot := jbegun_total k
      obtain ⟨st, hst⟩ : ∃ st, jbegun k = st := ⟨_, rfl⟩
      rw [hst] at HJ6 hlen hall htot
      have HALL := Lib.hid hall
      have HTOT := Lib.hid htot
      have HLEN := Lib.hid hlen
      have hjt : jtold (fun _ => (([] : List (List Int)), (0 : Int))) (dsegs st) = [] := by unfold jtold; simp
      have hjw : jwhole (fun _ => (([] : List (List Int)), (0 : Int))) (dsegs st) = true := by
        unfold jwhole
        refine List.all_eq_true.2 fun b hb => ?_
        obtain ⟨x, hx, rfl⟩ := List.mem_map.1 hb
        rw [(hall x.1 x.2 hx).1]
        rfl
      have hjg : jgone (fun _ => (([] : List (List Int)), (0 : Int))) st = 0 := by
        unfold jgone
        split
        · rfl
        · rename_i x hx
          rw [(hall x.1 x.2 (List.mem_of_getElem? hx)).1]
          rfl
      have hjl := jrec_len (fun _ => (([] : List (List Int)), (0 : Int))) st
      have JT := Lib.hid hjt
      have JW := Lib.hid hjw
      have JG := Lib.hid hjg
      have JR := Lib.hid hjl
      clear hlen hall htot hst hjt hjw hjg hjl
      go_wp2_with fail
      refine (read_ HJ6.out.live (by have := HLEN.out; omega) (by intro b s h; rw [(HALL.out b s h).1]; decide) (fun _ => ([], 0)) (by intro b h; obtain ⟨x, hx, rfl⟩ := List.mem_map.1 h; rw [(HALL.out x.1 x.2 hx).1]; exact ⟨20, HA.out⟩) (by rw [JT.out]; decide)).mono ?_
      rintro e w7 ⟨v, rfl, hV, hb⟩
      rw [JT.out] at hV
      rw [JW.out]
      obtain ⟨A9, c9, hv⟩ := Kd.V_slice hV
      change v = .slice A9 0 c9 at hv
      subst hv
      have HJ7 := Lib.hid (HJ6.out.below hb)
      clear hV hb c6
      go_wp2_with fail
      refine (recover_ HJ7.out (by have := HLEN.out; omega) (by intro b s h; have := HALL.out b s h; rw [this.1, this.2]; decide) (by rw [HTOT.out]; decide) (fun _ => ([], 0)) (by intro b s h; rw [(HALL.out b s (List.mem_of_getElem? h)).1]; exact ⟨⟨20, HA.out⟩, by decide, by decide⟩)).mono ?_
      rintro e w8 ⟨rfl, F8, hJ, ht, hF⟩
      rw [JG.out]
      have HJ8 := Lib.hid hJ
      clear hJ ht hF HJ7
      go_wp2_with fail
      refine (live_segments HJ8.out.live (by rw [JR.out, HLEN.out]; omega) (by intro b s h; have h1 := total_mem h; have h2 : total (jrec (fun _ => ([], 0)) st) ≤ total st := (by unfold jrec; split; exact Nat.le_refl _; rw [dsync_total]; exact dcut_total _ _); have h3 := HTOT.out; omega)).mono ?_
      rintro e w9 ⟨v, rfl, hR, hB⟩
      obtain ⟨As9, cs9, hv⟩ := Kd.R_slice hR
      rw [dsegs_len, JR.out, HLEN.out] at hv
      subst hv
      have HJ9 := Lib.hid (HJ8.out.below hB)
      clear hR hB HJ8
      go_wp2
      go_ret
      exact ⟨by first | rfl | simp, HJ9.out.live.base⟩
end Go.Proofs.Ytklliflmdckadaa.PJ
