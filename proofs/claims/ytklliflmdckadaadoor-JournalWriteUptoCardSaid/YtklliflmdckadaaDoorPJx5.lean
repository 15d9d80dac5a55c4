/-
  (*journal.Journal).Recover, and the law's examples, by hand. No macro, syntax, notation, axiom, sorry.
-/
import Derived.Test.YtklliflmdckadaaDoorPJx4
namespace Go.Proofs.YtklliflmdckadaaDoor.PJ
open Go.RowKit Go.Proofs.YtklliflmdckadaaDoorW.PrintWords Go.Proofs.YtklliflmdckadaaDoorW.PrintLast Go.Proofs.YtklliflmdckadaaDoor.DevW Go.Proofs.YtklliflmdckadaaDoor.DevC
set_option linter.unusedVariables false
set_option linter.unusedSimpArgs false
set_option maxRecDepth 100000

/-- What is left when what is torn is gone; and how much that is. -/
def jrec (A : List Int → List (List Int) × Int) (st : St) : St := match st[st.length - 1]? with | none => st | some x => dsync (dcut st (A x.1).2)
def jgone (A : List Int → List (List Int) × Int) (st : St) : Int := match st[st.length - 1]? with | none => 0 | some x => (x.1.length : Int) - (A x.1).2
theorem dcut_total (st : St) (n : Int) : total (dcut st n) ≤ total st := by
  rcases snoc_cases st with rfl | ⟨r, x, rfl⟩
  · exact Nat.le_refl _
  · unfold dcut
    rw [onLast_snoc, total_snoc, total_snoc, List.length_take]
    omega
theorem onLast_len (f : List Int × Int → List Int × Int) (st : St) : (onLast f st).length = st.length := by
  rcases snoc_cases st with rfl | ⟨r, x, rfl⟩
  · rfl
  · rw [onLast_snoc]; simp

set_option maxHeartbeats 8000000 in
/-- (*journal.Journal).Recover -/
theorem recover_ {w0 w : World} {gj g : Nat} {F : List Nat} {st : St} {nw : Int} (h : JL w0 w gj g F st nw) (hl : st.length ≤ 1000000000) (hf : Fine st) (hbt : total st ≤ 1099511627776)
    (A : List Int → List (List Int) × Int) (hA : ∀ b s, st[st.length - 1]? = some (b, s) → (∃ k, frame_All.f k b = some (A b)) ∧ 0 ≤ (A b).2 ∧ (A b).2 ≤ b.length) :
    Calls Tryd.prog 13 #[.pointer (some ⟨gj, 0, none⟩)] w fun e w' => e = .returned (.int .i64 (jgone A st)) ∧ ∃ F', JL w0 w' gj g F' (jrec A st) nw ∧ Turned F w w' ∧ ∀ k ∈ F', k ∈ F ∨ w.heap.size ≤ k := by
  have HJ := Lib.hid h
  have c1 := h.cell
  have HF := Lib.hid hf
  have hbb : ∀ b s, (b, s) ∈ st → b.length ≤ 140737488355328 := by intro b s hm; have := total_mem hm; omega
  have HBB := Lib.hid hbb
  clear h hf hbb
  by_cases h0 : st.length = 0
  · have hst : st = [] := List.eq_nil_of_length_eq_zero h0
    subst hst
    clear h0 hA hbt hl
    go_enter Tryd.func13, Tryd.ntmps13
    go_wp2_with fail
    refine (live_segments HJ.out.live (by decide) HBB.out).mono ?_
    rintro e w2 ⟨v, rfl, hR, hB⟩
    obtain ⟨As, cs, hv⟩ := Kd.R_slice hR
    change v = .slice As 0 cs at hv
    subst hv
    have HJ2 := Lib.hid (HJ.out.below hB)
    have HT2 := Lib.hid (Turned.of_below hB F)
    clear hR hB
    go_wp2
    go_ret
    exact ⟨rfl, F, HJ2.out, HT2.out, fun k hk => .inl hk⟩
  · obtain ⟨n, hn⟩ : ∃ n, st.length = n + 1 := ⟨st.length - 1, by omega⟩
    obtain ⟨⟨b, s⟩, hx⟩ : ∃ x, st[n]? = some x := ⟨_, List.getElem?_eq_getElem (by omega)⟩
    have hx' : st[st.length - 1]? = some (b, s) := by rw [hn]; exact hx
    obtain ⟨⟨k, hk⟩, ha0, ha1⟩ := hA b s hx'
    have hbl : b.length ≤ 140737488355328 := HBB.out b s (List.mem_of_getElem? hx)
    obtain ⟨a1, a2, ha⟩ : ∃ a1 a2, A b = (a1, a2) := ⟨_, _, rfl⟩
    have hg : jgone A st = (b.length : Int) - a2 := by unfold jgone; rw [hx', ← show (A b).2 = a2 by rw [ha]]
    have hr : jrec A st = dsync (dcut st a2) := by unfold jrec; rw [hx', ← show (A b).2 = a2 by rw [ha]]
    rw [ha] at hk ha0 ha1
    simp only at ha0 ha1
    rw [hg, hr]
    have HK := Lib.hid hk
    have HX := Lib.hid hx
    have HBT := Lib.hid hbt
    have HN := Lib.hid hn
    have hnl : n + 1 ≤ 1000000000 := by omega
    have s1 : (((n + 1 : Nat)) : Int) - 1 = (n : Int) := by omega
    have s2 : (n : Int) + 1 - 1 = (n : Int) := by omega
    have hw1 : IntKind.i64.wrap ((b.length : Int) - a2) = (b.length : Int) - a2 := by rw [Go.Proofs.YtklliflmdckadaaDoor.DevC.i64_w]; unfold wrap64; omega
    have hw2 : wrap64 ((b.length : Int) - a2) = (b.length : Int) - a2 := by unfold wrap64; omega
    clear hA hx hx' hk hg hr ha hbt hn
    go_enter Tryd.func13, Tryd.ntmps13
    go_wp2_with fail
    refine (live_segments HJ.out.live (by omega) HBB.out).mono ?_
    rintro e w2 ⟨v, rfl, hR, hB⟩
    obtain ⟨As, cs, hv⟩ := Kd.R_slice hR
    rw [dsegs_len, HN.out] at hv
    subst hv
    have hg : (dsegs st)[n]? = some b := by unfold dsegs; rw [List.getElem?_map, HX.out]; rfl
    obtain ⟨ad, Ax, cx, hAs, hcell, hcx, hF⟩ := V_row (Kd.R_V (base' := 0) hR) n b hg
    subst hAs
    have HJ2 := Lib.hid (HJ.out.below hB)
    have c2 := HJ2.out.cell
    have HB2 := Lib.hid hB
    have HFF := Lib.hid hF
    clear hR hB hg hF c1
    go_wp2_with fail
    refine (frame_All.calls k (fun _ => True) Ax cx b a1 a2 w2 (Kd.V_mk hcx (Kd.F_mono HFF.out (fun _ _ => trivial))) HK.out).mono ?_
    rintro e w3 ⟨vf, rfl, hS, hb⟩
    obtain ⟨Af, cf, hvf⟩ := Kd.R_slice (Kd.S_R hS)
    subst hvf
    have HJ3 := Lib.hid (HJ2.out.below hb)
    have c3 := HJ3.out.cell
    have HB3 := Lib.hid (HB2.out.trans (hb.mono HB2.out.size))
    clear hS hb HFF hcell c2
    go_wp2_with fail
    refine (live_cut HJ3.out.live (by have := HN.out; omega) a2 (by intro b s hm; have := HF.out b s hm; exact ⟨this.1, this.2, HBB.out b s hm⟩)).mono ?_
    rintro e w4 ⟨rfl, F4, hL4, ht4, hF4⟩
    have HJ4 := Lib.hid (HJ3.out.next hL4 ht4 hF4)
    have c4 := HJ4.out.cell
    have HT4 := Lib.hid ht4
    have HF4 := Lib.hid hF4
    clear hL4 ht4 hF4 c3
    go_wp2_with fail
    refine (live_sync HJ4.out.live (by unfold dcut; rw [onLast_len]; have := HN.out; omega)).mono ?_
    rintro e w5 ⟨rfl, F5, hL5, ht5, hF5⟩
    have HJ5 := Lib.hid (HJ4.out.next hL5 ht5 hF5)
    have hsz : w.heap.size ≤ w3.heap.size := HB3.out.size
    have hF4' : ∀ k ∈ F4, k ∈ F ∨ w.heap.size ≤ k := fun k hk => (HF4.out k hk).elim .inl (fun h => .inr (Nat.le_trans hsz h))
    have HT5 := Lib.hid (((Turned.of_below HB3.out F).trans HT4.out (fun b hb => .inl hb)).trans ht5 hF4')
    have HF5 := Lib.hid (foot_trans (w := w) (F := F) (Nat.le_trans hsz HT4.out.size) hF4' hF5)
    clear hL5 ht5 hF5 hF4' hsz c4
    go_wp2
    go_ret
    exact ⟨rfl, F5, HJ5.out, HT5.out, HF5.out⟩

set_option maxHeartbeats 8000000 in
theorem awake (w : World) :
    Calls Tryd.prog 4 #[] w fun e w' => e = .returned (.bool true) ∧ Below w.heap.size w w' := by
  have kc := fun (w : World) (C : Array Value) (n c : Nat) => Go.Lib.run_convert_bytes_const (P := Tryd.prog) w 32 5 C n c Tryd.underlying32 Tryd.underlying5
  obtain ⟨fa, hfa⟩ : ∃ fa : List Int, fa = [0, 1, 255, 254, 97, 97, 97] := ⟨_, rfl⟩
  obtain ⟨fb, hfb⟩ : ∃ fb : List Int, fb = [0, 1, 255, 254, 98, 98, 98] := ⟨_, rfl⟩
  have m1 : frame_Make.f 20 [97] = some (fa, true) := by rw [hfa]; kernel_rfl
  have m2 : frame_Make.f 20 [98] = some (fb, true) := by rw [hfb]; kernel_rfl
  obtain ⟨fc, hfc⟩ : ∃ fc : List Int, fc = [0, 1, 255, 254, 97, 97, 97, 0, 1, 255] := ⟨_, rfl⟩
  have a1 : frame_All.f 20 fc = some ([[97]], 7) := by rw [hfc]; kernel_rfl
  have a2 : frame_All.f 20 fa = some ([[97]], 7) := by rw [hfa]; kernel_rfl
  have e1 : jwrite [] fa = [(fa, 0)] := by rw [hfa]; decide
  have e2 : dsync [(fa, 0)] = [(fa, 7)] := by rw [hfa]; decide
  have e3 : jwrite [(fa, 7)] fb = [(fa ++ fb, 7)] := by rw [hfa, hfb]; decide
  have e4 : dcrash [(fa ++ fb, 7)] 3 = [(fc, 10)] := by rw [hfa, hfb, hfc]; decide
  have e5 : jrec (fun _ => ([[97]], 7)) [(fc, 10)] = [(fa, 7)] := by rw [hfa, hfc]; decide
  have e6 : jgone (fun _ => ([[97]], 7)) [(fc, 10)] = 3 := by rw [hfc]; decide
  have la : fa.length = 7 := by rw [hfa]; rfl
  have lb : fb.length = 7 := by rw [hfb]; rfl
  have lc : fc.length = 10 := by rw [hfc]; rfl
  have HM1 := Lib.hid m1
  have HM2 := Lib.hid m2
  have HA1 := Lib.hid a1
  have HA2 := Lib.hid a2
  have E1 := Lib.hid e1
  have E2 := Lib.hid e2
  have E3 := Lib.hid e3
  have E4 := Lib.hid e4
  have E5 := Lib.hid e5
  have E6 := Lib.hid e6
  have LA := Lib.hid la
  have LB := Lib.hid lb
  have LC := Lib.hid lc
  clear hfa hfb hfc m1 m2 a1 a2 e1 e2 e3 e4 e5 e6 la lb lc
  have hL0 := Live.fresh w w (Below.refl _ _)
  have HJ0 := Lib.hid (JL.fresh hL0)
  clear hL0
  go_enter Tryd.func4, Tryd.ntmps4
  go_wp2_with fail
  refine (of_ _ _).mono ?_
  rintro e w2 ⟨rfl, rfl⟩
  obtain ⟨gj, hgj⟩ : ∃ gj, (w.alloc (.cells #[.slice none 0 0, .int .i64 0] 29)).heap.size = gj := ⟨_, rfl⟩
  rw [hgj] at HJ0 ⊢
  obtain ⟨w2, hw2⟩ : ∃ w2, (w.alloc (.cells #[.slice none 0 0, .int .i64 0] 29)).alloc (.cells #[.pointer (some ⟨w.heap.size, 0, none⟩)] 46) = w2 := ⟨_, rfl⟩
  rw [hw2] at HJ0 ⊢
  clear hgj hw2
  have c0 := HJ0.out.cell
  have k1 := kc w2 #[.int .u8 97] 1 1
  have HC := Lib.hid (Go.Proofs.YtklliflmdckadaaDoorW.HandW.marked_C w2 5 [97] (1, 2) (by decide))
  have HJ1 := Lib.hid (HJ0.out.below (below_alloc (Below.refl _ _) (.cells (nums .u8 [97]).toArray 5 (1, 2))))
  go_wp2_with fail
  refine (write_ HJ1.out (by decide) (by decide) (by decide) _ _ [97] fa (by decide) HC.out 20 HM1.out (by rw [LA.out]; decide)).mono ?_
  rintro e w3 ⟨rfl, F3, hJ, ht, hF⟩
  rw [E1.out] at hJ
  have HJ3 := Lib.hid hJ
  have c3 := hJ.cell
  clear hJ ht hF HJ0 HJ1 HC c0 k1
  go_wp2_with fail
  refine (live_sync HJ3.out.live (by show (1 : Nat) ≤ _; decide)).mono ?_
  rintro e w4 ⟨rfl, F4, hL, ht, hF⟩
  rw [E2.out] at hL
  have HJ4 := Lib.hid (HJ3.out.next hL ht hF)
  clear hL ht hF HJ3 c3
  have k2 := kc w4 #[.int .u8 98] 1 1
  have HC := Lib.hid (Go.Proofs.YtklliflmdckadaaDoorW.HandW.marked_C w4 5 [98] (1, 2) (by decide))
  have HJ5 := Lib.hid (HJ4.out.below (below_alloc (Below.refl _ _) (.cells (nums .u8 [98]).toArray 5 (1, 2))))
  go_wp2_with fail
  refine (write_ HJ5.out (by show (1 : Nat) ≤ _; decide) (by decide) (by decide) _ _ [98] fb (by decide) HC.out 20 HM2.out (by have h1 := LA.out; have h2 := LB.out; simp [total]; omega)).mono ?_
  rintro e w5 ⟨rfl, F5, hJ, ht, hF⟩
  rw [E3.out] at hJ
  have HJ6 := Lib.hid hJ
  have c6 := hJ.cell
  clear hJ ht hF HJ4 HJ5 HC k2
  go_wp2_with fail
  refine (live_crash HJ6.out.live (by show (1 : Nat) ≤ _; decide) 3 (by decide) (by decide) (by intro b s h; have h1 := LA.out; have h2 := LB.out; simp at h; obtain ⟨rfl, rfl⟩ := h; simp; omega)).mono ?_
  rintro e w6 ⟨rfl, F6, hL, ht, hF⟩
  rw [E4.out] at hL
  have HJ7 := Lib.hid (HJ6.out.next hL ht hF)
  clear hL ht hF HJ6 c6
  go_wp2_with fail
  refine (recover_ HJ7.out (by show (1 : Nat) ≤ _; decide) (by intro b s h; have h1 := LC.out; simp at h; obtain ⟨rfl, rfl⟩ := h; simp; omega) (by have h1 := LC.out; simp [total]; omega) (fun _ => ([[97]], 7)) (by intro b s h; have h1 := LC.out; simp at h; obtain ⟨rfl, rfl⟩ := h; exact ⟨⟨20, HA1.out⟩, by decide, by simp; omega⟩)).mono ?_
  rintro e w7 ⟨rfl, F7, hJ, ht, hF⟩
  rw [E6.out, E5.out] at *
  have HJ8 := Lib.hid hJ
  have c8 := hJ.cell
  clear hJ ht hF HJ7
  go_wp2_with fail
  refine (read_ HJ8.out.live (by show (1 : Nat) ≤ _; decide) (by intro b s h; have h1 := LA.out; simp at h; obtain ⟨rfl, rfl⟩ := h; omega) (fun _ => ([[97]], 7)) (by intro b h; simp [dsegs] at h; subst h; exact ⟨20, HA2.out⟩) (by show (1 : Nat) ≤ _; decide)).mono ?_
  rintro e w8 ⟨v, rfl, hV, hb⟩
  have hwh : jwhole (fun _ => ([[97]], 7)) (dsegs [(fa, 7)]) = true := by have h1 := LA.out; simp [jwhole, dsegs, h1]
  have htl : jtold (fun _ => ([[97]], 7)) (dsegs [(fa, 7)]) = [[97]] := rfl
  rw [hwh]
  rw [htl] at hV
  obtain ⟨A8, c8', hv⟩ := Kd.V_slice hV
  subst hv
  obtain ⟨ad, Ax, cx, hA8, hcell, hcx, hF⟩ := V_row hV 0 [97] rfl
  subst hA8
  have hcv := Kd.C_string (P := Tryd.prog) (c := cx) Tryd.underlying32 Tryd.underlying5 Tryd.underlying9 (Kd.F_now hF)
  have hcell0 : w8.cell? ad = some (.slice Ax 1 cx) := hcell
  change (convert 32 9 (.slice Ax 1 cx)).run Tryd.prog w8 = _ at hcv
  have hs : strOfNums [97] = ⟨#[97]⟩ := rfl
  rw [hs] at hcv
  have HB8 := Lib.hid (HJ8.out.live.base.trans (hb.mono HJ8.out.live.base.size))
  clear hV hb hF hwh htl HJ8 hs
  go_wp2
  go_ret
  exact ⟨rfl, HB8.out⟩
end Go.Proofs.YtklliflmdckadaaDoor.PJ
