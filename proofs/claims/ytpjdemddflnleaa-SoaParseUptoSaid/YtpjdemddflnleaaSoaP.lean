/-
  soa.Parse, by hand. No macro, syntax, notation, axiom, sorry.
-/
import Derived.Test.YtpjdemddflnleaaPAx2
import Derived.Test.YtpjdemddflnleaaPAx2
import Derived.Test.YtpjdemddflnleaaHeap
namespace Go.Proofs.Ytpjdemddflnleaa.PA
open Go.RowKit Go.Proofs.YtpjdemddflnleaaW.PrintWords Go.Proofs.YtpjdemddflnleaaW.PrintLast Go.Proofs.Ytpjdemddflnleaa.Heap
set_option linter.unusedVariables false
set_option linter.unusedSimpArgs false
set_option maxRecDepth 100000

theorem below_trans2 {w W w2 : World} {o1 o2 : Obj} (hW : (w.alloc o1).alloc o2 = W) (hb : Below W.heap.size W w2) : Below w.heap.size w w2 := by
  have h1 : Below w.heap.size w W := by rw [← hW]; exact below_alloc (below_alloc (Below.refl _ _) _) _
  exact h1.trans (hb.mono h1.size)
def soaV (a b : ByteArray) (n0 n1 n2 n3 n4 : Int) : Array Value := #[.string a, .string b, .int .u32 n0, .int .u32 n1, .int .u32 n2, .int .u32 n3, .int .u32 n4]
def soaZ : Array Value := #[.string ⟨#[]⟩, .string ⟨#[]⟩, .int .u32 0, .int .u32 0, .int .u32 0, .int .u32 0, .int .u32 0]
theorem soa_hi : Option.map (fun x => x.size) (Try.prog.info? 28) = some 7 := by kernel_rfl
set_option maxHeartbeats 2000000 in
theorem parse_no1 (w : World) (d m d1 : ByteArray) (k : Nat) (h : point_Cut.f k d = some (m, d1, false)) :
    Calls Try.prog 12 #[.string d] w fun e w' => e = .returned (.tuple #[.agg soaZ, .bool false]) ∧ Below w.heap.size w w' := by
  have H1 := Lib.hid h
  clear h
  go_enter Try.func12, Try.ntmps12
  go_wp2_with fail
  refine (point_Cut.calls k d m d1 false _ H1.out).mono ?_
  rintro e w2 ⟨rfl, hb⟩
  obtain ⟨W, hW⟩ : ∃ W, (w.alloc (.cells soaZ 28)).alloc (.cells soaZ 28) = W := ⟨_, rfl⟩
  obtain ⟨h2, h4, hs⟩ := two_boxes w (.cells soaZ 28) (.cells soaZ 28)
  rw [hW] at h2 h4 hs
  have hb' : Below W.heap.size W w2 := by rw [← hW]; exact hb
  have HB0 := Lib.hid (below_trans2 hW hb')
  have k2 := blk_below h2 hb'
  have k4 := blk_below h4 hb'
  obtain ⟨g2, hg2⟩ : ∃ g2, w.heap.size = g2 := ⟨_, rfl⟩
  obtain ⟨g4, hg4⟩ : ∃ g4, g2 + 1 = g4 := ⟨_, rfl⟩
  rw [hg2] at k2 k4
  rw [hg4] at k4
  (try simp only [hg2, hg4])
  have hne : g2 ≠ g4 := by omega
  have hwg : w.heap.size ≤ g2 ∧ w.heap.size ≤ g4 := by omega
  have HK2 := Lib.hid k2
  clear h2 h4 hs hb hb' hW hg4
  obtain ⟨c20, c21, c22, c23, c24, c25, c26⟩ := cells7 k2
  obtain ⟨f20, f21, f22, f23, f24, f25, f26⟩ := froz7 k2
  obtain ⟨c40, -⟩ := cells7 k4
  obtain ⟨f40, -⟩ := froz7 k4
  clear k2 k4
  go_wp2
  have hB := putB7 (HB0.out.setCell (p := ⟨g4, 0, none⟩) hwg.2 (.string m)) hwg.1 (b0 := .string ⟨#[]⟩) (b1 := .string ⟨#[]⟩) (b2 := .int .u32 0) (b3 := .int .u32 0) (b4 := .int .u32 0) (b5 := .int .u32 0) (b6 := .int .u32 0)
  have hK := put7 (blk_far HK2.out (p := ⟨g4, 0, none⟩) hne (.string m)) (b0 := .string ⟨#[]⟩) (b1 := .string ⟨#[]⟩) (b2 := .int .u32 0) (b3 := .int .u32 0) (b4 := .int .u32 0) (b5 := .int .u32 0) (b6 := .int .u32 0)
  exact bodyPost_ret (results_list (rs := [.cell 2 28, .tmp 3]) rfl (by simp) (.cell g2 _ _ (0, 0) _ rfl hK Try.underlying28 rfl soa_hi (.tmp .nil))) rfl ⟨rfl, hB⟩
set_option maxHeartbeats 2000000 in
theorem parse_no2 (w : World) (d m d1 m2 d2 : ByteArray) (ok2 : Bool) (k : Nat) (h1 : point_Cut.f k d = some (m, d1, true)) (h2 : point_Cut.f k d1 = some (m2, d2, ok2)) (hbad : ok2 = false ∨ ok2 = true ∧ d2.size ≠ 20) :
    Calls Try.prog 12 #[.string d] w fun e w' => e = .returned (.tuple #[.agg soaZ, .bool false]) ∧ Below w.heap.size w w' := by
  have H1 := Lib.hid h1
  have H2 := Lib.hid h2
  clear h1 h2
  go_enter Try.func12, Try.ntmps12
  go_wp2_with fail
  refine (point_Cut.calls k d m d1 true _ H1.out).mono ?_
  rintro e w2 ⟨rfl, hb⟩
  obtain ⟨W, hW⟩ : ∃ W, (w.alloc (.cells soaZ 28)).alloc (.cells soaZ 28) = W := ⟨_, rfl⟩
  obtain ⟨h2, h4, hs⟩ := two_boxes w (.cells soaZ 28) (.cells soaZ 28)
  rw [hW] at h2 h4 hs
  have hb' : Below W.heap.size W w2 := by rw [← hW]; exact hb
  have hB0 := below_trans2 hW hb'
  have k2 := blk_below h2 hb'
  have k4 := blk_below h4 hb'
  obtain ⟨g2, hg2⟩ : ∃ g2, w.heap.size = g2 := ⟨_, rfl⟩
  obtain ⟨g4, hg4⟩ : ∃ g4, g2 + 1 = g4 := ⟨_, rfl⟩
  rw [hg2] at k2 k4
  rw [hg4] at k4
  (try simp only [hg2, hg4])
  have hne : g2 ≠ g4 := by omega
  have hwg : w.heap.size ≤ g2 ∧ w.heap.size ≤ g4 := by omega
  have HK2 := Lib.hid k2
  have HK4 := Lib.hid k4
  obtain ⟨c40, -⟩ := cells7 k4
  obtain ⟨f40, -⟩ := froz7 k4
  have HB0 := Lib.hid hB0
  clear h2 h4 hs hb hb' hW hg4 k2 k4 hB0
  go_wp2_with fail
  have hb0 : Below w.heap.size w (w2.setCell ⟨g4, 0, none⟩ (.string m)) := HB0.out.setCell (p := ⟨g4, 0, none⟩) hwg.2 (.string m)
  refine (point_Cut.calls k d1 m2 d2 ok2 _ H2.out).mono ?_
  rintro e w3 ⟨rfl, hb⟩
  have k2 := blk_below (blk_far HK2.out (p := ⟨g4, 0, none⟩) hne (.string m)) hb
  have k4 := blk_below (blk_set HK4.out 0 (.string m)) hb
  have k4 : w3.heap[g4]? = some (.cells #[.string m, .string ⟨#[]⟩, .int .u32 0, .int .u32 0, .int .u32 0, .int .u32 0, .int .u32 0] 28 (0, 0)) := k4
  have HB := Lib.hid (hb0.trans (hb.mono hb0.size))
  have HJ2 := Lib.hid k2
  have HJ4 := Lib.hid k4
  clear hb0 hb HB0 HK2 HK4 c40 f40 H1 H2
  obtain ⟨c20, c21, c22, c23, c24, c25, c26⟩ := cells7 k2
  obtain ⟨f20, f21, f22, f23, f24, f25, f26⟩ := froz7 k2
  obtain ⟨-, c41, -⟩ := cells7 k4
  obtain ⟨-, f41, -⟩ := froz7 k4
  clear k2 k4
  rcases hbad with rfl | ⟨rfl, hsz⟩
  all_goals
    (try have hs1 : (d2.size : Int) ≠ 20 := by omega)
    (try have hs2 : decide ((d2.size : Int) = 20) = false := decide_eq_false hs1)
    (try have hs3 : ((d2.size : Int) == 20) = false := hs2)
    go_wp2
    have hB := putB7 (HB.out.setCell (p := ⟨g4, 1, none⟩) hwg.2 (.string m2)) hwg.1 (b0 := .string ⟨#[]⟩) (b1 := .string ⟨#[]⟩) (b2 := .int .u32 0) (b3 := .int .u32 0) (b4 := .int .u32 0) (b5 := .int .u32 0) (b6 := .int .u32 0)
    have hK := put7 (blk_far HJ2.out (p := ⟨g4, 1, none⟩) hne (.string m2)) (b0 := .string ⟨#[]⟩) (b1 := .string ⟨#[]⟩) (b2 := .int .u32 0) (b3 := .int .u32 0) (b4 := .int .u32 0) (b5 := .int .u32 0) (b6 := .int .u32 0)
    exact bodyPost_ret (results_list (rs := [.cell 2 28, .tmp 3]) rfl (by simp) (.cell g2 _ _ (0, 0) _ rfl hK Try.underlying28 rfl soa_hi (.tmp .nil))) rfl ⟨rfl, hB⟩
/-- The struct while its numbers are read. -/
def soaJ (a b : ByteArray) (n : Nat → Int) (j : Nat) : Array Value := soaV a b (if 0 < j then n 0 else 0) (if 1 < j then n 1 else 0) (if 2 < j then n 2 else 0) (if 3 < j then n 3 else 0) (if 4 < j then n 4 else 0)
set_option maxHeartbeats 4000000 in
theorem parse_yes (w : World) (d m d1 m2 d2 : ByteArray) (n : Nat → Int) (k : Nat) (h1 : point_Cut.f k d = some (m, d1, true)) (h2 : point_Cut.f k d1 = some (m2, d2, true)) (hsz : d2.size = 20)
    (hn : ∀ j : Nat, j < 5 → num_Get32.f d2 (4 * (j : Int)) = some (n j, true)) :
    Calls Try.prog 12 #[.string d] w fun e w' => e = .returned (.tuple #[.agg (soaV m m2 (n 0) (n 1) (n 2) (n 3) (n 4)), .bool true]) ∧ Below w.heap.size w w' := by
  have HN := Lib.hid hn
  clear hn
  have HSZ := Lib.hid hsz
  clear hsz
  have H1 := Lib.hid h1
  have H2 := Lib.hid h2
  clear h1 h2
  go_enter Try.func12, Try.ntmps12
  go_wp2_with fail
  refine (point_Cut.calls k d m d1 true _ H1.out).mono ?_
  rintro e w2 ⟨rfl, hb⟩
  obtain ⟨W, hW⟩ : ∃ W, (w.alloc (.cells soaZ 28)).alloc (.cells soaZ 28) = W := ⟨_, rfl⟩
  obtain ⟨h2, h4, hs⟩ := two_boxes w (.cells soaZ 28) (.cells soaZ 28)
  rw [hW] at h2 h4 hs
  have hb' : Below W.heap.size W w2 := by rw [← hW]; exact hb
  have hB0 := below_trans2 hW hb'
  have k2 := blk_below h2 hb'
  have k4 := blk_below h4 hb'
  obtain ⟨g2, hg2⟩ : ∃ g2, w.heap.size = g2 := ⟨_, rfl⟩
  obtain ⟨g4, hg4⟩ : ∃ g4, g2 + 1 = g4 := ⟨_, rfl⟩
  rw [hg2] at k2 k4
  rw [hg4] at k4
  (try simp only [hg2, hg4])
  have hne : g2 ≠ g4 := by omega
  have hwg : w.heap.size ≤ g2 ∧ w.heap.size ≤ g4 := by omega
  have HK2 := Lib.hid k2
  have HK4 := Lib.hid k4
  obtain ⟨c40, -⟩ := cells7 k4
  obtain ⟨f40, -⟩ := froz7 k4
  have HB0 := Lib.hid hB0
  clear h2 h4 hs hb hb' hW hg4 k2 k4 hB0
  go_wp2_with fail
  have hb0 : Below w.heap.size w (w2.setCell ⟨g4, 0, none⟩ (.string m)) := HB0.out.setCell (p := ⟨g4, 0, none⟩) hwg.2 (.string m)
  refine (point_Cut.calls k d1 m2 d2 true _ H2.out).mono ?_
  rintro e w3 ⟨rfl, hb⟩
  have k2 := blk_below (blk_far HK2.out (p := ⟨g4, 0, none⟩) hne (.string m)) hb
  have k4 := blk_below (blk_set HK4.out 0 (.string m)) hb
  have k4 : w3.heap[g4]? = some (.cells #[.string m, .string ⟨#[]⟩, .int .u32 0, .int .u32 0, .int .u32 0, .int .u32 0, .int .u32 0] 28 (0, 0)) := k4
  have HB := Lib.hid (hb0.trans (hb.mono hb0.size))
  have HJ2 := Lib.hid k2
  have HJ4 := Lib.hid k4
  clear hb0 hb HB0 HK2 HK4 c40 f40 H1 H2
  obtain ⟨-, c41, -⟩ := cells7 k4
  obtain ⟨-, f41, -⟩ := froz7 k4
  clear k2 k4
  have hs1 : (d2.size : Int) = 20 := by rw [HSZ.out]; rfl
  have hs2 : decide ((d2.size : Int) = 20) = true := decide_eq_true hs1
  have hs3 : ((d2.size : Int) == 20) = true := hs2
  have hs4 : ((d2.size : Int) != 20) = false := by rw [bne, hs3]; rfl
  clear hs1
  go_wp2_with fail
  have k4b := blk_set HJ4.out 1 (.string m2)
  have k2b := blk_far HJ2.out (p := ⟨g4, 1, none⟩) hne (.string m2)
  have hBb : Below w.heap.size w (w3.setCell ⟨g4, 1, none⟩ (.string m2)) := HB.out.setCell (p := ⟨g4, 1, none⟩) hwg.2 (.string m2)
  obtain ⟨w4, hw4⟩ : ∃ w4, w3.setCell ⟨g4, 1, none⟩ (.string m2) = w4 := ⟨_, rfl⟩
  obtain ⟨g5, hg3⟩ : ∃ g5, w3.heap.size = g5 := ⟨_, rfl⟩
  have hg5 : w4.heap.size = g5 := by rw [← hw4, World.size_setCell]; exact hg3
  rw [hw4] at k4b k2b hBb
  rw [hw4]
  rw [hg3]
  clear hg3
  clear c41 f41 HB HJ2 HJ4 hs2 hs3 hs4 hw4
  have hnew := blk_new w4 (.cells #[.pointer (some ⟨g4, 2, none⟩), .pointer (some ⟨g4, 3, none⟩), .pointer (some ⟨g4, 4, none⟩), .pointer (some ⟨g4, 5, none⟩), .pointer (some ⟨g4, 6, none⟩)] 56)
  have h45 : g4 ≠ g5 := by have := blk_lt k4b; omega
  have h25 : g2 ≠ g5 := by have := blk_lt k2b; omega
  have hw5 : w.heap.size ≤ g5 := by have := hBb.size; omega
  rw [hg5] at hnew
  (try rw [hg5])
  have J2 := Lib.hid (blk_alloc k2b (.cells #[.pointer (some ⟨g4, 2, none⟩), .pointer (some ⟨g4, 3, none⟩), .pointer (some ⟨g4, 4, none⟩), .pointer (some ⟨g4, 5, none⟩), .pointer (some ⟨g4, 6, none⟩)] 56))
  have J4 := Lib.hid (blk_alloc k4b (.cells #[.pointer (some ⟨g4, 2, none⟩), .pointer (some ⟨g4, 3, none⟩), .pointer (some ⟨g4, 4, none⟩), .pointer (some ⟨g4, 5, none⟩), .pointer (some ⟨g4, 6, none⟩)] 56))
  have J5 := Lib.hid hnew
  have JB := Lib.hid (below_alloc hBb (.cells #[.pointer (some ⟨g4, 2, none⟩), .pointer (some ⟨g4, 3, none⟩), .pointer (some ⟨g4, 4, none⟩), .pointer (some ⟨g4, 5, none⟩), .pointer (some ⟨g4, 6, none⟩)] 56))
  clear k2b k4b hBb hnew hg5
  go_loopw [40] (fun i wr => ∃ j : Nat, j ≤ 5 ∧ i = .int .i64 j ∧ Aside0 (wr.heap[g4]? = some (.cells (soaJ m m2 n j) 28 (0, 0))) ∧ Aside0 (wr.heap[g2]? = some (.cells soaZ 28 (0, 0))) ∧ Aside0 (wr.heap[g5]? = some (.cells #[.pointer (some ⟨g4, 2, none⟩), .pointer (some ⟨g4, 3, none⟩), .pointer (some ⟨g4, 4, none⟩), .pointer (some ⟨g4, 5, none⟩), .pointer (some ⟨g4, 6, none⟩)] 56 (0, 0))) ∧ Aside0 (Below w.heap.size w wr))
    (fun i _ => 5 - (intOf i).toNat)
  case atStart => exact ⟨0, by omega, rfl, ⟨J4.out⟩, ⟨J2.out⟩, ⟨J5.out⟩, ⟨JB.out⟩⟩
  case round =>
    obtain ⟨j, hj, rfl, A4, A2, A5, AB⟩ := hrel
    clear J2 J4 J5 JB
    have k4 := A4.out
    have k5 := A5.out
    have hcase : j = 0 ∨ j = 1 ∨ j = 2 ∨ j = 3 ∨ j = 4 ∨ j = 5 := by omega
    rcases hcase with rfl | rfl | rfl | rfl | rfl | rfl
    case inr.inr.inr.inr.inr =>
      clear k5
      have k2 := A2.out
      have k4 : wr.heap[g4]? = some (.cells #[.string m, .string m2, .int .u32 (n 0), .int .u32 (n 1), .int .u32 (n 2), .int .u32 (n 3), .int .u32 (n 4)] 28 (0, 0)) := k4
      obtain ⟨c20, c21, c22, c23, c24, c25, c26⟩ := cells7 k2
      obtain ⟨f20, f21, f22, f23, f24, f25, f26⟩ := froz7 k2
      obtain ⟨c40, c41, c42, c43, c44, c45, c46⟩ := cells7 k4
      clear k2 k4
      go_wp2
      have hB := putB7 AB.out hwg.1 (b0 := .string m) (b1 := .string m2) (b2 := .int .u32 (n 0)) (b3 := .int .u32 (n 1)) (b4 := .int .u32 (n 2)) (b5 := .int .u32 (n 3)) (b6 := .int .u32 (n 4))
      have hK := put7 A2.out (b0 := .string m) (b1 := .string m2) (b2 := .int .u32 (n 0)) (b3 := .int .u32 (n 1)) (b4 := .int .u32 (n 2)) (b5 := .int .u32 (n 3)) (b6 := .int .u32 (n 4))
      exact bodyPost_ret (results_list (rs := [.cell 2 28, .tmp 3]) rfl (by simp) (.cell g2 _ _ (0, 0) _ rfl hK Try.underlying28 rfl soa_hi (.tmp .nil))) rfl ⟨rfl, hB⟩
    case inl =>
      have k4 : wr.heap[g4]? = some (.cells #[.string m, .string m2, .int .u32 0, .int .u32 0, .int .u32 0, .int .u32 0, .int .u32 0] 28 (0, 0)) := k4
      obtain ⟨c5, -⟩ := cells5 (w := wr) k5
      obtain ⟨-, -, c4, -⟩ := cells7 (w := wr) k4
      obtain ⟨-, -, f4, -⟩ := froz7 (w := wr) k4
      clear k4 k5
      go_wp2_with fail
      refine (num_Get32.calls d2 0 (n 0) true wr (HN.out 0 (by omega))).mono ?_
      rintro e w' ⟨rfl, ⟨nn, rfl⟩⟩
      go_wp2
      have k4' : ((wr.drewN nn).setCell ⟨g4, 2, none⟩ (.int .u32 (n 0))).heap[g4]? = some (.cells #[.string m, .string m2, .int .u32 (n 0), .int .u32 0, .int .u32 0, .int .u32 0, .int .u32 0] 28 (0, 0)) := by
        have := blk_set (w := wr.drewN nn) (blk_drewN A4.out nn) 2 (.int .u32 (n 0))
        simpa [soaJ, soaV] using this
      have k2' := blk_far (w := wr.drewN nn) (blk_drewN A2.out nn) (p := ⟨g4, 2, none⟩) hne (.int .u32 (n 0))
      have k5' := blk_far (w := wr.drewN nn) (blk_drewN A5.out nn) (p := ⟨g4, 2, none⟩) h45.symm (.int .u32 (n 0))
      have hB' : Below w.heap.size w ((wr.drewN nn).setCell ⟨g4, 2, none⟩ (.int .u32 (n 0))) := (pw_below_drewN AB.out nn).setCell (p := ⟨g4, 2, none⟩) hwg.2 _
      go_roundw
      case rel => first | exact ⟨1, by omega, by go_num, ⟨by exact k4'⟩, ⟨k2'⟩, ⟨k5'⟩, ⟨hB'⟩⟩ | ((repeat apply Exists.intro); exact ⟨⟨1, by omega, by go_num, ⟨by exact k4'⟩, ⟨k2'⟩, ⟨k5'⟩, ⟨hB'⟩⟩, rfl⟩)
      case measure => simp [intOf]
    case inr.inl =>
      have k4 : wr.heap[g4]? = some (.cells #[.string m, .string m2, .int .u32 (n 0), .int .u32 0, .int .u32 0, .int .u32 0, .int .u32 0] 28 (0, 0)) := k4
      obtain ⟨-, c5, -⟩ := cells5 (w := wr) k5
      obtain ⟨-, -, -, c4, -⟩ := cells7 (w := wr) k4
      obtain ⟨-, -, -, f4, -⟩ := froz7 (w := wr) k4
      clear k4 k5
      go_wp2_with fail
      refine (num_Get32.calls d2 4 (n 1) true wr (HN.out 1 (by omega))).mono ?_
      rintro e w' ⟨rfl, ⟨nn, rfl⟩⟩
      go_wp2
      have k4' : ((wr.drewN nn).setCell ⟨g4, 3, none⟩ (.int .u32 (n 1))).heap[g4]? = some (.cells #[.string m, .string m2, .int .u32 (n 0), .int .u32 (n 1), .int .u32 0, .int .u32 0, .int .u32 0] 28 (0, 0)) := by
        have := blk_set (w := wr.drewN nn) (blk_drewN A4.out nn) 3 (.int .u32 (n 1))
        simpa [soaJ, soaV] using this
      have k2' := blk_far (w := wr.drewN nn) (blk_drewN A2.out nn) (p := ⟨g4, 3, none⟩) hne (.int .u32 (n 1))
      have k5' := blk_far (w := wr.drewN nn) (blk_drewN A5.out nn) (p := ⟨g4, 3, none⟩) h45.symm (.int .u32 (n 1))
      have hB' : Below w.heap.size w ((wr.drewN nn).setCell ⟨g4, 3, none⟩ (.int .u32 (n 1))) := (pw_below_drewN AB.out nn).setCell (p := ⟨g4, 3, none⟩) hwg.2 _
      go_roundw
      case rel => first | exact ⟨2, by omega, by go_num, ⟨by exact k4'⟩, ⟨k2'⟩, ⟨k5'⟩, ⟨hB'⟩⟩ | ((repeat apply Exists.intro); exact ⟨⟨2, by omega, by go_num, ⟨by exact k4'⟩, ⟨k2'⟩, ⟨k5'⟩, ⟨hB'⟩⟩, rfl⟩)
      case measure => simp [intOf]
    case inr.inr.inl =>
      have k4 : wr.heap[g4]? = some (.cells #[.string m, .string m2, .int .u32 (n 0), .int .u32 (n 1), .int .u32 0, .int .u32 0, .int .u32 0] 28 (0, 0)) := k4
      obtain ⟨-, -, c5, -⟩ := cells5 (w := wr) k5
      obtain ⟨-, -, -, -, c4, -⟩ := cells7 (w := wr) k4
      obtain ⟨-, -, -, -, f4, -⟩ := froz7 (w := wr) k4
      clear k4 k5
      go_wp2_with fail
      refine (num_Get32.calls d2 8 (n 2) true wr (HN.out 2 (by omega))).mono ?_
      rintro e w' ⟨rfl, ⟨nn, rfl⟩⟩
      go_wp2
      have k4' : ((wr.drewN nn).setCell ⟨g4, 4, none⟩ (.int .u32 (n 2))).heap[g4]? = some (.cells #[.string m, .string m2, .int .u32 (n 0), .int .u32 (n 1), .int .u32 (n 2), .int .u32 0, .int .u32 0] 28 (0, 0)) := by
        have := blk_set (w := wr.drewN nn) (blk_drewN A4.out nn) 4 (.int .u32 (n 2))
        simpa [soaJ, soaV] using this
      have k2' := blk_far (w := wr.drewN nn) (blk_drewN A2.out nn) (p := ⟨g4, 4, none⟩) hne (.int .u32 (n 2))
      have k5' := blk_far (w := wr.drewN nn) (blk_drewN A5.out nn) (p := ⟨g4, 4, none⟩) h45.symm (.int .u32 (n 2))
      have hB' : Below w.heap.size w ((wr.drewN nn).setCell ⟨g4, 4, none⟩ (.int .u32 (n 2))) := (pw_below_drewN AB.out nn).setCell (p := ⟨g4, 4, none⟩) hwg.2 _
      go_roundw
      case rel => first | exact ⟨3, by omega, by go_num, ⟨by exact k4'⟩, ⟨k2'⟩, ⟨k5'⟩, ⟨hB'⟩⟩ | ((repeat apply Exists.intro); exact ⟨⟨3, by omega, by go_num, ⟨by exact k4'⟩, ⟨k2'⟩, ⟨k5'⟩, ⟨hB'⟩⟩, rfl⟩)
      case measure => simp [intOf]
    case inr.inr.inr.inl =>
      have k4 : wr.heap[g4]? = some (.cells #[.string m, .string m2, .int .u32 (n 0), .int .u32 (n 1), .int .u32 (n 2), .int .u32 0, .int .u32 0] 28 (0, 0)) := k4
      obtain ⟨-, -, -, c5, -⟩ := cells5 (w := wr) k5
      obtain ⟨-, -, -, -, -, c4, -⟩ := cells7 (w := wr) k4
      obtain ⟨-, -, -, -, -, f4, -⟩ := froz7 (w := wr) k4
      clear k4 k5
      go_wp2_with fail
      refine (num_Get32.calls d2 12 (n 3) true wr (HN.out 3 (by omega))).mono ?_
      rintro e w' ⟨rfl, ⟨nn, rfl⟩⟩
      go_wp2
      have k4' : ((wr.drewN nn).setCell ⟨g4, 5, none⟩ (.int .u32 (n 3))).heap[g4]? = some (.cells #[.string m, .string m2, .int .u32 (n 0), .int .u32 (n 1), .int .u32 (n 2), .int .u32 (n 3), .int .u32 0] 28 (0, 0)) := by
        have := blk_set (w := wr.drewN nn) (blk_drewN A4.out nn) 5 (.int .u32 (n 3))
        simpa [soaJ, soaV] using this
      have k2' := blk_far (w := wr.drewN nn) (blk_drewN A2.out nn) (p := ⟨g4, 5, none⟩) hne (.int .u32 (n 3))
      have k5' := blk_far (w := wr.drewN nn) (blk_drewN A5.out nn) (p := ⟨g4, 5, none⟩) h45.symm (.int .u32 (n 3))
      have hB' : Below w.heap.size w ((wr.drewN nn).setCell ⟨g4, 5, none⟩ (.int .u32 (n 3))) := (pw_below_drewN AB.out nn).setCell (p := ⟨g4, 5, none⟩) hwg.2 _
      go_roundw
      case rel => first | exact ⟨4, by omega, by go_num, ⟨by exact k4'⟩, ⟨k2'⟩, ⟨k5'⟩, ⟨hB'⟩⟩ | ((repeat apply Exists.intro); exact ⟨⟨4, by omega, by go_num, ⟨by exact k4'⟩, ⟨k2'⟩, ⟨k5'⟩, ⟨hB'⟩⟩, rfl⟩)
      case measure => simp [intOf]
    case inr.inr.inr.inr.inl =>
      have k4 : wr.heap[g4]? = some (.cells #[.string m, .string m2, .int .u32 (n 0), .int .u32 (n 1), .int .u32 (n 2), .int .u32 (n 3), .int .u32 0] 28 (0, 0)) := k4
      obtain ⟨-, -, -, -, c5⟩ := cells5 (w := wr) k5
      obtain ⟨-, -, -, -, -, -, c4⟩ := cells7 (w := wr) k4
      obtain ⟨-, -, -, -, -, -, f4⟩ := froz7 (w := wr) k4
      clear k4 k5
      go_wp2_with fail
      refine (num_Get32.calls d2 16 (n 4) true wr (HN.out 4 (by omega))).mono ?_
      rintro e w' ⟨rfl, ⟨nn, rfl⟩⟩
      go_wp2
      have k4' : ((wr.drewN nn).setCell ⟨g4, 6, none⟩ (.int .u32 (n 4))).heap[g4]? = some (.cells #[.string m, .string m2, .int .u32 (n 0), .int .u32 (n 1), .int .u32 (n 2), .int .u32 (n 3), .int .u32 (n 4)] 28 (0, 0)) := by
        have := blk_set (w := wr.drewN nn) (blk_drewN A4.out nn) 6 (.int .u32 (n 4))
        simpa [soaJ, soaV] using this
      have k2' := blk_far (w := wr.drewN nn) (blk_drewN A2.out nn) (p := ⟨g4, 6, none⟩) hne (.int .u32 (n 4))
      have k5' := blk_far (w := wr.drewN nn) (blk_drewN A5.out nn) (p := ⟨g4, 6, none⟩) h45.symm (.int .u32 (n 4))
      have hB' : Below w.heap.size w ((wr.drewN nn).setCell ⟨g4, 6, none⟩ (.int .u32 (n 4))) := (pw_below_drewN AB.out nn).setCell (p := ⟨g4, 6, none⟩) hwg.2 _
      go_roundw
      case rel => first | exact ⟨5, by omega, by go_num, ⟨by exact k4'⟩, ⟨k2'⟩, ⟨k5'⟩, ⟨hB'⟩⟩ | ((repeat apply Exists.intro); exact ⟨⟨5, by omega, by go_num, ⟨by exact k4'⟩, ⟨k2'⟩, ⟨k5'⟩, ⟨hB'⟩⟩, rfl⟩)
      case measure => simp [intOf]
end Go.Proofs.Ytpjdemddflnleaa.PA
