/- part of a proof; what it has no use for was struck out -/
import Derived.Test.YtnikfeaggppmpaaRpt
import Derived.Test.YtnikfeaggppmpaaWhl
import Derived.Test.YtnikfeaggppmpaaPMx9
namespace Go.Proofs.Ytnikfeaggppmpaa.Rdr
open Go.RowKit Go.Proofs.Ytnikfeaggppmpaa.PM Go.Proofs.YtnikfeaggppmpaaW Go.Proofs.YtnikfeaggppmpaaW.PrintWords Go.Proofs.YtnikfeaggppmpaaW.PrintLast Go.Proofs.YtnikfeaggppmpaaW.PrintMore Go.Proofs.Ytnikfeaggppmpaa.Base Go.Proofs.Ytnikfeaggppmpaa.Trn Go.Proofs.Ytnikfeaggppmpaa.QM Go.Proofs.Ytnikfeaggppmpaa.Nam Go.Proofs.Ytnikfeaggppmpaa.Rd Go.Proofs.Ytnikfeaggppmpaa.Wr Go.Proofs.Ytnikfeaggppmpaa.Heap
set_option linter.unusedVariables false
set_option linter.unusedSimpArgs false
set_option maxRecDepth 100000
theorem and_mask (m : Nat) (M x : Int) (hM : M = 2 ^ m - 1) (hm : m ≤ 16) (h0 : 0 ≤ x) (h1 : x < 65536) : Go.bits .and .u16 x M = x % 2 ^ m := by
  subst hM
  exact bits_mask .u16 16 (by decide) wraps_u16 m hm x h0 (by omega)
def bb (f : Int) (k : Int) : Bool := f / k % 2 == 1
theorem flags_four (x : Int) (h0 : 0 ≤ x) (h1 : x < 512) : Ev (fun k => num_Flags.f k x 4) [bb x 8, bb x 4, bb x 2, bb x 1] := by
  refine ⟨6, fun k hk => ?_⟩
  obtain ⟨k, rfl⟩ : ∃ k', k = k' + 6 := ⟨k - 6, by omega⟩
  have e1 : Go.bits .and .u16 x 1 = x % 2 := and_mask 1 1 x (by decide) (by decide) h0 (by omega)
  have e2 : Go.bits .and .u16 (x / 2) 1 = x / 2 % 2 := and_mask 1 1 _ (by decide) (by decide) (by omega) (by omega)
  have e3 : Go.bits .and .u16 (x / 2 / 2) 1 = x / 2 / 2 % 2 := and_mask 1 1 _ (by decide) (by decide) (by omega) (by omega)
  have e4 : Go.bits .and .u16 (x / 2 / 2 / 2) 1 = x / 2 / 2 / 2 % 2 := and_mask 1 1 _ (by decide) (by decide) (by omega) (by omega)
  have m1 : (mx 0 (mn 4 16) : Int) = 4 := by decide
  show num_Flags.f (k + 6) x 4 = _
  unfold num_Flags.f
  rw [m1, if_pos (by decide), if_pos (by decide), Option.bind_some]
  have st : ∀ (k : Nat) (y : Int) (l : List Bool) (i : Nat), i < 4 → l.length = 4 → num_Flags.l0 (k + 1) y l (i : Int) = num_Flags.l0 k (y / 2) (l.set i (Go.bits .and .u16 y 1 == 1)) ((i : Int) - 1) := fun k y l i hi hl => by
    simp only [num_Flags.l0]
    rw [if_pos (by omega), if_pos (by omega), if_pos (by omega), show wrap64 ((i : Int) - 1) = (i : Int) - 1 by unfold wrap64; omega, show ((i : Int)).toNat = i by omega]
  have s0 : (wrap64 ((([false, false, false, false] : List Bool).length : Int) - 1)) = ((3 : Nat) : Int) := by
    show wrap64 (4 - 1) = 3
    unfold wrap64
    omega
  have r4 : List.replicate ((4 : Int).toNat) false = [false, false, false, false] := rfl
  rw [r4, s0, st _ _ _ 3 (by decide) rfl, e1]
  show num_Flags.l0 (k + 5) (x / 2) [false, false, false, x % 2 == 1] ((2 : Nat) : Int) = _
  rw [st _ _ _ 2 (by decide) rfl, e2]
  show num_Flags.l0 (k + 4) (x / 2 / 2) [false, false, x / 2 % 2 == 1, x % 2 == 1] ((1 : Nat) : Int) = _
  rw [st _ _ _ 1 (by decide) rfl, e3]
  show num_Flags.l0 (k + 3) (x / 2 / 2 / 2) [false, x / 2 / 2 % 2 == 1, x / 2 % 2 == 1, x % 2 == 1] ((0 : Nat) : Int) = _
  rw [st _ _ _ 0 (by decide) rfl, e4]
  show num_Flags.l0 (k + 2) (x / 2 / 2 / 2 / 2) [x / 2 / 2 / 2 % 2 == 1, x / 2 / 2 % 2 == 1, x / 2 % 2 == 1, x % 2 == 1] (-1) = _
  simp only [num_Flags.l0]
  rw [if_neg (by decide)]
  have f2 : x / 2 / 2 = x / 4 := by omega
  have f3 : x / 2 / 2 / 2 = x / 8 := by omega
  rw [f3, f2]
  unfold bb
  rw [Int.ediv_one]
theorem head_ev (i f : Int) (h0 : 0 ≤ f) (h1 : f < 65536) : Ev (fun k => message_head.f k i f) (i, bb f 32768, f / 2048 % 16, bb f 1024, bb f 512, bb f 256, bb f 128, f % 16) := by
  obtain ⟨K, g⟩ := flags_four (f / 128) (by omega) (by omega)
  refine ⟨K, fun k hk => ?_⟩
  have e := g k hk
  simp only at e
  show message_head.f k i f = _
  have e1 : Go.bits .and .u16 (f / 2048) 15 = f / 2048 % 16 := and_mask 4 15 _ (by decide) (by decide) (by omega) (by omega)
  have e2 : Go.bits .and .u16 f 15 = f % 16 := and_mask 4 15 _ (by decide) (by decide) h0 h1
  unfold message_head.f
  rw [e, Option.bind_some]
  simp only [List.length_cons, List.length_nil]
  rw [if_pos (by decide), if_pos (by decide), if_pos (by decide), if_pos (by decide), e1, e2]
  have w1 : wrap64 (f / 2048 % 16) = f / 2048 % 16 := by unfold wrap64; omega
  have w2 : wrap64 (f % 16) = f % 16 := by unfold wrap64; omega
  rw [w1, w2]
  have b0 : (f / 32768 == 1) = bb f 32768 := by unfold bb; rw [show f / 32768 % 2 = f / 32768 by omega]
  have b1 : bb (f / 128) 8 = bb f 1024 := by unfold bb; rw [show f / 128 / 8 = f / 1024 by omega]
  have b2 : bb (f / 128) 4 = bb f 512 := by unfold bb; rw [show f / 128 / 4 = f / 512 by omega]
  have b3 : bb (f / 128) 2 = bb f 256 := by unfold bb; rw [show f / 128 / 2 = f / 256 by omega]
  have b4 : bb (f / 128) 1 = bb f 128 := by unfold bb; rw [show f / 128 / 1 = f / 128 by omega]
  rw [b0]
  show some (i, bb f 32768, f / 2048 % 16, bb (f / 128) 8, bb (f / 128) 4, bb (f / 128) 2, bb (f / 128) 1, f % 16) = _
  rw [b1, b2, b3, b4]
def qP (s : ByteArray) : Int := (nmR s 12).2.1
def qB (s : ByteArray) : Bool := ((!(nmR s 12).2.2) || !(g16 s (qP s)).2) || !(g16 s (qP s + 2)).2
noncomputable def pA (s : ByteArray) : List R × Int × Bool × Int := ptR s false (g16 s 6).1.toNat (qP s + 2 + 2) (qB s) [] 0
noncomputable def bA (s : ByteArray) : Bool := (pA s).2.2.1 || decide (64 < (pA s).1.length)
noncomputable def pN (s : ByteArray) : List R × Int × Bool × Int := ptR s false (g16 s 8).1.toNat (pA s).2.1 (bA s) [] 0
noncomputable def bN (s : ByteArray) : Bool := (pN s).2.2.1 || decide (64 < (pN s).1.length)
noncomputable def pE (s : ByteArray) : List R × Int × Bool × Int := ptR s true (g16 s 10).1.toNat (pN s).2.1 (bN s) [] 0
noncomputable def bE (s : ByteArray) : Bool := (pE s).2.2.1 || decide (64 < (pE s).1.length)
noncomputable def msgR (s : ByteArray) : Msg :=
  { id := (g16 s 0).1, rp := bb (g16 s 2).1 32768, op := (g16 s 2).1 / 2048 % 16, au := bb (g16 s 2).1 1024, tr := bb (g16 s 2).1 512, de := bb (g16 s 2).1 256, av := bb (g16 s 2).1 128, co := (g16 s 2).1 % 16,
    qn := strOfNums (nmR s 12).1, qt := (g16 s (qP s)).1, an := (pA s).1, ns := (pN s).1, ex := (pE s).1, sz := (pE s).2.2.2 }
noncomputable def decR (s : ByteArray) : Option Msg :=
  if 4096 < s.size then none
  else if s.size < 12 ∨ (g16 s 4).1 ≠ 1 ∨ (g16 s 2).1 / 16 % 8 ≠ 0 then none
  else if (g16 s (qP s + 2)).1 ≠ 1 then none
  else if bE s = true ∨ (pE s).2.1 ≠ s.size then none
  else some (msgR s)
theorem g16_flag (s : ByteArray) (p : Int) : (g16 s p).2 = decide (0 ≤ p ∧ p + 2 ≤ s.size) := by
  unfold g16
  split
  · rename_i h
    exact (decide_eq_true h).symm
  · rename_i h
    exact (decide_eq_false h).symm
theorem pt_pin (s : ByteArray) (hs : s.size ≤ 2000000) (has : Bool) : ∀ (d : Nat) (p : Int) (bad : Bool) (out : List R) (sz : Int), PIn s p bad → PIn s (ptR s has d p bad out sz).2.1 (ptR s has d p bad out sz).2.2.1
  | 0, _, _, _, _, h => h
  | d + 1, p, bad, out, sz, h => by
    unfold ptR
    split
    · exact h
    · rename_i hb
      have hb : bad = false := by simpa using hb
      subst hb
      have hp := (rc_pin s p hs h).1
      split
      · exact pt_pin s hs has d _ _ _ _ hp
      split
      · exact pt_pin s hs has d _ _ _ _ (pin_bad hp)
      · exact pt_pin s hs has d _ _ _ _ hp
theorem pin_or {s : ByteArray} {p : Int} {b : Bool} (h : PIn s p b) (c : Bool) : PIn s p (b || c) := ⟨h.1, h.2.1, fun e => h.2.2 (by cases b; rfl; cases e)⟩
theorem put14_turned (w : World) (g : Nat) (b0 b1 b2 b3 b4 b5 b6 b7 b8 b9 b10 b11 b12 b13 : Value) : Turned [g] w ((((((((((((((w.setCell ⟨g, 0, none⟩ b0).setCell ⟨g, 1, none⟩ b1).setCell ⟨g, 2, none⟩ b2).setCell ⟨g, 3, none⟩ b3).setCell ⟨g, 4, none⟩ b4).setCell ⟨g, 5, none⟩ b5).setCell ⟨g, 6, none⟩ b6).setCell ⟨g, 7, none⟩ b7).setCell ⟨g, 8, none⟩ b8).setCell ⟨g, 9, none⟩ b9).setCell ⟨g, 10, none⟩ b10).setCell ⟨g, 11, none⟩ b11).setCell ⟨g, 12, none⟩ b12).setCell ⟨g, 13, none⟩ b13) :=
  ((((((((((((((Turned.refl [g] w).setCell (p := ⟨g, 0, none⟩) (.inl (by simp)) b0).setCell (p := ⟨g, 1, none⟩) (.inl (by simp)) b1).setCell (p := ⟨g, 2, none⟩) (.inl (by simp)) b2).setCell (p := ⟨g, 3, none⟩) (.inl (by simp)) b3).setCell (p := ⟨g, 4, none⟩) (.inl (by simp)) b4).setCell (p := ⟨g, 5, none⟩) (.inl (by simp)) b5).setCell (p := ⟨g, 6, none⟩) (.inl (by simp)) b6).setCell (p := ⟨g, 7, none⟩) (.inl (by simp)) b7).setCell (p := ⟨g, 8, none⟩) (.inl (by simp)) b8).setCell (p := ⟨g, 9, none⟩) (.inl (by simp)) b9).setCell (p := ⟨g, 10, none⟩) (.inl (by simp)) b10).setCell (p := ⟨g, 11, none⟩) (.inl (by simp)) b11).setCell (p := ⟨g, 12, none⟩) (.inl (by simp)) b12).setCell (p := ⟨g, 13, none⟩) (.inl (by simp)) b13
def DecR (o : Option Msg) (w : World) (base : Nat) (v : Value) : Prop := match o with
  | none => v = .tuple #[.agg #[.int .u16 0, .bool false, .int .i64 0, .bool false, .bool false, .bool false, .bool false, .int .i64 0, .string { data := #[] }, .int .u16 0, .slice none 0 0, .slice none 0 0, .slice none 0 0, .int .i64 0], .iface 77 (.int .i64 1)]
  | some m => ∃ va vn ve, v = .tuple #[.agg #[.int .u16 m.id, .bool m.rp, .int .i64 m.op, .bool m.au, .bool m.tr, .bool m.de, .bool m.av, .int .i64 m.co, .string m.qn, .int .u16 m.qt, va, vn, ve, .int .i64 m.sz], .nilIface] ∧
      Kd.R k37 37 w base (fun _ => True) va m.an ∧ Kd.R k37 37 w base (fun _ => True) vn m.ns ∧ Kd.R k37 37 w base (fun _ => True) ve m.ex
set_option maxHeartbeats 16000000 in
theorem decode_ (A : Option Addr) (c : Nat) (bs : List Int) (w : World) (hC : Kd.C (Kd.int .u8) w A bs.length bs) (hc : bs.length ≤ c) (hl : bs.length ≤ 2000000) :
    Calls Try.prog 14 #[.slice A bs.length c] w fun e w' => ∃ v, e = .returned v ∧ DecR (decR (strOfNums bs)) w' w.heap.size v ∧ Below w.heap.size w w' := by
  have HC := Lib.hid hC
  have HCC := Lib.hid hc
  obtain ⟨s, hs⟩ : ∃ s, strOfNums bs = s := ⟨_, rfl⟩
  have hsz : s.size = bs.length := by rw [← hs, str_size]
  have HSZ := Lib.hid hsz
  rw [hs]
  have HS := Lib.hid hs
  have hs6 : s.size ≤ 2000000 := by omega
  have hs9 : s.size ≤ 1000000000 := by omega
  clear hs hC hc
  have hcv := Kd.C_string (P := Try.prog) (c := c) Try.underlying40 Try.underlying5 Try.underlying9 (Kd.C_below HC.out (below_alloc (Below.refl w.heap.size w) (.cells #[.int .u16 0, .bool false, .int .i64 0, .bool false, .bool false, .bool false, .bool false, .int .i64 0, .string { data := #[] }, .int .u16 0, .slice none 0 0, .slice none 0 0, .slice none 0 0, .int .i64 0] 31)))
  rw [HS.out] at hcv
  clear hl hsz
  go_enter Try.func14, Try.ntmps14
  go_upto_region 2 with fail
  clear hcv
  have hbx := two_boxes w (.cells #[.int .u16 0, .bool false, .int .i64 0, .bool false, .bool false, .bool false, .bool false, .int .i64 0, .string { data := #[] }, .int .u16 0, .slice none 0 0, .slice none 0 0, .slice none 0 0, .int .i64 0] 31) (.cells #[.string s, .int .i64 0, .bool false] 76)
  obtain ⟨hx0, hv0, hsz0⟩ := hbx
  have hb0 := below_alloc (below_alloc (Below.refl w.heap.size w) (.cells #[.int .u16 0, .bool false, .int .i64 0, .bool false, .bool false, .bool false, .bool false, .int .i64 0, .string { data := #[] }, .int .u16 0, .slice none 0 0, .slice none 0 0, .slice none 0 0, .int .i64 0] 31)) (.cells #[.string s, .int .i64 0, .bool false] 76)
  obtain ⟨gr, hgr⟩ : ∃ x, w.heap.size = x := ⟨_, rfl⟩
  rw [hgr] at hx0 hv0 hb0 ⊢
  obtain ⟨g, hg⟩ : ∃ x, gr + 1 = x := ⟨_, rfl⟩
  rw [hg] at hv0 ⊢
  have HGG : Hid (gr < g ∧ w.heap.size = gr) := Lib.hid ⟨by omega, hgr⟩
  generalize (w.alloc (.cells #[.int .u16 0, .bool false, .int .i64 0, .bool false, .bool false, .bool false, .bool false, .int .i64 0, .string { data := #[] }, .int .u16 0, .slice none 0 0, .slice none 0 0, .slice none 0 0, .int .i64 0] 31)).alloc (.cells #[.string s, .int .i64 0, .bool false] 76) = w1 at hx0 hv0 hb0 ⊢
  have HX1 := Lib.hid hx0
  have HB1 := Lib.hid hb0
  have HV1 : Hid (RV w1 g s 0 false) := Lib.hid hv0
  clear hx0 hv0 hb0 hsz0 hgr hg
  obtain ⟨lb, hlb⟩ : ∃ x, bs.length = x := ⟨_, rfl⟩
  have HLB := Lib.hid hlb
  have hsl : s.size = lb := by rw [HSZ.out, hlb]
  rw [hlb]
  clear hlb
  have HSL := Lib.hid hsl
  clear hsl
  by_cases hbig : 4096 < lb
  · have d1 : decide ((4096 : Int) < (lb : Int)) = true := decide_eq_true (by omega)
    have d2 : decide (4096 < lb) = true := decide_eq_true hbig
    obtain ⟨z0, z1, z2, z3, z4, z5, z6, z7, z8, z9, z10, z11, z12, z13⟩ := cells14 HX1.out
    obtain ⟨y0, y1, y2, y3, y4, y5, y6, y7, y8, y9, y10, y11, y12, y13⟩ := froz14 HX1.out
    go_wp2
    refine bodyPost_ret (results_list (rs := [.cell 2 31, .tmp 3]) rfl (by simp) (.cell gr _ #[.int .u16 0, .bool false, .int .i64 0, .bool false, .bool false, .bool false, .bool false, .int .i64 0, .string { data := #[] }, .int .u16 0, .slice none 0 0, .slice none 0 0, .slice none 0 0, .int .i64 0] (0, 0) _ rfl (put14 HX1.out) Try.underlying31 rfl (by kernel_rfl) (.tmp .nil))) rfl ?_
    refine ⟨_, rfl, ?_, by rw [HGG.out.2]; exact putB14 HB1.out (Nat.le_refl _)⟩
    have hdec : decR s = none := by
      unfold decR
      rw [if_pos (by rw [HSL.out]; exact hbig)]
    rw [hdec]
    rfl
  have d1 : decide ((4096 : Int) < (lb : Int)) = false := decide_eq_false (by omega)
  have d2 : decide (4096 < lb) = false := decide_eq_false hbig
  have HBIG : Hid (¬ 4096 < s.size) := Lib.hid (by rw [HSL.out]; exact hbig)
  clear hbig
  go_wp2_with fail
  clear d1 d2
  refine (num16_ HV1.out hs9 (by omega)).mono ?_
  rintro e w2 ⟨rfl, hV, hT⟩
  obtain ⟨i0, h_i0⟩ : ∃ n, (g16 s 0).1 = n := ⟨_, rfl⟩
  obtain ⟨b1, hb_b1⟩ : ∃ b, (false || !(g16 s 0).2) = b := ⟨_, rfl⟩
  have hr_i0 := g16_rng s 0
  rw [h_i0] at hr_i0 ⊢
  have hV : RV w2 g s 2 (false || !(g16 s 0).2) := hV
  rw [hb_b1] at hV
  have HV2 := Lib.hid hV
  have Hi0 := Lib.hid (And.intro h_i0 (And.intro hb_b1 hr_i0))
  clear hV h_i0 hb_b1 hr_i0 HV1
  have HX2 := Lib.hid (hT.blk HX1.out (by have := HGG.out; simp; omega))
  have HB2 := Lib.hid (HB1.out.trans (hT.below (base := gr) (by intro k hk; simp at hk; have := HGG.out; omega) (by have := HB1.out.size; have := HGG.out; omega)))
  clear hT HX1 HB1
  go_wp2_with fail
  refine (num16_ HV2.out hs9 (by omega)).mono ?_
  rintro e w3 ⟨rfl, hV, hT⟩
  obtain ⟨fl, h_fl⟩ : ∃ n, (g16 s 2).1 = n := ⟨_, rfl⟩
  obtain ⟨b2, hb_b2⟩ : ∃ b, (b1 || !(g16 s 2).2) = b := ⟨_, rfl⟩
  have hr_fl := g16_rng s 2
  rw [h_fl] at hr_fl ⊢
  have hV : RV w3 g s 4 (b1 || !(g16 s 2).2) := hV
  rw [hb_b2] at hV
  have HV3 := Lib.hid hV
  have Hfl := Lib.hid (And.intro h_fl (And.intro hb_b2 hr_fl))
  clear hV h_fl hb_b2 hr_fl HV2
  have HX3 := Lib.hid (hT.blk HX2.out (by have := HGG.out; simp; omega))
  have HB3 := Lib.hid (HB2.out.trans (hT.below (base := gr) (by intro k hk; simp at hk; have := HGG.out; omega) (by have := HB2.out.size; have := HGG.out; omega)))
  clear hT HX2 HB2
  go_wp2_with fail
  obtain ⟨kH, hkH⟩ := Ev.rounds (head_ev i0 fl Hfl.out.2.2.1 Hfl.out.2.2.2)
  obtain ⟨h1, e_h1⟩ : ∃ x, bb fl 32768 = x := ⟨_, rfl⟩
  obtain ⟨h2, e_h2⟩ : ∃ x, fl / 2048 % 16 = x := ⟨_, rfl⟩
  obtain ⟨h3, e_h3⟩ : ∃ x, bb fl 1024 = x := ⟨_, rfl⟩
  obtain ⟨h4, e_h4⟩ : ∃ x, bb fl 512 = x := ⟨_, rfl⟩
  obtain ⟨h5, e_h5⟩ : ∃ x, bb fl 256 = x := ⟨_, rfl⟩
  obtain ⟨h6, e_h6⟩ : ∃ x, bb fl 128 = x := ⟨_, rfl⟩
  obtain ⟨h7, e_h7⟩ : ∃ x, fl % 16 = x := ⟨_, rfl⟩
  rw [e_h1, e_h2, e_h3, e_h4, e_h5, e_h6, e_h7] at hkH
  have HEH := Lib.hid (And.intro e_h1 (And.intro e_h2 (And.intro e_h3 (And.intro e_h4 (And.intro e_h5 (And.intro e_h6 e_h7))))))
  clear e_h1 e_h2 e_h3 e_h4 e_h5 e_h6 e_h7
  refine (message_head.calls kH i0 fl i0 h1 h2 h3 h4 h5 h6 h7 w3 hkH).mono ?_
  clear hkH kH
  rintro e w4 ⟨rfl, hb⟩
  have hT := Turned.of_below hb [g]
  have HV4 := Lib.hid (blk_below HV3.out hb)
  clear hb HV3
  have HX4 := Lib.hid (hT.blk HX3.out (by have := HGG.out; simp; omega))
  have HB4 := Lib.hid (HB3.out.trans (hT.below (base := gr) (by intro k hk; simp at hk; have := HGG.out; omega) (by have := HB3.out.size; have := HGG.out; omega)))
  clear hT HX3 HB3
  go_wp2_with fail
  have hA5 := below_alloc (Below.refl w4.heap.size w4) (.cells #[.int .u16 i0, .bool h1, .int .i64 h2, .bool h3, .bool h4, .bool h5, .bool h6, .int .i64 h7, .string { data := #[] }, .int .u16 0, .slice none 0 0, .slice none 0 0, .slice none 0 0, .int .i64 0] 31)
  have hM5 := blk_new w4 (.cells #[.int .u16 i0, .bool h1, .int .i64 h2, .bool h3, .bool h4, .bool h5, .bool h6, .int .i64 h7, .string { data := #[] }, .int .u16 0, .slice none 0 0, .slice none 0 0, .slice none 0 0, .int .i64 0] 31)
  have hV5 := blk_below HV4.out hA5
  have hX5 := blk_below HX4.out hA5
  have hlt := blk_lt HV4.out
  obtain ⟨gm, hgm⟩ : ∃ x, w4.heap.size = x := ⟨_, rfl⟩
  rw [hgm] at hM5 hlt ⊢
  have hB5 := HB4.out.trans (hA5.mono (show gr ≤ w4.heap.size by have := HGG.out; omega))
  generalize w4.alloc (.cells #[.int .u16 i0, .bool h1, .int .i64 h2, .bool h3, .bool h4, .bool h5, .bool h6, .int .i64 h7, .string { data := #[] }, .int .u16 0, .slice none 0 0, .slice none 0 0, .slice none 0 0, .int .i64 0] 31) = w5 at hA5 hM5 hV5 hX5 hB5 ⊢
  have HGM : Hid (g < gm) := Lib.hid hlt
  have HM5 := Lib.hid hM5
  have HV5 := Lib.hid hV5
  have HX5 := Lib.hid hX5
  have HB5 := Lib.hid hB5
  clear hA5 hM5 hV5 hX5 hB5 hlt hgm HV4 HX4 HB4
  refine (num16_ HV5.out hs9 (by omega)).mono ?_
  rintro e w6 ⟨rfl, hV, hT⟩
  obtain ⟨one, h_one⟩ : ∃ n, (g16 s 4).1 = n := ⟨_, rfl⟩
  obtain ⟨b3, hb_b3⟩ : ∃ b, (b2 || !(g16 s 4).2) = b := ⟨_, rfl⟩
  have hr_one := g16_rng s 4
  rw [h_one] at hr_one ⊢
  have hV : RV w6 g s 6 (b2 || !(g16 s 4).2) := hV
  rw [hb_b3] at hV
  have HV6 := Lib.hid hV
  have Hone := Lib.hid (And.intro h_one (And.intro hb_b3 hr_one))
  clear hV h_one hb_b3 hr_one HV5
  have HX6 := Lib.hid (hT.blk HX5.out (by have := HGG.out; simp; omega))
  have HB6 := Lib.hid (HB5.out.trans (hT.below (base := gr) (by intro k hk; simp at hk; have := HGG.out; omega) (by have := HB5.out.size; have := HGG.out; omega)))
  have HM6 := Lib.hid (hT.blk HM5.out (by have := HGM.out; simp; omega))
  clear hT HX5 HB5 HM5
  go_wp2_with fail
  refine (num16_ HV6.out hs9 (by omega)).mono ?_
  rintro e w7 ⟨rfl, hV, hT⟩
  obtain ⟨na, h_na⟩ : ∃ n, (g16 s 6).1 = n := ⟨_, rfl⟩
  obtain ⟨b4, hb_b4⟩ : ∃ b, (b3 || !(g16 s 6).2) = b := ⟨_, rfl⟩
  have hr_na := g16_rng s 6
  rw [h_na] at hr_na ⊢
  have hV : RV w7 g s 8 (b3 || !(g16 s 6).2) := hV
  rw [hb_b4] at hV
  have HV7 := Lib.hid hV
  have Hna := Lib.hid (And.intro h_na (And.intro hb_b4 hr_na))
  clear hV h_na hb_b4 hr_na HV6
  have HX7 := Lib.hid (hT.blk HX6.out (by have := HGG.out; simp; omega))
  have HB7 := Lib.hid (HB6.out.trans (hT.below (base := gr) (by intro k hk; simp at hk; have := HGG.out; omega) (by have := HB6.out.size; have := HGG.out; omega)))
  have HM7 := Lib.hid (hT.blk HM6.out (by have := HGM.out; simp; omega))
  clear hT HX6 HB6 HM6
  go_wp2_with fail
  refine (num16_ HV7.out hs9 (by omega)).mono ?_
  rintro e w8 ⟨rfl, hV, hT⟩
  obtain ⟨nn, h_nn⟩ : ∃ n, (g16 s 8).1 = n := ⟨_, rfl⟩
  obtain ⟨b5, hb_b5⟩ : ∃ b, (b4 || !(g16 s 8).2) = b := ⟨_, rfl⟩
  have hr_nn := g16_rng s 8
  rw [h_nn] at hr_nn ⊢
  have hV : RV w8 g s 10 (b4 || !(g16 s 8).2) := hV
  rw [hb_b5] at hV
  have HV8 := Lib.hid hV
  have Hnn := Lib.hid (And.intro h_nn (And.intro hb_b5 hr_nn))
  clear hV h_nn hb_b5 hr_nn HV7
  have HX8 := Lib.hid (hT.blk HX7.out (by have := HGG.out; simp; omega))
  have HB8 := Lib.hid (HB7.out.trans (hT.below (base := gr) (by intro k hk; simp at hk; have := HGG.out; omega) (by have := HB7.out.size; have := HGG.out; omega)))
  have HM8 := Lib.hid (hT.blk HM7.out (by have := HGM.out; simp; omega))
  clear hT HX7 HB7 HM7
  go_wp2_with fail
  refine (num16_ HV8.out hs9 (by omega)).mono ?_
  rintro e w9 ⟨rfl, hV, hT⟩
  obtain ⟨ne, h_ne⟩ : ∃ n, (g16 s 10).1 = n := ⟨_, rfl⟩
  obtain ⟨b6, hb_b6⟩ : ∃ b, (b5 || !(g16 s 10).2) = b := ⟨_, rfl⟩
  have hr_ne := g16_rng s 10
  rw [h_ne] at hr_ne ⊢
  have hV : RV w9 g s 12 (b5 || !(g16 s 10).2) := hV
  rw [hb_b6] at hV
  have HV9 := Lib.hid hV
  have Hne := Lib.hid (And.intro h_ne (And.intro hb_b6 hr_ne))
  clear hV h_ne hb_b6 hr_ne HV8
  have HX9 := Lib.hid (hT.blk HX8.out (by have := HGG.out; simp; omega))
  have HB9 := Lib.hid (HB8.out.trans (hT.below (base := gr) (by intro k hk; simp at hk; have := HGG.out; omega) (by have := HB8.out.size; have := HGG.out; omega)))
  have HM9 := Lib.hid (hT.blk HM8.out (by have := HGM.out; simp; omega))
  clear hT HX8 HB8 HM8
  have hcb := (blk_cell HV9.out 2).trans rfl
  have HB6 : Hid (b6 = decide (s.size < 12)) := Lib.hid (by
    rw [← Hne.out.2.1, ← Hnn.out.2.1, ← Hna.out.2.1, ← Hone.out.2.1, ← Hfl.out.2.1, ← Hi0.out.2.1, g16_flag, g16_flag, g16_flag, g16_flag, g16_flag, g16_flag]
    by_cases h : s.size < 12
    · rw [decide_eq_true h, decide_eq_false (p := 0 ≤ (10 : Int) ∧ (10 : Int) + 2 ≤ s.size) (by omega)]
      simp
    · rw [decide_eq_false h, decide_eq_true (p := 0 ≤ (10 : Int) ∧ (10 : Int) + 2 ≤ s.size) (by omega), decide_eq_true (p := 0 ≤ (8 : Int) ∧ (8 : Int) + 2 ≤ s.size) (by omega), decide_eq_true (p := 0 ≤ (6 : Int) ∧ (6 : Int) + 2 ≤ s.size) (by omega), decide_eq_true (p := 0 ≤ (4 : Int) ∧ (4 : Int) + 2 ≤ s.size) (by omega), decide_eq_true (p := 0 ≤ (2 : Int) ∧ (2 : Int) + 2 ≤ s.size) (by omega), decide_eq_true (p := 0 ≤ (0 : Int) ∧ (0 : Int) + 2 ≤ s.size) (by omega)]
      rfl)
  have hand : Go.bits .and .u16 (fl / 16) 7 = fl / 16 % 8 := and_mask 3 7 _ (by decide) (by decide) (by have := Hfl.out.2.2; omega) (by have := Hfl.out.2.2; omega)
  obtain ⟨fy, hfy⟩ : ∃ x, fl / 16 % 8 = x := ⟨_, rfl⟩
  rw [hfy] at hand
  have HFY := Lib.hid hfy
  clear hfy
  cases b6 with
  | true =>
    obtain ⟨z0, z1, z2, z3, z4, z5, z6, z7, z8, z9, z10, z11, z12, z13⟩ := cells14 HX9.out
    obtain ⟨y0, y1, y2, y3, y4, y5, y6, y7, y8, y9, y10, y11, y12, y13⟩ := froz14 HX9.out
    go_wp2
    refine bodyPost_ret (results_list (rs := [.cell 2 31, .tmp 3]) rfl (by simp) (.cell gr _ #[.int .u16 0, .bool false, .int .i64 0, .bool false, .bool false, .bool false, .bool false, .int .i64 0, .string { data := #[] }, .int .u16 0, .slice none 0 0, .slice none 0 0, .slice none 0 0, .int .i64 0] (0, 0) _ rfl (put14 HX9.out) Try.underlying31 rfl (by kernel_rfl) (.tmp .nil))) rfl ?_
    refine ⟨_, rfl, ?_, by rw [HGG.out.2]; exact putB14 HB9.out (Nat.le_refl _)⟩
    have hdec : decR s = none := by
      unfold decR
      rw [if_neg HBIG.out, if_pos (.inl (of_decide_eq_true HB6.out.symm))]
    rw [hdec]
    rfl
  | false =>
  by_cases x1 : one = 1
  rotate_left
  · have x1' : (one == 1) = false := beq_eq_false_iff_ne.2 x1
    have HX1' := Lib.hid x1
    clear x1
    obtain ⟨z0, z1, z2, z3, z4, z5, z6, z7, z8, z9, z10, z11, z12, z13⟩ := cells14 HX9.out
    obtain ⟨y0, y1, y2, y3, y4, y5, y6, y7, y8, y9, y10, y11, y12, y13⟩ := froz14 HX9.out
    go_wp2
    refine bodyPost_ret (results_list (rs := [.cell 2 31, .tmp 3]) rfl (by simp) (.cell gr _ #[.int .u16 0, .bool false, .int .i64 0, .bool false, .bool false, .bool false, .bool false, .int .i64 0, .string { data := #[] }, .int .u16 0, .slice none 0 0, .slice none 0 0, .slice none 0 0, .int .i64 0] (0, 0) _ rfl (put14 HX9.out) Try.underlying31 rfl (by kernel_rfl) (.tmp .nil))) rfl ?_
    refine ⟨_, rfl, ?_, by rw [HGG.out.2]; exact putB14 HB9.out (Nat.le_refl _)⟩
    have hdec : decR s = none := by
      unfold decR
      rw [if_neg HBIG.out, if_pos (.inr (.inl (by rw [Hone.out.1]; exact HX1'.out)))]
    rw [hdec]
    rfl
  have x1' : (one == 1) = true := beq_iff_eq.2 x1
  have HX1' := Lib.hid x1
  clear x1
  by_cases x2 : fy = 0
  rotate_left
  · have x2' : (fy == 0) = false := beq_eq_false_iff_ne.2 x2
    have HX2' := Lib.hid x2
    clear x2
    obtain ⟨z0, z1, z2, z3, z4, z5, z6, z7, z8, z9, z10, z11, z12, z13⟩ := cells14 HX9.out
    obtain ⟨y0, y1, y2, y3, y4, y5, y6, y7, y8, y9, y10, y11, y12, y13⟩ := froz14 HX9.out
    go_wp2
    refine bodyPost_ret (results_list (rs := [.cell 2 31, .tmp 3]) rfl (by simp) (.cell gr _ #[.int .u16 0, .bool false, .int .i64 0, .bool false, .bool false, .bool false, .bool false, .int .i64 0, .string { data := #[] }, .int .u16 0, .slice none 0 0, .slice none 0 0, .slice none 0 0, .int .i64 0] (0, 0) _ rfl (put14 HX9.out) Try.underlying31 rfl (by kernel_rfl) (.tmp .nil))) rfl ?_
    refine ⟨_, rfl, ?_, by rw [HGG.out.2]; exact putB14 HB9.out (Nat.le_refl _)⟩
    have hdec : decR s = none := by
      unfold decR
      rw [if_neg HBIG.out, if_pos (.inr (.inr (by rw [Hfl.out.1, HFY.out]; exact HX2'.out)))]
    rw [hdec]
    rfl
  have x2' : (fy == 0) = true := beq_iff_eq.2 x2
  have HX2' := Lib.hid x2
  clear x2
  have HS12 : Hid (¬ s.size < 12) := Lib.hid (of_decide_eq_false HB6.out.symm)
  go_wp2_with fail
  clear x1' x2' hcb hand
  refine (rname_ HV9.out hs9 (by omega)).mono ?_
  rintro e w10 ⟨rfl, hV, hT⟩
  have hrn := nmR_rng s 12
  have hqp : (nmR s 12).2.1 = qP s := rfl
  obtain ⟨E1, hE1⟩ : ∃ x, qP s = x := ⟨_, rfl⟩
  obtain ⟨qn, hqn⟩ : ∃ x, (nmR s 12).1 = x := ⟨_, rfl⟩
  obtain ⟨b7, hb7⟩ : ∃ b, (false || !(nmR s 12).2.2) = b := ⟨_, rfl⟩
  rw [hqp, hE1] at hrn hV
  rw [hb7] at hV
  rw [hqn]
  have HQ := Lib.hid (And.intro hE1 (And.intro hqn hb7))
  have HE1 := Lib.hid hrn
  have HV10 := Lib.hid hV
  clear hV hrn hqp hE1 hqn hb7 HV9
  have HX10 := Lib.hid (hT.blk HX9.out (by have := HGG.out; simp; omega))
  have HB10 := Lib.hid (HB9.out.trans (hT.below (base := gr) (by intro k hk; simp at hk; have := HGG.out; omega) (by have := HB9.out.size; have := HGG.out; omega)))
  have HM10 := Lib.hid (hT.blk HM9.out (by have := HGM.out; simp; omega))
  clear hT HX9 HB9 HM9
  have hcm := (blk_cell HM10.out 8).trans rfl
  have hfm := blk_frozen HM10.out 8
  go_wp2_with fail
  clear hcm hfm
  have HX11 := Lib.hid (blk_far HX10.out (p := ⟨gm, 8, none⟩) (by have := HGM.out; have := HGG.out; simp; omega) (.string (strOfNums qn)))
  have HV11 := Lib.hid (blk_far HV10.out (p := ⟨gm, 8, none⟩) (by have := HGM.out; simp; omega) (.string (strOfNums qn)))
  have HB11 := Lib.hid (HB10.out.setCell (p := ⟨gm, 8, none⟩) (by have := HGM.out; have := HGG.out; simp; omega) (.string (strOfNums qn)))
  have HM11 : Hid ((w10.setCell ⟨gm, 8, none⟩ (.string (strOfNums qn))).heap[gm]? = some (.cells #[.int .u16 i0, .bool h1, .int .i64 h2, .bool h3, .bool h4, .bool h5, .bool h6, .int .i64 h7, .string (strOfNums qn), .int .u16 0, .slice none 0 0, .slice none 0 0, .slice none 0 0, .int .i64 0] 31 (0, 0))) := Lib.hid (blk_put HM10.out 8 (.string (strOfNums qn)) rfl)
  obtain ⟨w11, hw11⟩ : ∃ x, w10.setCell ⟨gm, 8, none⟩ (.string (strOfNums qn)) = x := ⟨_, rfl⟩
  rw [hw11] at HX11 HV11 HB11 HM11 ⊢
  clear hw11 HX10 HV10 HB10 HM10
  refine (num16_ HV11.out hs9 (by have := HE1.out; omega)).mono ?_
  rintro e w12 ⟨rfl, hV, hT⟩
  obtain ⟨qt, h_qt⟩ : ∃ n, (g16 s E1).1 = n := ⟨_, rfl⟩
  obtain ⟨b8, hb_b8⟩ : ∃ b, (b7 || !(g16 s E1).2) = b := ⟨_, rfl⟩
  have hr_qt := g16_rng s E1
  rw [h_qt] at hr_qt ⊢
  have hV : RV w12 g s (E1 + 2) (b7 || !(g16 s E1).2) := hV
  rw [hb_b8] at hV
  have HV12 := Lib.hid hV
  have Hqt := Lib.hid (And.intro h_qt (And.intro hb_b8 hr_qt))
  clear hV h_qt hb_b8 hr_qt HV11
  have HX12 := Lib.hid (hT.blk HX11.out (by have := HGG.out; simp; omega))
  have HB12 := Lib.hid (HB11.out.trans (hT.below (base := gr) (by intro k hk; simp at hk; have := HGG.out; omega) (by have := HB11.out.size; have := HGG.out; omega)))
  have HM12 := Lib.hid (hT.blk HM11.out (by have := HGM.out; simp; omega))
  clear hT HX11 HB11 HM11
  have hcm := (blk_cell HM12.out 9).trans rfl
  have hfm := blk_frozen HM12.out 9
  go_wp2_with fail
  clear hcm hfm
  have HX13 := Lib.hid (blk_far HX12.out (p := ⟨gm, 9, none⟩) (by have := HGM.out; have := HGG.out; simp; omega) (.int .u16 qt))
  have HV13 := Lib.hid (blk_far HV12.out (p := ⟨gm, 9, none⟩) (by have := HGM.out; simp; omega) (.int .u16 qt))
  have HB13 := Lib.hid (HB12.out.setCell (p := ⟨gm, 9, none⟩) (by have := HGM.out; have := HGG.out; simp; omega) (.int .u16 qt))
  have HM13 : Hid ((w12.setCell ⟨gm, 9, none⟩ (.int .u16 qt)).heap[gm]? = some (.cells #[.int .u16 i0, .bool h1, .int .i64 h2, .bool h3, .bool h4, .bool h5, .bool h6, .int .i64 h7, .string (strOfNums qn), .int .u16 qt, .slice none 0 0, .slice none 0 0, .slice none 0 0, .int .i64 0] 31 (0, 0))) := Lib.hid (blk_put HM12.out 9 (.int .u16 qt) rfl)
  obtain ⟨w13, hw13⟩ : ∃ x, w12.setCell ⟨gm, 9, none⟩ (.int .u16 qt) = x := ⟨_, rfl⟩
  rw [hw13] at HX13 HV13 HB13 HM13 ⊢
  clear hw13 HX12 HV12 HB12 HM12
  refine (num16_ HV13.out hs9 (by have := HE1.out; omega)).mono ?_
  rintro e w14 ⟨rfl, hV, hT⟩
  obtain ⟨cl, h_cl⟩ : ∃ n, (g16 s (E1 + 2)).1 = n := ⟨_, rfl⟩
  obtain ⟨b9, hb_b9⟩ : ∃ b, (b8 || !(g16 s (E1 + 2)).2) = b := ⟨_, rfl⟩
  have hr_cl := g16_rng s (E1 + 2)
  rw [h_cl] at hr_cl ⊢
  have hV : RV w14 g s (E1 + 2 + 2) (b8 || !(g16 s (E1 + 2)).2) := hV
  rw [hb_b9] at hV
  have HV14 := Lib.hid hV
  have Hcl := Lib.hid (And.intro h_cl (And.intro hb_b9 hr_cl))
  clear hV h_cl hb_b9 hr_cl HV13
  have HX14 := Lib.hid (hT.blk HX13.out (by have := HGG.out; simp; omega))
  have HB14 := Lib.hid (HB13.out.trans (hT.below (base := gr) (by intro k hk; simp at hk; have := HGG.out; omega) (by have := HB13.out.size; have := HGG.out; omega)))
  have HM14 := Lib.hid (hT.blk HM13.out (by have := HGM.out; simp; omega))
  clear hT HX13 HB13 HM13
  by_cases x1 : cl = 1
  rotate_left
  · have x1' : (cl == 1) = false := beq_eq_false_iff_ne.2 x1
    have HX3' := Lib.hid x1
    clear x1
    obtain ⟨z0, z1, z2, z3, z4, z5, z6, z7, z8, z9, z10, z11, z12, z13⟩ := cells14 HX14.out
    obtain ⟨y0, y1, y2, y3, y4, y5, y6, y7, y8, y9, y10, y11, y12, y13⟩ := froz14 HX14.out
    go_wp2
    refine bodyPost_ret (results_list (rs := [.cell 2 31, .tmp 3]) rfl (by simp) (.cell gr _ #[.int .u16 0, .bool false, .int .i64 0, .bool false, .bool false, .bool false, .bool false, .int .i64 0, .string { data := #[] }, .int .u16 0, .slice none 0 0, .slice none 0 0, .slice none 0 0, .int .i64 0] (0, 0) _ rfl (put14 HX14.out) Try.underlying31 rfl (by kernel_rfl) (.tmp .nil))) rfl ?_
    refine ⟨_, rfl, ?_, by rw [HGG.out.2]; exact putB14 HB14.out (Nat.le_refl _)⟩
    have hdec : decR s = none := by
      unfold decR
      rw [if_neg HBIG.out, if_neg (by rintro (h | h | h); exact HS12.out h; exact h (Hone.out.1.trans HX1'.out); exact h (by rw [Hfl.out.1, HFY.out]; exact HX2'.out)), if_pos (by rw [HQ.out.1, Hcl.out.1]; exact HX3'.out)]
    rw [hdec]
    rfl
  have x1' : (cl == 1) = true := beq_iff_eq.2 x1
  have HX3' := Lib.hid x1
  clear x1
  have HQB : Hid (qB s = b9) := Lib.hid (by unfold qB; rw [← Hcl.out.2.1, ← Hqt.out.2.1, ← HQ.out.2.2, HQ.out.1, Bool.false_or])
  have HPI0 : Hid (PIn s (E1 + 2 + 2) b9) := Lib.hid (by
    refine ⟨by have := HE1.out; omega, by have := HE1.out; omega, fun e => ?_⟩
    have h := Hcl.out.2.1
    rw [e, g16_flag] at h
    have h2 : (0 ≤ E1 + 2 ∧ E1 + 2 + 2 ≤ s.size) := by
      by_cases c : 0 ≤ E1 + 2 ∧ E1 + 2 + 2 ≤ s.size
      · exact c
      · rw [decide_eq_false c] at h
        simp at h
    exact h2.2)
  obtain ⟨ka, rfl⟩ : ∃ k : Nat, na = k := ⟨na.toNat, by have := Hna.out.2.2; omega⟩
  obtain ⟨kn, rfl⟩ : ∃ k : Nat, nn = k := ⟨nn.toNat, by have := Hnn.out.2.2; omega⟩
  obtain ⟨ke, rfl⟩ : ∃ k : Nat, ne = k := ⟨ne.toNat, by have := Hne.out.2.2; omega⟩
  have hwa : wrap64 (ka : Int) = ka := by have := Hna.out.2.2; unfold wrap64; omega
  have hwn : wrap64 (kn : Int) = kn := by have := Hnn.out.2.2; unfold wrap64; omega
  have hwe : wrap64 (ke : Int) = ke := by have := Hne.out.2.2; unfold wrap64; omega
  go_wp2_with fail
  clear x1'
  refine (part0_ ka 0 HV14.out hs6 (by have := Hna.out.2.2; omega) HPI0.out).mono ?_
  rintro e w15 ⟨va, rfl, hr, hV, hT⟩
  obtain ⟨l0, hl0⟩ : ∃ x, (ptR s false ka (E1 + 2 + 2) b9 [] 0).1 = x := ⟨_, rfl⟩
  obtain ⟨P0, hP0⟩ : ∃ x, (ptR s false ka (E1 + 2 + 2) b9 [] 0).2.1 = x := ⟨_, rfl⟩
  obtain ⟨c0, hc0⟩ : ∃ b, ((ptR s false ka (E1 + 2 + 2) b9 [] 0).2.2.1 || decide (64 < (ptR s false ka (E1 + 2 + 2) b9 [] 0).1.length)) = b := ⟨_, rfl⟩
  have hpi := pin_or (pt_pin s hs6 false ka (E1 + 2 + 2) b9 [] 0 HPI0.out) (decide (64 < (ptR s false ka (E1 + 2 + 2) b9 [] 0).1.length))
  rw [hP0, hc0] at hV hpi
  rw [hl0] at hr
  have hD : pA s = ptR s false ka (E1 + 2 + 2) b9 [] 0 := by
    unfold pA
    rw [HQ.out.1, Hna.out.1, HQB.out]
    rw [Int.toNat_natCast]
  have HD0 : Hid ((pA s).1 = l0 ∧ (pA s).2.1 = P0 ∧ bA s = c0) := Lib.hid ⟨by rw [hD, hl0], by rw [hD, hP0], by unfold bA; rw [hD, hc0]⟩
  have HPI1 := Lib.hid hpi
  have HV15 := Lib.hid hV
  have HBSva : Hid (g < w14.heap.size ∧ gm < w14.heap.size ∧ gr ≤ w14.heap.size) := Lib.hid ⟨blk_lt HV14.out, blk_lt HM14.out, by have := HB14.out.size; have := HGG.out; omega⟩
  clear hP0 hc0 hl0 hD hV hpi HV14
  have HX15 := Lib.hid (hT.blk HX14.out (by have := HGG.out; simp; omega))
  have HB15 := Lib.hid (HB14.out.trans (hT.below (base := gr) (by intro k hk; simp at hk; have := HGG.out; omega) (by have := HB14.out.size; have := HGG.out; omega)))
  have HM15 := Lib.hid (hT.blk HM14.out (by have := HGM.out; simp; omega))
  clear hT HX14 HB14 HM14
  have HRva15 := Lib.hid hr
  clear hr
  obtain ⟨A0, cc0, hvv⟩ := Kd.R_slice HRva15.out
  subst hvv
  have hcm := (blk_cell HM15.out 10).trans rfl
  have hfm := blk_frozen HM15.out 10
  go_wp2_with fail
  clear hcm hfm
  have HX16 := Lib.hid (blk_far HX15.out (p := ⟨gm, 10, none⟩) (by have := HGM.out; have := HGG.out; simp; omega) ((.slice A0 l0.length cc0)))
  have HV16 := Lib.hid (blk_far HV15.out (p := ⟨gm, 10, none⟩) (by have := HGM.out; simp; omega) ((.slice A0 l0.length cc0)))
  have HB16 := Lib.hid (HB15.out.setCell (p := ⟨gm, 10, none⟩) (by have := HGM.out; have := HGG.out; simp; omega) ((.slice A0 l0.length cc0)))
  have HRva16 := Lib.hid (R_turn HRva15.out (Turned.setCell (Turned.refl [gm] _) (p := ⟨gm, 10, none⟩) (.inl (by simp)) ((.slice A0 l0.length cc0))) (by intro k hk; simp at hk; have := HBSva.out; omega))
  have HM16 : Hid ((w15.setCell ⟨gm, 10, none⟩ ((.slice A0 l0.length cc0))).heap[gm]? = some (.cells #[.int .u16 i0, .bool h1, .int .i64 h2, .bool h3, .bool h4, .bool h5, .bool h6, .int .i64 h7, .string (strOfNums qn), .int .u16 qt, (.slice A0 l0.length cc0), .slice none 0 0, .slice none 0 0, .int .i64 0] 31 (0, 0))) := Lib.hid (blk_put HM15.out 10 ((.slice A0 l0.length cc0)) rfl)
  obtain ⟨w16, hw16⟩ : ∃ x, w15.setCell ⟨gm, 10, none⟩ ((.slice A0 l0.length cc0)) = x := ⟨_, rfl⟩
  rw [hw16] at HX16 HV16 HB16 HM16 HRva16 ⊢
  clear hw16 HX15 HV15 HB15 HM15 HRva15
  refine (part0_ kn 0 HV16.out hs6 (by have := Hnn.out.2.2; omega) HPI1.out).mono ?_
  rintro e w17 ⟨vn, rfl, hr, hV, hT⟩
  obtain ⟨l1, hl1⟩ : ∃ x, (ptR s false kn P0 c0 [] 0).1 = x := ⟨_, rfl⟩
  obtain ⟨P1, hP1⟩ : ∃ x, (ptR s false kn P0 c0 [] 0).2.1 = x := ⟨_, rfl⟩
  obtain ⟨c1, hc1⟩ : ∃ b, ((ptR s false kn P0 c0 [] 0).2.2.1 || decide (64 < (ptR s false kn P0 c0 [] 0).1.length)) = b := ⟨_, rfl⟩
  have hpi := pin_or (pt_pin s hs6 false kn P0 c0 [] 0 HPI1.out) (decide (64 < (ptR s false kn P0 c0 [] 0).1.length))
  rw [hP1, hc1] at hV hpi
  rw [hl1] at hr
  have hD : pN s = ptR s false kn P0 c0 [] 0 := by
    unfold pN
    rw [Hnn.out.1, HD0.out.2.1, HD0.out.2.2]
    rw [Int.toNat_natCast]
  have HD1 : Hid ((pN s).1 = l1 ∧ (pN s).2.1 = P1 ∧ bN s = c1) := Lib.hid ⟨by rw [hD, hl1], by rw [hD, hP1], by unfold bN; rw [hD, hc1]⟩
  have HPI2 := Lib.hid hpi
  have HV17 := Lib.hid hV
  have HBSvn : Hid (g < w16.heap.size ∧ gm < w16.heap.size ∧ gr ≤ w16.heap.size) := Lib.hid ⟨blk_lt HV16.out, blk_lt HM16.out, by have := HB16.out.size; have := HGG.out; omega⟩
  clear hP1 hc1 hl1 hD hV hpi HV16
  have HX17 := Lib.hid (hT.blk HX16.out (by have := HGG.out; simp; omega))
  have HB17 := Lib.hid (HB16.out.trans (hT.below (base := gr) (by intro k hk; simp at hk; have := HGG.out; omega) (by have := HB16.out.size; have := HGG.out; omega)))
  have HM17 := Lib.hid (hT.blk HM16.out (by have := HGM.out; simp; omega))
  have HRva17 := Lib.hid (R_turn HRva16.out hT (by intro k hk; simp at hk; have := HBSva.out; omega))
  clear hT HX16 HB16 HM16 HRva16
  have HRvn17 := Lib.hid hr
  clear hr
  obtain ⟨A1, cc1, hvv⟩ := Kd.R_slice HRvn17.out
  subst hvv
  have hcm := (blk_cell HM17.out 11).trans rfl
  have hfm := blk_frozen HM17.out 11
  go_wp2_with fail
  clear hcm hfm
  have HX18 := Lib.hid (blk_far HX17.out (p := ⟨gm, 11, none⟩) (by have := HGM.out; have := HGG.out; simp; omega) ((.slice A1 l1.length cc1)))
  have HV18 := Lib.hid (blk_far HV17.out (p := ⟨gm, 11, none⟩) (by have := HGM.out; simp; omega) ((.slice A1 l1.length cc1)))
  have HB18 := Lib.hid (HB17.out.setCell (p := ⟨gm, 11, none⟩) (by have := HGM.out; have := HGG.out; simp; omega) ((.slice A1 l1.length cc1)))
  have HRva18 := Lib.hid (R_turn HRva17.out (Turned.setCell (Turned.refl [gm] _) (p := ⟨gm, 11, none⟩) (.inl (by simp)) ((.slice A1 l1.length cc1))) (by intro k hk; simp at hk; have := HBSva.out; omega))
  have HRvn18 := Lib.hid (R_turn HRvn17.out (Turned.setCell (Turned.refl [gm] _) (p := ⟨gm, 11, none⟩) (.inl (by simp)) ((.slice A1 l1.length cc1))) (by intro k hk; simp at hk; have := HBSvn.out; omega))
  have HM18 : Hid ((w17.setCell ⟨gm, 11, none⟩ ((.slice A1 l1.length cc1))).heap[gm]? = some (.cells #[.int .u16 i0, .bool h1, .int .i64 h2, .bool h3, .bool h4, .bool h5, .bool h6, .int .i64 h7, .string (strOfNums qn), .int .u16 qt, (.slice A0 l0.length cc0), (.slice A1 l1.length cc1), .slice none 0 0, .int .i64 0] 31 (0, 0))) := Lib.hid (blk_put HM17.out 11 ((.slice A1 l1.length cc1)) rfl)
  obtain ⟨w18, hw18⟩ : ∃ x, w17.setCell ⟨gm, 11, none⟩ ((.slice A1 l1.length cc1)) = x := ⟨_, rfl⟩
  rw [hw18] at HX18 HV18 HB18 HM18 HRva18 HRvn18 ⊢
  clear hw18 HX17 HV17 HB17 HM17 HRva17 HRvn17
  refine (part1_ (gm := gm) (A := #[.int .u16 i0, .bool h1, .int .i64 h2, .bool h3, .bool h4, .bool h5, .bool h6, .int .i64 h7, .string (strOfNums qn), .int .u16 qt, (.slice A0 l0.length cc0), (.slice A1 l1.length cc1), .slice none 0 0, .int .i64 0]) ke 0 HV18.out hs6 (by have := Hne.out.2.2; omega) HPI2.out (blk_lt HM18.out) (by have := HGM.out; omega) rfl HM18.out (by omega)).mono ?_
  rintro e w19 ⟨ve, rfl, hr, hV, hT, hM⟩
  obtain ⟨l2, hl2⟩ : ∃ x, (ptR s true ke P1 c1 [] 0).1 = x := ⟨_, rfl⟩
  obtain ⟨P2, hP2⟩ : ∃ x, (ptR s true ke P1 c1 [] 0).2.1 = x := ⟨_, rfl⟩
  obtain ⟨c2, hc2⟩ : ∃ b, ((ptR s true ke P1 c1 [] 0).2.2.1 || decide (64 < (ptR s true ke P1 c1 [] 0).1.length)) = b := ⟨_, rfl⟩
  have hpi := pin_or (pt_pin s hs6 true ke P1 c1 [] 0 HPI2.out) (decide (64 < (ptR s true ke P1 c1 [] 0).1.length))
  rw [hP2, hc2] at hV hpi
  rw [hl2] at hr
  obtain ⟨sz, hz⟩ : ∃ x, (ptR s true ke P1 c1 [] 0).2.2.2 = x := ⟨_, rfl⟩
  rw [hz] at hM
  have hD : pE s = ptR s true ke P1 c1 [] 0 := by
    unfold pE
    rw [Hne.out.1, HD1.out.2.1, HD1.out.2.2]
    rw [Int.toNat_natCast]
  have HD2 : Hid ((pE s).1 = l2 ∧ (pE s).2.1 = P2 ∧ bE s = c2 ∧ (pE s).2.2.2 = sz) := Lib.hid ⟨by rw [hD, hl2], by rw [hD, hP2], by unfold bE; rw [hD, hc2], by rw [hD, hz]⟩
  have HPI3 := Lib.hid hpi
  have HV19 := Lib.hid hV
  have HBSve : Hid (g < w18.heap.size ∧ gm < w18.heap.size ∧ gr ≤ w18.heap.size) := Lib.hid ⟨blk_lt HV18.out, blk_lt HM18.out, by have := HB18.out.size; have := HGG.out; omega⟩
  clear hP2 hc2 hl2 hD hV hpi HV18 hz
  have HM19 : Hid (w19.heap[gm]? = some (.cells #[.int .u16 i0, .bool h1, .int .i64 h2, .bool h3, .bool h4, .bool h5, .bool h6, .int .i64 h7, .string (strOfNums qn), .int .u16 qt, (.slice A0 l0.length cc0), (.slice A1 l1.length cc1), .slice none 0 0, .int .i64 sz] 31 (0, 0))) := Lib.hid hM
  clear hM HM18
  have HX19 := Lib.hid (hT.blk HX18.out (by have := HGG.out; simp; have := HGM.out; omega))
  have HB19 := Lib.hid (HB18.out.trans (hT.below (base := gr) (by intro k hk; simp at hk; have := HGG.out; have := HGM.out; omega) (by have := HB18.out.size; have := HGG.out; omega)))
  have HRva19 := Lib.hid (R_turn HRva18.out hT (by intro k hk; simp at hk; have := HBSva.out; omega))
  have HRvn19 := Lib.hid (R_turn HRvn18.out hT (by intro k hk; simp at hk; have := HBSvn.out; omega))
  clear hT HX18 HB18 HRva18 HRvn18
  have HRve19 := Lib.hid hr
  clear hr
  obtain ⟨A2, cc2, hvv⟩ := Kd.R_slice HRve19.out
  subst hvv
  have hcm := (blk_cell HM19.out 12).trans rfl
  have hfm := blk_frozen HM19.out 12
  go_upto_region 17 with fail
  clear hcm hfm
  have HX20 := Lib.hid (blk_far HX19.out (p := ⟨gm, 12, none⟩) (by have := HGM.out; have := HGG.out; simp; omega) ((.slice A2 l2.length cc2)))
  have HV20 := Lib.hid (blk_far HV19.out (p := ⟨gm, 12, none⟩) (by have := HGM.out; simp; omega) ((.slice A2 l2.length cc2)))
  have HB20 := Lib.hid (HB19.out.setCell (p := ⟨gm, 12, none⟩) (by have := HGM.out; have := HGG.out; simp; omega) ((.slice A2 l2.length cc2)))
  have HRva20 := Lib.hid (R_turn HRva19.out (Turned.setCell (Turned.refl [gm] _) (p := ⟨gm, 12, none⟩) (.inl (by simp)) ((.slice A2 l2.length cc2))) (by intro k hk; simp at hk; have := HBSva.out; omega))
  have HRvn20 := Lib.hid (R_turn HRvn19.out (Turned.setCell (Turned.refl [gm] _) (p := ⟨gm, 12, none⟩) (.inl (by simp)) ((.slice A2 l2.length cc2))) (by intro k hk; simp at hk; have := HBSvn.out; omega))
  have HRve20 := Lib.hid (R_turn HRve19.out (Turned.setCell (Turned.refl [gm] _) (p := ⟨gm, 12, none⟩) (.inl (by simp)) ((.slice A2 l2.length cc2))) (by intro k hk; simp at hk; have := HBSve.out; omega))
  have HM20 : Hid ((w19.setCell ⟨gm, 12, none⟩ ((.slice A2 l2.length cc2))).heap[gm]? = some (.cells #[.int .u16 i0, .bool h1, .int .i64 h2, .bool h3, .bool h4, .bool h5, .bool h6, .int .i64 h7, .string (strOfNums qn), .int .u16 qt, (.slice A0 l0.length cc0), (.slice A1 l1.length cc1), (.slice A2 l2.length cc2), .int .i64 sz] 31 (0, 0))) := Lib.hid (blk_put HM19.out 12 ((.slice A2 l2.length cc2)) rfl)
  obtain ⟨w20, hw20⟩ : ∃ x, w19.setCell ⟨gm, 12, none⟩ ((.slice A2 l2.length cc2)) = x := ⟨_, rfl⟩
  rw [hw20] at HX20 HV20 HB20 HM20 HRva20 HRvn20 HRve20 ⊢
  clear hw20 HX19 HV19 HB19 HM19 HRva19 HRvn19 HRve19
  have hv2 := (blk_cell HV20.out 2).trans rfl
  have hv1 := (blk_cell HV20.out 1).trans rfl
  cases c2 with
  | true =>
    obtain ⟨z0, z1, z2, z3, z4, z5, z6, z7, z8, z9, z10, z11, z12, z13⟩ := cells14 HX20.out
    obtain ⟨y0, y1, y2, y3, y4, y5, y6, y7, y8, y9, y10, y11, y12, y13⟩ := froz14 HX20.out
    go_wp2
    refine bodyPost_ret (results_list (rs := [.cell 2 31, .tmp 3]) rfl (by simp) (.cell gr _ #[.int .u16 0, .bool false, .int .i64 0, .bool false, .bool false, .bool false, .bool false, .int .i64 0, .string { data := #[] }, .int .u16 0, .slice none 0 0, .slice none 0 0, .slice none 0 0, .int .i64 0] (0, 0) _ rfl (put14 HX20.out) Try.underlying31 rfl (by kernel_rfl) (.tmp .nil))) rfl ?_
    refine ⟨_, rfl, ?_, by rw [HGG.out.2]; exact putB14 HB20.out (Nat.le_refl _)⟩
    have hdec : decR s = none := by
      unfold decR
      rw [if_neg HBIG.out, if_neg (by rintro (h | h | h); exact HS12.out h; exact h (Hone.out.1.trans HX1'.out); exact h (by rw [Hfl.out.1, HFY.out]; exact HX2'.out)), if_neg (by rw [HQ.out.1, Hcl.out.1]; exact fun h => h HX3'.out), if_pos (.inl HD2.out.2.2.1)]
    rw [hdec]
    rfl
  | false =>
  by_cases x1 : P2 = (lb : Int)
  rotate_left
  · have x1' : (P2 == (lb : Int)) = false := beq_eq_false_iff_ne.2 x1
    have HX4' := Lib.hid x1
    clear x1
    obtain ⟨z0, z1, z2, z3, z4, z5, z6, z7, z8, z9, z10, z11, z12, z13⟩ := cells14 HX20.out
    obtain ⟨y0, y1, y2, y3, y4, y5, y6, y7, y8, y9, y10, y11, y12, y13⟩ := froz14 HX20.out
    go_wp2
    refine bodyPost_ret (results_list (rs := [.cell 2 31, .tmp 3]) rfl (by simp) (.cell gr _ #[.int .u16 0, .bool false, .int .i64 0, .bool false, .bool false, .bool false, .bool false, .int .i64 0, .string { data := #[] }, .int .u16 0, .slice none 0 0, .slice none 0 0, .slice none 0 0, .int .i64 0] (0, 0) _ rfl (put14 HX20.out) Try.underlying31 rfl (by kernel_rfl) (.tmp .nil))) rfl ?_
    refine ⟨_, rfl, ?_, by rw [HGG.out.2]; exact putB14 HB20.out (Nat.le_refl _)⟩
    have hdec : decR s = none := by
      unfold decR
      rw [if_neg HBIG.out, if_neg (by rintro (h | h | h); exact HS12.out h; exact h (Hone.out.1.trans HX1'.out); exact h (by rw [Hfl.out.1, HFY.out]; exact HX2'.out)), if_neg (by rw [HQ.out.1, Hcl.out.1]; exact fun h => h HX3'.out), if_pos (.inr (by rw [HD2.out.2.1, HSL.out]; exact HX4'.out))]
    rw [hdec]
    rfl
  have x1' : (P2 == (lb : Int)) = true := beq_iff_eq.2 x1
  have HX4' := Lib.hid x1
  clear x1
  obtain ⟨z0, z1, z2, z3, z4, z5, z6, z7, z8, z9, z10, z11, z12, z13⟩ := cells14 HX20.out
  obtain ⟨y0, y1, y2, y3, y4, y5, y6, y7, y8, y9, y10, y11, y12, y13⟩ := froz14 HX20.out
  go_wp2_with ((with_reducible refine gate_lr (t := 31) rfl ?_); refine wpList_load_row rfl _ _ rfl gm rfl _ _ _ _ HM20.out Try.underlying31 rfl (by kernel_rfl) ?_)
  refine bodyPost_ret (results_list (rs := [.cell 2 31, .tmp 3]) rfl (by simp) (.cell gr _ #[.int .u16 i0, .bool h1, .int .i64 h2, .bool h3, .bool h4, .bool h5, .bool h6, .int .i64 h7, .string (strOfNums qn), .int .u16 qt, (.slice A0 l0.length cc0), (.slice A1 l1.length cc1), (.slice A2 l2.length cc2), .int .i64 sz] (0, 0) _ rfl (put14 HX20.out) Try.underlying31 rfl (by kernel_rfl) (.tmp .nil))) rfl ?_
  refine ⟨_, rfl, ?_, by rw [HGG.out.2]; exact putB14 HB20.out (Nat.le_refl _)⟩
  have hdec : decR s = some (msgR s) := by
    unfold decR
    rw [if_neg HBIG.out, if_neg (by rintro (h | h | h); exact HS12.out h; exact h (Hone.out.1.trans HX1'.out); exact h (by rw [Hfl.out.1, HFY.out]; exact HX2'.out)), if_neg (by rw [HQ.out.1, Hcl.out.1]; exact fun h => h HX3'.out), if_neg (by rintro (h | h); exact Bool.false_ne_true (HD2.out.2.2.1.symm.trans h); exact h (by rw [HD2.out.2.1, HSL.out]; exact HX4'.out))]
  rw [hdec]
  have hm : msgR s = { id := i0, rp := h1, op := h2, au := h3, tr := h4, de := h5, av := h6, co := h7, qn := strOfNums qn, qt := qt, an := l0, ns := l1, ex := l2, sz := sz } := by
    unfold msgR
    obtain ⟨q1, q2, q3, q4, q5, q6, q7⟩ := HEH.out
    rw [Hi0.out.1, Hfl.out.1, q1, q2, q3, q4, q5, q6, q7, HQ.out.2.1, HQ.out.1, Hqt.out.1, HD0.out.1, HD1.out.1, HD2.out.1, HD2.out.2.2.2]
  rw [hm, HGG.out.2]
  refine ⟨_, _, _, rfl, ?_, ?_, ?_⟩
  · exact Kd.R_lower (R_turn HRva20.out (put14_turned _ gr _ _ _ _ _ _ _ _ _ _ _ _ _ _) (by intro k hk; simp at hk; have := HBSva.out; have := HGG.out; omega)) HBSva.out.2.2
  · exact Kd.R_lower (R_turn HRvn20.out (put14_turned _ gr _ _ _ _ _ _ _ _ _ _ _ _ _ _) (by intro k hk; simp at hk; have := HBSvn.out; have := HGG.out; omega)) HBSvn.out.2.2
  · exact Kd.R_lower (R_turn HRve20.out (put14_turned _ gr _ _ _ _ _ _ _ _ _ _ _ _ _ _) (by intro k hk; simp at hk; have := HBSve.out; have := HGG.out; omega)) HBSve.out.2.2
end Go.Proofs.Ytnikfeaggppmpaa.Rdr
