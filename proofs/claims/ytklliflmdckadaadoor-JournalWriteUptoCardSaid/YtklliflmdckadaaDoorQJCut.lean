/-
  What frame.Cut answers, in plain words: what the frame has that begins bytes, and what stands behind it, or nothing. No macro, syntax, notation, axiom, sorry.
-/
import Derived.Test.YtklliflmdckadaaDoorPJx1
import Derived.Test.YtklliflmdckadaaDoorQJGet16
import Derived.Test.YtklliflmdckadaaDoorQJFrame
namespace Go.Proofs.YtklliflmdckadaaDoor.QJ
open Go.RowKit Go.Proofs.YtklliflmdckadaaDoor.PJ Go.Proofs.YtklliflmdckadaaDoorW.PrintWords Go.Proofs.YtklliflmdckadaaDoorW.PrintLast Go.Proofs.YtklliflmdckadaaDoor.Base
set_option linter.unusedVariables false
set_option linter.unusedSimpArgs false

theorem mid_of (P Q R : List Int) : ((P ++ (Q ++ R)).drop P.length).take Q.length = Q := by
  rw [List.drop_left, List.take_left]
theorem be16_inj {a b : Int} (h0 : 0 ≤ a) (h1 : a < 65536) (h2 : 0 ≤ b) (h3 : b < 65536) (h : be16 a = be16 b) : a = b := by
  unfold be16 at h
  injection h with e1 e2
  injection e2 with e2 _
  omega
theorem two_be (X : List Int) (B : B8 X) (i : Nat) (h : i + 2 ≤ X.length) : (X.drop i).take 2 = be16 (rd X i * 256 + rd X ((i : Int) + 1)) := by
  have b0 := B _ (List.getElem_mem (show i < X.length by omega))
  have b1 := B _ (List.getElem_mem (show i + 1 < X.length by omega))
  have e0 := rd_nat X i (by omega)
  have e1 := rd_nat X (i + 1) (by omega)
  rw [show (((i + 1 : Nat) : Int)) = (i : Int) + 1 by omega] at e1
  rw [e0, e1]
  have hd : X.drop i = X[i] :: X[i + 1] :: X.drop (i + 2) := by
    rw [List.drop_eq_getElem_cons (show i < X.length by omega), List.drop_eq_getElem_cons (show i + 1 < X.length by omega)]
  rw [hd]
  generalize X[i] = a at b0 ⊢
  generalize X[i + 1] = b at b1 ⊢
  show [a, b] = [(a * 256 + b) / 256 % 256, (a * 256 + b) % 256]
  have e2 : (a * 256 + b) / 256 % 256 = a := by omega
  have e3 : (a * 256 + b) % 256 = b := by omega
  rw [e2, e3]
attribute [local irreducible] rd bt strOfNums be16 all16 chk

/-- The parts of bytes that a frame begins. -/
theorem fr_parts (b r : List Int) : ((fr b ++ r).drop 0).take 2 = be16 b.length ∧ ((fr b ++ r).drop 2).take 2 = be16 (65535 - b.length) ∧ ((fr b ++ r).take (4 + b.length)).drop 4 = b ∧
    ((fr b ++ r).drop (4 + b.length)).take 2 = be16 (chk b) ∧ (fr b ++ r).drop (b.length + 6) = r := by
  have l0 := be16_len (b.length : Int)
  have l1 := be16_len (65535 - (b.length : Int))
  have l2 := be16_len (chk b)
  have lh := hd_len (b.length : Int)
  refine ⟨?_, ?_, ?_, ?_, ?_⟩
  · have e : fr b ++ r = [] ++ (be16 b.length ++ (be16 (65535 - b.length) ++ b ++ be16 (chk b) ++ r)) := by simp [fr, hd]
    have := mid_of [] (be16 b.length) (be16 (65535 - b.length) ++ b ++ be16 (chk b) ++ r)
    rw [← e, l0] at this
    exact this
  · have e : fr b ++ r = be16 b.length ++ (be16 (65535 - b.length) ++ (b ++ be16 (chk b) ++ r)) := by simp [fr, hd]
    have := mid_of (be16 b.length) (be16 (65535 - b.length)) (b ++ be16 (chk b) ++ r)
    rw [← e, l0, l1] at this
    exact this
  · have e : fr b ++ r = hd b.length ++ (b ++ (be16 (chk b) ++ r)) := by simp [fr]
    rw [List.drop_take, e]
    have := mid_of (hd b.length) b (be16 (chk b) ++ r)
    rw [lh] at this
    rw [show 4 + b.length - 4 = b.length by omega]
    exact this
  · have e : fr b ++ r = (hd b.length ++ b) ++ (be16 (chk b) ++ r) := by simp [fr]
    have := mid_of (hd b.length ++ b) (be16 (chk b)) r
    rw [← e, l2, List.length_append, lh] at this
    exact this
  · rw [← fr_len b, List.drop_left]

/-- The number of two bytes at a place. -/
def IsAt (X : List Int) (i : Nat) (c : Int) : Prop := c = rd X i * 256 + rd X ((i : Int) + 1)
theorem IsAt.one {X : List Int} {i : Nat} {c c' : Int} (h : IsAt X i c) (h' : IsAt X i c') : c = c' := h.trans h'.symm
theorem num_at (X : List Int) (hX : X.length ≤ 70368744177664) (B : B8 X) (i : Nat) (h : i + 2 ≤ X.length) :
    ∃ c, 0 ≤ c ∧ c < 65536 ∧ num_Get16.f (strOfNums X) (i : Int) = some (c, true) ∧ (X.drop i).take 2 = be16 c ∧ IsAt X i c := by
  have hs := str_size X
  have e := get16_in (strOfNums X) (i : Int) (by omega) (by omega) (by omega)
  rw [str_bt X B (by omega) (by omega), str_bt X B (by omega) (by omega)] at e
  have m0 := B _ (rd_mem (l := X) (i := (i : Int)) (by omega) (by omega))
  have m1 := B _ (rd_mem (l := X) (i := (i : Int) + 1) (by omega) (by omega))
  have t2 := two_be X B i h
  refine ⟨_, ?_, ?_, e, t2, rfl⟩
  · generalize rd X (i : Int) = x at m0 ⊢
    generalize rd X ((i : Int) + 1) = y at m1 ⊢
    omega
  · generalize rd X (i : Int) = x at m0 ⊢
    generalize rd X ((i : Int) + 1) = y at m1 ⊢
    omega

/-- Bytes that a frame begins, of few bytes. -/
def Begins (X b r : List Int) : Prop := b.length ≤ 600 ∧ X = fr b ++ r

theorem begins_num {X b r : List Int} (hX : X.length ≤ 70368744177664) (B : B8 X) (h : Begins X b r) : b.length + 6 ≤ X.length ∧ IsAt X 0 b.length ∧ IsAt X 2 (65535 - b.length) ∧
    IsAt X (4 + b.length) (chk b) ∧ (X.take (4 + b.length)).drop 4 = b ∧ X.drop (b.length + 6) = r := by
  obtain ⟨hb, rfl⟩ := h
  have hl : (fr b ++ r).length = b.length + 6 + r.length := by rw [List.length_append, fr_len]
  obtain ⟨p0, p1, p2, p3, p4⟩ := fr_parts b r
  have hc := chk_rng b
  have key : ∀ (i : Nat) (v : Int), i + 2 ≤ (fr b ++ r).length → 0 ≤ v → v < 65536 → ((fr b ++ r).drop i).take 2 = be16 v → IsAt (fr b ++ r) i v := by
    intro i v hi v0 v1 he
    obtain ⟨c, c0, c1, _, c2, c3⟩ := num_at _ hX B i hi
    rw [c2] at he
    rw [← be16_inj c0 c1 v0 v1 he]
    exact c3
  exact ⟨by omega, key 0 _ (by omega) (by omega) (by omega) p0, key 2 _ (by omega) (by omega) (by omega) p1, key (4 + b.length) _ (by omega) hc.1 hc.2 p3, p2, p4⟩

theorem take_split (X : List Int) (i j : Nat) : (X.drop i).take j ++ X.drop (i + j) = X.drop i := by
  rw [← List.drop_drop, List.take_append_drop]

/-- The frame is there, where all its parts are. -/
theorem begins_of (X : List Int) (m : Nat) (hm : m + 6 ≤ X.length) (h0 : (X.drop 0).take 2 = be16 m) (h2 : (X.drop 2).take 2 = be16 (65535 - m)) (h4 : (X.drop (4 + m)).take 2 = be16 (chk ((X.take (4 + m)).drop 4))) :
    X = fr ((X.take (4 + m)).drop 4) ++ X.drop (m + 6) := by
  have hbl : ((X.take (4 + m)).drop 4).length = m := by rw [List.length_drop, List.length_take]; omega
  have s0 := take_split X 0 2
  have s2 := take_split X 2 2
  have s4 := take_split X 4 m
  have s6 := take_split X (4 + m) 2
  have hb : (X.drop 4).take m = (X.take (4 + m)).drop 4 := by rw [List.drop_take]; congr 1; omega
  rw [h4, show 4 + m + 2 = m + 6 by omega] at s6
  rw [hb, ← s6] at s4
  rw [h2, show 2 + 2 = 4 by rfl, ← s4] at s2
  rw [h0, show 0 + 2 = 2 by rfl, ← s2, List.drop_zero] at s0
  unfold fr hd
  rw [hbl]
  conv => lhs; rw [← s0]
  simp only [List.append_assoc]

/-- What Cut comes to, where its two first numbers are there. -/
theorem cut_shape (X : List Int) (n t : Int) (n0 : 0 ≤ n) (n1 : n < 65536) (e0 : num_Get16.f (strOfNums X) 0 = some (n, true)) (e2 : num_Get16.f (strOfNums X) 2 = some (t, true)) (k : Nat) :
    frame_Cut.f k X = if t = 65535 - n then (if n > 600 then frame_Cut.j0 k X (4 + n) true else frame_Cut.j0 k X (4 + n) (decide ((X.length : Int) < n + 6))) else frame_Cut.j0 k X (4 + n) true := by
  have wn : wrap64 n = n := w64 (by omega) (by omega)
  have wg : wrap64 (4 + n) = 4 + n := w64 (by omega) (by omega)
  have wl : wrap64 (4 + n + 2) = n + 6 := by rw [w64 (by omega) (by omega)]; omega
  unfold frame_Cut.f
  rw [e0, e2]
  simp only [Option.bind_some, if_true, wn, wg, wl, not16 n0 n1]
theorem cut_no0 (X : List Int) (g : Int) : Ev (fun k => frame_Cut.j0 k X g true) ([], [], false) :=
  Ev.step (f := fun _ => some ([], [], false)) (fun k => by simp only [frame_Cut.j0, if_true]) (Ev.now _)
theorem cut_body (X : List Int) (hX : X.length ≤ 70368744177664) (B : B8 X) (m : Nat) (hm : m + 6 ≤ X.length) (h6 : m ≤ 600) (c : Int) (e4 : num_Get16.f (strOfNums X) ((4 + m : Nat) : Int) = some (c, true)) :
    Ev (fun k => frame_Cut.j0 k X (4 + (m : Int)) false) (if c = chk ((X.take (4 + m)).drop 4) then ((X.take (4 + m)).drop 4, X.drop (m + 6), true) else ([], [], false)) := by
  have hbl : ((X.take (4 + m)).drop 4).length = m := by rw [List.length_drop, List.length_take]; omega
  have Bb : B8 ((X.take (4 + m)).drop 4) := (B.take _).drop _
  have hck := check ((X.take (4 + m)).drop 4) (by omega) Bb
  have body : Ev (fun k => (frame_Check.f k ((X.take (4 + m)).drop 4)).bind fun t => if c = t then some ((X.take (4 + m)).drop 4, X.drop (m + 6), true) else some ([], [], false)) (if c = chk ((X.take (4 + m)).drop 4) then ((X.take (4 + m)).drop 4, X.drop (m + 6), true) else ([], [], false)) := by
    refine Ev.bind hck ?_
    by_cases hcc : c = chk ((X.take (4 + m)).drop 4)
    · simp only [hcc, if_true]; exact Ev.now _
    · simp only [hcc, if_false]; exact Ev.now _
  refine Ev.step (fun k => ?_) body
  have ed : (X.drop (m + 6)).length ≤ X.length := by rw [List.length_drop]; omega
  have w2 : wrap64 (((4 + m : Nat) : Int) + 2) = ((m + 6 : Nat) : Int) := by rw [w64 (by omega) (by omega)]; omega
  simp only [frame_Cut.j0]
  rw [show (4 + (m : Int)) = ((4 + m : Nat) : Int) by omega, e4, w2]
  rw [if_neg (by simp), if_pos (by omega), if_pos (by omega), Int.toNat_natCast, Int.toNat_natCast, List.nil_append, List.nil_append, List.length_nil, if_pos (by omega)]
  simp only [Option.bind_some]
  rw [if_pos (by omega), if_pos (by omega), if_pos (by omega)]

theorem cut_any (X : List Int) (hX : X.length ≤ 70368744177664) (B : B8 X) :
    (∃ b r, Begins X b r ∧ Ev (fun k => frame_Cut.f k X) (b, r, true)) ∨ ((¬ ∃ b r, Begins X b r) ∧ Ev (fun k => frame_Cut.f k X) ([], [], false)) := by
  have hs := str_size X
  by_cases h4 : X.length < 4
  · right
    refine ⟨fun ⟨b, r, h⟩ => ?_, ?_⟩
    · have := (begins_num hX B h).1
      omega
    · by_cases h2 : X.length < 2
      · refine Ev.congr (fun k => ?_) (cut_no0 X (wrap64 (4 + (wrap64 0))))
        unfold frame_Cut.f
        rw [get16_out _ _ (by omega) (by omega), get16_out _ _ (by omega) (by omega)]
        rfl
      · obtain ⟨n, n0, n1, e0, t0, a0⟩ := num_at X hX B 0 (by omega)
        rw [show ((0 : Nat) : Int) = 0 by rfl] at e0
        refine Ev.congr (fun k => ?_) (cut_no0 X (wrap64 (4 + (wrap64 n))))
        unfold frame_Cut.f
        rw [e0, get16_out _ _ (by omega) (by omega)]
        rfl
  · obtain ⟨n, n0, n1, e0, t0, a0⟩ := num_at X hX B 0 (by omega)
    obtain ⟨t, tt0, tt1, e2, t2, a2⟩ := num_at X hX B 2 (by omega)
    rw [show ((0 : Nat) : Int) = 0 by rfl] at e0
    rw [show ((2 : Nat) : Int) = 2 by rfl] at e2
    have shape := cut_shape X n t n0 n1 e0 e2
    by_cases hx : t = 65535 - n
    · by_cases h6 : n > 600
      · right
        refine ⟨fun ⟨b, r, h⟩ => ?_, Ev.congr (fun k => ?_) (cut_no0 X (4 + n))⟩
        · have := a0.one (begins_num hX B h).2.1
          have := h.1
          omega
        · rw [shape, if_pos hx, if_pos h6]
      · by_cases hl : (X.length : Int) < n + 6
        · right
          refine ⟨fun ⟨b, r, h⟩ => ?_, Ev.congr (fun k => ?_) (cut_no0 X (4 + n))⟩
          · have := a0.one (begins_num hX B h).2.1
            have := (begins_num hX B h).1
            omega
          · rw [shape, if_pos hx, if_neg h6, decide_eq_true hl]
        · obtain ⟨m, rfl⟩ := Int.eq_ofNat_of_zero_le n0
          obtain ⟨c, c0, c1, e4, t4, a4⟩ := num_at X hX B (4 + m) (by omega)
          have step : Ev (fun k => frame_Cut.f k X) (if c = chk ((X.take (4 + m)).drop 4) then ((X.take (4 + m)).drop 4, X.drop (m + 6), true) else ([], [], false)) := by
            refine Ev.congr (fun k => ?_) (cut_body X hX B m (by omega) (by omega) c e4)
            rw [shape, if_pos hx, if_neg h6, decide_eq_false hl]
          have hbl : ((X.take (4 + m)).drop 4).length = m := by rw [List.length_drop, List.length_take]; omega
          by_cases hcc : c = chk ((X.take (4 + m)).drop 4)
          · left
            rw [if_pos hcc] at step
            rw [hx] at t2
            rw [hcc] at t4
            exact ⟨_, _, ⟨by omega, begins_of X m (by omega) t0 t2 t4⟩, step⟩
          · right
            rw [if_neg hcc] at step
            refine ⟨fun ⟨b, r, h⟩ => ?_, step⟩
            have p := begins_num hX B h
            have q0 := a0.one p.2.1
            have hm : b.length = m := by omega
            have q1 := p.2.2.2.1
            have q2 := p.2.2.2.2.1
            rw [hm] at q1 q2
            rw [q2] at hcc
            exact hcc (a4.one q1)
    · right
      refine ⟨fun ⟨b, r, h⟩ => ?_, Ev.congr (fun k => ?_) (cut_no0 X (4 + n))⟩
      · have p := begins_num hX B h
        have q0 := a0.one p.2.1
        have q1 := a2.one p.2.2.1
        omega
      · rw [shape, if_neg hx]

/-- What a frame begins is cut. -/
theorem begins_one {X b r b' r' : List Int} (hX : X.length ≤ 70368744177664) (B : B8 X) (h : Begins X b r) (h' : Begins X b' r') : b = b' ∧ r = r' := by
  have p := begins_num hX B h
  have q := begins_num hX B h'
  have hl : b.length = b'.length := by
    have h1 := p.2.1.one q.2.1
    omega
  have p4 := p.2.2.2.2.1
  have q4 := q.2.2.2.2.1
  have p5 := p.2.2.2.2.2
  have q5 := q.2.2.2.2.2
  rw [hl] at p4 p5
  exact ⟨p4.symm.trans q4, p5.symm.trans q5⟩
theorem cut_yes {X b r : List Int} (hX : X.length ≤ 70368744177664) (B : B8 X) (h : Begins X b r) : Ev (fun k => frame_Cut.f k X) (b, r, true) := by
  rcases cut_any X hX B with ⟨b', r', h', he⟩ | ⟨hn, _⟩
  · obtain ⟨rfl, rfl⟩ := begins_one hX B h h'
    exact he
  · exact absurd ⟨b, r, h⟩ hn
theorem cut_no {X : List Int} (hX : X.length ≤ 70368744177664) (B : B8 X) (h : ¬ ∃ b r, Begins X b r) : Ev (fun k => frame_Cut.f k X) ([], [], false) := by
  rcases cut_any X hX B with ⟨b', r', h', _⟩ | ⟨_, he⟩
  · exact absurd ⟨b', r', h'⟩ h
  · exact he
end Go.Proofs.YtklliflmdckadaaDoor.QJ
