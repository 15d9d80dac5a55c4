/-
  The law FrameTurned about numbers and lists alone: a byte of what a frame has that is turned is seen, unless it became 255 of 0, or 0 of 255.
-/
import Derived.Test.YtmehkpkklnbidaaPureSaidFrameTurned
import Derived.Test.YtmehkpkklnbidaaQTCut
namespace Go.Proofs.Ytmehkpkklnbidaa.Pure
open Go.RowKit Go.Proofs.Ytmehkpkklnbidaa.PT Go.Proofs.YtmehkpkklnbidaaW.PrintWords Go.Proofs.YtmehkpkklnbidaaW.PrintLast Go.Proofs.Ytmehkpkklnbidaa.Base Go.Proofs.Ytmehkpkklnbidaa.QT
set_option linter.unusedSimpArgs false
set_option linter.unusedVariables false

namespace FrameTurned_
theorem awake : Ev (fun k => bolterlaw22_awake.f k) true := Ev.of (fun k => bolterlaw22_awake.mono k) (k := 10) (by kernel_rfl)

theorem fst_inj (q : List Int) : ∀ s s' : Int × Int, 0 ≤ s.1 ∧ s.1 < 255 → 0 ≤ s'.1 ∧ s'.1 < 255 → (q.foldl cstep s).1 = (q.foldl cstep s').1 → s.1 = s'.1 := by
  induction q with
  | nil => intro s s' _ _ h; exact h
  | cons c q ih =>
    intro s s' hs hs' h
    have := ih (cstep s c) (cstep s' c) (by simp only [cstep]; omega) (by simp only [cstep]; omega) h
    simp only [cstep] at this
    omega
theorem chk_alike (p q : List Int) (v v' : Int) : chk (p ++ v :: q) = chk (p ++ v' :: q) ↔ v % 255 = v' % 255 := by
  have e : ∀ u : Int, cfold (p ++ u :: q) = q.foldl cstep (cstep (cfold p) u) := fun u => by simp [cfold, List.foldl_append]
  constructor
  · intro h
    have r := cfold_rng (p ++ v :: q)
    have r' := cfold_rng (p ++ v' :: q)
    have h1 : (cfold (p ++ v :: q)).1 = (cfold (p ++ v' :: q)).1 := by
      unfold chk at h
      omega
    rw [e, e] at h1
    have rp := cfold_rng p
    have := fst_inj q _ _ (by simp only [cstep]; omega) (by simp only [cstep]; omega) h1
    simp only [cstep] at this
    omega
  · intro h
    have : cstep (cfold p) v = cstep (cfold p) v' := by
      have h2 : ((cfold p).1 + v) % 255 = ((cfold p).1 + v') % 255 := by omega
      simp only [cstep, h2]
    unfold chk
    rw [e, e, this]
attribute [local irreducible] rd bt strOfNums be16 all16 chk

/-- Bytes that look like a frame: its check decides. -/
theorem cut_near (c : List Int) (hc : c.length ≤ 600) (B : B8 c) (z : Int) (z0 : 0 ≤ z) (z1 : z < 65536) :
    ∃ b r, Ev (fun k => frame_Cut.f k (hd c.length ++ c ++ be16 z)) (b, r, decide (chk c = z)) := by
  have BX : B8 (hd c.length ++ c ++ be16 z) := B8.append (B8.append (hd_b8 _) B) (be16_b8 _)
  have hl : (hd c.length ++ c ++ be16 z).length = c.length + 6 := by rw [List.length_append, List.length_append, hd_len, be16_len]; omega
  by_cases h : chk c = z
  · rw [decide_eq_true h]
    refine ⟨c, [], cut_yes (by omega) BX ⟨hc, ?_⟩⟩
    rw [← h, List.append_nil]
    rfl
  · rw [decide_eq_false h]
    refine ⟨[], [], cut_no (by omega) BX ?_⟩
    rintro ⟨b, r, hb, he⟩
    obtain ⟨p0, _, p2, p3, _⟩ := fr_parts b r
    rw [← he] at p0 p2 p3
    have q0 : ((hd c.length ++ c ++ be16 z).drop 0).take 2 = be16 c.length := by
      have e : hd c.length ++ c ++ be16 z = [] ++ (be16 c.length ++ (be16 (65535 - c.length) ++ c ++ be16 z)) := by simp [hd]
      have := mid_of [] (be16 c.length) (be16 (65535 - c.length) ++ c ++ be16 z)
      rw [← e, be16_len] at this
      exact this
    have hn : b.length = c.length := by
      have := be16_inj (by omega) (by omega) (by omega) (by omega) (p0.symm.trans q0)
      omega
    rw [hn] at p2 p3
    have q2 : ((hd c.length ++ c ++ be16 z).take (4 + c.length)).drop 4 = c := by
      have e : hd c.length ++ c ++ be16 z = hd c.length ++ (c ++ (be16 z)) := by simp
      have := mid_of (hd c.length) c (be16 z)
      rw [hd_len] at this
      rw [List.drop_take, e, show 4 + c.length - 4 = c.length by omega]
      exact this
    have q3 : ((hd c.length ++ c ++ be16 z).drop (4 + c.length)).take 2 = be16 z := by
      have e : hd c.length ++ c ++ be16 z = (hd c.length ++ c) ++ (be16 z ++ []) := by simp
      have := mid_of (hd c.length ++ c) (be16 z) []
      rw [← e, be16_len, List.length_append, hd_len] at this
      exact this
    have hbc : b = c := p2.symm.trans q2
    rw [hbc] at p3
    have hr := chk_rng c
    exact h (be16_inj hr.1 hr.2 z0 z1 (p3.symm.trans q3))

theorem turned (c : List Int) (hc : c.length ≤ 600) (hp : 0 < c.length) (B : B8 c) (a by_ : Int) (a0 : 0 ≤ a) (a1 : a ≤ 65535) (b0 : 0 ≤ by_) (b1 : by_ ≤ 255) :
    Ev (fun k => (frame_Make.f k c).bind fun bt149 => (if bt149.2 = true then (if (wrap64 (4 + (Int.tmod (wrap64 (a)) (c.length : Int)))) ≥ (bt149.1.length : Int) then (some false) else (if 0 ≤ (wrap64 (4 + (Int.tmod (wrap64 (a)) (c.length : Int)))) then (if (wrap64 (4 + (Int.tmod (wrap64 (a)) (c.length : Int)))) < (bt149.1.length : Int) then ((some (bt149.1.set ((wrap64 (4 + (Int.tmod (wrap64 (a)) (c.length : Int)))) : Int).toNat (((rd bt149.1 (wrap64 (4 + (Int.tmod (wrap64 (a)) (c.length : Int))))) + by_) % 256) : List Int)).bind fun y154 => ((frame_Cut.f k y154).bind fun bt155 => (some (bt155.2.2 == ((Int.tmod (wrap64 (rd bt149.1 (wrap64 (4 + (Int.tmod (wrap64 (a)) (c.length : Int)))))) 255) == (Int.tmod (wrap64 (rd y154 (wrap64 (4 + (Int.tmod (wrap64 (a)) (c.length : Int)))))) 255)))))) else (none)) else (none))) else (some false))) true := by
  obtain ⟨j, hj, hjl⟩ : ∃ j : Nat, wrap64 (4 + (Int.tmod (wrap64 (a)) (c.length : Int))) = ((4 + j : Nat) : Int) ∧ j < c.length := by
    have e1 : wrap64 a = a := w64 (by omega) (by omega)
    have e2 : Int.tmod a (c.length : Int) = a % (c.length : Int) := Int.tmod_eq_emod_of_nonneg a0
    have h0 := Int.emod_nonneg a (show (c.length : Int) ≠ 0 by omega)
    have h1 := Int.emod_lt_of_pos a (show (0 : Int) < (c.length : Int) by omega)
    refine ⟨(a % (c.length : Int)).toNat, ?_, by omega⟩
    rw [e1, e2, w64 (by omega) (by omega)]
    omega
  rw [hj]
  have hsp : c = c.take j ++ c[j] :: c.drop (j + 1) := by rw [← List.drop_eq_getElem_cons hjl, List.take_append_drop]
  obtain ⟨p, v, q, hpq, hpl⟩ : ∃ p v q, c = p ++ v :: q ∧ p.length = j := ⟨c.take j, c[j], c.drop (j + 1), hsp, by rw [List.length_take]; omega⟩
  clear hsp hj
  subst hpl
  have hv := B v (by rw [hpq]; simp)
  obtain ⟨v', hv'⟩ : ∃ v', v' = (v + by_) % 256 := ⟨_, rfl⟩
  have hvr : 0 ≤ v' ∧ v' < 256 := by omega
  have hlen : (p ++ v' :: q).length = c.length := by rw [hpq]; simp
  have B' : B8 (p ++ v' :: q) := by
    rw [hpq] at B
    exact B8.append B.left (B8.cons hvr.1 hvr.2 (fun y hy => B y (by simp [hy])))
  have ef : fr c = (hd c.length ++ p) ++ (v :: (q ++ be16 (chk c))) := by
    unfold fr
    conv => lhs; rw [show hd c.length ++ c = hd c.length ++ (p ++ v :: q) by rw [← hpq]]
    simp
  have hpre : (hd c.length ++ p).length = 4 + p.length := by rw [List.length_append, hd_len]
  have es : (fr c).set (4 + p.length) v' = hd (p ++ v' :: q).length ++ (p ++ v' :: q) ++ be16 (chk c) := by
    rw [ef, ← hpre, List.set_append_right _ _ (Nat.le_refl _), Nat.sub_self, List.set_cons_zero, hlen]
    simp
  have er : rd (fr c) ((4 + p.length : Nat) : Int) = v := by
    rw [ef, show ((4 + p.length : Nat) : Int) = ((hd c.length ++ p).length : Int) + 0 by omega, rd_right _ _ (by omega), rd_cons0]
  have er' : rd (hd (p ++ v' :: q).length ++ (p ++ v' :: q) ++ be16 (chk c)) ((4 + p.length : Nat) : Int) = v' := by
    have e : hd (p ++ v' :: q).length ++ (p ++ v' :: q) ++ be16 (chk c) = (hd c.length ++ p) ++ (v' :: (q ++ be16 (chk c))) := by rw [hlen]; simp
    rw [e, show ((4 + p.length : Nat) : Int) = ((hd c.length ++ p).length : Int) + 0 by omega, rd_right _ _ (by omega), rd_cons0]
  have hfl := fr_len c
  have hcr := chk_rng c
  obtain ⟨b, r, hcut⟩ := cut_near (p ++ v' :: q) (by omega) B' (chk c) hcr.1 hcr.2
  refine Ev.bind (make c hc B) ?_
  refine Ev.congr (f := fun k => (frame_Cut.f k (hd (p ++ v' :: q).length ++ (p ++ v' :: q) ++ be16 (chk c))).bind fun bt155 => some (bt155.2.2 == (Int.tmod (wrap64 v) 255 == Int.tmod (wrap64 v') 255))) (fun k => ?_) ?_
  · dsimp only
    rw [if_pos rfl, if_neg (by omega), if_pos (by omega), if_pos (by omega), er, ← hv', Int.toNat_natCast, es]
    simp only [Option.bind_some]
    rw [er']
  · refine Ev.bind hcut ?_
    have ea : (decide (chk (p ++ v' :: q) = chk c) == (Int.tmod (wrap64 v) 255 == Int.tmod (wrap64 v') 255)) = true := by
      have hal := chk_alike p q v' v
      rw [← hpq] at hal
      rw [w64 (n := v) (by omega) (by omega), w64 (n := v') (by omega) (by omega), Int.tmod_eq_emod_of_nonneg hv.1, Int.tmod_eq_emod_of_nonneg hvr.1]
      by_cases h : v' % 255 = v % 255
      · rw [decide_eq_true (hal.2 h), h]
        simp
      · rw [decide_eq_false (fun hh => h (hal.1 hh))]
        have : (v % 255 == v' % 255) = false := beq_eq_false_iff_ne.2 (fun hh => h hh.symm)
        rw [this]
        rfl
    rw [ea]
    exact Ev.now _
end FrameTurned_

theorem FrameTurned : PureSaid.FrameTurned := by
  intro l a by_ hb8 hbm ha hby hbulk
  rw [opn.bs_one] at hbulk
  have B := B8.of_wf hb8
  have h16 := bounds_u16 ha
  have h8 := bounds_u8 hby
  refine Ev.rounds ?_
  unfold bolterlaw22_FrameTurned.f
  refine Ev.bind FrameTurned_.awake ?_
  simp only [if_true]
  obtain ⟨m, hm, hml, hm6⟩ : ∃ m : Nat, mn (l.length : Int) 600 = (m : Int) ∧ m ≤ l.length ∧ m ≤ 600 := by
    refine ⟨(mn (l.length : Int) 600).toNat, ?_, ?_, ?_⟩ <;> (unfold mn; (repeat' split) <;> omega)
  have hcl : (l.take m).length = m := by rw [List.length_take]; omega
  have hmain : Ev (fun k => if ((l.take m).length : Int) = 0 then ((frame_Check.f k (l.take m)).bind fun t148 => (some (t148 == 0))) else ((frame_Make.f k (l.take m)).bind fun bt149 => (if bt149.2 = true then (if (wrap64 (4 + (Int.tmod (wrap64 (a)) ((l.take m).length : Int)))) ≥ (bt149.1.length : Int) then (some false) else (if 0 ≤ (wrap64 (4 + (Int.tmod (wrap64 (a)) ((l.take m).length : Int)))) then (if (wrap64 (4 + (Int.tmod (wrap64 (a)) ((l.take m).length : Int)))) < (bt149.1.length : Int) then ((some (bt149.1.set ((wrap64 (4 + (Int.tmod (wrap64 (a)) ((l.take m).length : Int)))) : Int).toNat (((rd bt149.1 (wrap64 (4 + (Int.tmod (wrap64 (a)) ((l.take m).length : Int))))) + by_) % 256) : List Int)).bind fun y154 => ((frame_Cut.f k y154).bind fun bt155 => (some (bt155.2.2 == ((Int.tmod (wrap64 (rd bt149.1 (wrap64 (4 + (Int.tmod (wrap64 (a)) ((l.take m).length : Int)))))) 255) == (Int.tmod (wrap64 (rd y154 (wrap64 (4 + (Int.tmod (wrap64 (a)) ((l.take m).length : Int)))))) 255)))))) else (none)) else (none))) else (some false)))) true := by
    by_cases h0 : m = 0
    · have : l.take m = [] := by rw [h0]; rfl
      rw [this]
      refine Ev.congr (f := fun k => (frame_Check.f k []).bind fun t148 => (some (t148 == 0))) (fun k => ?_) ?_
      · rw [if_pos (by simp)]
      · refine Ev.bind (check [] (by simp) B8.nil) ?_
        exact Ev.now _
    · refine Ev.congr (fun k => ?_) (FrameTurned_.turned (l.take m) (by omega) (by omega) (B.take _) a by_ h16.1 h16.2 h8.1 h8.2)
      rw [if_neg (by omega)]
  refine Ev.congr (fun k => ?_) hmain
  rw [hm, if_pos (by omega), if_pos (by omega), Int.toNat_natCast, List.nil_append, List.length_nil, if_pos (by omega)]
  rfl

end Go.Proofs.Ytmehkpkklnbidaa.Pure
