/- part of a proof; what it has no use for was struck out -/
import Derived.Test.YtnikfeaggppmpaaDoorLwC
namespace Go.Proofs.YtnikfeaggppmpaaDoor.Rdr
open Go.RowKit Go.Proofs.YtnikfeaggppmpaaDoor.PM Go.Proofs.YtnikfeaggppmpaaDoorW Go.Proofs.YtnikfeaggppmpaaDoorW.PrintWords Go.Proofs.YtnikfeaggppmpaaDoorW.PrintLast Go.Proofs.YtnikfeaggppmpaaDoorW.PrintMore Go.Proofs.YtnikfeaggppmpaaDoor.Base Go.Proofs.YtnikfeaggppmpaaDoor.Trn Go.Proofs.YtnikfeaggppmpaaDoor.QM Go.Proofs.YtnikfeaggppmpaaDoor.Nam Go.Proofs.YtnikfeaggppmpaaDoor.Rd Go.Proofs.YtnikfeaggppmpaaDoor.Wr Go.Proofs.YtnikfeaggppmpaaDoor.MapS
set_option linter.unusedVariables false
set_option linter.unusedSimpArgs false
set_option maxRecDepth 100000
theorem cnt {s : ByteArray} {P : Nat → Int} {T : Nat} (hP : ∀ i < T, (rcR s (P i) false).2.2.1 = P (i + 1)) (hT : (rcR s (P T) false).2.2.2 = true) (has : Bool) : ∀ (d i : Nat) (out : List R) (sz : Int), i ≤ T → (ptR s has d (P i) false out sz).2.2.1 = false → i + d ≤ T ∧ (ptR s has d (P i) false out sz).2.1 = P (i + d)
  | 0, i, out, sz, hi, _ => ⟨hi, rfl⟩
  | d + 1, i, out, sz, hi, hr => by
    have hb : (rcR s (P i) false).2.2.2 = false := by
      cases hb : (rcR s (P i) false).2.2.2 with
      | false => rfl
      | true => rw [ptR_fall has d (P i) out sz hb] at hr; cases hr
    have hlt : i < T := by
      rcases Nat.lt_or_ge i T with h | h
      · exact h
      · have e : i = T := by omega
        rw [e, hT] at hb
        cases hb
    have e1 := hP i hlt
    have bf : ¬ (false = true) := by decide
    rw [ptR, if_neg bf, e1, hb] at hr ⊢
    rw [show i + (d + 1) = i + 1 + d by omega]
    split at hr
    · rename_i c
      rw [if_pos c]
      exact cnt hP hT has d (i + 1) _ _ hlt hr
    · rename_i c
      rw [if_neg c]
      split at hr
      · rw [ptR_bad] at hr
        cases hr
      · rename_i c2
        rw [if_neg c2]
        exact cnt hP hT has d (i + 1) _ _ hlt hr
theorem up {P : Nat → Int} {T : Nat} (h : ∀ i < T, P i < P (i + 1)) : ∀ (d i : Nat), i + d ≤ T → P i + d ≤ P (i + d)
  | 0, i, _ => by simp
  | d + 1, i, hd => by
    have h1 := up h d i (by omega)
    have h2 := h (i + d) (by omega)
    rw [show i + (d + 1) = i + d + 1 by omega]
    omega
theorem rcR_end (s : ByteArray) : (rcR s (s.size : Int) false).2.2.2 = true := by
  cases h : (rcR s (s.size : Int) false).2.2.2 with
  | true => rfl
  | false =>
    obtain ⟨h1, -⟩ := rc_ok h
    have := nmR_end s _ h1
    omega
theorem recsW_app (a b : List R) (s : St) : recsW (a ++ b) s = recsW b (recsW a s) := by unfold recsW; rw [List.foldl_append]
theorem body_cnt {m : Msg} (hm : mayM m = true) (hw : WfM m) {H : List Int} (hH : H.length = 12) {M : ByteArray} (hM : bytesOf M = bodyL m H) {x : Msg} (hd : decR M = some x) :
    (g16 M 6).1 + (g16 M 8).1 + (g16 M 10).1 = ((m.an.length + m.ns.length + (m.ex.length + (if 0 < m.sz then 1 else 0)) : Nat) : Int) := by
  obtain ⟨r1, r2, r3⟩ := wf_rec hm hw
  obtain ⟨hd0, -⟩ := may_all hm
  obtain ⟨i0, -, k0⟩ := q_rd hm hw hH
  obtain ⟨s0, hs0⟩ : ∃ s, qS m H = s := ⟨_, rfl⟩
  obtain ⟨rs, hrs⟩ : ∃ l, m.an ++ m.ns ++ m.ex = l := ⟨_, rfl⟩
  have hr : ∀ r ∈ rs, mayR r = true ∧ WfR r := by
    intro r h
    rw [← hrs] at h
    rcases List.mem_append.1 h with h | h
    · rcases List.mem_append.1 h with h | h
      · exact r1 r h
      · exact r2 r h
    · exact r3 r h
  have hb : bytesOf M = (recsW rs s0).1 ++ optL m.sz := by
    rw [hM, ← hrs, recsW_app, recsW_app, ← hs0]
    rfl
  rw [hs0] at i0 k0
  have hl : rs.length = m.an.length + m.ns.length + m.ex.length := by rw [← hrs, List.length_append, List.length_append]
  clear hrs hM
  have hpre : ∀ i ≤ rs.length, Inv (recsW (rs.take i) s0).1 (recsW (rs.take i) s0).2 ∧ ∃ y, bytesOf M = (recsW (rs.take i) s0).1 ++ y := by
    intro i hi
    obtain ⟨a1, -, -⟩ := recs_rd false (rs.take i) (fun r h => hr r (List.mem_of_mem_take h)) i0
    obtain ⟨-, ⟨y, b2⟩, -⟩ := recs_rd false (rs.drop i) (fun r h => hr r (List.mem_of_mem_drop h)) a1
    refine ⟨a1, y ++ optL m.sz, ?_⟩
    rw [hb, ← List.append_assoc, ← b2, ← recsW_app, List.take_append_drop]
  obtain ⟨o, ho⟩ : ∃ o, (if 0 < m.sz then 1 else 0) = o := ⟨_, rfl⟩
  obtain ⟨P, hPd⟩ : ∃ P : Nat → Int, P = fun i => if i ≤ rs.length then ((recsW (rs.take i) s0).1.length : Int) else (M.size : Int) := ⟨_, rfl⟩
  have hstep : ∀ i < rs.length + o, (rcR M (P i) false).2.2.1 = P (i + 1) ∧ (rcR M (P i) false).2.2.2 = false := by
    intro i hi
    rcases Nat.lt_or_ge i rs.length with h | h
    · obtain ⟨a1, -⟩ := hpre i (by omega)
      obtain ⟨-, y, a2⟩ := hpre (i + 1) (by omega)
      have e := recsW_take (List.getElem?_eq_getElem h) s0
      rw [e] at a2
      have hri := hr rs[i] (List.getElem_mem h)
      obtain ⟨-, -, k⟩ := rec_rd hri.1 hri.2 a1
      have k := k M y a2
      have e1 : P i = ((recsW (rs.take i) s0).1.length : Int) := by rw [hPd]; exact if_pos (by omega)
      have e2 : P (i + 1) = ((recW rs[i] (recsW (rs.take i) s0)).1.length : Int) := by rw [hPd, ← e]; exact if_pos (by omega)
      rw [e1, k, e2]
      exact ⟨rfl, rfl⟩
    · have ho1 : 0 < m.sz := by
        rw [← ho] at hi
        split at hi
        · assumption
        · omega
      have hi2 : i = rs.length := by
        rw [← ho, if_pos ho1] at hi
        omega
      subst hi2
      obtain ⟨a1, -⟩ := hpre rs.length (Nat.le_refl _)
      rw [List.take_length] at a1
      obtain ⟨k, -⟩ := opt_rd a1 ho1 hd0.2.2.2.2.2 hb
      have e1 : P rs.length = ((recsW rs s0).1.length : Int) := by rw [hPd]; simp only [Nat.le_refl, if_true, List.take_length]
      have e2 : P (rs.length + 1) = (M.size : Int) := by rw [hPd]; exact if_neg (by omega)
      rw [e1, k, e2]
      exact ⟨rfl, rfl⟩
  have hend : P (rs.length + o) = (M.size : Int) := by
    rw [hPd]
    by_cases h : 0 < m.sz
    · rw [← ho, if_pos h]
      exact if_neg (by omega)
    · rw [← ho, if_neg h, Nat.add_zero]
      simp only [Nat.le_refl, if_true, List.take_length]
      have e := size_of hb
      unfold optL at e
      rw [if_neg h, List.append_nil] at e
      rw [e]
  have hT : (rcR M (P (rs.length + o)) false).2.2.2 = true := by rw [hend]; exact rcR_end M
  have hup := up (P := P) (T := rs.length + o) (fun i hi => by have h1 := rc_lt (hstep i hi).2; rw [(hstep i hi).1] at h1; exact h1)
  obtain ⟨-, -, -, -, -, hQ, hA, hN, hE, hP, -⟩ := dec_ok hd
  obtain ⟨-, -, -, -, j5⟩ := k0 M _ (hpre 0 (Nat.zero_le _)).2.choose_spec
  have hP0 : P 0 = qP M + 2 + 2 := by rw [hPd, j5]; exact if_pos (Nat.zero_le _)
  obtain ⟨u1, -⟩ := part_len hA
  obtain ⟨u2, -⟩ := part_len hN
  obtain ⟨u3, -⟩ := part_len hE
  unfold pA at u1
  rw [← hP0, hQ] at u1
  have v1 := cnt (fun i hi => (hstep i hi).1) hT false _ 0 _ _ (Nat.zero_le _) u1
  have w1 : (pA M).2.1 = P (0 + (g16 M 6).1.toNat) := by unfold pA; rw [← hP0, hQ]; exact v1.2
  unfold pN at u2
  rw [w1, hA] at u2
  have v2 := cnt (fun i hi => (hstep i hi).1) hT false _ _ _ _ v1.1 u2
  have w2 : (pN M).2.1 = P (0 + (g16 M 6).1.toNat + (g16 M 8).1.toNat) := by unfold pN; rw [w1, hA]; exact v2.2
  unfold pE at u3
  rw [w2, hN] at u3
  have v3 := cnt (fun i hi => (hstep i hi).1) hT true _ _ _ _ v2.1 u3
  have w3 : (pE M).2.1 = P (0 + (g16 M 6).1.toNat + (g16 M 8).1.toNat + (g16 M 10).1.toNat) := by unfold pE; rw [w2, hN]; exact v3.2
  obtain ⟨n, hn⟩ : ∃ n, 0 + (g16 M 6).1.toNat + (g16 M 8).1.toNat + (g16 M 10).1.toNat = n := ⟨_, rfl⟩
  rw [hn] at w3 v3
  have hle := v3.1
  have hu := hup (rs.length + o - n) n (by omega)
  rw [show n + (rs.length + o - n) = rs.length + o by omega, hend, ← hP, w3] at hu
  have hnT : n = rs.length + o := by omega
  have g6 := (g16_rng M 6).1
  have g8 := (g16_rng M 8).1
  have g10 := (g16_rng M 10).1
  rw [← Nat.add_assoc, ← hl]
  omega
theorem bb_eq {a b k : Int} (h : bb a k = bb b k) : a / k % 2 = b / k % 2 := by
  unfold bb at h
  have h1 : a / k % 2 = 0 ∨ a / k % 2 = 1 := by omega
  have h2 : b / k % 2 = 0 ∨ b / k % 2 = 1 := by omega
  rcases h1 with h1 | h1 <;> rcases h2 with h2 | h2 <;> rw [h1, h2] at h <;> simp at h <;> omega
theorem g16_two {M : ByteArray} {a t : List Int} {u v : Int} (h : bytesOf M = a ++ u :: v :: t) : (g16 M (a.length : Int)).1 = u * 256 + v := by
  obtain ⟨e1, -⟩ := bt_mid h
  have h' : bytesOf M = (a ++ [u]) ++ v :: t := by rw [h]; simp
  obtain ⟨e2, e3⟩ := bt_mid h'
  rw [List.length_append, List.length_singleton] at e2 e3
  have e2 : bt M ((a.length : Int) + 1) = v := by rw [← e2]; rfl
  unfold g16
  rw [if_pos ⟨by omega, by omega⟩, e1, e2]
theorem six {M : ByteArray} {c0 c1 c2 c3 c4 c5 c6 c7 c8 c9 c10 c11 : Int} {t : List Int} (h : bytesOf M = [c0, c1, c2, c3, c4, c5, c6, c7, c8, c9, c10, c11] ++ t) :
    (g16 M 0).1 = c0 * 256 + c1 ∧ (g16 M 2).1 = c2 * 256 + c3 ∧ (g16 M 4).1 = c4 * 256 + c5 ∧ (g16 M 6).1 = c6 * 256 + c7 ∧ (g16 M 8).1 = c8 * 256 + c9 ∧ (g16 M 10).1 = c10 * 256 + c11 :=
  ⟨g16_two (a := []) h, g16_two (a := [c0, c1]) h, g16_two (a := [c0, c1, c2, c3]) h, g16_two (a := [c0, c1, c2, c3, c4, c5]) h, g16_two (a := [c0, c1, c2, c3, c4, c5, c6, c7]) h, g16_two (a := [c0, c1, c2, c3, c4, c5, c6, c7, c8, c9]) h⟩
theorem set12 (v : Int) (c0 c1 c2 c3 c4 c5 c6 c7 c8 c9 c10 c11 : Int) (k : Nat) (hk : k < 12) :
    ∃ d0 d1 d2 d3 d4 d5 d6 d7 d8 d9 d10 d11 : Int, [c0, c1, c2, c3, c4, c5, c6, c7, c8, c9, c10, c11].set k v = [d0, d1, d2, d3, d4, d5, d6, d7, d8, d9, d10, d11] ∧
      (d0 * 256 + d1 = c0 * 256 + c1 → d2 * 256 + d3 = c2 * 256 + c3 → d4 * 256 + d5 = c4 * 256 + c5 → (d6 * 256 + d7) + (d8 * 256 + d9) + (d10 * 256 + d11) = (c6 * 256 + c7) + (c8 * 256 + c9) + (c10 * 256 + c11) → [c0, c1, c2, c3, c4, c5, c6, c7, c8, c9, c10, c11][k]? = some v) := by
  match k, hk with
  | 0, _ => refine ⟨_, _, _, _, _, _, _, _, _, _, _, _, rfl, fun h1 h2 h3 h4 => ?_⟩; show some c0 = some v; congr 1; omega
  | 1, _ => refine ⟨_, _, _, _, _, _, _, _, _, _, _, _, rfl, fun h1 h2 h3 h4 => ?_⟩; show some c1 = some v; congr 1; omega
  | 2, _ => refine ⟨_, _, _, _, _, _, _, _, _, _, _, _, rfl, fun h1 h2 h3 h4 => ?_⟩; show some c2 = some v; congr 1; omega
  | 3, _ => refine ⟨_, _, _, _, _, _, _, _, _, _, _, _, rfl, fun h1 h2 h3 h4 => ?_⟩; show some c3 = some v; congr 1; omega
  | 4, _ => refine ⟨_, _, _, _, _, _, _, _, _, _, _, _, rfl, fun h1 h2 h3 h4 => ?_⟩; show some c4 = some v; congr 1; omega
  | 5, _ => refine ⟨_, _, _, _, _, _, _, _, _, _, _, _, rfl, fun h1 h2 h3 h4 => ?_⟩; show some c5 = some v; congr 1; omega
  | 6, _ => refine ⟨_, _, _, _, _, _, _, _, _, _, _, _, rfl, fun h1 h2 h3 h4 => ?_⟩; show some c6 = some v; congr 1; omega
  | 7, _ => refine ⟨_, _, _, _, _, _, _, _, _, _, _, _, rfl, fun h1 h2 h3 h4 => ?_⟩; show some c7 = some v; congr 1; omega
  | 8, _ => refine ⟨_, _, _, _, _, _, _, _, _, _, _, _, rfl, fun h1 h2 h3 h4 => ?_⟩; show some c8 = some v; congr 1; omega
  | 9, _ => refine ⟨_, _, _, _, _, _, _, _, _, _, _, _, rfl, fun h1 h2 h3 h4 => ?_⟩; show some c9 = some v; congr 1; omega
  | 10, _ => refine ⟨_, _, _, _, _, _, _, _, _, _, _, _, rfl, fun h1 h2 h3 h4 => ?_⟩; show some c10 = some v; congr 1; omega
  | 11, _ => refine ⟨_, _, _, _, _, _, _, _, _, _, _, _, rfl, fun h1 h2 h3 h4 => ?_⟩; show some c11 = some v; congr 1; omega
def SameH (a b : Msg) : Prop := a.id = b.id ∧ a.rp = b.rp ∧ a.op = b.op ∧ a.au = b.au ∧ a.tr = b.tr ∧ a.de = b.de ∧ a.av = b.av ∧ a.co = b.co
theorem head_turned {m : Msg} (hm : mayM m = true) (hw : WfM m) {M : ByteArray} {k : Nat} (hk : k < 12) {v : Int} (h : bytesOf M = (wholeL m).set k v) {x : Msg} (hd : decR M = some x) (hs : SameH x m) : (wholeL m)[k]? = some v := by
  have hH := headW_len m
  obtain ⟨y, hy⟩ := body_ext m
  have e1 : bytesOf M = (headW m).set k v ++ y := by rw [h, whole_body, hy _ hH, List.set_append_left _ _ (by omega)]
  have hH' : ((headW m).set k v).length = 12 := by rw [List.length_set, hH]
  have e2 : bytesOf M = bodyL m ((headW m).set k v) := by rw [e1, hy _ hH']
  have hc := body_cnt hm hw hH' e2 hd
  obtain ⟨S, hS⟩ : ∃ S : ByteArray, bytesOf S = headW m ++ y := by
    refine ⟨strOfNums (headW m ++ y), bytes_str ?_⟩
    intro z hz
    rcases List.mem_append.1 hz with hz | hz
    · exact all16_b8 _ z hz
    · exact of_b8 M z (by rw [e1]; exact List.mem_append_right _ hz)
  obtain ⟨g0, g2, g4, g6, g8, g10⟩ := head_at hm hw hS
  obtain ⟨-, -, d4, d2, -, -, -, -, -, -, rfl⟩ := dec_ok hd
  obtain ⟨f1, f2, f3, f4, f5, f6, f7, f8⟩ := flags_back hm
  have fr := flags_rng hm
  obtain ⟨s0, s1, s2, s3, s4, s5, s6, s7⟩ := hs
  have s0 : (g16 M 0).1 = m.id := s0
  have s1 : bb (g16 M 2).1 32768 = m.rp := s1
  have s2 : (g16 M 2).1 / 2048 % 16 = m.op := s2
  have s3 : bb (g16 M 2).1 1024 = m.au := s3
  have s4 : bb (g16 M 2).1 512 = m.tr := s4
  have s5 : bb (g16 M 2).1 256 = m.de := s5
  have s6 : bb (g16 M 2).1 128 = m.av := s6
  have s7 : (g16 M 2).1 % 16 = m.co := s7
  have gr := g16_rng M 2
  have hfl : (g16 M 2).1 = flagsV m := by
    have t1 := bb_eq (s1.trans f1.symm)
    have t3 := bb_eq (s3.trans f3.symm)
    have t4 := bb_eq (s4.trans f4.symm)
    have t5 := bb_eq (s5.trans f5.symm)
    have t6 := bb_eq (s6.trans f6.symm)
    omega
  obtain ⟨c0, c1, c2, c3, c4, c5, c6, c7, c8, c9, c10, c11, hcc⟩ : ∃ c0 c1 c2 c3 c4 c5 c6 c7 c8 c9 c10 c11 : Int, headW m = [c0, c1, c2, c3, c4, c5, c6, c7, c8, c9, c10, c11] := ⟨_, _, _, _, _, _, _, _, _, _, _, _, rfl⟩
  rw [hcc] at hS
  obtain ⟨p0, p2, p4, p6, p8, p10⟩ := six hS
  obtain ⟨d0, d1, d2', d3, d4', d5, d6, d7, d8, d9, d10, d11, hset, hfin⟩ := set12 v c0 c1 c2 c3 c4 c5 c6 c7 c8 c9 c10 c11 k hk
  rw [hcc, hset] at e1
  obtain ⟨q0, q2, q4, q6, q8, q10⟩ := six e1
  rw [g0] at p0
  rw [g2] at p2
  rw [g4] at p4
  rw [g6] at p6
  rw [g8] at p8
  rw [g10] at p10
  simp only at p0 p2 p4 p6 p8 p10
  have hres := hfin (by omega) (by omega) (by omega) (by omega)
  rw [whole_body, hy _ hH, List.getElem?_append_left (by omega), hcc]
  exact hres
end Go.Proofs.YtnikfeaggppmpaaDoor.Rdr
