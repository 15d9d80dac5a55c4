/- part of a proof; what it has no use for was struck out -/
import Derived.Test.YtnikfeaggppmpaaDec
import Derived.Test.YtnikfeaggppmpaaWnRd
import Derived.Test.YtnikfeaggppmpaaEnc
namespace Go.Proofs.Ytnikfeaggppmpaa.Rdr
open Go.RowKit Go.Proofs.Ytnikfeaggppmpaa.PM Go.Proofs.YtnikfeaggppmpaaW Go.Proofs.YtnikfeaggppmpaaW.PrintWords Go.Proofs.YtnikfeaggppmpaaW.PrintLast Go.Proofs.YtnikfeaggppmpaaW.PrintMore Go.Proofs.Ytnikfeaggppmpaa.Base Go.Proofs.Ytnikfeaggppmpaa.Trn Go.Proofs.Ytnikfeaggppmpaa.QM Go.Proofs.Ytnikfeaggppmpaa.Nam Go.Proofs.Ytnikfeaggppmpaa.Rd Go.Proofs.Ytnikfeaggppmpaa.Wr Go.Proofs.Ytnikfeaggppmpaa.MapS
set_option linter.unusedVariables false
set_option linter.unusedSimpArgs false
set_option maxRecDepth 100000
theorem wN_ext : ∀ (ls : List (List Int)) (n : Nat) (f : List Int → Option Int), ∃ x f', ∀ bs : List Int, bs.length = n → wN bs f ls = (bs ++ x, f')
  | [], n, f => ⟨[0], f, fun bs _ => rfl⟩
  | l :: ls, n, f => by
    cases h : f (lay (l :: ls)) with
    | some a => exact ⟨be16 (49152 + a), f, fun bs _ => wN_seen h⟩
    | none =>
      obtain ⟨x, f', hx⟩ := wN_ext ls (n + (1 + l.length)) (if n < 16384 then upd f (lay (l :: ls)) (n : Int) else f)
      refine ⟨(l.length : Int) :: l ++ x, f', fun bs hb => ?_⟩
      rw [wN_new h, hb, hx _ (by simp; omega), List.append_assoc]
theorem namW_ext (n : List Int) (k : Nat) (f : List Int → Option Int) : ∃ x f', ∀ bs : List Int, bs.length = k → namW n (bs, f) = (bs ++ x, f') := by
  unfold namW
  split
  · rename_i ls hls
    exact wN_ext ls k f
  · exact ⟨[], f, fun bs _ => by rw [List.append_nil]⟩
theorem datW_ext (t : Int) (d : ByteArray) (k : Nat) (f : List Int → Option Int) : ∃ x f', ∀ bs : List Int, bs.length = k → datW t d (bs, f) = (bs ++ x, f') := by
  unfold datW
  split
  · exact namW_ext _ k f
  split
  · obtain ⟨x, f1, h1⟩ := namW_ext (soaP (bytesOf d)).1 k f
    obtain ⟨y, f2, h2⟩ := namW_ext (soaP (bytesOf d)).2.1 (k + x.length) f1
    refine ⟨x ++ y ++ (soaP (bytesOf d)).2.2.1, f2, fun bs hb => ?_⟩
    rw [h1 bs hb, h2 _ (by simp [hb])]
    simp [List.append_assoc]
  · exact ⟨bytesOf d, f, fun bs _ => rfl⟩
theorem put2_mid (s x : List Int) (u v a b : Int) : put2 (s ++ [u, v] ++ x) s.length a b = s ++ [a, b] ++ x := by
  unfold put2
  simp only [List.append_assoc, List.cons_append, List.nil_append]
  rw [List.set_append_right _ _ (by omega), Nat.sub_self, List.set_cons_zero, List.set_append_right _ _ (by omega), show s.length + 1 - s.length = 1 by omega]
  rfl
theorem wrD_eq {t : Int} {d : ByteArray} (h : mayB t d = true) (k : Nat) (f : List Int → Option Int) : ∃ (n : Nat) (x : List Int) (f' : List Int → Option Int), n ≤ 1200 ∧ n = x.length ∧ ∀ bs : List Int, bs.length = k → wrD t d (bs, f) = (bs ++ be16 n ++ x, f') ∧ datW t d (bs ++ be16 n, f) = (bs ++ be16 n ++ x, f') := by
  obtain ⟨x, f', hx⟩ := datW_ext t d (k + 2) f
  have hl : x.length ≤ 1200 := by
    have h1 := (datW_len h (List.replicate (k + 2) 0, f)).2
    rw [hx _ (by simp)] at h1
    simp at h1
    omega
  refine ⟨x.length, x, f', hl, rfl, fun bs hb => ⟨?_, hx _ (by simp [be16, hb])⟩⟩
  unfold wrD
  rw [if_pos h]
  have e := hx (bs ++ be16 0) (by simp [be16, hb])
  simp only
  rw [e]
  simp only
  have e2 : ((bs ++ be16 0 ++ x).length : Int) - (bs.length : Int) - 2 = (x.length : Int) := by simp [be16]; omega
  rw [e2]
  have e3 : be16 0 = [0, 0] := by decide
  rw [e3, put2_mid]
  have e4 : be16 (x.length : Int) = [(x.length : Int) % 65536 / 256, (x.length : Int) % 65536 % 256] := by
    unfold be16
    rw [show (x.length : Int) / 256 % 256 = (x.length : Int) % 65536 / 256 by omega, show (x.length : Int) % 256 = (x.length : Int) % 65536 % 256 by omega]
  rw [e4]
theorem recW_ext (r : R) (k : Nat) (f : List Int → Option Int) : ∃ x f', ∀ bs : List Int, bs.length = k → recW r (bs, f) = (bs ++ x, f') := by
  obtain ⟨x, f1, h1⟩ := namW_ext (bytesOf r.f0) k f
  by_cases hm : mayB r.f1 r.f3 = true
  · obtain ⟨n, y, f2, -, -, h2⟩ := wrD_eq hm (k + x.length + 8) f1
    refine ⟨x ++ all16 [r.f1, 1] ++ all32 [r.f2] ++ be16 n ++ y, f2, fun bs hb => ?_⟩
    unfold recW
    rw [h1 bs hb]
    have h3 := (h2 (bs ++ x ++ all16 [r.f1, 1] ++ all32 [r.f2]) (by simp [all16_len, all32_len, hb]; omega)).1
    simp only
    rw [h3]
    simp [List.append_assoc]
  · refine ⟨x ++ all16 [r.f1, 1] ++ all32 [r.f2], f1, fun bs hb => ?_⟩
    unfold recW
    rw [h1 bs hb]
    unfold wrD
    rw [if_neg hm]
    simp [List.append_assoc]
theorem recsW_ext : ∀ (rs : List R) (k : Nat) (f : List Int → Option Int), ∃ x f', ∀ bs : List Int, bs.length = k → recsW rs (bs, f) = (bs ++ x, f')
  | [], k, f => ⟨[], f, fun bs _ => by rw [List.append_nil]; rfl⟩
  | r :: rs, k, f => by
    obtain ⟨x, f1, h1⟩ := recW_ext r k f
    obtain ⟨y, f2, h2⟩ := recsW_ext rs (k + x.length) f1
    refine ⟨x ++ y, f2, fun bs hb => ?_⟩
    show recsW rs (recW r (bs, f)) = _
    rw [h1 bs hb, h2 _ (by simp [hb]), List.append_assoc]
theorem g16_at {M : ByteArray} {a t : List Int} {n : Int} (h : bytesOf M = a ++ be16 n ++ t) (h0 : 0 ≤ n) (h1 : n < 65536) : g16 M (a.length : Int) = (n, true) := by
  unfold be16 at h
  rw [List.append_assoc, List.cons_append, List.cons_append, List.nil_append] at h
  obtain ⟨e1, -⟩ := bt_mid h
  have h' : bytesOf M = (a ++ [n / 256 % 256]) ++ n % 256 :: t := by rw [h]; simp
  obtain ⟨e2, e3⟩ := bt_mid h'
  rw [List.length_append, List.length_singleton] at e2 e3
  have e2 : bt M ((a.length : Int) + 1) = n % 256 := by rw [← e2]; rfl
  unfold g16
  rw [if_pos ⟨by omega, by omega⟩, e1, e2, show n / 256 % 256 * 256 + n % 256 = n by omega]
theorem g32_at {M : ByteArray} {a t : List Int} {n : Int} (h : bytesOf M = a ++ be32 n ++ t) (h0 : 0 ≤ n) (h1 : n < 4294967296) : g32 M (a.length : Int) = (n, true) := by
  unfold be32 at h
  simp only [List.append_assoc, List.cons_append, List.nil_append] at h
  obtain ⟨e1, -⟩ := bt_mid h
  have h2 : bytesOf M = (a ++ [n / 16777216 % 256]) ++ (n / 65536 % 256) :: ((n / 256 % 256) :: (n % 256) :: t) := by rw [h]; simp
  have h3 : bytesOf M = (a ++ [n / 16777216 % 256, n / 65536 % 256]) ++ (n / 256 % 256) :: ((n % 256) :: t) := by rw [h]; simp
  have h4 : bytesOf M = (a ++ [n / 16777216 % 256, n / 65536 % 256, n / 256 % 256]) ++ (n % 256) :: t := by rw [h]; simp
  obtain ⟨e2, -⟩ := bt_mid h2
  obtain ⟨e3, -⟩ := bt_mid h3
  obtain ⟨e4, e5⟩ := bt_mid h4
  simp only [List.length_append, List.length_cons, List.length_nil] at e2 e3 e4 e5
  have e2 : bt M ((a.length : Int) + 1) = n / 65536 % 256 := by rw [← e2]; rfl
  have e3 : bt M ((a.length : Int) + 2) = n / 256 % 256 := by rw [← e3]; rfl
  have e4 : bt M ((a.length : Int) + 3) = n % 256 := by rw [← e4]; rfl
  unfold g32
  rw [if_pos ⟨by omega, by omega⟩, e1, e2, e3, e4, show ((n / 16777216 % 256 * 256 + n / 65536 % 256) * 256 + n / 256 % 256) * 256 + n % 256 = n by omega]
theorem sub_mid {M : ByteArray} {a l t : List Int} (h : bytesOf M = a ++ l ++ t) : bytesOf (sub M (a.length : Int) (l.length : Int)) = l := by
  unfold sub
  rw [bytes_ex, h, show ((a.length : Int)).toNat = a.length by omega, show ((a.length : Int) + (l.length : Int)).toNat = a.length + l.length by omega]
  rw [List.append_assoc, List.take_append, List.take_of_length_le (by omega), show a.length + l.length - a.length = l.length by omega, List.take_left' rfl, List.drop_left' rfl]
theorem size_of {M : ByteArray} {l : List Int} (h : bytesOf M = l) : M.size = l.length := by rw [← of_size, h]
theorem inv_grow {bs : List Int} {f : List Int → Option Int} (h : Inv bs f) (x : List Int) : Inv (bs ++ x) f := fun n p hp => by
  obtain ⟨s, h1, h2, q, a', E, h3, h4, h5, h6, h7⟩ := h n p hp
  exact ⟨s, h1, h2, q, a', E, h3, h4, by rw [List.length_append]; omega, h6, h7.grow x⟩
theorem lay_len2 : ∀ (ls : List (List Int)), (∀ l ∈ ls, Lab l) → 2 * ls.length ≤ (lay ls).length
  | [], _ => by simp [lay]
  | l :: ls, h => by
    have h1 := (h l (List.mem_cons_self ..)).1
    have h2 := lay_len2 ls (fun x hx => h x (List.mem_cons_of_mem _ hx))
    rw [lay_cons]
    simp
    omega
theorem nam_rd {n : List Int} (hn : nm n = true) {s : St} (hi : Inv s.1 s.2) : Inv (namW n s).1 (namW n s).2 ∧ (∃ x, (namW n s).1 = s.1 ++ x) ∧ ∀ (M : ByteArray) (t : List Int), bytesOf M = (namW n s).1 ++ t → nmR M (s.1.length : Int) = (n, ((namW n s).1.length : Int), true) := by
  obtain ⟨ls, rfl, h1, h2, h3⟩ := nm_labs hn
  have hlb : labs (lay ls).length (lay ls) = some ls := labs_lay ls _ (lay_length ls) h1
  have e1 : namW (lay ls) s = wN s.1 s.2 ls := by unfold namW; rw [hn, if_pos rfl, hlb]
  rw [e1]
  obtain ⟨k1, k2, k3⟩ := wN_step hi h1
  refine ⟨k1, k2, fun M t hM => ?_⟩
  have hl := lay_len2 ls h1
  obtain ⟨k, hk⟩ := k3 M t hM (s.1.length : Int) (-1) [] (Int.le_refl _) (by simp; omega)
  rw [if_pos (by decide), List.nil_append] at hk
  have hmk : mkL ls = lay ls := by
    unfold mkL
    congr 1
    conv => rhs; rw [← List.map_id ls]
    exact List.map_congr_left fun l hl => h2 l hl
  unfold nmR
  rw [rdF_of hk]
  unfold rdV
  simp only
  rw [if_pos ((mkOk_iff ls).2 ⟨h1, by rw [hmk]; exact h3⟩), hmk]
theorem nam_empty : nm [] = true := by decide
theorem dat_rd {t : Int} {d : ByteArray} (hm : mayB t d = true) {s : St} (hi : Inv s.1 s.2) : Inv (datW t d s).1 (datW t d s).2 ∧ (∃ x, (datW t d s).1 = s.1 ++ x) ∧ ∀ (M : ByteArray) (t' : List Int), bytesOf M = (datW t d s).1 ++ t' → dR M (s.1.length : Int) (((datW t d s).1.length : Int) - (s.1.length : Int)) t = (d, true) := by
  have hm0 := hm
  unfold mayB at hm
  by_cases h25 : t = 2 ∨ t = 5
  · have hn : nm (bytesOf d) = true := by
      rw [if_neg (by omega), if_neg (by omega), if_pos h25] at hm
      exact hm
    have e : datW t d s = namW (bytesOf d) s := by unfold datW; rw [if_pos h25]
    rw [e]
    obtain ⟨k1, k2, k3⟩ := nam_rd hn hi
    refine ⟨k1, k2, fun M t' hM => ?_⟩
    have hz := size_of hM
    rw [List.length_append] at hz
    unfold dR
    rw [if_neg (by omega), if_pos h25, k3 M t' hM, if_pos ⟨rfl, by show ((namW (bytesOf d) s).1.length : Int) = _; omega⟩]
    simp only [str_of]
  by_cases h6 : t = 6
  · have hs : (soaP (bytesOf d)).2.2.2 = true := by
      rw [if_neg (by omega), if_neg (by omega), if_neg h25, if_pos h6] at hm
      exact hm
    obtain ⟨a, b, r, hab⟩ : ∃ a b r, soaP (bytesOf d) = (a, b, r, true) := ⟨_, _, _, by rw [← hs]⟩
    obtain ⟨n1, n2, n3, n4⟩ := soaP_yes hab
    obtain ⟨s1, hs1⟩ : ∃ s1, namW a s = s1 := ⟨_, rfl⟩
    obtain ⟨s2, hs2⟩ : ∃ s2, namW b s1 = s2 := ⟨_, rfl⟩
    have e : datW t d s = (s2.1 ++ r, s2.2) := by
      unfold datW
      rw [if_neg h25, if_pos h6, hab]
      simp only
      rw [hs1, hs2]
    rw [e]
    obtain ⟨k1, ⟨x1, k2⟩, k3⟩ := nam_rd n1 hi
    rw [hs1] at k1 k2 k3
    obtain ⟨j1, ⟨x2, j2⟩, j3⟩ := nam_rd n2 k1
    rw [hs2] at j1 j2 j3
    refine ⟨inv_grow j1 r, ⟨x1 ++ x2 ++ r, by simp only; rw [j2, k2]; simp [List.append_assoc]⟩, fun M t' hM => ?_⟩
    simp only at hM ⊢
    have hz := size_of hM
    have q1 := k3 M (x2 ++ r ++ t') (by rw [hM, j2]; simp [List.append_assoc])
    have q2 := j3 M (r ++ t') (by rw [hM]; simp [List.append_assoc])
    have q3 := sub_mid hM
    rw [n3] at q3
    simp only [List.length_append] at hz ⊢
    have h8 := of_b8 d
    rw [n4] at h8
    have ha8 : B8 a := h8.left
    have hb8 : B8 b := fun y hy => h8 y (List.mem_append_right _ (List.mem_cons_of_mem _ (List.mem_append_left _ hy)))
    unfold dR
    rw [if_neg (by omega), if_neg h25, if_pos h6, q1]
    simp only
    rw [q2]
    simp only
    rw [if_pos ⟨trivial, trivial, by omega⟩]
    refine congrArg (·, true) (str_inj' ?_)
    rw [bytes_app, bytes_app, bytes_app, bytes_app, bytes_str ha8, bytes_str hb8, n4]
    have q3 : bytesOf (sub M (s2.1.length : Int) 20) = r := q3
    rw [q3]
    simp [bytesOf]
  · have e : datW t d s = (s.1 ++ bytesOf d, s.2) := by unfold datW; rw [if_neg h25, if_neg h6]
    rw [e]
    refine ⟨inv_grow hi _, ⟨_, rfl⟩, fun M t' hM => ?_⟩
    simp only at hM ⊢
    have hz := size_of hM
    have q := sub_mid hM
    simp only [List.length_append] at hz ⊢
    have e2 : (((s.1.length + (bytesOf d).length : Nat)) : Int) - (s.1.length : Int) = ((bytesOf d).length : Int) := by omega
    rw [e2]
    have e3 : sub M (s.1.length : Int) ((bytesOf d).length : Int) = d := str_inj' q
    unfold dR
    rw [if_neg (by omega), if_neg h25, if_neg h6, e3, if_pos hm0]
theorem rec_rd {r : R} (hm : mayR r = true) (hw : WfR r) {s : St} (hi : Inv s.1 s.2) : Inv (recW r s).1 (recW r s).2 ∧ (∃ x, (recW r s).1 = s.1 ++ x) ∧ ∀ (M : ByteArray) (t : List Int), bytesOf M = (recW r s).1 ++ t → rcR M (s.1.length : Int) false = (r, 1, ((recW r s).1.length : Int), false) := by
  unfold mayR at hm
  rw [Bool.and_eq_true, Bool.and_eq_true] at hm
  obtain ⟨hn, -, hb⟩ := hm
  obtain ⟨w1, w2, -, -⟩ := hw
  obtain ⟨s1, hs1⟩ : ∃ s1, namW (bytesOf r.f0) s = s1 := ⟨_, rfl⟩
  obtain ⟨k1, ⟨x1, k2⟩, k3⟩ := nam_rd hn hi
  rw [hs1] at k1 k2 k3
  obtain ⟨n, x, f', hn0, hnx, hx⟩ := wrD_eq hb (s1.1.length + 8) s1.2
  obtain ⟨h1, h2⟩ := hx (s1.1 ++ all16 [r.f1, 1] ++ all32 [r.f2]) (by simp [all16_len, all32_len])
  have e : recW r s = (s1.1 ++ all16 [r.f1, 1] ++ all32 [r.f2] ++ be16 n ++ x, f') := by
    unfold recW
    rw [hs1]
    exact h1
  obtain ⟨j1, -, j3⟩ := dat_rd hb (s := (s1.1 ++ all16 [r.f1, 1] ++ all32 [r.f2] ++ be16 n, s1.2)) (inv_grow (inv_grow (inv_grow k1 _) _) _)
  rw [h2] at j1 j3
  simp only at j1 j3
  rw [e]
  simp only
  refine ⟨j1, ⟨x1 ++ all16 [r.f1, 1] ++ all32 [r.f2] ++ be16 n ++ x, by rw [k2]; simp [List.append_assoc]⟩, fun M t hM => ?_⟩
  have q0 := k3 M (all16 [r.f1, 1] ++ all32 [r.f2] ++ be16 n ++ x ++ t) (by rw [hM]; simp [List.append_assoc])
  have q1 := g16_at (M := M) (a := s1.1) (n := r.f1) (t := be16 1 ++ all32 [r.f2] ++ be16 n ++ x ++ t) (by rw [hM]; simp [all16, List.append_assoc]) w1.1 w1.2
  have q2 := g16_at (M := M) (a := s1.1 ++ be16 r.f1) (n := 1) (t := all32 [r.f2] ++ be16 n ++ x ++ t) (by rw [hM]; simp [all16, List.append_assoc]) (by decide) (by decide)
  have q3 := g32_at (M := M) (a := s1.1 ++ all16 [r.f1, 1]) (n := r.f2) (t := be16 n ++ x ++ t) (by rw [hM]; simp [all32, List.append_assoc]) w2.1 w2.2
  have q4 := g16_at (M := M) (a := s1.1 ++ all16 [r.f1, 1] ++ all32 [r.f2]) (n := (n : Int)) (t := x ++ t) (by rw [hM]; simp [List.append_assoc]) (by omega) (by omega)
  have q5 := j3 M t hM
  simp only [List.length_append, all16_len, all32_len, be16_len, List.length_cons, List.length_nil] at q2 q3 q4 q5 ⊢
  have c2 : ((s1.1.length + 2 : Nat) : Int) = (s1.1.length : Int) + 2 := by omega
  have c4 : ((s1.1.length + 2 * (0 + 1 + 1) : Nat) : Int) = (s1.1.length : Int) + 4 := by omega
  have c8 : ((s1.1.length + 2 * (0 + 1 + 1) + 4 * (0 + 1) : Nat) : Int) = (s1.1.length : Int) + 8 := by omega
  have c10 : ((s1.1.length + 2 * (0 + 1 + 1) + 4 * (0 + 1) + 2 : Nat) : Int) = (s1.1.length : Int) + 10 := by omega
  have cn : ((s1.1.length + 2 * (0 + 1 + 1) + 4 * (0 + 1) + 2 + x.length : Nat) : Int) - ((s1.1.length + 2 * (0 + 1 + 1) + 4 * (0 + 1) + 2 : Nat) : Int) = (n : Int) := by omega
  rw [cn, c10] at q5
  rw [c2] at q2
  rw [c4] at q3
  rw [c8] at q4
  have hh : hdB M (s.1.length : Int) false = false := by
    unfold hdB
    rw [q0]
    simp only
    rw [q1, q2, q3, q4]
    rfl
  unfold rcR
  rw [if_neg (by rw [hh]; decide), q0]
  simp only
  rw [q1, q2, q3, q4]
  simp only
  rw [q5, str_of]
  simp only [Bool.not_true]
  refine congrArg (fun z => (r, (1 : Int), z, false)) ?_
  omega
theorem recs_rd (has : Bool) : ∀ (rs : List R), (∀ r ∈ rs, mayR r = true ∧ WfR r) → ∀ {s : St}, Inv s.1 s.2 → Inv (recsW rs s).1 (recsW rs s).2 ∧ (∃ x, (recsW rs s).1 = s.1 ++ x) ∧ ∀ (M : ByteArray) (t : List Int), bytesOf M = (recsW rs s).1 ++ t → ∀ (d : Nat) (out : List R) (sz : Int), ptR M has (rs.length + d) (s.1.length : Int) false out sz = ptR M has d ((recsW rs s).1.length : Int) false (out ++ rs) sz
  | [], _, s, hi => ⟨hi, ⟨[], by rw [List.append_nil]; rfl⟩, fun M t hM d out sz => by rw [List.append_nil, List.length_nil, Nat.zero_add]; rfl⟩
  | r :: rs, h, s, hi => by
    obtain ⟨hm, hw⟩ := h r (List.mem_cons_self ..)
    obtain ⟨k1, ⟨x1, k2⟩, k3⟩ := rec_rd hm hw hi
    obtain ⟨j1, ⟨x2, j2⟩, j3⟩ := recs_rd has rs (fun y hy => h y (List.mem_cons_of_mem _ hy)) k1
    have e : recsW (r :: rs) s = recsW rs (recW r s) := rfl
    rw [e]
    refine ⟨j1, ⟨x1 ++ x2, by rw [j2, k2, List.append_assoc]⟩, fun M t hM d out sz => ?_⟩
    have q1 := k3 M (x2 ++ t) (by rw [hM, j2, List.append_assoc])
    have h41 : r.f1 ≠ 41 := by
      unfold mayR at hm
      rw [Bool.and_eq_true, Bool.and_eq_true] at hm
      exact of_decide_eq_true hm.2.1
    rw [List.length_cons, show rs.length + 1 + d = (rs.length + d) + 1 by omega, ptR, if_neg (by decide), q1]
    simp only
    have ho : optB has sz r 1 = false := by unfold optB; rw [decide_eq_false h41]; rfl
    rw [ho, if_neg (by decide), if_neg (by rintro (h | h); exact h41 h; exact h rfl), j3 M t hM d (out ++ [r]) sz, List.append_assoc]
    rfl
end Go.Proofs.Ytnikfeaggppmpaa.Rdr
