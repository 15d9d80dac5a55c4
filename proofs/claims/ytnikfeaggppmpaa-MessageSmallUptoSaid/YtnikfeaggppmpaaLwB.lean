/- part of a proof; what it has no use for was struck out -/
import Derived.Test.YtnikfeaggppmpaaLwA
namespace Go.Proofs.Ytnikfeaggppmpaa.Rdr
open Go.RowKit Go.Proofs.Ytnikfeaggppmpaa.PM Go.Proofs.YtnikfeaggppmpaaW Go.Proofs.YtnikfeaggppmpaaW.PrintWords Go.Proofs.YtnikfeaggppmpaaW.PrintLast Go.Proofs.YtnikfeaggppmpaaW.PrintMore Go.Proofs.Ytnikfeaggppmpaa.Base Go.Proofs.Ytnikfeaggppmpaa.Trn Go.Proofs.Ytnikfeaggppmpaa.QM Go.Proofs.Ytnikfeaggppmpaa.Nam Go.Proofs.Ytnikfeaggppmpaa.Rd Go.Proofs.Ytnikfeaggppmpaa.Wr Go.Proofs.Ytnikfeaggppmpaa.MapS
set_option linter.unusedVariables false
set_option linter.unusedSimpArgs false
set_option maxRecDepth 100000
def qS (m : Msg) (H : List Int) : St := ((namW (bytesOf m.qn) (H, fun _ => none)).1 ++ all16 [m.qt, 1], (namW (bytesOf m.qn) (H, fun _ => none)).2)
noncomputable def bodyS (m : Msg) (H : List Int) : St := recsW m.ex (recsW m.ns (recsW m.an (qS m H)))
def optL (sz : Int) : List Int := if 0 < sz then [0] ++ all16 [41, sz % 65536] ++ all32 [0] ++ all16 [0] else []
noncomputable def bodyL (m : Msg) (H : List Int) : List Int := (bodyS m H).1 ++ optL m.sz
theorem whole_body (m : Msg) : wholeL m = bodyL m (headW m) := by
  unfold wholeL bodyL optL
  split
  · show (bodyS m (headW m)).1 ++ [0] ++ all16 [41, m.sz % 65536] ++ all32 [0] ++ all16 [0] = _
    simp [List.append_assoc]
  · show (bodyS m (headW m)).1 = _
    rw [List.append_nil]
theorem headW_len (m : Msg) : (headW m).length = 12 := by unfold headW; rw [all16_len]; rfl
theorem body_ext (m : Msg) : ∃ x, ∀ H : List Int, H.length = 12 → bodyL m H = H ++ x := by
  obtain ⟨x0, f0, h0⟩ := namW_ext (bytesOf m.qn) 12 (fun _ => none)
  obtain ⟨x1, f1, h1⟩ := recsW_ext m.an (12 + x0.length + 4) f0
  obtain ⟨x2, f2, h2⟩ := recsW_ext m.ns (12 + x0.length + 4 + x1.length) f1
  obtain ⟨x3, f3, h3⟩ := recsW_ext m.ex (12 + x0.length + 4 + x1.length + x2.length) f2
  refine ⟨x0 ++ all16 [m.qt, 1] ++ x1 ++ x2 ++ x3 ++ optL m.sz, fun H hH => ?_⟩
  unfold bodyL bodyS qS
  rw [h0 H hH]
  simp only
  rw [h1 _ (by simp [all16_len, hH]; omega), h2 _ (by simp [all16_len, hH]; omega), h3 _ (by simp [all16_len, hH]; omega)]
  simp [List.append_assoc]
theorem inv_none (H : List Int) : Inv H (fun _ => none) := Inv.none H
theorem may_all {m : Msg} (h : mayM m = true) : (0 ≤ m.op ∧ m.op < 16 ∧ 0 ≤ m.co ∧ m.co < 16 ∧ 0 ≤ m.sz ∧ m.sz < 65536) ∧ nm (bytesOf m.qn) = true ∧ (m.an.length ≤ 64 ∧ ∀ r ∈ m.an, mayR r = true) ∧ (m.ns.length ≤ 64 ∧ ∀ r ∈ m.ns, mayR r = true) ∧ (m.ex.length ≤ 64 ∧ ∀ r ∈ m.ex, mayR r = true) := by
  unfold mayM headOk at h
  simp only [List.all_cons, List.all_nil, Bool.and_true, Bool.and_eq_true, partOk, decide_eq_true_eq, List.all_eq_true] at h
  exact ⟨h.1.1, h.1.2, h.2.1, h.2.2.1, h.2.2.2⟩
theorem wf_rec {m : Msg} (hm : mayM m = true) (hw : WfM m) : (∀ r ∈ m.an, mayR r = true ∧ WfR r) ∧ (∀ r ∈ m.ns, mayR r = true ∧ WfR r) ∧ ∀ r ∈ m.ex, mayR r = true ∧ WfR r := by
  obtain ⟨-, -, a1, a2, a3⟩ := may_all hm
  obtain ⟨⟨b1, b2, b3⟩, -⟩ := hw
  exact ⟨fun r hr => ⟨a1.2 r hr, b1 r hr⟩, fun r hr => ⟨a2.2 r hr, b2 r hr⟩, fun r hr => ⟨a3.2 r hr, b3 r hr⟩⟩
def optR (sz : Int) : R := ⟨⟨#[]⟩, 41, 0, ⟨#[]⟩⟩
theorem opt_rd {M : ByteArray} {b : List Int} {f : List Int → Option Int} (hi : Inv b f) {sz : Int} (h0 : 0 < sz) (h1 : sz < 65536) (hM : bytesOf M = b ++ optL sz) : rcR M (b.length : Int) false = (optR sz, sz, (M.size : Int), false) ∧ M.size = b.length + 11 := by
  have hz := size_of hM
  unfold optL at hM hz
  rw [if_pos h0] at hM hz
  have hsz : sz % 65536 = sz := by omega
  rw [hsz] at hM hz
  simp only [List.length_append, all16_len, all32_len, List.length_cons, List.length_nil] at hz
  have e0 : namW [] (b, f) = (b ++ [0], f) := rfl
  obtain ⟨-, -, k3⟩ := nam_rd (n := []) nam_empty (s := (b, f)) hi
  rw [e0] at k3
  have q0 := k3 M (all16 [41, sz] ++ all32 [0] ++ all16 [0]) (by rw [hM]; simp [List.append_assoc])
  have q1 := g16_at (M := M) (a := b ++ [0]) (n := 41) (t := be16 sz ++ all32 [0] ++ all16 [0]) (by rw [hM]; simp [all16, List.append_assoc]) (by decide) (by decide)
  have q2 := g16_at (M := M) (a := b ++ [0] ++ be16 41) (n := sz) (t := all32 [0] ++ all16 [0]) (by rw [hM]; simp [all16, List.append_assoc]) (by omega) (by omega)
  have q3 := g32_at (M := M) (a := b ++ [0] ++ all16 [41, sz]) (n := 0) (t := all16 [0]) (by rw [hM]; simp [all32, List.append_assoc]) (by decide) (by decide)
  have q4 := g16_at (M := M) (a := b ++ [0] ++ all16 [41, sz] ++ all32 [0]) (n := 0) (t := []) (by rw [hM]; simp [all16, List.append_assoc]) (by decide) (by decide)
  simp only [List.length_append, all16_len, all32_len, be16_len, List.length_cons, List.length_nil] at q0 q1 q2 q3 q4
  have c1 : ((b.length + (0 + 1) : Nat) : Int) = (b.length : Int) + 1 := by omega
  have c2 : ((b.length + (0 + 1) + 2 : Nat) : Int) = (b.length : Int) + 1 + 2 := by omega
  have c4 : ((b.length + (0 + 1) + 2 * (0 + 1 + 1) : Nat) : Int) = (b.length : Int) + 1 + 4 := by omega
  have c8 : ((b.length + (0 + 1) + 2 * (0 + 1 + 1) + 4 * (0 + 1) : Nat) : Int) = (b.length : Int) + 1 + 8 := by omega
  rw [c1] at q0 q1
  rw [c2] at q2
  rw [c4] at q3
  rw [c8] at q4
  refine ⟨?_, by omega⟩
  have hh : hdB M (b.length : Int) false = false := by
    unfold hdB
    rw [q0]
    simp only
    rw [q1, q2, q3, q4]
    rfl
  have hd : dR M ((b.length : Int) + 1 + 10) 0 41 = (⟨#[]⟩, true) := by
    have hs : sub M ((b.length : Int) + 1 + 10) 0 = ⟨#[]⟩ := by
      apply str_inj'
      unfold sub
      rw [bytes_ex, show ((b.length : Int) + 1 + 10 + 0).toNat = ((b.length : Int) + 1 + 10).toNat by omega, List.drop_take, Nat.sub_self, List.take_zero]
      rfl
    unfold dR
    rw [if_neg (by omega), if_neg (by decide), if_neg (by decide), hs, if_pos (by unfold mayB; rfl)]
  unfold rcR
  rw [if_neg (by rw [hh]; decide), q0]
  simp only
  rw [q1, q2, q3, q4]
  simp only
  rw [hd]
  simp only [Bool.not_true]
  show ((⟨strOfNums [], 41, 0, ⟨#[]⟩⟩ : R), sz, (b.length : Int) + 1 + 10 + 0, false) = _
  refine congr (congrArg Prod.mk rfl) (congrArg (fun z => (sz, z, false)) ?_)
  omega
theorem bb_val {f k : Int} {b : Bool} (h : f / k % 2 = bit1 b) : bb f k = b := by
  unfold bb
  rw [h]
  cases b <;> rfl
theorem bit1_rng' (b : Bool) : 0 ≤ bit1 b ∧ bit1 b ≤ 1 := by cases b <;> decide
theorem or_sum' (i : Nat) (hi : i ≤ 15) (x y : Int) (hx : 0 ≤ x ∧ x < 65536) (hm : x % 2 ^ i = 0) (hy : 0 ≤ y ∧ y < 2 ^ i) : Go.bits .or .u16 x y = x + y := by
  have h2 : (2 : Int) ^ i ≤ 2 ^ 15 := by exact_mod_cast Nat.pow_le_pow_right (show 0 < 2 by decide) hi
  have h3 : (2 : Int) ^ 15 = 32768 := by decide
  have h4 : (2 : Int) ^ 16 = 65536 := by decide
  exact bits_join .u16 16 (by decide) wraps_u16 i x y hx.1 hm (by omega) hy.1 hy.2 (by omega)
theorem wr16' {x : Int} (h0 : 0 ≤ x) (h1 : x < 65536) : IntKind.u16.wrap x = x := by rw [IntKind.wrap_u16]; omega
theorem flags_val (m : Msg) (ho : 0 ≤ m.op ∧ m.op < 16) (hc : 0 ≤ m.co ∧ m.co < 16) : flagsV m = bit1 m.rp * 32768 + m.op * 2048 + bit1 m.au * 1024 + bit1 m.tr * 512 + bit1 m.de * 256 + bit1 m.av * 128 + m.co := by
  have h1 := bit1_rng' m.rp
  have h2 := bit1_rng' m.au
  have h3 := bit1_rng' m.tr
  have h4 := bit1_rng' m.de
  have h5 := bit1_rng' m.av
  unfold flagsV
  rw [wr16' (x := bit1 m.rp * 32768) (by omega) (by omega), wr16' (x := m.op) (by omega) (by omega), wr16' (x := m.op * 2048) (by omega) (by omega), wr16' (x := (bit1 m.au * 8 + bit1 m.tr * 4 + bit1 m.de * 2 + bit1 m.av) * 128) (by omega) (by omega), wr16' (x := m.co) (by omega) (by omega)]
  rw [or_sum' 15 (by decide) (bit1 m.rp * 32768) (m.op * 2048) (by omega) (by show _ % 32768 = (0 : Int); omega) (by show _ ∧ _ < (32768 : Int); omega)]
  rw [or_sum' 11 (by decide) _ ((bit1 m.au * 8 + bit1 m.tr * 4 + bit1 m.de * 2 + bit1 m.av) * 128) (by omega) (by show _ % 2048 = (0 : Int); omega) (by show _ ∧ _ < (2048 : Int); omega)]
  rw [or_sum' 7 (by decide) _ m.co (by omega) (by show _ % 128 = (0 : Int); omega) (by show _ ∧ _ < (128 : Int); omega)]
  omega
theorem flags_rng {m : Msg} (hm : mayM m = true) : 0 ≤ flagsV m ∧ flagsV m < 65536 := by
  obtain ⟨h, -⟩ := may_all hm
  rw [flags_val m ⟨h.1, h.2.1⟩ ⟨h.2.2.1, h.2.2.2.1⟩]
  have h1 := bit1_rng' m.rp
  have h2 := bit1_rng' m.au
  have h3 := bit1_rng' m.tr
  have h4 := bit1_rng' m.de
  have h5 := bit1_rng' m.av
  omega
theorem flags_back {m : Msg} (hm : mayM m = true) : bb (flagsV m) 32768 = m.rp ∧ flagsV m / 2048 % 16 = m.op ∧ bb (flagsV m) 1024 = m.au ∧ bb (flagsV m) 512 = m.tr ∧ bb (flagsV m) 256 = m.de ∧ bb (flagsV m) 128 = m.av ∧ flagsV m % 16 = m.co ∧ flagsV m / 16 % 8 = 0 := by
  obtain ⟨h, -⟩ := may_all hm
  rw [flags_val m ⟨h.1, h.2.1⟩ ⟨h.2.2.1, h.2.2.2.1⟩]
  have h1 := bit1_rng' m.rp
  have h2 := bit1_rng' m.au
  have h3 := bit1_rng' m.tr
  have h4 := bit1_rng' m.de
  have h5 := bit1_rng' m.av
  refine ⟨bb_val ?_, ?_, bb_val ?_, bb_val ?_, bb_val ?_, bb_val ?_, ?_, ?_⟩ <;> omega
theorem head_at {m : Msg} (hm : mayM m = true) (hw : WfM m) {M : ByteArray} {x : List Int} (h : bytesOf M = headW m ++ x) :
    g16 M 0 = (m.id, true) ∧ g16 M 2 = (flagsV m, true) ∧ g16 M 4 = (1, true) ∧ g16 M 6 = ((m.an.length : Int), true) ∧ g16 M 8 = ((m.ns.length : Int), true) ∧ g16 M 10 = (((m.ex.length + (if 0 < m.sz then 1 else 0) : Nat) : Int), true) := by
  have hf := flags_rng hm
  obtain ⟨-, -, ⟨a1, -⟩, ⟨a2, -⟩, ⟨a3, -⟩⟩ := may_all hm
  obtain ⟨-, -, -, -, -, -, hid⟩ := hw
  have e1 : (m.an.length : Int) % 65536 = (m.an.length : Int) := by omega
  have e2 : (m.ns.length : Int) % 65536 = (m.ns.length : Int) := by omega
  obtain ⟨n3, hn3⟩ : ∃ n, (m.ex.length + (if 0 < m.sz then 1 else 0) : Nat) = n := ⟨_, rfl⟩
  have hn3' : n3 ≤ 65 := by rw [← hn3]; split <;> omega
  unfold headW at h
  rw [e1, e2] at h
  rw [hn3] at h ⊢
  have e3 : (n3 : Int) % 65536 = (n3 : Int) := by omega
  rw [e3] at h
  simp only [all16, List.flatMap_cons, List.flatMap_nil, List.append_nil, List.append_assoc] at h
  have k0 := g16_at (M := M) (a := []) (n := m.id) (t := be16 (flagsV m) ++ (be16 1 ++ (be16 m.an.length ++ (be16 m.ns.length ++ (be16 n3 ++ x))))) (by rw [h, List.nil_append]) hid.1 hid.2
  have k1 := g16_at (M := M) (a := be16 m.id) (n := flagsV m) (t := be16 1 ++ (be16 m.an.length ++ (be16 m.ns.length ++ (be16 n3 ++ x)))) (by rw [h, List.append_assoc]) hf.1 hf.2
  have k2 := g16_at (M := M) (a := be16 m.id ++ be16 (flagsV m)) (n := 1) (t := be16 m.an.length ++ (be16 m.ns.length ++ (be16 n3 ++ x))) (by rw [h]; simp only [List.append_assoc]) (by decide) (by decide)
  have k3 := g16_at (M := M) (a := be16 m.id ++ be16 (flagsV m) ++ be16 1) (n := m.an.length) (t := be16 m.ns.length ++ (be16 n3 ++ x)) (by rw [h]; simp only [List.append_assoc]) (by omega) (by omega)
  have k4 := g16_at (M := M) (a := be16 m.id ++ be16 (flagsV m) ++ be16 1 ++ be16 m.an.length) (n := m.ns.length) (t := be16 n3 ++ x) (by rw [h]; simp only [List.append_assoc]) (by omega) (by omega)
  have k5 := g16_at (M := M) (a := be16 m.id ++ be16 (flagsV m) ++ be16 1 ++ be16 m.an.length ++ be16 m.ns.length) (n := n3) (t := x) (by rw [h]; simp only [List.append_assoc]) (by omega) (by omega)
  exact ⟨k0, k1, k2, k3, k4, k5⟩
theorem q_rd {m : Msg} (hm : mayM m = true) (hw : WfM m) {H : List Int} (hH : H.length = 12) : Inv (qS m H).1 (qS m H).2 ∧ (∃ x, (qS m H).1 = H ++ x) ∧ ∀ (M : ByteArray) (t : List Int), bytesOf M = (qS m H).1 ++ t → strOfNums (nmR M 12).1 = m.qn ∧ qB M = false ∧ (g16 M (qP M)).1 = m.qt ∧ (g16 M (qP M + 2)).1 = 1 ∧ qP M + 2 + 2 = ((qS m H).1.length : Int) := by
  obtain ⟨-, hn, -⟩ := may_all hm
  obtain ⟨-, -, -, -, -, hqt, -⟩ := hw
  obtain ⟨s1, hs1⟩ : ∃ s1, namW (bytesOf m.qn) (H, fun _ => none) = s1 := ⟨_, rfl⟩
  obtain ⟨k1, ⟨x, k2⟩, k3⟩ := nam_rd hn (s := (H, fun _ => none)) (inv_none H)
  rw [hs1] at k1 k2 k3
  unfold qS
  rw [hs1]
  simp only
  refine ⟨inv_grow k1 _, ⟨x ++ all16 [m.qt, 1], by rw [k2, List.append_assoc]⟩, fun M t hM => ?_⟩
  have q0 := k3 M (all16 [m.qt, 1] ++ t) (by rw [hM, List.append_assoc])
  have q0 : nmR M 12 = (bytesOf m.qn, (s1.1.length : Int), true) := by
    have e : ((H.length : Nat) : Int) = 12 := by omega
    simp only at q0
    rw [e] at q0
    exact q0
  have q1 := g16_at (M := M) (a := s1.1) (n := m.qt) (t := be16 1 ++ t) (by rw [hM]; simp [all16, List.append_assoc]) hqt.1 hqt.2
  have q2 := g16_at (M := M) (a := s1.1 ++ be16 m.qt) (n := 1) (t := t) (by rw [hM]; simp [all16, List.append_assoc]) (by decide) (by decide)
  simp only [List.length_append, be16_len] at q2
  have c2 : ((s1.1.length + 2 : Nat) : Int) = (s1.1.length : Int) + 2 := by omega
  rw [c2] at q2
  have hp : qP M = (s1.1.length : Int) := by unfold qP; rw [q0]
  refine ⟨by rw [q0]; exact str_of _, ?_, by rw [hp, q1], by rw [hp, q2], by rw [hp]; simp [all16_len]; omega⟩
  unfold qB
  rw [hp, q0, q1, q2]
  rfl
theorem whole_rd {m : Msg} (hm : mayM m = true) (hw : WfM m) {M : ByteArray} (h : bytesOf M = wholeL m) (hl : (wholeL m).length ≤ 4096) : decR M = some m := by
  obtain ⟨x, hx⟩ := body_ext m
  have hz := size_of h
  obtain ⟨r1, r2, r3⟩ := wf_rec hm hw
  obtain ⟨hd, hn, a1, a2, a3⟩ := may_all hm
  have hH := headW_len m
  have hwb := whole_body m
  have hhx := hx _ hH
  obtain ⟨g0, g2, g4, g6, g8, g10⟩ := head_at hm hw (M := M) (x := x) (by rw [h, hwb, hhx])
  obtain ⟨f1, f2, f3, f4, f5, f6, f7, f8⟩ := flags_back hm
  obtain ⟨i0, ⟨y0, p0⟩, k0⟩ := q_rd hm hw hH
  obtain ⟨i1, ⟨y1, p1⟩, k1⟩ := recs_rd false m.an r1 i0
  obtain ⟨i2, ⟨y2, p2⟩, k2⟩ := recs_rd false m.ns r2 i1
  obtain ⟨i3, ⟨y3, p3⟩, k3⟩ := recs_rd true m.ex r3 i2
  have hb : bytesOf M = (recsW m.ex (recsW m.ns (recsW m.an (qS m (headW m))))).1 ++ optL m.sz := by rw [h, hwb]; rfl
  obtain ⟨s0, hs0⟩ : ∃ s, qS m (headW m) = s := ⟨_, rfl⟩
  rw [hs0] at i0 p0 k0 i1 p1 k1 i2 p2 k2 i3 p3 k3 hb
  obtain ⟨s1, hs1⟩ : ∃ s, recsW m.an s0 = s := ⟨_, rfl⟩
  rw [hs1] at i1 p1 k1 i2 p2 k2 i3 p3 k3 hb
  obtain ⟨s2, hs2⟩ : ∃ s, recsW m.ns s1 = s := ⟨_, rfl⟩
  rw [hs2] at i2 p2 k2 i3 p3 k3 hb
  obtain ⟨s3, hs3⟩ : ∃ s, recsW m.ex s2 = s := ⟨_, rfl⟩
  rw [hs3] at i3 p3 k3 hb
  obtain ⟨j1, j2, j3, j4, j5⟩ := k0 M (y1 ++ y2 ++ y3 ++ optL m.sz) (by rw [hb, p3, p2, p1]; simp [List.append_assoc])
  have l1 := k1 M (y2 ++ y3 ++ optL m.sz) (by rw [hb, p3, p2]; simp [List.append_assoc])
  have l2 := k2 M (y3 ++ optL m.sz) (by rw [hb, p3]; simp [List.append_assoc])
  have l3 := k3 M (optL m.sz) hb
  have eA : pA M = (m.an, (s1.1.length : Int), false, 0) := by
    unfold pA
    rw [g6, j2, j5]
    have := l1 0 [] 0
    rw [Nat.add_zero, List.nil_append] at this
    show ptR M false ((m.an.length : Int)).toNat _ false [] 0 = _
    rw [Int.toNat_natCast, this]
    rfl
  have bAe : bA M = false := by
    unfold bA
    rw [eA, Bool.false_or]
    exact decide_eq_false (by have := a1.1; simp only; omega)
  have eN : pN M = (m.ns, (s2.1.length : Int), false, 0) := by
    unfold pN
    rw [g8, eA, bAe]
    have := l2 0 [] 0
    rw [Nat.add_zero, List.nil_append] at this
    show ptR M false ((m.ns.length : Int)).toNat _ false [] 0 = _
    rw [Int.toNat_natCast, this]
    rfl
  have bNe : bN M = false := by
    unfold bN
    rw [eN, Bool.false_or]
    exact decide_eq_false (by have := a2.1; simp only; omega)
  have eE : pE M = (m.ex, (M.size : Int), false, m.sz) := by
    unfold pE
    rw [g10, eN, bNe]
    show ptR M true ((m.ex.length + (if 0 < m.sz then 1 else 0) : Nat) : Int).toNat (s2.1.length : Int) false [] 0 = _
    rw [Int.toNat_natCast, l3 _ [] 0, List.nil_append]
    by_cases hs : 0 < m.sz
    · rw [if_pos hs]
      obtain ⟨o1, o2⟩ := opt_rd i3 hs hd.2.2.2.2.2 hb
      rw [ptR, if_neg (by decide), o1]
      simp only
      have ho : optB true 0 (optR m.sz) m.sz = true := by
        unfold optB optR
        simp only
        rw [decide_eq_true hs, show (({ data := #[] } : ByteArray).toList.isEmpty) = true by rw [ByteArray.toList_eq]; rfl]
        decide
      rw [ho, if_pos rfl, ptR]
    · rw [if_neg hs, ptR]
      have hz3 : s3.1.length = M.size := by
        have e := size_of hb
        unfold optL at e
        rw [if_neg hs, List.append_nil] at e
        exact e.symm
      have e0 : m.sz = 0 := by omega
      rw [hz3, e0]
  have bEe : bE M = false := by
    unfold bE
    rw [eE, Bool.false_or]
    exact decide_eq_false (by have := a3.1; simp only; omega)
  have h12 : 12 ≤ M.size := by rw [hz, hwb, hhx, List.length_append, hH]; omega
  unfold decR
  rw [if_neg (by omega), if_neg (by rintro (h | h | h); omega; exact h (by rw [g4]); exact h (by rw [g2]; exact f8)), if_neg (by rw [j4]; exact fun h => h rfl), if_neg (by rintro (h | h); rw [bEe] at h; cases h; exact h (by rw [eE]))]
  refine congrArg some ?_
  unfold msgR
  rw [g0, g2, j1, j3, eA, eN, eE]
  simp only
  rw [f1, f2, f3, f4, f5, f6, f7]
end Go.Proofs.Ytnikfeaggppmpaa.Rdr
