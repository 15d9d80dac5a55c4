/-
  What point.Read reads is what the law's own reading reads, of messages of up to 3000 bytes: plain. No macro, syntax, notation, axiom, sorry.
-/
import Derived.Test.YtdmpmcmpkmldnaaRd
import Derived.Test.YtdmpmcmpkmldnaaPPx2
namespace Go.Proofs.Ytdmpmcmpkmldnaa.Rd
open Go.RowKit Go.Proofs.Ytdmpmcmpkmldnaa.PP Go.Proofs.YtdmpmcmpkmldnaaW.PrintWords Go.Proofs.YtdmpmcmpkmldnaaW.PrintLast Go.Proofs.Ytdmpmcmpkmldnaa.Base Go.Proofs.Ytdmpmcmpkmldnaa.Nam Go.Proofs.Ytdmpmcmpkmldnaa.QP
set_option linter.unusedVariables false
set_option linter.unusedSimpArgs false
set_option maxRecDepth 100000

/-- The law's reading: so many rounds, labels without bound. -/
def rdS (m : ByteArray) : Nat → Int → Int → Int → List (List Int) → Option (List (List Int) × Int)
  | 0, _, _, _, _ => none
  | n + 1, p, e, low, ls =>
    if p < 0 ∨ (m.size : Int) ≤ p then none
    else if bt m p = 0 then some (ls, if e < 0 then p + 1 else e)
    else if bt m p ≤ 63 then (if p + bt m p < m.size then rdS m n (p + (1 + bt m p)) e low (ls ++ [((bytesOf m).take (p + 1 + bt m p).toNat).drop (p + 1).toNat]) else none)
    else if 192 ≤ bt m p ∧ p + 1 < m.size ∧ (bt m p - 192) * 256 + bt m (p + 1) < low then rdS m n ((bt m p - 192) * 256 + bt m (p + 1)) (if e < 0 then p + 2 else e) ((bt m p - 192) * 256 + bt m (p + 1)) ls
    else none
theorem rdS_len (m : ByteArray) : ∀ (n : Nat) (p e low : Int) (ls ls' : List (List Int)) (e' : Int), rdS m n p e low ls = some (ls', e') → ls.length ≤ ls'.length
  | 0, _, _, _, _, _, _, h => by cases h
  | n + 1, p, e, low, ls, ls', e', h => by
    unfold rdS at h
    repeat' split at h
    all_goals first
      | (cases h; done)
      | (injection h with h; injection h with h1 h2; rw [h1]; exact Nat.le_refl _)
      | exact rdS_len m n _ _ _ _ _ _ h
      | exact Nat.le_trans (by simp) (rdS_len m n _ _ _ _ _ _ h)
/-- What the law reads of few labels Read reads, too. -/
theorem rd_of (m : ByteArray) : ∀ (n k : Nat) (p e low : Int) (ls ls' : List (List Int)) (e' : Int) (r : Option (List (List Int) × Int)), rdS m n p e low ls = some (ls', e') → ls'.length ≤ 127 → rdC m k p e low ls = some r → r = some (ls', e')
  | 0, _, _, _, _, _, _, _, _, h, _, _ => by cases h
  | n + 1, 0, _, _, _, _, _, _, _, _, _, h => by cases h
  | n + 1, k + 1, p, e, low, ls, ls', e', r, h, hl, hc => by
    unfold rdS at h
    unfold rdC at hc
    by_cases c1 : p < 0 ∨ (m.size : Int) ≤ p
    · rw [if_pos c1] at h; cases h
    · rw [if_neg c1] at h hc
      by_cases c2 : bt m p = 0
      · rw [if_pos c2] at h hc
        have h1 := Option.some.inj h
        have h2 := Option.some.inj hc
        rw [← h2, h1]
      · rw [if_neg c2] at h hc
        by_cases c3 : bt m p ≤ 63
        · rw [if_pos c3] at h
          by_cases c4 : p + bt m p < m.size
          · rw [if_pos c4] at h
            have h5 := rdS_len m n _ _ _ _ _ _ h
            rw [List.length_append, List.length_singleton] at h5
            rw [if_pos ⟨c3, c4, by omega⟩] at hc
            exact rd_of m n k _ _ _ _ _ _ _ h hl hc
          · rw [if_neg c4] at h; cases h
        · rw [if_neg c3] at h
          rw [if_neg (fun hh => c3 hh.1)] at hc
          by_cases c4 : 192 ≤ bt m p ∧ p + 1 < m.size ∧ (bt m p - 192) * 256 + bt m (p + 1) < low
          · rw [if_pos c4] at h hc
            exact rd_of m n k _ _ _ _ _ _ _ h hl hc
          · rw [if_neg c4] at h; cases h
/-- How many places a chain of pointers can visit from a place on. -/
def vis (t : Nat) : Nat := t - (t / 256 * 96 + (if t % 256 < 192 then t % 256 else 192) / 2)
theorem vis_mono {a b : Nat} (h : a ≤ b) : vis a ≤ vis b := by unfold vis; split <;> split <;> omega
theorem vis_two {a b : Nat} (h : a + 2 ≤ b) : vis a + 1 ≤ vis b := by unfold vis; split <;> split <;> omega
theorem vis_high {a b : Nat} (h : a + 2 ≤ b) (ha : 192 ≤ a % 256) : vis a + 2 ≤ vis b := by unfold vis; split <;> split <;> omega
/-- One round of Read that goes on. -/
theorem rdC_step {m : ByteArray} {k : Nat} {p e low : Int} {ls ls' : List (List Int)} {e' : Int} (h : rdC m (k + 1) p e low ls = some (some (ls', e'))) :
    0 ≤ p ∧ p < m.size ∧ ((∀ n, rdS m (n + 1) p e low ls = some (ls', e')) ∨
      (bt m p ≤ 63 ∧ ls.length < 127 ∧ ∃ l, rdC m k (p + (1 + bt m p)) e low (ls ++ [l]) = some (some (ls', e')) ∧ ∀ n, rdS m (n + 1) p e low ls = rdS m n (p + (1 + bt m p)) e low (ls ++ [l])) ∨
      (192 ≤ bt m p ∧ p + 1 < m.size ∧ (bt m p - 192) * 256 + bt m (p + 1) < low ∧ ∃ e1, rdC m k ((bt m p - 192) * 256 + bt m (p + 1)) e1 ((bt m p - 192) * 256 + bt m (p + 1)) ls = some (some (ls', e')) ∧
        ∀ n, rdS m (n + 1) p e low ls = rdS m n ((bt m p - 192) * 256 + bt m (p + 1)) e1 ((bt m p - 192) * 256 + bt m (p + 1)) ls)) := by
  unfold rdC at h
  by_cases c1 : p < 0 ∨ (m.size : Int) ≤ p
  · rw [if_pos c1] at h; cases h
  · rw [if_neg c1] at h
    refine ⟨by omega, by omega, ?_⟩
    by_cases c2 : bt m p = 0
    · rw [if_pos c2] at h
      refine .inl fun n => ?_
      unfold rdS
      rw [if_neg c1, if_pos c2]
      exact Option.some.inj h
    · rw [if_neg c2] at h
      by_cases c3 : bt m p ≤ 63 ∧ p + bt m p < m.size ∧ ls.length < 127
      · rw [if_pos c3] at h
        refine .inr (.inl ⟨c3.1, c3.2.2, _, h, fun n => ?_⟩)
        conv => lhs; unfold rdS
        rw [if_neg c1, if_neg c2, if_pos c3.1, if_pos c3.2.1]
      · rw [if_neg c3] at h
        by_cases c4 : 192 ≤ bt m p ∧ p + 1 < m.size ∧ (bt m p - 192) * 256 + bt m (p + 1) < low
        · rw [if_pos c4] at h
          refine .inr (.inr ⟨c4.1, c4.2.1, c4.2.2, _, h, fun n => ?_⟩)
          conv => lhs; unfold rdS
          rw [if_neg c1, if_neg c2, if_neg (by omega), if_pos c4]
        · rw [if_neg c4] at h; cases h
/-- What Read reads the law reads, too, in few rounds. -/
theorem rd_back (m : ByteArray) : ∀ (k : Nat) (p e low : Int) (ls ls' : List (List Int)) (e' : Int), rdC m k p e low ls = some (some (ls', e')) →
    (∀ n, vis low.toNat + 3 * (127 - ls.length) + 3 ≤ n → rdS m n p e low ls = some (ls', e')) ∧ (p = low → ∀ n, vis low.toNat + 3 * (127 - ls.length) + 2 ≤ n → rdS m n p e low ls = some (ls', e')) := by
  intro k
  induction k using Nat.strongRecOn with
  | _ k ih =>
  intro p e low ls ls' e' h
  cases k with
  | zero => cases h
  | succ k =>
  obtain ⟨hp0, hp1, hs⟩ := rdC_step h
  have hb1 := bt_range m (p + 1)
  rcases hs with hs | ⟨hb, hl, l, hc, hs⟩ | ⟨hb, hp2, hlow, e1, hc, hs⟩
  · constructor
    · intro n hn
      obtain ⟨n, rfl⟩ : ∃ q, n = q + 1 := ⟨n - 1, by omega⟩
      exact hs n
    · intro _ n hn
      obtain ⟨n, rfl⟩ : ∃ q, n = q + 1 := ⟨n - 1, by omega⟩
      exact hs n
  · have h1 := (ih k (by omega) _ _ _ _ _ _ hc).1
    rw [List.length_append, List.length_singleton] at h1
    constructor
    · intro n hn
      obtain ⟨n, rfl⟩ : ∃ q, n = q + 1 := ⟨n - 1, by omega⟩
      rw [hs n]
      exact h1 n (by omega)
    · intro _ n hn
      obtain ⟨n, rfl⟩ : ∃ q, n = q + 1 := ⟨n - 1, by omega⟩
      rw [hs n]
      exact h1 n (by omega)
  · obtain ⟨t, ht⟩ : ∃ t, (bt m p - 192) * 256 + bt m (p + 1) = t := ⟨_, rfl⟩
    rw [ht] at hlow hc hs
    have ht0 : 0 ≤ t := by omega
    have h1 := (ih k (by omega) _ _ _ _ _ _ hc).2 rfl
    constructor
    · intro n hn
      obtain ⟨n, rfl⟩ : ∃ q, n = q + 1 := ⟨n - 1, by omega⟩
      rw [hs n]
      have := vis_mono (a := t.toNat) (b := low.toNat) (by omega)
      exact h1 n (by omega)
    · intro hpl n hn
      obtain ⟨n, rfl⟩ : ∃ q, n = q + 1 := ⟨n - 1, by omega⟩
      rw [hs n]
      by_cases h2 : t + 2 ≤ low
      · have := vis_two (a := t.toNat) (b := low.toNat) (by omega)
        exact h1 n (by omega)
      · have htl : t + 1 = low := by omega
        cases k with
        | zero => cases hc
        | succ k =>
        obtain ⟨hq0, hq1, hs2⟩ := rdC_step hc
        obtain ⟨n, rfl⟩ : ∃ q, n = q + 1 := ⟨n - 1, by omega⟩
        have hmono := vis_mono (a := t.toNat) (b := low.toNat) (by omega)
        rcases hs2 with hs2 | ⟨hb2, hl2, l2, hc2, hs2⟩ | ⟨hb2, hp22, hlow2, e2, hc2, hs2⟩
        · exact hs2 n
        · have h3 := (ih k (by omega) _ _ _ _ _ _ hc2).1
          rw [List.length_append, List.length_singleton] at h3
          rw [hs2 n]
          exact h3 n (by omega)
        · have hbp : bt m (t + 1) = bt m p := by rw [htl, hpl]
          rw [hbp] at hlow2 hc2 hs2
          have hbr := bt_range m t
          have hbp2 := bt_range m p
          obtain ⟨u, hu⟩ : ∃ u, (bt m t - 192) * 256 + bt m p = u := ⟨_, rfl⟩
          rw [hu] at hlow2 hc2 hs2
          have h3 := (ih k (by omega) _ _ _ _ _ _ hc2).2 rfl
          rw [hs2 n]
          have := vis_high (a := u.toNat) (b := low.toNat) (by omega) (by omega)
          exact h3 n (by omega)
theorem mkOk_len {ls : List (List Int)} (h : mkOk ls = true) : ls.length ≤ 127 := by
  obtain ⟨h1, h2⟩ := (mkOk_iff ls).1 h
  have h3 : ∀ (l : List (List Int)), (∀ x ∈ l, Lab x) → 2 * l.length ≤ (mkL l).length := by
    intro l
    induction l with
    | nil => intro _; simp
    | cons x r ih =>
      intro hx
      have e1 := ih (fun y hy => hx y (List.mem_cons_of_mem _ hy))
      have e2 := (hx x (List.mem_cons_self ..)).1
      unfold mkL at *
      rw [List.map_cons, lay_cons]
      simp [fold_len]
      omega
  have := h3 ls h1
  omega
theorem rd_same (m : ByteArray) (hm : m.size ≤ 3000) (p : Int) (k : Nat) (r : Option (List (List Int) × Int)) (h : rdC m k p (-1) p [] = some r) : rdV (rdS m 3100 p (-1) p []) = rdV r := by
  cases r with
  | some x =>
    obtain ⟨ls', e'⟩ := x
    have hk : k ≠ 0 := by rintro rfl; cases h
    obtain ⟨k, rfl⟩ : ∃ q, k = q + 1 := ⟨k - 1, by omega⟩
    obtain ⟨hp0, hp1, _⟩ := rdC_step h
    have hv : vis p.toNat ≤ 1900 := by
      have := vis_mono (a := p.toNat) (b := 3000) (by omega)
      have e : vis 3000 = 1852 := by decide
      omega
    rw [(rd_back m (k + 1) p (-1) p [] ls' e' h).2 rfl 3100 (by simp; omega)]
  | none =>
    cases hs : rdS m 3100 p (-1) p [] with
    | none => rfl
    | some x =>
      obtain ⟨ls', e'⟩ := x
      have hl : ¬ ls'.length ≤ 127 := fun hl => by
        have := rd_of m 3100 k p (-1) p [] ls' e' none hs hl h
        cases this
      unfold rdV
      simp only
      rw [if_neg (fun hk => hl (mkOk_len hk))]
end Go.Proofs.Ytdmpmcmpkmldnaa.Rd
