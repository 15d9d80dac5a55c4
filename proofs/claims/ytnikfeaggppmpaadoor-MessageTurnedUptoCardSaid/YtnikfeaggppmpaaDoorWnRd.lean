/- part of a proof; what it has no use for was struck out -/
import Derived.Test.YtnikfeaggppmpaaDoorWn
import Derived.Test.YtnikfeaggppmpaaDoorRd
namespace Go.Proofs.YtnikfeaggppmpaaDoor.Rd
open Go.RowKit Go.Proofs.YtnikfeaggppmpaaDoor.PM Go.Proofs.YtnikfeaggppmpaaDoorW.PrintWords Go.Proofs.YtnikfeaggppmpaaDoorW.PrintLast Go.Proofs.YtnikfeaggppmpaaDoor.Base Go.Proofs.YtnikfeaggppmpaaDoor.Nam Go.Proofs.YtnikfeaggppmpaaDoor.QM Go.Proofs.YtnikfeaggppmpaaDoor.MapS Go.Proofs.YtnikfeaggppmpaaDoor.Wr
set_option linter.unusedVariables false
set_option linter.unusedSimpArgs false
def Good (m : ByteArray) (p a : Nat) (L : List (List Int)) (E : Nat) : Prop := ∀ (low e : Int) (ls0 : List (List Int)), (a : Int) ≤ low → ls0.length + L.length ≤ 127 → ∃ k, rdC m k p e low ls0 = some (some (ls0 ++ L, if e < 0 then (E : Int) else e))
def Gd (bs : List Int) (p a : Nat) (L : List (List Int)) (E : Nat) : Prop := ∀ (m : ByteArray) (t : List Int), bytesOf m = bs ++ t → Good m p a L E
theorem Gd.grow {bs : List Int} {p a : Nat} {L : List (List Int)} {E : Nat} (h : Gd bs p a L E) (x : List Int) : Gd (bs ++ x) p a L E := fun m t hm => h m (x ++ t) (by rw [hm, List.append_assoc])
theorem bt_mid {m : ByteArray} {a b : List Int} {c : Int} (h : bytesOf m = a ++ c :: b) : bt m (a.length : Int) = c ∧ a.length < m.size := by
  have hs : m.size = a.length + (b.length + 1) := by rw [← of_size, h]; simp
  have h1 := bt_get m a.length (by omega)
  rw [h, List.getElem?_append_right (Nat.le_refl _), Nat.sub_self] at h1
  exact ⟨(Option.some.inj h1).symm, by omega⟩
theorem good_end {m : ByteArray} {a t : List Int} (h : bytesOf m = a ++ 0 :: t) (b : Nat) : Good m a.length b [] (a.length + 1) := by
  intro low e ls0 _ _
  obtain ⟨h1, h2⟩ := bt_mid h
  refine ⟨1, ?_⟩
  unfold rdC
  rw [if_neg (by omega), if_pos h1, List.append_nil]
  rfl
theorem good_label {m : ByteArray} {a t l : List Int} {b E : Nat} {L : List (List Int)} (h : bytesOf m = a ++ (l.length : Int) :: l ++ t) (hl : Lab l) (ht : 1 ≤ t.length) (hg : Good m (a.length + (1 + l.length)) b L E) : Good m a.length b (l :: L) E := by
  intro low e ls0 hb hls
  rw [List.append_assoc, List.cons_append] at h
  obtain ⟨h1, h2⟩ := bt_mid h
  have hs : m.size = a.length + (1 + l.length + t.length) := by rw [← of_size, h]; simp; omega
  unfold Lab at hl
  rw [List.length_cons] at hls
  obtain ⟨k, hk⟩ := hg low e (ls0 ++ [l]) hb (by rw [List.length_append, List.length_singleton]; omega)
  refine ⟨k + 1, ?_⟩
  unfold rdC
  rw [h1, if_neg (by omega), if_neg (by omega), if_pos ⟨by omega, by omega, by omega⟩]
  have e1 : ((bytesOf m).take ((a.length : Int) + 1 + l.length).toNat).drop ((a.length : Int) + 1).toNat = l := by
    rw [h, show ((a.length : Int) + 1 + l.length).toNat = a.length + (1 + l.length) by omega, show ((a.length : Int) + 1).toNat = a.length + 1 by omega]
    rw [List.take_append, List.take_of_length_le (by omega), show a.length + (1 + l.length) - a.length = l.length + 1 by omega, List.take_succ_cons, List.take_append, List.take_of_length_le (Nat.le_refl _), Nat.sub_self, List.take_zero, List.append_nil]
    rw [List.drop_append, List.drop_of_length_le (by omega), show a.length + 1 - a.length = 1 by omega]
    rfl
  rw [e1, show (a.length : Int) + (1 + l.length) = ((a.length + (1 + l.length) : Nat) : Int) by omega, hk, List.append_assoc]
  rfl
theorem good_pointer {m : ByteArray} {a t : List Int} {b q a' E : Nat} {L : List (List Int)} (h : bytesOf m = a ++ be16 (49152 + q) ++ t) (hq : q < 16384) (hqb : q < b) (ha : a' ≤ q) (hg : Good m q a' L E) : Good m a.length b L (a.length + 2) := by
  intro low e ls0 hb hls
  unfold be16 at h
  rw [List.append_assoc, List.cons_append, List.cons_append, List.nil_append] at h
  obtain ⟨h1, h2⟩ := bt_mid h
  have h' : bytesOf m = (a ++ [(49152 + (q : Int)) / 256 % 256]) ++ (49152 + (q : Int)) % 256 :: t := by rw [h]; simp
  obtain ⟨h3, h4⟩ := bt_mid h'
  rw [List.length_append, List.length_singleton] at h3 h4
  have h3 : bt m ((a.length : Int) + 1) = (49152 + (q : Int)) % 256 := by rw [← h3]; rfl
  obtain ⟨k, hk⟩ := hg q (if e < 0 then a.length + 2 else e) ls0 (by omega) hls
  refine ⟨k + 1, ?_⟩
  unfold rdC
  rw [h1, h3]
  have e1 : ((49152 + (q : Int)) / 256 % 256 - 192) * 256 + (49152 + (q : Int)) % 256 = q := by omega
  rw [e1, if_neg (by omega), if_neg (by omega), if_neg (by omega), if_pos ⟨by omega, by omega, by omega⟩, hk]
  by_cases he : e < 0
  · rw [if_pos he, if_pos he, if_neg (by omega)]
    rfl
  · rw [if_neg he, if_neg he, if_neg he]
theorem lay_inj {a b : List (List Int)} (ha : ∀ l ∈ a, Lab l) (hb : ∀ l ∈ b, Lab l) (h : lay a = lay b) : a = b := by
  have h1 := labs_lay a (a.length + b.length) (by omega) ha
  have h2 := labs_lay b (a.length + b.length) (by omega) hb
  rw [h, h2] at h1
  exact (Option.some.inj h1).symm
def Old (bs : List Int) (a : Nat) (s : List (List Int)) (p : Int) : Prop := ∃ q a' E : Nat, p = q ∧ q < 16384 ∧ q < a ∧ a' ≤ q ∧ Gd bs q a' s E
theorem wN_gd : ∀ (ls : List (List Int)) (bs : List Int) (f : List Int → Option Int) (a : Nat), (∀ l ∈ ls, Lab l) → a ≤ bs.length → (∀ s, s <:+ ls → ∀ p, f (lay s) = some p → Old bs a s p) →
    (∃ x, (wN bs f ls).1 = bs ++ x ∧ 1 ≤ x.length) ∧ Gd (wN bs f ls).1 bs.length a ls (wN bs f ls).1.length ∧
      (∀ n p, (wN bs f ls).2 n = some p → f n = some p ∨ ∃ s E q, s <:+ ls ∧ n = lay s ∧ p = (q : Nat) ∧ a ≤ q ∧ q < (wN bs f ls).1.length ∧ q < 16384 ∧ Gd (wN bs f ls).1 q a s E)
  | [], bs, f, a, _, ha, _ => by
    refine ⟨⟨[0], rfl, by simp⟩, ?_, fun n p h => .inl h⟩
    intro m t hm
    have hm : bytesOf m = bs ++ [0] ++ t := hm
    rw [List.append_assoc] at hm
    have := good_end (t := t) hm a
    rw [show (wN bs f []).1.length = bs.length + 1 by simp [wN]]
    exact this
  | l :: ls, bs, f, a, hL, ha, hf => by
    cases hc : f (lay (l :: ls)) with
    | some p =>
      obtain ⟨q, a', E, rfl, hq, hqa, ha', hg⟩ := hf (l :: ls) (List.suffix_refl _) p hc
      have e1 : wN bs f (l :: ls) = (bs ++ be16 (49152 + q), f) := by simp only [wN, hc]
      rw [e1]
      refine ⟨⟨_, rfl, by simp [be16]⟩, ?_, fun n p h => .inl h⟩
      intro m t hm
      have hm : bytesOf m = bs ++ be16 (49152 + (q : Int)) ++ t := hm
      have hgm : Good m q a' (l :: ls) E := hg m (be16 (49152 + (q : Int)) ++ t) (by rw [hm, List.append_assoc])
      have := good_pointer (b := a) hm hq hqa ha' hgm
      rw [show (bs ++ be16 (49152 + (q : Int))).length = bs.length + 2 by simp [be16]]
      exact this
    | none =>
      obtain ⟨f1, hf1⟩ : ∃ f1, (if bs.length < 16384 then upd f (lay (l :: ls)) (bs.length : Int) else f) = f1 := ⟨_, rfl⟩
      have e1 : wN bs f (l :: ls) = wN (bs ++ (l.length : Int) :: l) f1 ls := by simp only [wN, hc, hf1]
      have hlen : (bs ++ (l.length : Int) :: l).length = bs.length + (1 + l.length) := by simp; omega
      have hsuf : ∀ s, s <:+ ls → ∀ p, f1 (lay s) = some p → Old (bs ++ (l.length : Int) :: l) a s p := by
        intro s hs p hp
        have hne : lay s ≠ lay (l :: ls) := by
          intro e
          obtain ⟨y, hy⟩ := hs
          have h1 := congrArg List.length e
          rw [lay_cons, ← hy, lay_app] at h1
          simp at h1
          omega
        have hp : f (lay s) = some p := by
          rw [← hf1] at hp
          split at hp
          · unfold upd at hp
            rw [if_neg hne] at hp
            exact hp
          · exact hp
        obtain ⟨q, a', E, h1, h2, h3, h4, h5⟩ := hf s (hs.trans (List.suffix_cons _ _)) p hp
        exact ⟨q, a', E, h1, h2, h3, h4, h5.grow _⟩
      obtain ⟨⟨x, hx, hx1⟩, hg, hn⟩ := wN_gd ls (bs ++ (l.length : Int) :: l) f1 a (fun y hy => hL y (List.mem_cons_of_mem _ hy)) (by omega) hsuf
      rw [e1]
      have hgd : Gd (wN (bs ++ (l.length : Int) :: l) f1 ls).1 bs.length a (l :: ls) (wN (bs ++ (l.length : Int) :: l) f1 ls).1.length := by
        intro m t hm
        have h1 := hg m t hm
        rw [hlen] at h1
        rw [hx, List.append_assoc] at hm
        exact good_label hm (hL l (List.mem_cons_self ..)) (by rw [List.length_append]; omega) h1
      refine ⟨⟨(l.length : Int) :: l ++ x, by rw [hx, List.append_assoc], by simp⟩, hgd, ?_⟩
      intro n p hp
      rcases hn n p hp with h | ⟨s, E, q, hs, h⟩
      · rw [← hf1] at h
        split at h
        · rename_i hlt
          unfold upd at h
          split at h
          · rename_i hnn
            refine .inr ⟨l :: ls, _, bs.length, List.suffix_refl _, hnn, (Option.some.inj h).symm, ha, ?_, hlt, hgd⟩
            rw [hx, List.length_append, hlen]
            omega
          · exact .inl h
        · exact .inl h
      · exact .inr ⟨s, E, q, hs.trans (List.suffix_cons _ _), h⟩
def Inv (bs : List Int) (f : List Int → Option Int) : Prop := ∀ n p, f n = some p → ∃ s, n = lay s ∧ (∀ l ∈ s, Lab l) ∧ Old bs bs.length s p
theorem Inv.none (bs : List Int) : Inv bs (fun _ => none) := fun _ _ h => by cases h
theorem wN_step {ls : List (List Int)} {bs : List Int} {f : List Int → Option Int} (hi : Inv bs f) (hL : ∀ l ∈ ls, Lab l) :
    Inv (wN bs f ls).1 (wN bs f ls).2 ∧ (∃ x, (wN bs f ls).1 = bs ++ x) ∧ Gd (wN bs f ls).1 bs.length bs.length ls (wN bs f ls).1.length := by
  obtain ⟨⟨x, hx, hx1⟩, hg, hn⟩ := wN_gd ls bs f bs.length hL (Nat.le_refl _) (by
    intro s hs p hp
    obtain ⟨s', h1, h2, h3⟩ := hi _ p hp
    have hL' : ∀ l ∈ s, Lab l := fun l hl => hL l (hs.subset hl)
    rw [lay_inj hL' h2 h1]
    exact h3)
  refine ⟨?_, ⟨x, hx⟩, hg⟩
  intro n p hp
  rcases hn n p hp with h | ⟨s, E, q, hs, h1, h2, h3, h4, h5, h6⟩
  · obtain ⟨s, h1, h2, q, a', E, h3, h4, h5, h6, h7⟩ := hi n p h
    refine ⟨s, h1, h2, q, a', E, h3, h4, ?_, h6, ?_⟩
    · rw [hx, List.length_append]
      omega
    · rw [hx]
      exact h7.grow x
  · exact ⟨s, h1, fun l hl => hL l (hs.subset hl), q, bs.length, E, h2, h5, h4, h3, h6⟩
end Go.Proofs.YtnikfeaggppmpaaDoor.Rd
