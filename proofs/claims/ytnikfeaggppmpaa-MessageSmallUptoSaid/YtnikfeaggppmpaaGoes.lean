/- part of a proof; what it has no use for was struck out -/
import Derived.Test.YtnikfeaggppmpaaWn
namespace Go.Proofs.Ytnikfeaggppmpaa.Wr
open Go.RowKit Go.Proofs.Ytnikfeaggppmpaa.PM Go.Proofs.YtnikfeaggppmpaaW.PrintWords Go.Proofs.YtnikfeaggppmpaaW.PrintLast Go.Proofs.Ytnikfeaggppmpaa.Base Go.Proofs.Ytnikfeaggppmpaa.Nam Go.Proofs.Ytnikfeaggppmpaa.Trn Go.Proofs.Ytnikfeaggppmpaa.MapS Go.Proofs.Ytnikfeaggppmpaa.QM
set_option linter.unusedVariables false
set_option linter.unusedSimpArgs false
set_option maxRecDepth 100000
def Goes (w w1 : World) (base g : Nat) (F : List Nat) (bs : List Int) (f : List Int → Option Int) : Prop := ∃ F1, Wr w1 base g F1 bs f ∧ (∀ k ∈ F1, k ∈ F ∨ w.heap.size ≤ k) ∧ Turned F w w1
section
variable {w w1 w2 : World} {base g : Nat} {F : List Nat} {bs bs1 bs2 : List Int} {f f1 f2 : List Int → Option Int}
theorem Goes.refl (h : Wr w base g F bs f) : Goes w w base g F bs f := ⟨F, h, fun k hk => .inl hk, Turned.refl F w⟩
theorem Goes.size (h : Goes w w1 base g F bs f) : w.heap.size ≤ w1.heap.size := by
  obtain ⟨F1, h1, h2, h3⟩ := h
  exact h3.size
theorem Goes.low (h : Goes w w1 base g F bs f) : base ≤ w1.heap.size := by
  obtain ⟨F1, h1, h2, h3⟩ := h
  have := h1.gb
  omega
theorem Goes.turn (h : Goes w w1 base g F bs f) : Turned F w w1 := by
  obtain ⟨F1, h1, h2, h3⟩ := h
  exact h3
theorem Goes.trans (h : Goes w w1 base g F bs1 f1) (k : ∀ F1, Wr w1 base g F1 bs1 f1 → Goes w1 w2 base g F1 bs2 f2) : Goes w w2 base g F bs2 f2 := by
  obtain ⟨F1, h1, h2, h3⟩ := h
  obtain ⟨F2, k1, k2, k3⟩ := k F1 h1
  refine ⟨F2, k1, fun b hb => ?_, h3.trans k3 h2⟩
  rcases k2 b hb with hb | hb
  · exact h2 b hb
  · exact .inr (Nat.le_trans h3.size hb)
theorem Goes.step {F1 : List Nat} (h1 : Wr w1 base g F1 bs1 f1) (h2 : ∀ k ∈ F1, k ∈ F ∨ w.heap.size ≤ k) (h3 : Turned F w w1) (k : Goes w1 w2 base g F1 bs2 f2) : Goes w w2 base g F bs2 f2 := by
  obtain ⟨F2, k1, k2, k3⟩ := k
  refine ⟨F2, k1, fun b hb => ?_, h3.trans k3 h2⟩
  rcases k2 b hb with hb | hb
  · exact h2 b hb
  · exact .inr (Nat.le_trans h3.size hb)
theorem Goes.below (h : Goes w w1 base g F bs f) (hb : Below w1.heap.size w1 w2) : Goes w w2 base g F bs f :=
  h.trans fun F1 h1 => ⟨F1, h1.below hb, fun k hk => .inl hk, Turned.of_below hb F1⟩
theorem Goes.cell (h : Goes w w1 base g F bs f) : ∃ A c, w1.cell? ⟨g, 0, none⟩ = some (.slice A bs.length c) ∧ w1.frozen? ⟨g, 0, none⟩ = false ∧ w1.ownsRow base 5 1 (.slice A bs.length c) bs.length (nums .u8 bs) ∧ Kd.C (Kd.int .u8) w1 A bs.length bs ∧ bs.length ≤ c := by
  obtain ⟨F1, h1, h2, h3⟩ := h
  obtain ⟨A, c, e1, e2, e3, e4⟩ := h1.cell
  exact ⟨A, c, e1, e2, e3, own_C e3⟩
theorem Goes.put (h : Goes w w1 base g F bs1 f1) (hb : Below w1.heap.size w1 w2) {v1 : Value} (ho : w2.ownsRow w1.heap.size 5 1 v1 bs2.length (nums .u8 bs2)) (hl : bs1.length ≤ bs2.length) (hn : 0 < bs2.length) : Goes w (w2.setCell ⟨g, 0, none⟩ v1) base g F bs2 f1 := by
  refine h.trans fun F1 h1 => ?_
  obtain ⟨v, m, hm⟩ := h1
  obtain ⟨b1, hb1, hb1l⟩ := own_at ho hn
  obtain ⟨F2, p1, p2, p3, p4⟩ := hm.put (grown_of_below hb _) (own_lower ho hm.size) (.inr ⟨b1, hb1, hb1l⟩) hl
  exact ⟨F2, ⟨_, _, p1⟩, p3, p4⟩
theorem Goes.grown (h : Goes w w1 base g F bs1 f1) {v : Value} (hc : w1.cell? ⟨g, 0, none⟩ = some v) (hg : w1.grownBy w2 v.ownBlock) : w2.cell? ⟨g, 0, none⟩ = some v ∧ w2.frozen? ⟨g, 0, none⟩ = false := by
  obtain ⟨F1, ⟨v', m, hm⟩, h2, h3⟩ := h
  have hv : v' = v := Option.some.inj (hm.cell0.symm.trans hc)
  subst hv
  have hblk := blk_grown hm.blk hg (fun e => hm.ne_v e.symm)
  exact ⟨by rw [blk_cell hblk]; rfl, blk_frozen hblk 0⟩
theorem Goes.app (h : Goes w w1 base g F bs1 f1) {v v1 : Value} (hc : w1.cell? ⟨g, 0, none⟩ = some v) (hg : w1.grownBy w2 v.ownBlock) (ho : w2.ownsRow base 5 1 v1 bs2.length (nums .u8 bs2)) (hat : v1.ownBlock = v.ownBlock ∨ ∃ b, v1.ownBlock = some b ∧ w1.heap.size ≤ b) (hl : bs1.length ≤ bs2.length) : Goes w (w2.setCell ⟨g, 0, none⟩ v1) base g F bs2 f1 := by
  refine h.trans fun F1 h1 => ?_
  obtain ⟨v', m, hm⟩ := h1
  have hv : v' = v := Option.some.inj (hm.cell0.symm.trans hc)
  subst hv
  obtain ⟨F2, p1, p2, p3, p4⟩ := hm.put hg ho hat hl
  exact ⟨F2, ⟨_, _, p1⟩, p3, p4⟩
theorem Goes.set (h : Goes w w1 base g F bs1 f1) {A : Option Addr} {c : Nat} (hc : w1.cell? ⟨g, 0, none⟩ = some (.slice A bs1.length c)) (i : Nat) (hi : i < bs1.length) : ∃ gb, A = some ⟨gb, 0, none⟩ ∧ w1.cell? ⟨gb, i, none⟩ = some (.int .u8 bs1[i]) ∧ w1.frozen? ⟨gb, i, none⟩ = false ∧ ∀ y : Int, Goes w (w1.setCell ⟨gb, i, none⟩ (.int .u8 y)) base g F (bs1.set i y) f1 ∧ (w1.setCell ⟨gb, i, none⟩ (.int .u8 y)).cell? ⟨g, 0, none⟩ = some (.slice A bs1.length c) := by
  obtain ⟨F1, ⟨v', m, hm⟩, h2, h3⟩ := h
  have hv : v' = .slice A bs1.length c := Option.some.inj (hm.cell0.symm.trans hc)
  subst hv
  rcases hm.own.2 with ⟨h0, h1⟩ | ⟨gb, cap, cur, h0, hbg, hh, hnc, hcm, hcs, htk⟩
  · omega
  injection h0 with hA hn hcap
  subst hA
  have hR : Kd.R (Kd.int .u8) 5 w1 base (fun _ => True) (.slice (some ⟨gb, 0, none⟩) bs1.length c) bs1 := Kd.R_of_own (enc := Value.int .u8) (h1 := fun _ => rfl) (ok := fun _ => True) (by exact hm.own) (fun _ _ => trivial)
  have hin : (nums .u8 bs1).length = bs1.length := by simp [nums]
  have hcell : ∀ j (hj : j < bs1.length), w1.cell? ⟨gb, j, none⟩ = some (.int .u8 bs1[j]) := fun j hj => by
    have := hm.own.cells (g := gb) rfl j (.int .u8 bs1[j]) (by simp [nums, hj])
    rw [← this]
    rcases j with _ | j <;> simp [Addr.add]
  have hne : gb ≠ g := fun e => hm.ne_v (by rw [← e]; rfl)
  refine ⟨gb, rfl, hcell i hi, blk_frozen hh i, fun y => ?_⟩
  have hset := Kd.R_seg hR (i : Int) (by omega) (by omega) (c := [.int .u8 bs1[i]]) (seg := [.int .u8 y]) (j := 0) rfl (fun j u hj => by
    rcases j with _ | j
    · simp only [List.getElem?_cons_zero, Option.some.injEq] at hj
      subst hj
      show w1.cell? ⟨gb, (i : Int).toNat * 1 + 0, none⟩ = _
      rw [show (i : Int).toNat * 1 + 0 = i by omega]
      exact hcell i hi
    · simp at hj) (Nat.le_refl 1) (x' := y) (okp := fun _ => False) (by exact rfl) (fun _ hk => hk.elim)
  obtain ⟨hR2, hg2⟩ := hset
  have he : w1.setCells gb ((i : Int).toNat * (Kd.int .u8).sz + 0) [.int .u8 y] = w1.setCell ⟨gb, i, none⟩ (.int .u8 y) := by
    show w1.setCells gb ((i : Int).toNat * 1 + 0) [.int .u8 y] = _
    rw [show (i : Int).toNat * 1 + 0 = i by omega]
    rfl
  rw [he] at hR2 hg2
  rw [show (i : Int).toNat = i by omega] at hR2
  have hown2 := Kd.own_of_R hR2
  have hlen : (bs1.set i y).length = bs1.length := List.length_set
  have hblk : (w1.setCell ⟨gb, i, none⟩ (.int .u8 y)).heap[g]? = some (.cells #[.slice (some ⟨gb, 0, none⟩) bs1.length c, m] 70 (0, 0)) := (Below.heap_setCell _ _ _ _ (Ne.symm hne)).trans hm.blk
  have hs1 : (w1.setCell ⟨gb, i, none⟩ (.int .u8 y)).heap.size = w1.heap.size := World.size_setCell _ _ _
  have hgF : gb ∈ F1 := hm.vF gb rfl
  refine ⟨⟨F1, ⟨_, m, hblk, hm.gF, ?_, hm.vF, ?_, hm.rng, ?_⟩, h2, h3.trans ((Turned.refl F1 w1).setCell (p := ⟨gb, i, none⟩) (.inl hgF) _) h2⟩, by rw [blk_cell hblk]; rfl⟩
  · rw [hlen] at hown2 ⊢
    exact hown2
  · rcases hm.map with e | ⟨b, n, e1, e2, e3, e4⟩
    · exact .inl e
    · refine .inr ⟨b, n, e1, e2, mis_move e3 (Below.heap_setCell _ _ _ _ ?_), by rw [hlen]; exact e4⟩
      rintro rfl
      exact own_map hm.own e3 rfl
  · intro k hk
    rw [hs1]
    exact hm.foot k hk
end
def namW (n : List Int) (s : List Int × (List Int → Option Int)) : List Int × (List Int → Option Int) :=
  match (if nm n = true then labs n.length n else none) with
  | some ls => wN s.1 s.2 ls
  | none => s
theorem name_ {w : World} {base g : Nat} {F : List Nat} {bs : List Int} {f : List Int → Option Int} (h : Wr w base g F bs f) (n : List Int) (hn8 : B8 n) (hl : n.length ≤ 1000000000) (hb : bs.length ≤ 100000000000) :
    Calls Try.prog 24 #[.pointer (some ⟨g, 0, none⟩), .string (strOfNums n)] w fun e w' => e = .returned (.tuple #[]) ∧ Goes w w' base g F (namW n (bs, f)).1 (namW n (bs, f)).2 := by
  cases hn : nm n with
  | false =>
    refine (name_no h n hn8 hn (by omega)).mono ?_
    rintro e w' ⟨rfl, hb'⟩
    have e1 : namW n (bs, f) = (bs, f) := by unfold namW; rw [hn]; rfl
    rw [e1]
    exact ⟨rfl, (Goes.refl h).below hb'⟩
  | true =>
    obtain ⟨ls, h1, h2, h3, h4⟩ := nm_labs hn
    have hlb : labs n.length n = some ls := by
      rw [h1]
      exact labs_lay ls _ (lay_length ls) h2
    have e1 : namW n (bs, f) = wN bs f ls := by unfold namW; rw [hn, if_pos rfl, hlb]
    rw [e1]
    have h8 : ∀ l ∈ ls, B8 l := fun l hl y hy => hn8 y (by rw [h1]; exact List.mem_flatMap.2 ⟨l, hl, List.mem_cons_of_mem _ hy⟩)
    have key := name_yes h ls h2 h3 h4 h8 hb
    rw [← h1] at key
    refine key.mono ?_
    rintro e w' ⟨rfl, F1, k1, k2, k3⟩
    exact ⟨rfl, F1, k1, k2, k3⟩
theorem wN_len : ∀ (ls : List (List Int)) (bs : List Int) (f : List Int → Option Int), bs.length ≤ (wN bs f ls).1.length ∧ (wN bs f ls).1.length ≤ bs.length + (lay ls).length + 2
  | [], bs, f => by
    show bs.length ≤ (bs ++ [0]).length ∧ (bs ++ [0]).length ≤ bs.length + 0 + 2
    simp
  | l :: ls, bs, f => by
    have hlc : (lay (l :: ls)).length = l.length + 1 + (lay ls).length := by rw [lay_cons]; simp; omega
    cases hf : f (lay (l :: ls)) with
    | some a =>
      rw [wN_seen hf]
      simp [be16]
    | none =>
      rw [wN_new hf]
      have h := wN_len ls (bs ++ (l.length : Int) :: l) (if bs.length < 16384 then upd f (lay (l :: ls)) (bs.length : Int) else f)
      simp only [List.length_append, List.length_cons] at h
      omega
theorem namW_len (n : List Int) (s : List Int × (List Int → Option Int)) : s.1.length ≤ (namW n s).1.length ∧ (namW n s).1.length ≤ s.1.length + 256 := by
  unfold namW
  split
  · rename_i ls hls
    split at hls
    · rename_i hn
      have h := lay_labs _ _ _ hls
      have h254 := (nm_iff n).1 hn
      have := wN_len ls s.1 s.2
      rw [← h.1] at this
      omega
    · cases hls
  · omega
theorem add_z (gb n : Nat) : (⟨gb, 0, none⟩ : Addr).add n = ⟨gb, n, none⟩ := by
  rcases n with _ | n <;> simp [Addr.add]
theorem C_two (w : World) (k : IntKind) (e : TypeId) (x y : Int) : Kd.C (Kd.int k) (w.alloc (.cells #[.int k x, .int k y] e)) (some ⟨w.heap.size, 0, none⟩) [x, y].length [x, y] := by
  have h := own_lit_of (enc := Value.int k) w w.heap.size e [x, y] (Nat.le_refl _) (by simp)
  have h2 := Kd.R_reads' (Kd.R_of_own (enc := Value.int k) (h1 := fun _ => rfl) (ok := fun _ => True) (by exact h) (fun _ _ => trivial))
  exact h2.2.2
theorem own_two {w : World} {base : Nat} {e : TypeId} {v : Value} {x y : Int} (h : w.ownsRow base e 1 v [x, y].length (nums .u8 [x, y])) : ∃ gn c, v = .slice (some ⟨gn, 0, none⟩) 2 c ∧ w.cell? ⟨gn, 0, none⟩ = some (.int .u8 x) ∧ w.cell? ⟨gn, 1, none⟩ = some (.int .u8 y) ∧ 2 ≤ c := by
  have hle := own_slice h
  obtain ⟨A, c, rfl⟩ := hle
  have hc := (own_C h).2
  rcases h.2 with ⟨h0, h1⟩ | ⟨gn, cap, cur, h0, hbg, hh, hnc, hcm, hcs, htk⟩
  · exact absurd h1 (by simp)
  injection h0 with hA hn hcap
  subst hA
  exact ⟨gn, c, rfl, h.cells (g := gn) rfl 0 _ rfl, h.cells (g := gn) rfl 1 _ rfl, hc⟩
end Go.Proofs.Ytnikfeaggppmpaa.Wr
