/-
  What the laws of the pending queries share: the first free number, the document's example, acts. No macro, syntax, notation, axiom, sorry.
-/
import Derived.Test.YtecpginkacaebaaDoorEntE
import Derived.Test.YtecpginkacaebaaDoorEntF
import Derived.Test.YtecpginkacaebaaDoorTrn
namespace Go.Proofs.YtecpginkacaebaaDoor.PP
open Go.RowKit Go.Proofs.YtecpginkacaebaaDoorW Go.Proofs.YtecpginkacaebaaDoorW.PrintWords Go.Proofs.YtecpginkacaebaaDoorW.PrintLast Go.Proofs.YtecpginkacaebaaDoor.Base Go.Proofs.YtecpginkacaebaaDoor.Heap Go.Proofs.YtecpginkacaebaaDoor.Nam Go.Proofs.YtecpginkacaebaaDoor.Ent Go.Proofs.YtecpginkacaebaaDoor.Trn
set_option linter.unusedVariables false
set_option linter.unusedSimpArgs false
set_option maxRecDepth 100000

/-! ### The first free number -/
theorem freeN_yes {ids : List Int} {k : Nat} {x : Int} (h : x ∈ ids) : freeN ids (k + 1) x = freeN ids k ((x + 1) % 65536) := if_pos h
theorem freeN_no {ids : List Int} {k : Nat} {x : Int} (h : x ∉ ids) : freeN ids (k + 1) x = x := if_neg h
theorem freeN_ok (ids : List Int) : ∀ (k : Nat) (x : Int), 0 ≤ x → x < 65536 → (∃ d : Nat, d < k ∧ (x + d) % 65536 ∉ ids) → freeN ids k x ∉ ids ∧ 0 ≤ freeN ids k x ∧ freeN ids k x < 65536
  | 0, x, _, _, h => by obtain ⟨d, hd, _⟩ := h; omega
  | k + 1, x, h0, h1, h => by
    by_cases hx : x ∈ ids
    · rw [freeN_yes hx]
      obtain ⟨d, hd, hn⟩ := h
      cases d with
      | zero => rw [show (x + ((0 : Nat) : Int)) % 65536 = x by omega] at hn; exact absurd hx hn
      | succ d => exact freeN_ok ids k ((x + 1) % 65536) (by omega) (by omega) ⟨d, by omega, by rw [show ((x + 1) % 65536 + (d : Int)) % 65536 = (x + ((d + 1 : Nat) : Int)) % 65536 by omega]; exact hn⟩
    · rw [freeN_no hx]
      exact ⟨hx, h0, h1⟩
/-- From x on the next free number is T. -/
def Toward (ids : List Int) (T x : Int) : Prop := 0 ≤ x ∧ x < 65536 ∧ ∃ k d : Nat, d < k ∧ (x + d) % 65536 ∉ ids ∧ freeN ids k x = T
theorem Toward.here {ids : List Int} {T x : Int} (h : Toward ids T x) (hx : x ∉ ids) : x = T := by
  obtain ⟨_, _, k, d, hd, _, hT⟩ := h
  cases k with
  | zero => omega
  | succ k => rw [freeN_no hx] at hT; exact hT
theorem Toward.next {ids : List Int} {T x : Int} (h : Toward ids T x) (hx : x ∈ ids) : Toward ids T ((x + 1) % 65536) := by
  obtain ⟨h0, h1, k, d, hd, hn, hT⟩ := h
  cases k with
  | zero => omega
  | succ k =>
    cases d with
    | zero => rw [show (x + ((0 : Nat) : Int)) % 65536 = x by omega] at hn; exact absurd hx hn
    | succ d =>
      rw [freeN_yes hx] at hT
      exact ⟨by omega, by omega, k, d, by omega, by rw [show ((x + 1) % 65536 + (d : Int)) % 65536 = (x + ((d + 1 : Nat) : Int)) % 65536 by omega]; exact hn, hT⟩

/-- Of few numbers one is free. -/
theorem pigeon : ∀ (n : Nat) (L : List Int) (f : Nat → Int), (∀ d, d ≤ n → f d ∈ L) → (∀ d d', d ≤ n → d' ≤ n → f d = f d' → d = d') → n + 1 ≤ L.length
  | 0, L, f, h, _ => List.length_pos_of_mem (h 0 (Nat.le_refl _))
  | n + 1, L, f, h, hi => by
    have hm := h (n + 1) (Nat.le_refl _)
    have := pigeon n (L.erase (f (n + 1))) f (fun d hd => (List.mem_erase_of_ne (fun e => by have := hi d (n + 1) (by omega) (Nat.le_refl _) e; omega)).2 (h d (by omega))) (fun d d' h1 h2 e => hi d d' (by omega) (by omega) e)
    rw [List.length_erase_of_mem hm] at this
    have := List.length_pos_of_mem hm
    omega
theorem few_free (ids : List Int) (x : Int) (hl : ids.length < 65536) : ∃ d : Nat, d < 65536 ∧ (x + d) % 65536 ∉ ids := by
  apply Classical.byContradiction
  intro hno
  have h : ∀ d : Nat, d < 65536 → (x + d) % 65536 ∈ ids := fun d hd => Classical.byContradiction fun hn => hno ⟨d, hd, hn⟩
  have := pigeon ids.length ids (fun d => (x + (d : Int)) % 65536) (fun d hd => h d (by omega)) (fun d d' h1 h2 e => by have e2 : (x + (d : Int)) % 65536 = (x + (d' : Int)) % 65536 := e; omega)
  omega
/-! ### The document's example -/
def e1_ : E := ⟨65535, ⟨#[]⟩, 0, ⟨#[]⟩, 0, 0⟩
def e2_ : E := ⟨0, ⟨#[]⟩, 0, ⟨#[]⟩, 0, 0⟩
theorem awake_ (w : World) : Calls Tryd.prog 5 #[] w fun x w' => x = .returned (.bool true) ∧ Below w.heap.size w w' := by
  have hown : Own (w.alloc (.cells (rw_ [e1_, e2_]).toArray 42 (0, 0))) w.heap.size (.slice (some ⟨w.heap.size, 0, none⟩) 2 2) [e1_, e2_] :=
    World.ownsRow_lit w _ 2 (Nat.le_refl _) (by decide) (by simp [rw_len])
  obtain ⟨A, c, hv, hc, hm, hC⟩ := hown.reads
  injection hv with hA _ hcc
  subst hA
  subst hcc
  have hf : freeN ([e1_, e2_].map E.id) 65536 65535 = 1 := by
    rw [show (65536 : Nat) = 65533 + 1 + 1 + 1 from rfl, freeN_yes (by simp [e1_]), freeN_yes (by simp [e2_]), freeN_no (by simp [e1_, e2_])]
    rfl
  have HF := Lib.hid hf
  have HC := Lib.hid hC
  have HB := Lib.hid (below_alloc (Below.refl w.heap.size w) (.cells (rw_ [e1_, e2_]).toArray 42 (0, 0)))
  clear hf hC hown hc hm
  go_enter Tryd.func5, Tryd.ntmps5
  go_wp2_with fail
  refine (free_ (some ⟨w.heap.size, 0, none⟩) 2 [e1_, e2_] 65535 _ HC.out (by omega) (by omega)).mono ?_
  rintro x w2 ⟨rfl, hb⟩
  rw [HF.out]
  have HB2 := Lib.hid (HB.out.trans (hb.mono (by simp)))
  clear hb
  go_wp2_with fail
  go_ret
  exact ⟨rfl, HB2.out⟩
/-! ### The law -/
abbrev kAct := Kd.pair (Kd.int .u8) (Kd.pair (Kd.int .u8) (Kd.pair (Kd.slice 5 (Kd.int .u8)) (Kd.pair (Kd.int .u8) (Kd.int .i8))))
abbrev LAct := (Int × Int × (List Int) × Int × Int)
def entA (x : LAct) : E := entryOf x.2.1 x.2.2.1 x.2.2.2.1 x.2.2.2.2
theorem at_act {w : World} {A : Option Addr} {n : Nat} {xs : List LAct} (h : Kd.C kAct w A n xs) (j : Nat) (x : LAct) (hj : xs[j]? = some x) :
    ∃ ad B c, A = some ad ∧ w.cell? (ad.add (j * 5)) = some (.int .u8 x.1) ∧ w.cell? ⟨(ad.add (j * 5)).block, (ad.add (j * 5)).off + 1, none⟩ = some (.int .u8 x.2.1) ∧ w.cell? ⟨(ad.add (j * 5)).block, (ad.add (j * 5)).off + 2, none⟩ = some (.slice B x.2.2.1.length c) ∧
      w.cell? ⟨(ad.add (j * 5)).block, (ad.add (j * 5)).off + 3, none⟩ = some (.int .u8 x.2.2.2.1) ∧ w.cell? ⟨(ad.add (j * 5)).block, (ad.add (j * 5)).off + 4, none⟩ = some (.int .i8 x.2.2.2.2) ∧ x.2.2.1.length ≤ c ∧ Kd.C (Kd.int .u8) w B x.2.2.1.length x.2.2.1 := by
  have hl : j < xs.length := (List.getElem?_eq_some_iff.1 hj).1
  obtain ⟨ad, ha, hc0⟩ := h.2.2 (by have := h.1; omega)
  obtain ⟨c, h1, h2, hc⟩ := hc0 j x hj
  obtain ⟨_, _, rfl, rfl, ⟨_, _, rfl, rfl, ⟨_, _, rfl, ⟨B, cb, rfl, hle, hC⟩, ⟨_, _, rfl, rfl, rfl⟩⟩⟩⟩ := h2
  refine ⟨ad, B, cb, ha, hc 0 _ rfl, ?_, ?_, ?_, ?_, hle, hC⟩
  · rw [← add_field ad (j * 5) 1 (by omega)]; exact hc 1 _ rfl
  · rw [← add_field ad (j * 5) 2 (by omega)]; exact hc 2 _ rfl
  · rw [← add_field ad (j * 5) 3 (by omega)]; exact hc 3 _ rfl
  · rw [← add_field ad (j * 5) 4 (by omega)]; exact hc 4 _ rfl
def WfA (x : LAct) : Prop := (0 ≤ x.1 ∧ x.1 < 256) ∧ (0 ≤ x.2.1 ∧ x.2.1 < 256) ∧ (B8 x.2.2.1 ∧ x.2.2.1.length ≤ 1048576) ∧ (0 ≤ x.2.2.2.1 ∧ x.2.2.2.1 < 256) ∧ (-128 ≤ x.2.2.2.2 ∧ x.2.2.2.2 < 128)
theorem WfA.out {x : LAct} (h : WfA x) : (0 ≤ x.1 ∧ x.1 < 256) ∧ (0 ≤ x.2.1 ∧ x.2.1 < 256) ∧ (B8 x.2.2.1 ∧ x.2.2.1.length ≤ 1048576) ∧ (0 ≤ x.2.2.2.1 ∧ x.2.2.2.1 < 256) ∧ (-128 ≤ x.2.2.2.2 ∧ x.2.2.2.2 < 128) := h
theorem entA_id (x : LAct) (h : WfA x) : 0 ≤ (entA x).id ∧ (entA x).id < 65536 ∧ (entA x).id ≠ 100 := by
  have h1 := h.2.1
  have e : (entA x).id = (x.2.1 % 24 - 4) % 65536 := rfl
  rw [e]
  omega
end Go.Proofs.YtecpginkacaebaaDoor.PP
