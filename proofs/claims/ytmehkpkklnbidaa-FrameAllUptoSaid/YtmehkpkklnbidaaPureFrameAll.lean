/-
  The law FrameAll about numbers and lists alone: all frames that stand one behind the other are told, up to where none begins.
-/
import Derived.Test.YtmehkpkklnbidaaPureSaidFrameAll
import Derived.Test.YtmehkpkklnbidaaQCCut
import Derived.Test.YtmehkpkklnbidaaQCMade
namespace Go.Proofs.Ytmehkpkklnbidaa.Pure
open Go.RowKit Go.Proofs.Ytmehkpkklnbidaa.PC Go.Proofs.YtmehkpkklnbidaaW.PrintWords Go.Proofs.YtmehkpkklnbidaaW.PrintLast Go.Proofs.Ytmehkpkklnbidaa.Base Go.Proofs.Ytmehkpkklnbidaa.QC
set_option linter.unusedSimpArgs false
set_option linter.unusedVariables false

namespace FrameAll_
theorem awake : Ev (fun k => bolterlaw22_awake.f k) true := Ev.of (fun k => bolterlaw22_awake.mono k) (k := 10) (by kernel_rfl)
theorem of_str (l : List Int) (h : B8 l) : bytesOf (strOfNums l) = l := by
  have h1 : ∀ (l : List Int), B8 l → (l.map fun n => ((UInt8.ofNat n.toNat).toNat : Int)) = l := by
    intro l
    induction l with
    | nil => intro _; rfl
    | cons x r ih =>
      intro h
      have hx := h x (List.mem_cons_self ..)
      rw [List.map_cons, ih (fun y hy => h y (List.mem_cons_of_mem _ hy))]
      congr 1
      simp
      omega
  have := h1 l h
  simpa [bytesOf, strOfNums, List.map_map, Function.comp_def] using this
attribute [local irreducible] rd bt strOfNums be16 all16 chk
/-- The frames of all, one behind the other. -/
def frs (cs : List (List Int)) : List Int := cs.flatMap fr
theorem frs_cons (c : List Int) (r : List (List Int)) : frs (c :: r) = fr c ++ frs r := rfl
theorem frs_b8 (cs : List (List Int)) (h : ∀ c ∈ cs, B8 c) : B8 (frs cs) := fun y hy => by
  obtain ⟨c, hc, hy⟩ := List.mem_flatMap.1 hy
  exact fr_b8 (h c hc) y hy
theorem all_loop (X tl : List Int) (hX : X.length ≤ 70368744177664) (Bt : B8 tl) (hn : ¬ ∃ b r, Begins tl b r) : ∀ (cs : List (List Int)) (acc : List (List Int)), (∀ c ∈ cs, B8 c ∧ c.length ≤ 600) → (frs cs ++ tl).length ≤ X.length → acc.length + cs.length ≤ 1000000 →
    Ev (fun k => frame_All.l0 k X acc (frs cs ++ tl)) (acc ++ cs, (X.length : Int) - (tl.length : Int)) := by
  intro cs
  induction cs with
  | nil =>
    intro acc _ hl ha
    refine Ev.step (f := fun k => (frame_Cut.f k tl).bind fun bt => if bt.2.2 = true then (if acc.length < 5864062014805 then frame_All.l0 k X (acc ++ [bt.1]) bt.2.1 else none) else some (acc, wrap64 ((X.length : Int) - (tl.length : Int)))) (fun k => rfl) ?_
    have hl' : tl.length ≤ X.length := by simpa [frs] using hl
    refine Ev.bind (cut_no (by omega) Bt hn) ?_
    refine Ev.congr (f := fun _ => some (acc ++ [], (X.length : Int) - (tl.length : Int))) (fun k => ?_) (Ev.now _)
    rw [if_neg (show ¬ (false = true) by decide), w64 (by omega) (by omega), List.append_nil]
  | cons c r ih =>
    intro acc hc hl ha
    have h0 := hc c (List.mem_cons_self ..)
    have hr : ∀ c ∈ r, B8 c ∧ c.length ≤ 600 := fun q hq => hc q (List.mem_cons_of_mem _ hq)
    have hB : B8 (frs (c :: r) ++ tl) := (frs_b8 _ (fun q hq => (hc q hq).1)).append Bt
    have e : frs (c :: r) ++ tl = fr c ++ (frs r ++ tl) := by rw [frs_cons, List.append_assoc]
    simp only [List.length_cons] at ha
    refine Ev.step (f := fun k => (frame_Cut.f k (frs (c :: r) ++ tl)).bind fun bt => if bt.2.2 = true then (if acc.length < 5864062014805 then frame_All.l0 k X (acc ++ [bt.1]) bt.2.1 else none) else some (acc, wrap64 ((X.length : Int) - ((frs (c :: r) ++ tl).length : Int)))) (fun k => rfl) ?_
    refine Ev.bind (cut_yes (by omega) hB ⟨h0.2, e⟩) ?_
    have hl2 : (frs r ++ tl).length ≤ X.length := by
      have := congrArg List.length e
      rw [List.length_append, List.length_append] at this
      rw [List.length_append] at hl ⊢
      rw [List.length_append] at this
      omega
    have := ih (acc ++ [c]) hr hl2 (by rw [List.length_append]; simp only [List.length_cons, List.length_nil]; omega)
    rw [List.append_assoc] at this
    refine Ev.congr (fun k => ?_) this
    rw [if_pos rfl, if_pos (by omega)]
theorem mk_ev : ∀ (cs : List (List Int)), (∀ c ∈ cs, B8 c ∧ c.length ≤ 600) → Ev (fun k => bolterlaw22_FrameAll.mk k cs) (cs.map fun c => strOfNums (fr c)) := by
  intro cs
  induction cs with
  | nil => intro _; exact Ev.now _
  | cons c r ih =>
    intro h
    have h0 := h c (List.mem_cons_self ..)
    unfold bolterlaw22_FrameAll.mk
    exact Ev.bind (made c h0.2 h0.1) (Ev.bind (ih fun q hq => h q (List.mem_cons_of_mem _ hq)) (Ev.now _))
theorem cat_eq : ∀ (cs : List (List Int)), (∀ c ∈ cs, B8 c) → (cs.map fun c => strOfNums (fr c)).flatMap bytesOf = frs cs := by
  intro cs
  induction cs with
  | nil => intro _; rfl
  | cons c r ih =>
    intro h
    rw [List.map_cons, List.flatMap_cons, ih fun q hq => h q (List.mem_cons_of_mem _ hq), of_str _ (fr_b8 (h c (List.mem_cons_self ..)))]
    rfl
theorem frs_len : ∀ (cs : List (List Int)), (∀ c ∈ cs, c.length ≤ 600) → (frs cs).length ≤ 606 * cs.length := by
  intro cs
  induction cs with
  | nil => intro _; simp [frs]
  | cons c r ih =>
    intro h
    have := ih fun q hq => h q (List.mem_cons_of_mem _ hq)
    have h0 := h c (List.mem_cons_self ..)
    rw [frs_cons, List.length_append, fr_len, List.length_cons]
    omega
end FrameAll_
open FrameAll_

theorem FrameAll : PureSaid.FrameAll := by
  intro l0 l1 hw hm hw1 hm1 hb
  have B1 : B8 l1 := B8.of_wf hw1
  have hlen : l1.length ≤ 1048576 := by
    have := opn.bs_one l1
    omega
  have hC : ∀ c ∈ (l0.take 20).map (fun b => b.take 600), B8 c ∧ c.length ≤ 600 := by
    intro c hc
    obtain ⟨b, hb, rfl⟩ := List.mem_map.1 hc
    have hb' := hw b (List.mem_of_mem_take hb)
    exact ⟨(B8.of_wf hb'.1).take _, by rw [List.length_take]; omega⟩
  have hCn : ((l0.take 20).map (fun b => b.take 600)).length ≤ 20 := by rw [List.length_map, List.length_take]; omega
  generalize hcs : (l0.take 20).map (fun b => b.take 600) = cs at hC hCn
  have hfl := frs_len cs fun c hc => (hC c hc).2
  refine Ev.rounds ?_
  unfold bolterlaw22_FrameAll.f
  refine Ev.bind FrameAll_.awake ?_
  simp only [if_true]
  rw [hcs]
  refine Ev.bind (mk_ev cs hC) ?_
  rw [cat_eq cs fun c hc => (hC c hc).1]
  have key : ∀ (t : List Int × List Int × Bool) (tl : List Int), Ev (fun k => frame_Cut.f k l1) t → (if t.2.2 = true then ([] : List Int) else l1) = tl → B8 tl → (¬ ∃ b r, Begins tl b r) → tl.length ≤ l1.length →
      Ev (fun k => (frame_Cut.f k l1).bind fun t => (frame_All.f k (frs cs ++ (if t.2.2 = true then ([] : List Int) else l1))).bind fun u => if u.2 = ((frs cs).length : Int) ∧ u.1 = cs ∧ cs.length ≤ 20 ∧ (frs cs).length + l1.length < 1099511627776 then some true else none) true := by
    intro t tl ht htl Bt hn hle
    refine Ev.bind ht ?_
    rw [htl]
    have h := all_loop (frs cs ++ tl) tl (by rw [List.length_append]; omega) Bt hn cs [] hC (Nat.le_refl _) (by simp only [List.length_nil]; omega)
    rw [List.nil_append] at h
    refine Ev.bind (f := fun k u => if u.2 = ((frs cs).length : Int) ∧ u.1 = cs ∧ cs.length ≤ 20 ∧ (frs cs).length + l1.length < 1099511627776 then some true else none) h ?_
    refine Ev.congr (f := fun _ => some true) (fun k => ?_) (Ev.now _)
    rw [if_pos ⟨by simp only [List.length_append]; omega, rfl, hCn, by omega⟩]
  rcases cut_any l1 (by omega) B1 with ⟨b, r, hbg, he⟩ | ⟨hn, he⟩
  · refine key _ [] he rfl B8.nil ?_ (Nat.zero_le _)
    rintro ⟨b', r', h⟩
    have := (begins_num (X := []) (by simp) B8.nil h).1
    simp at this
  · exact key _ l1 he rfl B1 hn (Nat.le_refl _)

end Go.Proofs.Ytmehkpkklnbidaa.Pure
