/- part of a proof; what it has no use for was struck out -/
import Derived.Test.YtnikfeaggppmpaaDoorRows
import Derived.Test.YtnikfeaggppmpaaDoorWAll
import Derived.Deep.Slices
import Derived.ChangeArms
import Derived.WalkKit
import Derived.ProofKit
import Derived.OpenShut
import Derived.ShutString
import Derived.ChangeOld
import Derived.JoinedCond
namespace Go.Proofs.YtnikfeaggppmpaaDoor.opn
open Go.ChangeShapes Go.WideShapes Go.RowKit Go.Proofs.YtnikfeaggppmpaaDoorW.PrintWords
set_option linter.unusedVariables false
theorem one_le {H : Type} (d : DataW H) : 1 ≤ Rows.uptoBulk d := by
  cases d with
  | lit l => cases l <;> simp [Rows.uptoBulk]
  | nil => simp [Rows.uptoBulk]
  | ptr d => simp [Rows.uptoBulk]
  | slice elems spare => simp [Rows.uptoBulk]
  | agg parts => simp [Rows.uptoBulk]
  | iface t d => simp [Rows.uptoBulk]
  | map entries => simp [Rows.uptoBulk]
  | held h => simp [Rows.uptoBulk]
theorem bound {H : Type} {l : List (DataW H)} (hk : Rows.uptoSmall H l = true) : Rows.uptoBulkAll l ≤ 1048576 := of_decide_eq_true hk
def Opn (P : Program) (t : TypeId) {α : Type} (d : Kd α) (wf : α → Prop) (bk : α → Nat) : Prop :=
  P.cellsOf t = d.sz ∧ ∀ (H : Type) (enc : TypeId × Value → H) (W : World) (fuel : Nat) (cs : List Value) (x : DataW H × List MemPlace),
    DataW.trod enc P W 0 (fun _ => true) true fuel t cs = some x → ∃ a, d.K W a cs ∧ wf a ∧ bk a ≤ Rows.uptoBulk x.1
theorem opn_int {P : Program} {t : TypeId} {k : IntKind} (ht : P.underlying t = some (.int k)) (hc : P.cellsOf t = 1) : Opn P t (Kd.int k) (fun n => (Lit.int k n).wf = true) (fun _ => 1) := by
  refine ⟨hc, fun H enc W fuel cs x h => ?_⟩
  cases fuel with
  | zero => simp [DataW.trod] at h
  | succ n =>
    unfold DataW.trod at h
    rw [ht] at h
    split at h <;> simp_all
    obtain ⟨⟨rfl, hw⟩, rfl⟩ := h
    exact ⟨_, rfl, hw, one_le _⟩
theorem opn_bool {P : Program} {t : TypeId} (ht : P.underlying t = some .bool) (hc : P.cellsOf t = 1) : Opn P t Kd.bool (fun _ => True) (fun _ => 1) := by
  refine ⟨hc, fun H enc W fuel cs x h => ?_⟩
  cases fuel with
  | zero => simp [DataW.trod] at h
  | succ n =>
    have hh : ∃ b, cs = [.bool b] := by
      unfold DataW.trod at h
      rw [ht] at h
      split at h <;> simp_all
    obtain ⟨b, rfl⟩ := hh
    exact ⟨b, rfl, trivial, one_le _⟩
theorem opn_string {P : Program} {t : TypeId} (ht : P.underlying t = some .string) (hc : P.cellsOf t = 1) : Opn P t Kd.string (fun s => s.size ≤ maxLen) (fun s => s.size + 1) := by
  refine ⟨hc, fun H enc W fuel cs x h => ?_⟩
  cases fuel with
  | zero => simp [DataW.trod] at h
  | succ n =>
    unfold DataW.trod at h
    rw [ht] at h
    split at h <;> simp_all
    obtain ⟨hw, rfl⟩ := h
    exact ⟨_, rfl, hw, by simp [Rows.uptoBulk]⟩
def bs {α : Type} (bk : α → Nat) (l : List α) : Nat := (l.map bk).sum + 1
theorem bs_one {α : Type} (l : List α) : bs (fun _ => 1) l = l.length + 1 := by
  unfold bs
  induction l with
  | nil => rfl
  | cons x r ih => simp only [List.map_cons, List.sum_cons, List.length_cons] at *; omega
theorem bs_cons {α : Type} (bk : α → Nat) (x : α) (l : List α) : bs bk (x :: l) = bk x + bs bk l := by simp [bs, Nat.add_assoc]
theorem bs_mem {α : Type} (bk : α → Nat) {x : α} {l : List α} (h : x ∈ l) : bk x + 1 ≤ bs bk l := by
  induction l with
  | nil => cases h
  | cons y r ih =>
    rw [bs_cons]
    cases List.mem_cons.1 h with
    | inl e => subst e; unfold bs; omega
    | inr e => have := ih e; omega
theorem bs_len {α : Type} (bk : α → Nat) (h : ∀ x, 1 ≤ bk x) (l : List α) : l.length + 1 ≤ bs bk l := by
  induction l with
  | nil => simp [bs]
  | cons y r ih => rw [bs_cons, List.length_cons]; have := h y; omega
theorem bulkAll_ge {H : Type} {α : Type} (bk : α → Nat) : ∀ (l : List α) (ds : List (DataW H)), l.length = ds.length → (∀ (i : Nat) (a : α) (d : DataW H), l[i]? = some a → ds[i]? = some d → bk a ≤ Rows.uptoBulk d) → (l.map bk).sum ≤ Rows.uptoBulkAll ds
  | [], ds, _, _ => by simp
  | a :: l, [], h, _ => by simp at h
  | a :: l, d :: ds, h, hd => by
    have h0 := hd 0 a d rfl rfl
    have h1 := bulkAll_ge bk l ds (by simpa using h) (fun i a d ha hd' => hd (i + 1) a d (by simpa using ha) (by simpa using hd'))
    simp only [List.map_cons, List.sum_cons, Rows.uptoBulkAll]
    omega
theorem cells?_at {w : World} {base : Nat} {a : Addr} {n : Nat} {cs : List Value} (h : w.cells? base a n = some cs) (i : Nat) (u : Value) (hu : cs[i]? = some u) : w.cell? (a.add i) = some u := by
  unfold World.cells? at h
  split at h
  · have hl := mapM_some_length h
    have hi : i < n := by
      have := (List.getElem?_eq_some_iff.1 hu).1
      simp at hl
      omega
    rw [mapM_some_get h i i (List.getElem?_range hi)]
    exact hu
  · cases h
theorem open_row {P : Program} {t e : TypeId} {α : Type} {d : Kd α} {wf : α → Prop} {bk : α → Nat} (ht : P.underlying t = some (.slice e)) (ho : Opn P e d wf bk)
    {H : Type} {enc : TypeId × Value → H} {W : World} {fuel : Nat} {A : Option Addr} {len cap : Nat} {x : DataW H × List MemPlace}
    (h : DataW.trod enc P W 0 (fun _ => true) true fuel t [.slice A len cap] = some x) :
    ∃ l : List α, len = l.length ∧ l.length ≤ cap ∧ d.C W A l.length l ∧ (∀ y ∈ l, wf y) ∧ bs bk l ≤ Rows.uptoBulk x.1 ∧ l.length ≤ maxLen := by
  rcases Go.Deep.open_slice ht h with ⟨hcs, rfl⟩ | ⟨a, len', cap', m, n, D, Pl, hcs, _, hl, hm, rfl, rfl, hel⟩
  · injection hcs with hcs _
    injection hcs with h1 h2 h3
    subst h1 h2 h3
    exact ⟨[], rfl, Nat.le_refl _, ⟨rfl, Nat.zero_le _, fun h => absurd h (Nat.lt_irrefl 0)⟩, (fun y hy => absurd hy List.not_mem_nil), by simp [bs, Rows.uptoBulk], Nat.zero_le _⟩
  · injection hcs with hcs _
    injection hcs with h1 h2 h3
    subst h1 h2 h3
    have hall : ∀ i, i < len → ∃ y : α × List Value, W.cells? 0 (a.add (i * P.cellsOf e)) (P.cellsOf e) = some y.2 ∧ d.K W y.1 y.2 ∧ wf y.1 ∧ bk y.1 ≤ Rows.uptoBulk (D i) := by
      intro i hi
      obtain ⟨cs', hc, htr⟩ := hel i (Nat.lt_of_lt_of_le hi hl)
      obtain ⟨b, hb, hw, hk⟩ := ho.2 _ _ _ _ _ _ htr
      exact ⟨(b, cs'), hc, hb, hw, hk⟩
    by_cases hz : len = 0
    · subst hz
      exact ⟨[], rfl, Nat.zero_le _, ⟨rfl, Nat.zero_le _, fun h => absurd h (Nat.lt_irrefl 0)⟩, (fun y hy => absurd hy List.not_mem_nil), by simp [bs, Rows.uptoBulk], Nat.zero_le _⟩
    · obtain ⟨y0, _⟩ := hall 0 (by omega)
      haveI : Inhabited (α × List Value) := ⟨y0⟩
      obtain ⟨f, hf⟩ := Go.Deep.choose_lt hall
      have hlen : ((List.range len).map fun i => (f i).1).length = len := by simp
      have hget : ∀ (i : Nat) (b : α), ((List.range len).map fun i => (f i).1)[i]? = some b → i < len ∧ b = (f i).1 := by
        intro i b hib
        rw [List.getElem?_map] at hib
        by_cases hi : i < len
        · rw [List.getElem?_range hi] at hib
          exact ⟨hi, by simpa using hib.symm⟩
        · rw [List.getElem?_eq_none (by simpa using Nat.le_of_not_lt hi)] at hib
          simp at hib
      refine ⟨(List.range len).map fun i => (f i).1, hlen.symm, by rw [hlen]; exact hl, ⟨rfl, by rw [hlen]; have : cap ≤ 9223372036854775807 := hm; omega, fun _ => ⟨a, rfl, fun j p hj => ?_⟩⟩, fun y hy => ?_, ?_, by rw [hlen]; exact Nat.le_trans hl hm⟩
      · obtain ⟨hi, rfl⟩ := hget j p hj
        obtain ⟨h1, h2, h3, h4⟩ := hf j hi
        refine ⟨(f j).2, d.K_len h2, h2, fun i u hu => ?_⟩
        rw [← ho.1, ← Go.Deep.add_add]
        exact cells?_at h1 i u hu
      · obtain ⟨i, hi, rfl⟩ := List.mem_map.1 hy
        exact (hf i (List.mem_range.1 hi)).2.2.1
      · show _ ≤ Rows.uptoBulkAll _ + Rows.uptoBulkAll _ + 1
        have := bulkAll_ge bk ((List.range len).map fun i => (f i).1) ((List.range len).map D) (by simp) (fun i b dd hb hd => by
          obtain ⟨hi, rfl⟩ := hget i b hb
          rw [List.getElem?_map, List.getElem?_range hi] at hd
          have hd' : D i = dd := by simpa using hd
          rw [← hd']
          exact (hf i hi).2.2.2)
        unfold bs
        omega
theorem opn_slice {P : Program} {t e : TypeId} {α : Type} {d : Kd α} {wf : α → Prop} {bk : α → Nat} (ht : P.underlying t = some (.slice e)) (hc : P.cellsOf t = 1) (ho : Opn P e d wf bk) :
    Opn P t (Kd.slice e d) (fun l => (∀ y ∈ l, wf y) ∧ l.length ≤ maxLen) (bs bk) := by
  refine ⟨hc, fun H enc W fuel cs x h => ?_⟩
  have hh : ∃ A len cap, cs = [.slice A len cap] := by
    rcases Go.Deep.open_slice ht h with ⟨rfl, _⟩ | ⟨a, len, cap, _, _, _, _, rfl, _⟩
    · exact ⟨_, _, _, rfl⟩
    · exact ⟨_, _, _, rfl⟩
  obtain ⟨A, len, cap, rfl⟩ := hh
  obtain ⟨l, rfl, hl, hC, hw, hb, hm⟩ := open_row ht ho h
  exact ⟨l, ⟨A, cap, rfl, hl, hC⟩, ⟨hw, hm⟩, hb⟩
def OpnFs (P : Program) (fs : List Field) (off : Nat) {α : Type} (d : Kd α) (wf : α → Prop) (bk : α → Nat) : Prop :=
  ∀ (H : Type) (enc : TypeId × Value → H) (W : World) (n : Nat) (cs : List Value) (xs : List (DataW H × List MemPlace)),
    xs.length = fs.length → (∀ (i : Nat) (f : Field), fs[i]? = some f → DataW.trod enc P W 0 (fun _ => true) true n f.type ((cs.drop f.offset).take (P.cellsOf f.type)) = xs[i]?) →
    ∃ a, d.K W a ((cs.drop off).take d.sz) ∧ wf a ∧ bk a ≤ Rows.uptoBulkAll (xs.map (·.1))
theorem opn_last {P : Program} {f : Field} {off : Nat} {α : Type} {d : Kd α} {wf : α → Prop} {bk : α → Nat} (ho : Opn P f.type d wf bk) (hoff : f.offset = off) : OpnFs P [f] off d wf bk := by
  intro H enc W n cs xs hl hx
  match xs, hl with
  | [y], _ =>
    have h0 := hx 0 f rfl
    rw [hoff, ho.1] at h0
    obtain ⟨a, ha, hw, hb⟩ := ho.2 _ _ _ _ _ _ h0
    exact ⟨a, ha, hw, by simpa [Rows.uptoBulkAll] using hb⟩
theorem opn_more {P : Program} {f : Field} {fs : List Field} {off : Nat} {α β : Type} {d : Kd α} {wf : α → Prop} {bk : α → Nat} {d' : Kd β} {wf' : β → Prop} {bk' : β → Nat}
    (ho : Opn P f.type d wf bk) (hoff : f.offset = off) (hr : OpnFs P fs (off + d.sz) d' wf' bk') : OpnFs P (f :: fs) off (Kd.pair d d') (fun x => wf x.1 ∧ wf' x.2) (fun x => bk x.1 + bk' x.2) := by
  intro H enc W n cs xs hl hx
  match xs, hl with
  | y :: ys, hl =>
    have h0 := hx 0 f rfl
    rw [hoff, ho.1] at h0
    obtain ⟨a, ha, hw, hb⟩ := ho.2 _ _ _ _ _ _ h0
    obtain ⟨b, hb1, hw1, hb2⟩ := hr H enc W n cs ys (by simpa using hl) (fun i g hg => hx (i + 1) g hg)
    refine ⟨(a, b), ⟨_, _, ?_, ha, hb1⟩, ⟨hw, hw1⟩, ?_⟩
    · show (cs.drop off).take (d.sz + d'.sz) = _
      rw [List.take_add, List.drop_drop]
    · simp only [List.map_cons, Rows.uptoBulkAll]
      omega
theorem opn_struct {P : Program} {t : TypeId} {fs : Array Field} {α β : Type} {d : Kd α} {wf : α → Prop} {bk : α → Nat} (ht : P.underlying t = some (.struct fs)) (hc : P.cellsOf t = d.sz) (ho : OpnFs P fs.toList 0 d wf bk)
    (f : β → α) (g : α → β) (hfg : ∀ a, f (g a) = a) : Opn P t (Kd.iso d f) (fun b => wf (f b)) (fun b => bk (f b) + 1) := by
  refine ⟨hc, fun H enc W fuel cs x h => ?_⟩
  obtain ⟨xs, n, _, rfl, hl, hlen, hf⟩ := DataW.trod_struct ht h
  obtain ⟨a, ha, hw, hb⟩ := ho H enc W n cs xs (by simpa using hlen) (fun i f hi => hf i f (by simpa using hi))
  refine ⟨g a, ?_, (by show wf (f (g a)); rw [hfg]; exact hw), ?_⟩
  · show d.K W (f (g a)) cs
    rw [hfg]
    rw [List.drop_zero, List.take_of_length_le (by rw [hl, hc]; exact Nat.le_refl _)] at ha
    exact ha
  · show bk (f (g a)) + 1 ≤ Rows.uptoBulkAll (xs.map (·.1)) + 1
    rw [hfg]
    omega
end Go.Proofs.YtnikfeaggppmpaaDoor.opn
