/-
  What stands on a journal's device: plain lemmas on written records, crashes, and what is read. No macro, syntax, notation, axiom, sorry.
-/
import Derived.Test.YtklliflmdckadaaDoorPJx5
import Derived.Test.YtklliflmdckadaaDoorQJAll
namespace Go.Proofs.YtklliflmdckadaaDoor.PJ
open Go.RowKit Go.Proofs.YtklliflmdckadaaDoorW.PrintWords Go.Proofs.YtklliflmdckadaaDoorW.PrintLast Go.Proofs.YtklliflmdckadaaDoor.DevW Go.Proofs.YtklliflmdckadaaDoor.DevC
open Go.Proofs.YtklliflmdckadaaDoor.QJ (fr frs frs_cons frs_snoc frs_app frs_len frs_b8 fr_len fr_b8 all_of no_nil Begins begins_one)
open Go.Proofs.YtklliflmdckadaaDoor.Base (B8)
set_option linter.unusedVariables false
set_option linter.unusedSimpArgs false

/-- What frame.All tells of bytes. -/
noncomputable def tellA (s : List Int) : List (List Int) × Int := by
  classical
  exact if h : ∃ u, ∃ k, frame_All.f k s = some u then h.choose else ([], 0)
theorem all_up {k : Nat} {s : List Int} {u : List (List Int) × Int} (h : frame_All.f k s = some u) (m : Nat) (hm : k ≤ m) : frame_All.f m s = some u := at_rounds (fun k => frame_All.mono s k) hm h
theorem tellA_eq {s : List Int} {u : List (List Int) × Int} (h : ∃ k, frame_All.f k s = some u) : tellA s = u := by
  have h1 : ∃ u, ∃ k, frame_All.f k s = some u := ⟨u, h⟩
  unfold tellA
  rw [dif_pos h1]
  obtain ⟨k, hk⟩ := h
  obtain ⟨m, hm⟩ := h1.choose_spec
  have e1 := all_up hk (max k m) (by omega)
  have e2 := all_up hm (max k m) (by omega)
  rw [e1] at e2
  exact (Option.some.inj e2).symm
theorem tellA_at {s : List Int} {u : List (List Int) × Int} (h : ∃ k, frame_All.f k s = some u) : ∃ k, frame_All.f k s = some (tellA s) := by
  rw [tellA_eq h]
  exact h

attribute [local irreducible] fr
/-- Nothing begins what is left of a frame. -/
theorem torn (c : List Int) (hc : c.length ≤ 600) (B : B8 c) (z : Nat) (hz : z < (fr c).length) : ¬ ∃ b r, Begins ((fr c).take z) b r := by
  rintro ⟨b, r, hb, he⟩
  have hl := fr_len c
  have h1 : Begins (fr c) b (r ++ (fr c).drop z) := by
    refine ⟨hb, ?_⟩
    rw [← List.append_assoc, ← he, List.take_append_drop]
  have h2 : Begins (fr c) c [] := ⟨hc, by rw [List.append_nil]⟩
  have h3 := (begins_one (by omega) (fr_b8 B) h1 h2).2
  have h4 := congrArg List.length h3
  rw [List.length_append, List.length_drop] at h4
  simp at h4
  omega
/-- Records that may be written. -/
def Recs (cs : List (List Int)) : Prop := ∀ c ∈ cs, B8 c ∧ c.length ≤ 600
theorem Recs.left {a b : List (List Int)} (h : Recs (a ++ b)) : Recs a := fun c hc => h c (List.mem_append_left _ hc)
theorem Recs.right {a b : List (List Int)} (h : Recs (a ++ b)) : Recs b := fun c hc => h c (List.mem_append_right _ hc)
theorem Recs.app {a b : List (List Int)} (ha : Recs a) (hb : Recs b) : Recs (a ++ b) := fun c hc => (List.mem_append.1 hc).elim (ha c) (hb c)
/-- The first bytes of frames: some frames, and what begins none. -/
theorem frs_take : ∀ (b : List (List Int)) (m : Nat), Recs b → ∃ b1 b2 tl, b = b1 ++ b2 ∧ (frs b).take m = frs b1 ++ tl ∧ B8 tl ∧ ¬ ∃ x r, Begins tl x r := by
  intro b
  induction b with
  | nil => intro m _; exact ⟨[], [], [], rfl, by simp [frs], B8.nil, no_nil⟩
  | cons c r ih =>
    intro m h
    have h0 := h c (List.mem_cons_self ..)
    have hr : Recs r := fun q hq => h q (List.mem_cons_of_mem _ hq)
    by_cases hm : (fr c).length ≤ m
    · obtain ⟨b1, b2, tl, e1, e2, e3, e4⟩ := ih (m - (fr c).length) hr
      refine ⟨c :: b1, b2, tl, by rw [e1]; rfl, ?_, e3, e4⟩
      rw [frs_cons, frs_cons, List.take_append, List.take_of_length_le hm, e2, List.append_assoc]
    · refine ⟨[], c :: r, (fr c).take m, rfl, ?_, fun y hy => fr_b8 h0.1 y (List.mem_of_mem_take hy), torn c h0.2 h0.1 m (by omega)⟩
      rw [frs_cons, List.take_append_of_le_length (by omega)]
      rfl

/-- Segments of records, all safe. -/
def jseg (ps : List (List (List Int))) : St := ps.map fun cs => (frs cs, ((frs cs).length : Int))
theorem dsync_jseg (ps : List (List (List Int))) : dsync (jseg ps) = jseg ps := by simp [dsync, jseg]
theorem jseg_snoc (ps : List (List (List Int))) (cs : List (List Int)) : jseg (ps ++ [cs]) = jseg ps ++ [(frs cs, ((frs cs).length : Int))] := by simp [jseg]
theorem dsync_snoc (st : St) (x : List Int × Int) : dsync (st ++ [x]) = dsync st ++ [(x.1, (x.1.length : Int))] := by simp [dsync]
/-- What was written, and of how many records it is known that they are safe. -/
def Jn (st : St) (all : List (List Int)) (safe : Nat) : Prop :=
  Recs all ∧ ((st = [] ∧ all = [] ∧ safe = 0) ∨ ∃ ps a b, st = jseg ps ++ [(frs (a ++ b), ((frs a).length : Int))] ∧ all = ps.flatten ++ (a ++ b) ∧ safe ≤ ps.flatten.length + a.length)
theorem Jn.nil : Jn [] [] 0 := ⟨fun _ h => (by cases h), .inl ⟨rfl, rfl, rfl⟩⟩
theorem Jn.sync {st : St} {all : List (List Int)} {safe : Nat} (h : Jn st all safe) : Jn (dsync st) all all.length := by
  obtain ⟨hr, ⟨rfl, rfl, rfl⟩ | ⟨ps, a, b, rfl, rfl, hs⟩⟩ := h
  · exact ⟨hr, .inl ⟨rfl, rfl, rfl⟩⟩
  · refine ⟨hr, .inr ⟨ps, a ++ b, [], ?_, by simp, by simp⟩⟩
    rw [dsync_snoc, dsync_jseg, List.append_nil]
theorem dappend_snoc (st : St) (x : List Int × Int) (y : List Int) : dappend (st ++ [x]) y = st ++ [(x.1 ++ y, x.2)] := by
  unfold dappend
  rw [if_neg (by simp), onLast_snoc]
theorem Jn.write {st : St} {all : List (List Int)} {safe : Nat} (h : Jn st all safe) (c : List Int) (hc : B8 c ∧ c.length ≤ 600) : Jn (jwrite st (fr c)) (all ++ [c]) safe := by
  obtain ⟨hr, h⟩ := h
  have hr' : Recs (all ++ [c]) := hr.app fun q hq => by rw [List.mem_singleton.1 hq]; exact hc
  refine ⟨hr', .inr ?_⟩
  rcases h with ⟨rfl, rfl, rfl⟩ | ⟨ps, a, b, rfl, rfl, hs⟩
  · refine ⟨[], [], [c], ?_, rfl, Nat.zero_le _⟩
    unfold jwrite
    rw [if_neg (by simp [dlast])]
    simp [dappend, dbegin, dsync, onLast, jseg, frs]
  · unfold jwrite
    by_cases hb : 0 < dlast (jseg ps ++ [(frs (a ++ b), ((frs a).length : Int))]) ∧ 2048 < dlast (jseg ps ++ [(frs (a ++ b), ((frs a).length : Int))]) + (fr c).length
    · rw [if_pos hb]
      refine ⟨ps ++ [a ++ b], [], [c], ?_, by simp, by
        have e : ([a ++ b] : List (List (List Int))).flatten.length = a.length + b.length := by simp
        rw [List.flatten_append, List.length_append, e]
        simp only [List.length_nil]
        omega⟩
      unfold dbegin
      rw [dsync_snoc, dsync_jseg, dappend_snoc, jseg_snoc]
      simp [frs]
    · rw [if_neg hb]
      refine ⟨ps, a, b ++ [c], ?_, by simp, hs⟩
      rw [dappend_snoc, ← List.append_assoc a b [c], frs_snoc]
theorem Jn.fine {st : St} {all : List (List Int)} {safe : Nat} (h : Jn st all safe) : Fine st := by
  obtain ⟨hr, ⟨rfl, rfl, rfl⟩ | ⟨ps, a, b, rfl, rfl, hs⟩⟩ := h
  · intro b s hb; cases hb
  · intro x s hx
    rcases List.mem_append.1 hx with hx | hx
    · obtain ⟨cs, _, he⟩ := List.mem_map.1 hx
      injection he with h1 h2
      subst h1 h2
      omega
    · have he := List.mem_singleton.1 hx
      injection he with h1 h2
      subst h1 h2
      rw [frs_app, List.length_append]
      omega
theorem total_jseg (ps : List (List (List Int))) : total (jseg ps) = (frs ps.flatten).length := by
  induction ps with
  | nil => rfl
  | cons p r ih =>
    have e : total (jseg (p :: r)) = (frs p).length + total (jseg r) := by simp [total, jseg]
    rw [e, ih, List.flatten_cons, frs_app, List.length_append]
theorem Jn.total {st : St} {all : List (List Int)} {safe : Nat} (h : Jn st all safe) : DevC.total st = (frs all).length := by
  obtain ⟨hr, ⟨rfl, rfl, rfl⟩ | ⟨ps, a, b, rfl, rfl, hs⟩⟩ := h
  · rfl
  · rw [total_snoc, total_jseg, frs_app ps.flatten, List.length_append]
/-- A segment whole is told whole. -/
theorem tell_whole (cs : List (List Int)) (hr : Recs cs) (hl : (frs cs).length ≤ 70368744177664) (hc : cs.length ≤ 1000000000) : (∃ k, frame_All.f k (frs cs) = some (tellA (frs cs))) ∧ tellA (frs cs) = (cs, ((frs cs).length : Int)) := by
  have h := all_of cs [] (by rw [List.append_nil]; exact hl) B8.nil no_nil hr hc
  rw [List.append_nil] at h
  exact ⟨tellA_at h, tellA_eq h⟩
theorem tell_torn (cs : List (List Int)) (tl : List Int) (hr : Recs cs) (hl : (frs cs ++ tl).length ≤ 70368744177664) (hc : cs.length ≤ 1000000000) (hB : B8 tl) (hn : ¬ ∃ x r, Begins tl x r) : (∃ k, frame_All.f k (frs cs ++ tl) = some (tellA (frs cs ++ tl))) ∧ tellA (frs cs ++ tl) = (cs, ((frs cs).length : Int)) := by
  have h := all_of cs tl hl hB hn hr hc
  exact ⟨tellA_at h, tellA_eq h⟩
theorem part_len {ps : List (List (List Int))} {cs : List (List Int)} (h : cs ∈ ps) : cs.length ≤ ps.flatten.length ∧ (frs cs).length ≤ (frs ps.flatten).length := by
  obtain ⟨l, r, rfl⟩ := List.append_of_mem h
  rw [List.flatten_append, List.flatten_cons, List.length_append, List.length_append, frs_app, frs_app, List.length_append, List.length_append]
  omega
/-- What is read of whole segments, and of a last one. -/
theorem read_segs (ps : List (List (List Int))) (x : List Int × Int) (u : List (List Int) × Int) (hr : Recs ps.flatten) (hl : (frs ps.flatten).length ≤ 70368744177664) (hc : ps.flatten.length ≤ 1000000000)
    (hx : (∃ k, frame_All.f k x.1 = some (tellA x.1)) ∧ tellA x.1 = u) :
    (∀ b ∈ dsegs (jseg ps ++ [x]), ∃ k, frame_All.f k b = some (tellA b)) ∧ jtold tellA (dsegs (jseg ps ++ [x])) = ps.flatten ++ u.1 ∧ jwhole tellA (dsegs (jseg ps ++ [x])) = decide (u.2 = (x.1.length : Int)) := by
  have e : dsegs (jseg ps ++ [x]) = ps.map frs ++ [x.1] := by simp [dsegs, jseg]
  have hp : ∀ cs ∈ ps, (∃ k, frame_All.f k (frs cs) = some (tellA (frs cs))) ∧ tellA (frs cs) = (cs, ((frs cs).length : Int)) := fun cs hcs =>
    tell_whole cs (fun c hc' => hr c (List.mem_flatten.2 ⟨cs, hcs, hc'⟩)) (Nat.le_trans (part_len hcs).2 hl) (Nat.le_trans (part_len hcs).1 hc)
  have h1 : jtold tellA (ps.map frs) = ps.flatten := by
    clear hr hl hc hx e
    induction ps with
    | nil => rfl
    | cons p r ih =>
      have h0 := (hp p (List.mem_cons_self ..)).2
      have := ih fun q hq => hp q (List.mem_cons_of_mem _ hq)
      unfold jtold at this ⊢
      rw [List.map_cons, List.flatMap_cons, this, h0, List.flatten_cons]
  have h2 : jwhole tellA (ps.map frs) = true := by
    refine List.all_eq_true.2 fun b hb => ?_
    obtain ⟨cs, hcs, rfl⟩ := List.mem_map.1 hb
    rw [(hp cs hcs).2]
    exact decide_eq_true rfl
  rw [e]
  refine ⟨fun b hb => ?_, ?_, ?_⟩
  · rcases List.mem_append.1 hb with hb | hb
    · obtain ⟨cs, hcs, rfl⟩ := List.mem_map.1 hb
      exact (hp cs hcs).1
    · rw [List.mem_singleton.1 hb]
      exact hx.1
  · rw [jtold_snoc, h1, hx.2]
  · rw [jwhole_snoc, h2, hx.2]
    rfl
/-- All that was written is read. -/
theorem Jn.read {st : St} {all : List (List Int)} {safe : Nat} (h : Jn st all safe) (hl : (frs all).length ≤ 70368744177664) (hc : all.length ≤ 1000000000) :
    (∀ b ∈ dsegs st, ∃ k, frame_All.f k b = some (tellA b)) ∧ jtold tellA (dsegs st) = all ∧ jwhole tellA (dsegs st) = true := by
  obtain ⟨hr, ⟨rfl, rfl, rfl⟩ | ⟨ps, a, b, rfl, rfl, hs⟩⟩ := h
  · exact ⟨fun b hb => (by cases hb), rfl, rfl⟩
  · rw [frs_app, List.length_append] at hl
    rw [List.length_append] at hc
    have hx := tell_whole (a ++ b) hr.right (by omega) (by omega)
    obtain ⟨h1, h2, h3⟩ := read_segs ps (frs (a ++ b), ((frs a).length : Int)) _ hr.left (by omega) (by omega) hx
    exact ⟨h1, h2, by rw [h3]; exact decide_eq_true rfl⟩
/-- A recovered journal is recovered once more without a loss. -/
theorem Jn.again {st : St} {all : List (List Int)} {safe : Nat} (h : Jn st all safe) (hl : (frs all).length ≤ 70368744177664) (hc : all.length ≤ 1000000000) :
    (∀ b s, st[st.length - 1]? = some (b, s) → (∃ k, frame_All.f k b = some (tellA b)) ∧ 0 ≤ (tellA b).2 ∧ (tellA b).2 ≤ b.length) ∧ jgone tellA st = 0 ∧ jrec tellA st = dsync st := by
  obtain ⟨hr, ⟨rfl, rfl, rfl⟩ | ⟨ps, a, b, rfl, rfl, hs⟩⟩ := h
  · exact ⟨fun b s hb => (by cases hb), rfl, rfl⟩
  · rw [frs_app, List.length_append] at hl
    rw [List.length_append] at hc
    obtain ⟨hx1, hx2⟩ := tell_whole (a ++ b) hr.right (by omega) (by omega)
    have hlast : (jseg ps ++ [(frs (a ++ b), ((frs a).length : Int))])[(jseg ps ++ [(frs (a ++ b), ((frs a).length : Int))]).length - 1]? = some (frs (a ++ b), ((frs a).length : Int)) := by
      rw [List.length_append]; simp
    refine ⟨fun x s hb => ?_, ?_, ?_⟩
    · rw [hlast] at hb
      have he := Option.some.inj hb
      injection he with h1 h2
      subst h1
      rw [hx2]
      exact ⟨by rw [← hx2]; exact hx1, by show (0 : Int) ≤ _; omega, Int.le_refl _⟩
    · unfold jgone
      rw [hlast]
      show ((frs (a ++ b)).length : Int) - (tellA (frs (a ++ b))).2 = 0
      rw [hx2]
      exact Int.sub_self _
    · unfold jrec
      rw [hlast]
      show dsync (dcut _ (tellA (frs (a ++ b))).2) = _
      rw [hx2]
      show dsync (dcut _ ((frs (a ++ b)).length : Int)) = _
      unfold dcut
      rw [onLast_snoc, dsync_snoc, dsync_snoc]
      congr 3
      · show (frs (a ++ b)).take ((max 0 (min ((frs (a ++ b)).length : Int) ((frs (a ++ b)).length : Int))).toNat) = _
        rw [List.take_of_length_le (by omega)]
      · show ((((frs (a ++ b)).take ((max 0 (min ((frs (a ++ b)).length : Int) ((frs (a ++ b)).length : Int))).toNat)).length : Nat) : Int) = _
        rw [List.take_of_length_le (by omega)]
theorem dlast_snoc (st : St) (x : List Int × Int) : dlast (st ++ [x]) = x.1.length := by
  unfold dlast
  rw [List.length_append]
  simp
theorem last_snoc (st : St) (x : List Int × Int) : (st ++ [x])[(st ++ [x]).length - 1]? = some x := by rw [List.length_append]; simp
/-- Behind a crash: what is read is a beginning of what was written, with all that was synced; recovered, it is whole. -/
theorem Jn.crash {st : St} {all : List (List Int)} {safe : Nat} (h : Jn st all safe) (keep : Int) (hk : 0 ≤ keep) (hl : (frs all).length ≤ 70368744177664) (hc : all.length ≤ 1000000000) :
    ∃ rs more, all = rs ++ more ∧ safe ≤ rs.length ∧ Jn (jrec tellA (dcrash st keep)) rs rs.length ∧ jtold tellA (dsegs (dcrash st keep)) = rs ∧ (∀ b ∈ dsegs (dcrash st keep), ∃ k, frame_All.f k b = some (tellA b)) ∧
      (∀ b s, (dcrash st keep)[(dcrash st keep).length - 1]? = some (b, s) → (∃ k, frame_All.f k b = some (tellA b)) ∧ 0 ≤ (tellA b).2 ∧ (tellA b).2 ≤ b.length) ∧
      jgone tellA (dcrash st keep) = dlast (dcrash st keep) - dlast (jrec tellA (dcrash st keep)) ∧ Fine (dcrash st keep) ∧ DevC.total (dcrash st keep) ≤ DevC.total st ∧ (dcrash st keep).length = st.length := by
  obtain ⟨hr, ⟨rfl, rfl, rfl⟩ | ⟨ps, a, b, rfl, rfl, hs⟩⟩ := h
  · exact ⟨[], [], rfl, Nat.le_refl _, ⟨hr, .inl ⟨rfl, rfl, rfl⟩⟩, rfl, fun b hb => (by cases hb), fun b s hb => (by cases hb), rfl, fun b s hb => (by cases hb), Nat.le_refl _, rfl⟩
  · rw [frs_app, List.length_append] at hl
    rw [List.length_append] at hc
    have hX : (frs (a ++ b)).length = (frs a).length + (frs b).length := by rw [frs_app, List.length_append]
    obtain ⟨m, hm⟩ : ∃ m, left (frs (a ++ b), ((frs a).length : Int)) keep = m := ⟨_, rfl⟩
    have hle := left_le (frs (a ++ b), ((frs a).length : Int)) keep (by show (0 : Int) ≤ ((frs a).length : Int); omega) (by show ((frs a).length : Int) ≤ ((frs (a ++ b)).length : Int); omega)
    rw [hm] at hle
    have hle1 : m ≤ (frs (a ++ b)).length := hle.1
    have hle2 : ((frs a).length : Int) ≤ (m : Int) := hle.2
    have hcr : dcrash (jseg ps ++ [(frs (a ++ b), ((frs a).length : Int))]) keep = jseg ps ++ [((frs (a ++ b)).take m, (m : Int))] := by
      unfold dcrash
      rw [onLast_snoc, hm]
    obtain ⟨b1, b2, tl, hb, ht, hB, hn⟩ := frs_take b (m - (frs a).length) hr.right.right
    have htk : (frs (a ++ b)).take m = frs (a ++ b1) ++ tl := by
      rw [frs_app, List.take_append, List.take_of_length_le (by omega), ht, frs_app, List.append_assoc]
    have hml : ((frs (a ++ b)).take m).length = m := by rw [List.length_take]; omega
    have hra : Recs (a ++ b1) := by
      have := hr.right
      rw [hb, ← List.append_assoc] at this
      exact this.left
    rw [List.length_append] at hc
    have hbl : b.length = b1.length + b2.length := by rw [hb, List.length_append]
    obtain ⟨hx1, hx2⟩ := tell_torn (a ++ b1) tl hra (by rw [← htk, hml]; omega) (by rw [List.length_append]; omega) hB hn
    rw [← htk] at hx1 hx2
    obtain ⟨h1, h2, h3⟩ := read_segs ps ((frs (a ++ b)).take m, (m : Int)) _ hr.left (by omega) (by omega) ⟨hx1, hx2⟩
    have hlt : (frs (a ++ b1)).length ≤ m := by
      have := congrArg List.length htk
      rw [hml, List.length_append] at this
      omega
    have hjr : jrec tellA (jseg ps ++ [((frs (a ++ b)).take m, (m : Int))]) = jseg ps ++ [(frs (a ++ b1), ((frs (a ++ b1)).length : Int))] := by
      unfold jrec
      rw [last_snoc]
      show dsync (dcut _ (tellA ((frs (a ++ b)).take m)).2) = _
      rw [hx2]
      unfold dcut
      rw [onLast_snoc, dsync_snoc, dsync_jseg]
      have e : ((frs (a ++ b)).take m).take ((max 0 (min ((frs (a ++ b1)).length : Int) (((frs (a ++ b)).take m).length : Int))).toNat) = frs (a ++ b1) := by
        rw [hml, show ((max 0 (min ((frs (a ++ b1)).length : Int) (m : Int))).toNat) = (frs (a ++ b1)).length by omega, htk, List.take_left]
      show jseg ps ++ [(((frs (a ++ b)).take m).take ((max 0 (min ((frs (a ++ b1)).length : Int) (((frs (a ++ b)).take m).length : Int))).toNat), ((((frs (a ++ b)).take m).take ((max 0 (min ((frs (a ++ b1)).length : Int) (((frs (a ++ b)).take m).length : Int))).toNat)).length : Int))] = _
      rw [e]
    refine ⟨ps.flatten ++ (a ++ b1), b2, by rw [hb]; simp, by rw [List.length_append, List.length_append]; omega, ?_, ?_, ?_, ?_, ?_, ?_, ?_, ?_⟩
    · rw [hcr, hjr]
      exact ⟨hr.left.app hra, .inr ⟨ps, a ++ b1, [], by rw [List.append_nil], by rw [List.append_nil], by rw [List.length_append]; exact Nat.le_refl _⟩⟩
    · rw [hcr]; exact h2
    · rw [hcr]; exact h1
    · rw [hcr]
      intro x s hb'
      rw [last_snoc] at hb'
      have he := Option.some.inj hb'
      injection he with h1 h2
      subst h1
      rw [hx2]
      exact ⟨by rw [← hx2]; exact hx1, by show (0 : Int) ≤ _; omega, by show ((frs (a ++ b1)).length : Int) ≤ _; rw [hml]; omega⟩
    · rw [hcr, hjr, dlast_snoc, dlast_snoc]
      unfold jgone
      rw [last_snoc]
      show (((frs (a ++ b)).take m).length : Int) - (tellA ((frs (a ++ b)).take m)).2 = _
      rw [hx2]
    · rw [hcr]
      intro x s hx
      rcases List.mem_append.1 hx with hx | hx
      · obtain ⟨cs, _, he⟩ := List.mem_map.1 hx
        injection he with h1 h2
        subst h1 h2
        omega
      · have he := List.mem_singleton.1 hx
        injection he with h1 h2
        subst h1 h2
        rw [hml]
        omega
    · rw [hcr, total_snoc, total_snoc]
      show _ + ((frs (a ++ b)).take m).length ≤ _
      rw [hml]
      show _ ≤ _ + (frs (a ++ b)).length
      omega
    · rw [hcr]
      simp
end Go.Proofs.YtklliflmdckadaaDoor.PJ
