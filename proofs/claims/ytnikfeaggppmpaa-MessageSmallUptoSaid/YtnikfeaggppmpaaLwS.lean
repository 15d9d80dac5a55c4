/- part of a proof; what it has no use for was struck out -/
import Derived.Test.YtnikfeaggppmpaaLwE
import Derived.Test.YtnikfeaggppmpaaPMx9
namespace Go.Proofs.Ytnikfeaggppmpaa.Rdr
open Go.RowKit Go.Proofs.Ytnikfeaggppmpaa.PM Go.Proofs.YtnikfeaggppmpaaW Go.Proofs.YtnikfeaggppmpaaW.PrintWords Go.Proofs.YtnikfeaggppmpaaW.PrintLast Go.Proofs.YtnikfeaggppmpaaW.PrintMore Go.Proofs.Ytnikfeaggppmpaa.Base Go.Proofs.Ytnikfeaggppmpaa.Trn Go.Proofs.Ytnikfeaggppmpaa.QM Go.Proofs.Ytnikfeaggppmpaa.Nam Go.Proofs.Ytnikfeaggppmpaa.Rd Go.Proofs.Ytnikfeaggppmpaa.Wr Go.Proofs.Ytnikfeaggppmpaa.MapS
set_option linter.unusedVariables false
set_option linter.unusedSimpArgs false
set_option maxRecDepth 100000
theorem sameR_loop (l : List R) (hl : l.length ≤ 100000000) : ∀ (d i : Nat), i + d = l.length → Ev (fun k => bolterlaw05_SameRecords.l0 k l l (l.length : Int) (i : Int)) true := by
  intro d
  induction d with
  | zero =>
    intro i hi
    refine ⟨1, fun k hk => ?_⟩
    obtain ⟨k, rfl⟩ : ∃ k', k = k' + 1 := ⟨k - 1, by omega⟩
    simp only [bolterlaw05_SameRecords.l0]
    rw [if_neg (by omega)]
  | succ d ih =>
    intro i hi
    obtain ⟨K1, g1⟩ := ih (i + 1) (by omega)
    refine ⟨K1 + 1, fun k hk => ?_⟩
    obtain ⟨k, rfl⟩ : ∃ k', k = k' + 1 := ⟨k - 1, by omega⟩
    have e1 := g1 k (by omega)
    simp only at e1
    have w : wrap64 ((i : Int) + 1) = ((i + 1 : Nat) : Int) := by unfold wrap64; omega
    simp only [bolterlaw05_SameRecords.l0]
    rw [if_pos (by omega), if_pos (by omega), if_pos (by omega), if_pos (by omega), w]
    simp only [beq_self_eq_true, Bool.not_true, Bool.or_false, Bool.false_eq_true, if_false]
    exact e1
theorem sameR_ev (l : List R) (hl : l.length ≤ 100000000) : Ev (fun k => bolterlaw05_SameRecords.f k l l) true := by
  have h := sameR_loop l hl l.length 0 (by omega)
  refine Ev.congr (fun k => ?_) h
  unfold bolterlaw05_SameRecords.f
  rw [if_pos rfl]
  rfl
theorem same_ev (m : Msg) (hm : WfM m) : Ev (fun k => bolterlaw05_Same.f k m.id m.rp m.op m.au m.tr m.de m.av m.co m.qn m.qt m.an m.ns m.ex m.sz m.id m.rp m.op m.au m.tr m.de m.av m.co m.qn m.qt m.an m.ns m.ex m.sz) true := by
  obtain ⟨-, -, h1, h2, h3, -, -⟩ := hm
  obtain ⟨K1, g1⟩ := sameR_ev m.an (by omega)
  obtain ⟨K2, g2⟩ := sameR_ev m.ns (by omega)
  obtain ⟨K3, g3⟩ := sameR_ev m.ex (by omega)
  refine ⟨max K1 (max K2 K3), fun k hk => ?_⟩
  have e1 := g1 k (by omega)
  have e2 := g2 k (by omega)
  have e3 := g3 k (by omega)
  simp only at e1 e2 e3
  show bolterlaw05_Same.f k m.id m.rp m.op m.au m.tr m.de m.av m.co m.qn m.qt m.an m.ns m.ex m.sz m.id m.rp m.op m.au m.tr m.de m.av m.co m.qn m.qt m.an m.ns m.ex m.sz = some true
  unfold bolterlaw05_Same.f
  simp only [beq_self_eq_true, Bool.and_self, if_true]
  rw [e1, Option.bind_some, if_pos rfl, e2, Option.bind_some, if_pos rfl, e3, Option.bind_some]
theorem same_ (m : Msg) (hm : WfM m) (Aa An Ae Ba Bn Be : Option Addr) (ca cn ce da dn de : Nat) (w : World) (hCa : Kd.C k37 w Aa m.an.length m.an) (hca : m.an.length ≤ ca) (hCn : Kd.C k37 w An m.ns.length m.ns) (hcn : m.ns.length ≤ cn) (hCe : Kd.C k37 w Ae m.ex.length m.ex) (hce : m.ex.length ≤ ce)
    (hDa : Kd.C k37 w Ba m.an.length m.an) (hda : m.an.length ≤ da) (hDn : Kd.C k37 w Bn m.ns.length m.ns) (hdn : m.ns.length ≤ dn) (hDe : Kd.C k37 w Be m.ex.length m.ex) (hde : m.ex.length ≤ de) :
    Calls Try.prog 15 #[.agg #[.int .u16 m.id, .bool m.rp, .int .i64 m.op, .bool m.au, .bool m.tr, .bool m.de, .bool m.av, .int .i64 m.co, .string m.qn, .int .u16 m.qt, .slice Aa m.an.length ca, .slice An m.ns.length cn, .slice Ae m.ex.length ce, .int .i64 m.sz], .agg #[.int .u16 m.id, .bool m.rp, .int .i64 m.op, .bool m.au, .bool m.tr, .bool m.de, .bool m.av, .int .i64 m.co, .string m.qn, .int .u16 m.qt, .slice Ba m.an.length da, .slice Bn m.ns.length dn, .slice Be m.ex.length de, .int .i64 m.sz]] w fun e w' => e = .returned (.bool true) ∧ Below w.heap.size w w' := by
  obtain ⟨k, hk⟩ := Ev.rounds (same_ev m hm)
  exact bolterlaw05_Same.calls k _ _ _ _ _ _ _ _ _ _ Aa ca m.an An cn m.ns Ae ce m.ex _ _ _ _ _ _ _ _ _ _ _ Ba da m.an Bn dn m.ns Be de m.ex _ true w hCa hca hCn hcn hCe hce hDa hda hDn hdn hDe hde hk
theorem wN_b8 : ∀ (ls : List (List Int)) (bs : List Int) (f : List Int → Option Int), (∀ l ∈ ls, Lab l ∧ B8 l) → B8 bs → B8 (wN bs f ls).1
  | [], bs, f, _, hb => hb.append (B8.cons (by decide) (by decide) B8.nil)
  | l :: ls, bs, f, h, hb => by
    have hl := h l (List.mem_cons_self ..)
    cases hf : f (lay (l :: ls)) with
    | some a => rw [wN_seen hf]; exact hb.append (be16_b8 _)
    | none =>
      rw [wN_new hf]
      have h1 := hl.1
      unfold Lab at h1
      exact wN_b8 ls _ _ (fun x hx => h x (List.mem_cons_of_mem _ hx)) (hb.append (B8.cons (by omega) (by omega) hl.2))
theorem namW_b8 {n : List Int} (hn : B8 n) {s : St} (hs : B8 s.1) : B8 (namW n s).1 := by
  unfold namW
  split
  · rename_i ls hls
    split at hls
    · obtain ⟨h1, h2, -⟩ := lay_labs _ _ _ hls
      refine wN_b8 ls _ _ (fun l hl => ⟨h2 l hl, ?_⟩) hs
      intro y hy
      refine hn y ?_
      rw [h1]
      exact List.mem_flatMap.2 ⟨l, hl, List.mem_cons_of_mem _ hy⟩
    · cases hls
  · exact hs
theorem datW_b8 {t : Int} {d : ByteArray} (hm : mayB t d = true) {s : St} (hs : B8 s.1) : B8 (datW t d s).1 := by
  unfold datW
  split
  · exact namW_b8 (of_b8 d) hs
  split
  · rename_i c1 c2
    have hok : (soaP (bytesOf d)).2.2.2 = true := by
      unfold mayB at hm
      rw [if_neg (by omega), if_neg (by omega), if_neg c1, if_pos c2] at hm
      exact hm
    obtain ⟨a, b, r, hab⟩ : ∃ a b r, soaP (bytesOf d) = (a, b, r, true) := ⟨_, _, _, by rw [← hok]⟩
    obtain ⟨n1, n2, n3, n4⟩ := soaP_yes hab
    have h8 := of_b8 d
    rw [n4] at h8
    rw [hab]
    have ha8 : B8 a := h8.left
    have hb8 : B8 b := fun y hy => h8 y (List.mem_append_right _ (List.mem_cons_of_mem _ (List.mem_append_left _ hy)))
    have hr8 : B8 r := fun y hy => h8 y (List.mem_append_right _ (List.mem_cons_of_mem _ (List.mem_append_right _ (List.mem_cons_of_mem _ hy))))
    exact (namW_b8 hb8 (namW_b8 ha8 hs)).append hr8
  · exact B8.append hs (of_b8 d)
theorem recW_b8 (r : R) {s : St} (hs : B8 s.1) : B8 (recW r s).1 := by
  have h1 : B8 ((namW (bytesOf r.f0) s).1 ++ all16 [r.f1, 1] ++ all32 [r.f2]) := ((namW_b8 (of_b8 r.f0) hs).append (all16_b8 _)).append (all32_b8 _)
  unfold recW
  by_cases hm : mayB r.f1 r.f3 = true
  · obtain ⟨n, x, f', -, -, hx⟩ := wrD_eq hm _ (namW (bytesOf r.f0) s).2
    obtain ⟨e1, e2⟩ := hx _ rfl
    rw [e1]
    have := datW_b8 hm (s := ((namW (bytesOf r.f0) s).1 ++ all16 [r.f1, 1] ++ all32 [r.f2] ++ be16 n, (namW (bytesOf r.f0) s).2)) (h1.append (be16_b8 _))
    rw [e2] at this
    exact this
  · unfold wrD
    rw [if_neg hm]
    exact h1
theorem recsW_b8 : ∀ (rs : List R) {s : St}, B8 s.1 → B8 (recsW rs s).1
  | [], s, h => h
  | r :: rs, s, h => recsW_b8 rs (s := recW r s) (recW_b8 r h)
theorem whole_b8 (m : Msg) : B8 (wholeL m) := by
  rw [whole_body]
  unfold bodyL bodyS qS
  refine (recsW_b8 _ (recsW_b8 _ (recsW_b8 _ ((namW_b8 (of_b8 _) (all16_b8 _)).append (all16_b8 _))))).append ?_
  unfold optL
  split
  · exact (((B8.cons (by decide) (by decide) B8.nil).append (all16_b8 _)).append (all32_b8 _)).append (all16_b8 _)
  · exact B8.nil
theorem whole_bytes (m : Msg) : bytesOf (strOfNums (wholeL m)) = wholeL m := bytes_str (whole_b8 m)
theorem whole_len {m : Msg} (hm : mayM m = true) : (wholeL m).length ≤ 300000 ∧ 12 ≤ (wholeL m).length := by
  obtain ⟨-, -, ⟨h1, -⟩, ⟨h2, -⟩, ⟨h3, -⟩⟩ := may_all hm
  have hq := namW_len (bytesOf m.qn) (headW m, fun _ => none)
  have hH := headW_len m
  have e1 := recsW_len m.an (qS m (headW m))
  have e2 := recsW_len m.ns (recsW m.an (qS m (headW m)))
  have e3 := recsW_len m.ex (recsW m.ns (recsW m.an (qS m (headW m))))
  have e0 : (qS m (headW m)).1.length = (namW (bytesOf m.qn) (headW m, fun _ => none)).1.length + 4 := by unfold qS; simp [all16_len]
  have eo : (optL m.sz).length ≤ 11 := by
    unfold optL
    split
    · simp [all16_len, all32_len]
    · exact Nat.zero_le _
  have e : (wholeL m).length = (recsW m.ex (recsW m.ns (recsW m.an (qS m (headW m))))).1.length + (optL m.sz).length := by rw [whole_body]; unfold bodyL bodyS; rw [List.length_append]
  simp only at hq
  omega
theorem enc_all {m : Msg} (hm : mayM m = true) : encL m 1048576 = some (wholeL m) := by
  have h := (whole_len hm).1
  unfold encL
  rw [if_pos hm, if_pos (by omega)]
theorem dec_whole {m : Msg} (hm : mayM m = true) (hw : WfM m) (hl : (wholeL m).length ≤ 4096) : decR (strOfNums (wholeL m)) = some m := whole_rd hm hw (whole_bytes m) hl
end Go.Proofs.Ytnikfeaggppmpaa.Rdr
