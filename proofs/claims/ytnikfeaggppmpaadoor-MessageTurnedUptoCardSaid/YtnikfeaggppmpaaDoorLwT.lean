/- part of a proof; what it has no use for was struck out -/
import Derived.Test.YtnikfeaggppmpaaDoorLwS
import Derived.Test.YtnikfeaggppmpaaDoorMk
namespace Go.Proofs.YtnikfeaggppmpaaDoor.Rdr
open Go.RowKit Go.Proofs.YtnikfeaggppmpaaDoor.PM Go.Proofs.YtnikfeaggppmpaaDoorW Go.Proofs.YtnikfeaggppmpaaDoorW.PrintWords Go.Proofs.YtnikfeaggppmpaaDoorW.PrintLast Go.Proofs.YtnikfeaggppmpaaDoorW.PrintMore Go.Proofs.YtnikfeaggppmpaaDoor.Base Go.Proofs.YtnikfeaggppmpaaDoor.Trn Go.Proofs.YtnikfeaggppmpaaDoor.QM Go.Proofs.YtnikfeaggppmpaaDoor.Nam Go.Proofs.YtnikfeaggppmpaaDoor.Rd Go.Proofs.YtnikfeaggppmpaaDoor.Wr Go.Proofs.YtnikfeaggppmpaaDoor.MapS Go.Proofs.YtnikfeaggppmpaaDoor.Heap
set_option linter.unusedVariables false
set_option linter.unusedSimpArgs false
set_option maxRecDepth 100000
theorem C_reads {w : World} {k : IntKind} {A : Option Addr} {xs : List Int} (h : Kd.C (Kd.int k) w A xs.length xs) : ReadsInt w k A xs.length xs := by
  refine ⟨rfl, h.2.1, fun hn => ?_⟩
  obtain ⟨ad, e, hc⟩ := h.2.2 hn
  refine ⟨ad, e, fun j hj => ?_⟩
  obtain ⟨c, h1, h2, h3⟩ := hc j _ (List.getElem?_eq_getElem hj)
  have hcc : c = [.int k xs[j]] := h2
  subst hcc
  have := h3 0 _ rfl
  rw [show j * (Kd.int k).sz + 0 = j by show j * 1 + 0 = j; omega] at this
  rw [this, List.getD_eq_getElem?_getD, List.getElem?_eq_getElem hj]
  rfl
theorem C_at {w : World} {A : Option Addr} {l : List Int} (h : Kd.C (Kd.int .u8) w A l.length l) {k : Nat} (hk : k < l.length) : ∃ ad, A = some ad ∧ w.cell? (ad.add k) = some (.int .u8 l[k]) := by
  obtain ⟨ad, e, hc⟩ := h.2.2 (by omega)
  refine ⟨ad, e, ?_⟩
  obtain ⟨c, h1, h2, h3⟩ := hc k _ (List.getElem?_eq_getElem hk)
  have hcc : c = [.int .u8 l[k]] := h2
  subst hcc
  have h4 := h3 0 _ rfl
  rw [← h4]
  show _ = w.cell? (ad.add (k * 1 + 0))
  rw [Nat.mul_one, Nat.add_zero]
theorem own_put {w1 : World} {base : Nat} {A : Option Addr} {c : Nat} {bs1 : List Int} (h : w1.ownsRow base 5 1 (.slice A bs1.length c) bs1.length (nums .u8 bs1)) (i : Nat) (hi : i < bs1.length) :
    ∃ gb, A = some ⟨gb, 0, none⟩ ∧ base ≤ gb ∧ gb < w1.heap.size ∧ w1.cell? ⟨gb, i, none⟩ = some (.int .u8 bs1[i]) ∧ w1.frozen? ⟨gb, i, none⟩ = false ∧ ∀ y : Int, (w1.setCell ⟨gb, i, none⟩ (.int .u8 y)).ownsRow base 5 1 (.slice A (bs1.set i y).length c) (bs1.set i y).length (nums .u8 (bs1.set i y)) := by
  rcases h.2 with ⟨h0, h1⟩ | ⟨gb, cap, cur, h0, hbg, hh, hnc, hcm, hcs, htk⟩
  · omega
  have hR : Kd.R (Kd.int .u8) 5 w1 base (fun _ => True) (.slice A bs1.length c) bs1 := Kd.R_of_own (enc := Value.int .u8) (h1 := fun _ => rfl) (ok := fun _ => True) (by exact h) (fun _ _ => trivial)
  injection h0 with hA hn hcap
  subst hA
  have hcell : ∀ j (hj : j < bs1.length), w1.cell? ⟨gb, j, none⟩ = some (.int .u8 bs1[j]) := fun j hj => by
    have := h.cells (g := gb) rfl j (.int .u8 bs1[j]) (by simp [nums, hj])
    rw [← this]
    rcases j with _ | j <;> simp [Addr.add]
  refine ⟨gb, rfl, hbg, blk_lt hh, hcell i hi, blk_frozen hh i, fun y => ?_⟩
  have hset := Kd.R_seg hR (i : Int) (by omega) (by omega) (c := [.int .u8 bs1[i]]) (seg := [.int .u8 y]) (j := 0) rfl (fun j u hj => by
    rcases j with _ | j
    · simp only [List.getElem?_cons_zero, Option.some.injEq] at hj
      subst hj
      show w1.cell? ⟨gb, (i : Int).toNat * 1 + 0, none⟩ = _
      rw [show (i : Int).toNat * 1 + 0 = i by omega]
      exact hcell i hi
    · simp at hj) (Nat.le_refl 1) (x' := y) (okp := fun _ => False) (by exact rfl) (fun _ hk => hk.elim)
  obtain ⟨hR2, hg2⟩ := hset
  have he : w1.setCells gb ((i : Int).toNat * (Kd.int .u8).sz + 0) [.int .u8 y] = w1.setCell ⟨gb, i, none⟩ (.int .u8 y) := by
    show w1.setCells gb ((i : Int).toNat * 1 + 0) [.int .u8 y] = _
    rw [show (i : Int).toNat * 1 + 0 = i by omega]
    rfl
  rw [he] at hR2
  rw [show (i : Int).toNat = i by omega] at hR2
  have hlen : (bs1.set i y).length = bs1.length := List.length_set
  rw [hlen]
  have hown := Kd.own_of_R hR2
  rw [hlen] at hown
  exact hown
theorem namW_len2 (n : List Int) (s : St) : (namW n s).1.length ≤ s.1.length + n.length + 2 := by
  unfold namW
  split
  · rename_i ls hls
    split at hls
    · have h := lay_labs _ _ _ hls
      have := wN_len ls s.1 s.2
      rw [← h.1] at this
      omega
    · cases hls
  · omega
theorem datW_len2 (t : Int) (d : ByteArray) (s : St) : (datW t d s).1.length ≤ s.1.length + d.size + 4 := by
  unfold datW
  split
  · have := namW_len2 (bytesOf d) s
    rw [of_size] at this
    omega
  split
  · have h1 := namW_len2 (soaP (bytesOf d)).1 s
    have h2 := namW_len2 (soaP (bytesOf d)).2.1 (namW (soaP (bytesOf d)).1 s)
    obtain ⟨a, b, r, ok, hs⟩ : ∃ a b r ok, soaP (bytesOf d) = (a, b, r, ok) := ⟨_, _, _, _, rfl⟩
    rw [hs] at h1 h2 ⊢
    simp only at h1 h2 ⊢
    rw [List.length_append]
    cases ok with
    | true =>
      have e3 := congrArg List.length (soaP_yes hs).2.2.2
      rw [of_size] at e3
      simp at e3
      omega
    | false =>
      obtain ⟨rfl, rfl, rfl⟩ := soaP_no hs
      simp only [List.length_nil] at h1 h2 ⊢
      omega
  · rw [List.length_append, of_size]
    omega
theorem recW_len2 (r : R) (s : St) : (recW r s).1.length ≤ s.1.length + r.f0.size + r.f3.size + 16 := by
  have h1 := namW_len2 (bytesOf r.f0) s
  rw [of_size] at h1
  unfold recW
  by_cases hm : mayB r.f1 r.f3 = true
  · obtain ⟨n, x, f', -, -, hx⟩ := wrD_eq hm _ (namW (bytesOf r.f0) s).2
    obtain ⟨e1, e2⟩ := hx ((namW (bytesOf r.f0) s).1 ++ all16 [r.f1, 1] ++ all32 [r.f2]) rfl
    have h2 := datW_len2 r.f1 r.f3 ((namW (bytesOf r.f0) s).1 ++ all16 [r.f1, 1] ++ all32 [r.f2] ++ be16 n, (namW (bytesOf r.f0) s).2)
    rw [e2] at h2
    rw [e1]
    simp only [List.length_append, all16_len, all32_len, be16_len, List.length_cons, List.length_nil] at h2 ⊢
    omega
  · unfold wrD
    rw [if_neg hm]
    simp only [List.length_append, all16_len, all32_len, List.length_cons, List.length_nil]
    omega
theorem recsW_len2 (n : Nat) : ∀ (rs : List R) (s : St), (∀ r ∈ rs, r.f0.size + r.f3.size + 16 ≤ n) → (recsW rs s).1.length ≤ s.1.length + n * rs.length
  | [], s, _ => Nat.le_refl _
  | r :: rs, s, h => by
    have h1 := recW_len2 r s
    have h2 := recsW_len2 n rs (recW r s) (fun x hx => h x (List.mem_cons_of_mem _ hx))
    have h3 := h r (List.mem_cons_self ..)
    have e : recsW (r :: rs) s = recsW rs (recW r s) := rfl
    rw [e, List.length_cons, Nat.mul_succ]
    omega
theorem dataV_len (j : Nat) (ns : List Int) (s : ByteArray) (hs : s.size ≤ 30) : (bolterlaw04_Data.dataV j (strOfNums (nameL ns)) s).2.size ≤ 190 := by
  have hn : (strOfNums (nameL ns)).size ≤ 84 := by rw [str_size]; exact nameL_len ns
  have h0 : (⟨#[0]⟩ : ByteArray).size = 1 := rfl
  unfold bolterlaw04_Data.dataV
  split
  · simp only [ByteArray.size_extract]; omega
  split
  · simp only; omega
  split
  · simp only; omega
  split
  · simp only [ByteArray.size_append, ByteArray.size_extract]; omega
  split
  · simp only [ByteArray.size_append, ByteArray.size_extract, str_size, List.length_cons, List.length_nil]; omega
  split
  · simp only [ByteArray.size_extract]; omega
  · simp only [ByteArray.size_extract]; omega
theorem recV_len (a : LA) : (recV a).f0.size + (recV a).f3.size + 16 ≤ 290 := by
  have h1 : (recV a).f0.size ≤ 84 := by show (strOfNums (nameL a.f0)).size ≤ 84; rw [str_size]; exact nameL_len a.f0
  have h2 : (recV a).f3.size ≤ 190 := dataV_len _ _ _ (by rw [ByteArray.size_extract]; omega)
  omega
def ans (m : Msg) : Msg := { m with ns := [], ex := [] }
theorem ans_small {m : Msg} {l : List LA} (h : m.an = (l.take 12).map recV) (hq : m.qn.size ≤ 84) : (wholeL (ans m)).length ≤ 4096 := by
  have hl : m.an.length ≤ 12 := by rw [h, List.length_map, List.length_take]; omega
  have h0 := namW_len2 (bytesOf m.qn) (headW (ans m), fun _ => none)
  rw [of_size] at h0
  have hH := headW_len (ans m)
  simp only at h0
  have h1 := recsW_len2 290 m.an (qS (ans m) (headW (ans m))) (fun r hr => by
    rw [h] at hr
    obtain ⟨a, -, rfl⟩ := List.mem_map.1 hr
    exact recV_len a)
  have e0 : (qS (ans m) (headW (ans m))).1.length = (namW (bytesOf m.qn) (headW (ans m), fun _ => none)).1.length + 4 := by unfold qS; simp [all16_len]; rfl
  have eo : (optL (ans m).sz).length ≤ 11 := by
    unfold optL
    split
    · simp [all16_len, all32_len]
    · exact Nat.zero_le _
  have e : (wholeL (ans m)).length = (recsW m.an (qS (ans m) (headW (ans m)))).1.length + (optL (ans m).sz).length := by rw [whole_body]; unfold bodyL bodyS; rw [List.length_append]; rfl
  omega
theorem ans_ok {m : Msg} (hm : mayM m = true) (hw : WfM m) : mayM (ans m) = true ∧ WfM (ans m) := by
  obtain ⟨h1, h2, h3, h4, h5⟩ := may_all hm
  obtain ⟨⟨w1, w2, w3⟩, w4, w5, w6, w7, w8, w9⟩ := hw
  refine ⟨?_, ⟨w1, fun r hr => (by cases hr), fun r hr => (by cases hr)⟩, w4, Nat.zero_le _, w6, Nat.zero_le _, w8, w9⟩
  have hp : partOk m.an = true := by unfold partOk; rw [decide_eq_true h3.1, Bool.true_and, List.all_eq_true]; exact h3.2
  unfold mayM headOk ans
  simp only
  rw [h2, decide_eq_true h1, List.all_cons, hp]
  rfl
theorem sizeH : (Tryd.prog.info? 26).map (·.size) = some 8 := by kernel_rfl
theorem head_load {w : World} {g : Nat} {m : Msg} {va vn ve : Value} (h : MVar w g m va vn ve) : (loadVar 26 ⟨g, 0, none⟩).run Tryd.prog w = .ok (.agg #[.int .u16 m.id, .bool m.rp, .int .i64 m.op, .bool m.au, .bool m.tr, .bool m.de, .bool m.av, .int .i64 m.co]) w := by
  have h2 := run_loadAt (P := Tryd.prog) 26 ⟨g, 0, none⟩ [.int .u16 m.id, .bool m.rp, .int .i64 m.op, .bool m.au, .bool m.tr, .bool m.de, .bool m.av, .int .i64 m.co] _ w (fun j v hj => by
    rw [Addr.add_lit, Nat.zero_add, blk_cell h]
    match j, hj with
    | 0, hj => exact hj
    | 1, hj => exact hj
    | 2, hj => exact hj
    | 3, hj => exact hj
    | 4, hj => exact hj
    | 5, hj => exact hj
    | 6, hj => exact hj
    | 7, hj => exact hj
    | n + 8, hj => simp at hj) Tryd.underlying26 rfl sizeH
  have e1 : (Instr.loadAt 26 (.pointer (some ⟨g, 0, none⟩))) = loadVar 26 ⟨g, 0, none⟩ := by
    show (do loadVar 26 (← Instr.sureAddr (.pointer (some ⟨g, 0, none⟩)))) = _
    simp [Instr.sureAddr]
  rw [e1] at h2
  exact h2
theorem infoB8 : (Tryd.prog.info? 5).map (fun i => (i.zero, i.size, i.bytes)) = some (some (.int .u8 0), 1, 1) := by kernel_rfl
end Go.Proofs.YtnikfeaggppmpaaDoor.Rdr
