/- part of a proof; what it has no use for was struck out -/
import Derived.Test.YtnikfeaggppmpaaMay
namespace Go.Proofs.Ytnikfeaggppmpaa.Wr
open Go.RowKit Go.Proofs.Ytnikfeaggppmpaa.PM Go.Proofs.YtnikfeaggppmpaaW Go.Proofs.YtnikfeaggppmpaaW.PrintWords Go.Proofs.YtnikfeaggppmpaaW.PrintLast Go.Proofs.YtnikfeaggppmpaaW.PrintMore Go.Proofs.Ytnikfeaggppmpaa.Base Go.Proofs.Ytnikfeaggppmpaa.Nam Go.Proofs.Ytnikfeaggppmpaa.Trn Go.Proofs.Ytnikfeaggppmpaa.MapS Go.Proofs.Ytnikfeaggppmpaa.QM
set_option linter.unusedVariables false
set_option linter.unusedSimpArgs false
set_option maxRecDepth 100000
def MVar (w : World) (g : Nat) (m : Msg) (va vn ve : Value) : Prop := w.heap[g]? = some (.cells #[.int .u16 m.id, .bool m.rp, .int .i64 m.op, .bool m.au, .bool m.tr, .bool m.de, .bool m.av, .int .i64 m.co, .string m.qn, .int .u16 m.qt, va, vn, ve, .int .i64 m.sz] 31 (0, 0))
theorem run_loadAt {P : Program} (ty : TypeId) (ad : Addr) (seg : List Value) (d : TypeDesc) (w : World) (hc : ∀ j v, seg[j]? = some v → w.cell? (ad.add j) = some v)
    (hu : P.underlying ty = some d) (hd : (match d with | .struct _ | .array _ _ => true | _ => false) = true) (hi : (P.info? ty).map (·.size) = some seg.length) :
    (Instr.loadAt ty (.pointer (some ad))).run P w = .ok (.agg seg.toArray) w := by
  have hl := run_loadCells_list (P := P) w ad seg hc
  cases hq : P.info? ty with
  | none => simp [hq] at hi
  | some i =>
    have hs : i.size = seg.length := by simpa [hq] using hi
    have hagg : (isAgg ty).run P w = .ok true w := by
      unfold isAgg
      rw [Sem.run_bind, run_underlying hu w]
      cases d <;> simp_all
    simp [Instr.loadAt, Instr.sureAddr, loadVar, Sem.run_bind, hagg, sizeOf, typeInfo, hq, hs, hl]
theorem sizeM : (Try.prog.info? 31).map (·.size) = some 14 := by kernel_rfl
theorem MVar.load {w : World} {g : Nat} {m : Msg} {va vn ve : Value} (h : MVar w g m va vn ve) : (loadVar 31 ⟨g, 0, none⟩).run Try.prog w = .ok (.agg #[.int .u16 m.id, .bool m.rp, .int .i64 m.op, .bool m.au, .bool m.tr, .bool m.de, .bool m.av, .int .i64 m.co, .string m.qn, .int .u16 m.qt, va, vn, ve, .int .i64 m.sz]) w := by
  have h2 := run_loadAt (P := Try.prog) 31 ⟨g, 0, none⟩ [.int .u16 m.id, .bool m.rp, .int .i64 m.op, .bool m.au, .bool m.tr, .bool m.de, .bool m.av, .int .i64 m.co, .string m.qn, .int .u16 m.qt, va, vn, ve, .int .i64 m.sz] _ w (fun j v hj => by rw [Addr.add_lit, Nat.zero_add, blk_cell h]; simpa using hj) Try.underlying31 rfl sizeM
  have e1 : (Instr.loadAt 31 (.pointer (some ⟨g, 0, none⟩))) = loadVar 31 ⟨g, 0, none⟩ := by
    show (do loadVar 31 (← Instr.sureAddr (.pointer (some ⟨g, 0, none⟩)))) = _
    simp [Instr.sureAddr]
  rw [e1] at h2
  exact h2
theorem MVar.below {w w1 : World} {g : Nat} {m : Msg} {va vn ve : Value} (h : MVar w g m va vn ve) (hb : Below w.heap.size w w1) : MVar w1 g m va vn ve := blk_below h hb
theorem MVar.cell {w : World} {g : Nat} {m : Msg} {va vn ve : Value} (h : MVar w g m va vn ve) (i : Nat) (u : Value) (hu : (#[.int .u16 m.id, .bool m.rp, .int .i64 m.op, .bool m.au, .bool m.tr, .bool m.de, .bool m.av, .int .i64 m.co, .string m.qn, .int .u16 m.qt, va, vn, ve, .int .i64 m.sz] : Array Value)[i]? = some u) : w.cell? ⟨g, i, none⟩ = some u := (blk_cell h i).trans hu
theorem MVar.froz {w : World} {g : Nat} {m : Msg} {va vn ve : Value} (h : MVar w g m va vn ve) (i : Nat) : w.frozen? ⟨g, i, none⟩ = false := blk_frozen h i
section
variable {P : Program} {ops : Array Oper} {rest : List Oper} {o : Oper} {a : Act} {Q : Exit → Act → World → Prop} {W : World}
theorem gate_ld {t : TypeId} {p : Tmp} (_ho : o.op = .load t (.tmp p)) (h : wpList P ops Q (o :: rest) a W) : wpList P ops Q (o :: rest) a W := h
theorem ev_load (hgd : o.guard = none) {t : TypeId} {x : Operand} (ho : o.op = .load t x) {ad : Addr} (hx : a.eval x = .pointer (some ad)) {v : Value} (hr : (loadVar t ad).run P W = .ok v W)
    (h : wpList P ops Q rest (a.put o.dst v) W) : wpList P ops Q (o :: rest) a W := by
  refine wpList_plain hgd fun K hK => ?_
  unfold Oper.wp execOp
  simp only [ho, hx, Instr.loadAt, Instr.sureAddr, Sem.run_bind, Sem.run_pure, Result.andThen_ok, hr]
  exact hK _ _ h
end
noncomputable def encL (m : Msg) (limit : Int) : Option (List Int) :=
  if mayM m = true then
    (if ((wholeL m).length : Int) ≤ limit then some (wholeL m)
    else if ((wholeL { m with an := [], ns := [], ex := [], tr := true }).length : Int) ≤ limit then some (wholeL { m with an := [], ns := [], ex := [], tr := true }) else none)
  else none
def EncR (o : Option (List Int)) (w : World) (base : Nat) (v : Value) (b : Bool) : Prop := match o with
  | some l => b = true ∧ w.ownsRow base 5 1 v l.length (nums .u8 l)
  | none => b = false ∧ v = .slice none 0 0
set_option maxHeartbeats 8000000 in
theorem encode_ (m : Msg) (hm : WfM m) (limit : Int) (Aa An Ae : Option Addr) (ca cn ce : Nat) (w : World) (hCa : Kd.C k37 w Aa m.an.length m.an) (hca : m.an.length ≤ ca) (hCn : Kd.C k37 w An m.ns.length m.ns) (hcn : m.ns.length ≤ cn) (hCe : Kd.C k37 w Ae m.ex.length m.ex) (hce : m.ex.length ≤ ce) :
    Calls Try.prog 10 #[.agg #[.int .u16 m.id, .bool m.rp, .int .i64 m.op, .bool m.au, .bool m.tr, .bool m.de, .bool m.av, .int .i64 m.co, .string m.qn, .int .u16 m.qt, .slice Aa m.an.length ca, .slice An m.ns.length cn, .slice Ae m.ex.length ce, .int .i64 m.sz], .int .i64 limit] w fun e w' => ∃ v b, e = .returned (.tuple #[v, .bool b]) ∧ Below w.heap.size w w' ∧ EncR (encL m limit) w' w.heap.size v b := by
  obtain ⟨gM, hgM⟩ : ∃ gM, w.heap.size = gM := ⟨_, rfl⟩
  have hbX := below_alloc (Below.refl w.heap.size w) (Obj.cells #[.int .u16 m.id, .bool m.rp, .int .i64 m.op, .bool m.au, .bool m.tr, .bool m.de, .bool m.av, .int .i64 m.co, .string m.qn, .int .u16 m.qt, .slice Aa m.an.length ca, .slice An m.ns.length cn, .slice Ae m.ex.length ce, .int .i64 m.sz] 31)
  have hBK : MVar (w.alloc (Obj.cells #[.int .u16 m.id, .bool m.rp, .int .i64 m.op, .bool m.au, .bool m.tr, .bool m.de, .bool m.av, .int .i64 m.co, .string m.qn, .int .u16 m.qt, .slice Aa m.an.length ca, .slice An m.ns.length cn, .slice Ae m.ex.length ce, .int .i64 m.sz] 31)) gM m (.slice Aa m.an.length ca) (.slice An m.ns.length cn) (.slice Ae m.ex.length ce) := by rw [← hgM]; exact blk_new w _
  obtain ⟨w1, hw1⟩ : ∃ w1, w.alloc (Obj.cells #[.int .u16 m.id, .bool m.rp, .int .i64 m.op, .bool m.au, .bool m.tr, .bool m.de, .bool m.av, .int .i64 m.co, .string m.qn, .int .u16 m.qt, .slice Aa m.an.length ca, .slice An m.ns.length cn, .slice Ae m.ex.length ce, .int .i64 m.sz] 31) = w1 := ⟨_, rfl⟩
  have HCA := Lib.hid hCa
  have HCN := Lib.hid hCn
  have HCE := Lib.hid hCe
  have HM := Lib.hid hm
  have HGM : Hid (w.heap.size ≤ gM) := Lib.hid (by omega)
  clear hCa hCn hCe
  go_enter Try.func10, Try.ntmps10
  go_upto_region 1 with fail
  rw [hw1] at hbX hBK
  (try rw [hw1])
  (try rw [hgM])
  have HBX := Lib.hid hbX
  have HV1 := Lib.hid hBK
  clear hbX hBK hw1 hgM
  go_wp2_with ((with_reducible refine gate_ld (t := 31) rfl ?_); refine ev_load rfl rfl rfl HV1.out.load ?_)
  refine (mayM_ m HM.out Aa An Ae ca cn ce w1 (Kd.C_below HCA.out HBX.out) hca (Kd.C_below HCN.out HBX.out) hcn (Kd.C_below HCE.out HBX.out) hce).mono ?_
  rintro e w2 ⟨rfl, hb⟩
  have HV2 := Lib.hid (HV1.out.below hb)
  have HB2 := Lib.hid (HBX.out.trans (hb.mono HBX.out.size))
  clear hb HV1 HBX
  cases hmm : mayM m with
  | false =>
    have he : encL m limit = none := by unfold encL; rw [hmm]; rfl
    go_wp2
    go_ret2
    refine ⟨_, _, rfl, HB2.out, ?_⟩
    (try rw [he])
    exact ⟨rfl, rfl⟩
  | true =>
    have HMM := Lib.hid hmm
    clear hmm
    go_wp2_with ((with_reducible refine gate_ld (t := 31) rfl ?_); refine ev_load rfl rfl rfl HV2.out.load ?_)
    refine (whole_ m HM.out Aa An Ae ca cn ce w2 (Kd.C_below HCA.out HB2.out) hca (Kd.C_below HCN.out HB2.out) hcn (Kd.C_below HCE.out HB2.out) hce).mono ?_
    rintro e w3 ⟨v, rfl, ho, hb⟩
    obtain ⟨l, hl⟩ : ∃ l, wholeL m = l := ⟨_, rfl⟩
    rw [hl] at ho
    obtain ⟨Al, cl, hv⟩ := own_slice ho
    subst hv
    have HV3 := Lib.hid (HV2.out.below hb)
    have HB3 := Lib.hid (HB2.out.trans (hb.mono HB2.out.size))
    have HO3 := Lib.hid (own_lower ho HB2.out.size)
    have HL := Lib.hid hl
    clear ho hb hl HV2 HB2
    by_cases hlim : limit < (l.length : Int)
    rotate_left
    focus
      have d1 : decide ((l.length : Int) > limit) = false := decide_eq_false hlim
      have d2 : decide (limit < (l.length : Int)) = false := decide_eq_false hlim
      have he : encL m limit = some l := by unfold encL; rw [HMM.out, if_pos rfl, HL.out, if_pos (by omega)]
      go_wp2
      go_ret2
      refine ⟨_, _, rfl, HB3.out, ?_⟩
      (try rw [he])
      exact ⟨rfl, HO3.out⟩
    have d1 : decide ((l.length : Int) > limit) = true := decide_eq_true hlim
    have d2 : decide (limit < (l.length : Int)) = true := decide_eq_true hlim
    have HLIM := Lib.hid hlim
    have c10 := HV3.out.cell 10 _ rfl
    have c11 := HV3.out.cell 11 _ rfl
    have c12 := HV3.out.cell 12 _ rfl
    have z10 := HV3.out.froz 10
    have z11 := HV3.out.froz 11
    have z12 := HV3.out.froz 12
    have z4 := HV3.out.froz 4
    have c4 := HV3.out.cell 4 _ rfl
    go_upto_region 7 with fail
    clear d1 d2 c10 c11 c12 z10 z11 z12 z4 c4
    obtain ⟨m2, hm2⟩ : ∃ m2 : Msg, ({ m with an := [], ns := [], ex := [], tr := true } : Msg) = m2 := ⟨_, rfl⟩
    obtain ⟨w4, hw4⟩ : ∃ w4, (((w3.setCell ⟨gM, 10, none⟩ (.slice none 0 0)).setCell ⟨gM, 11, none⟩ (.slice none 0 0)).setCell ⟨gM, 12, none⟩ (.slice none 0 0)).setCell ⟨gM, 4, none⟩ (.bool true) = w4 := ⟨_, rfl⟩
    have hV4 : MVar w4 gM m2 (.slice none 0 0) (.slice none 0 0) (.slice none 0 0) := by
      rw [← hw4, ← hm2]
      exact blk_set (blk_set (blk_set (blk_set HV3.out _ _) _ _) _ _) _ _
    have hgw : w.heap.size ≤ gM := HGM.out
    have hb4 : Below w.heap.size w w4 := by rw [← hw4]; exact below_set (below_set (below_set (below_set HB3.out hgw) hgw) hgw) hgw
    rw [hw4]
    have HV4 := Lib.hid hV4
    have HB4 := Lib.hid hb4
    have hm2w : WfM m2 := by
      have h := HM.out
      rw [← hm2]
      exact ⟨⟨fun r hr => (by cases hr), fun r hr => (by cases hr), fun r hr => (by cases hr)⟩, h.2.1, Nat.zero_le _, Nat.zero_le _, Nat.zero_le _, h.2.2.2.2.2⟩
    have HM2 := Lib.hid hm2w
    have ha2 : m2.an = [] := by rw [← hm2]
    have hn2 : m2.ns = [] := by rw [← hm2]
    have he2 : m2.ex = [] := by rw [← hm2]
    have HE2 := Lib.hid hm2
    have HN2 := Lib.hid (And.intro ha2 (And.intro hn2 he2))
    clear hV4 hb4 hw4 hm2w hm2 ha2 hn2 he2 hlim HV3 HB3 HO3
    go_wp2_with ((with_reducible refine gate_ld (t := 31) rfl ?_); refine ev_load rfl rfl rfl HV4.out.load ?_)
    have key := whole_ m2 HM2.out none none none 0 0 0 w4 (by rw [HN2.out.1]; exact Kd.C_nil _ _) (by rw [HN2.out.1]; exact Nat.zero_le _) (by rw [HN2.out.2.1]; exact Kd.C_nil _ _) (by rw [HN2.out.2.1]; exact Nat.zero_le _) (by rw [HN2.out.2.2]; exact Kd.C_nil _ _) (by rw [HN2.out.2.2]; exact Nat.zero_le _)
    rw [show m2.an.length = 0 by rw [HN2.out.1]; rfl, show m2.ns.length = 0 by rw [HN2.out.2.1]; rfl, show m2.ex.length = 0 by rw [HN2.out.2.2]; rfl] at key
    refine key.mono ?_
    clear key
    rintro e w5 ⟨v5, rfl, ho, hb⟩
    obtain ⟨l5, hl5⟩ : ∃ l, wholeL m2 = l := ⟨_, rfl⟩
    rw [hl5] at ho
    obtain ⟨A5, c5, hv⟩ := own_slice ho
    subst hv
    have HB5 := Lib.hid (HB4.out.trans (hb.mono HB4.out.size))
    have HO5 := Lib.hid (own_lower ho HB4.out.size)
    have HL5 := Lib.hid hl5
    clear ho hb hl5 HV4 HB4
    by_cases hlim : limit < (l5.length : Int)
    · have d1 : decide ((l5.length : Int) > limit) = true := decide_eq_true hlim
      have d2 : decide (limit < (l5.length : Int)) = true := decide_eq_true hlim
      have he : encL m limit = none := by
        unfold encL
        rw [HMM.out, if_pos rfl, HL.out, if_neg (by have := HLIM.out; omega), HE2.out, HL5.out, if_neg (by omega)]
      go_wp2
      go_ret2
      refine ⟨_, _, rfl, HB5.out, ?_⟩
      (try rw [he])
      exact ⟨rfl, rfl⟩
    · have d1 : decide ((l5.length : Int) > limit) = false := decide_eq_false hlim
      have d2 : decide (limit < (l5.length : Int)) = false := decide_eq_false hlim
      have he : encL m limit = some l5 := by
        unfold encL
        rw [HMM.out, if_pos rfl, HL.out, if_neg (by have := HLIM.out; omega), HE2.out, HL5.out, if_pos (by omega)]
      go_wp2
      go_ret2
      refine ⟨_, _, rfl, HB5.out, ?_⟩
      (try rw [he])
      exact ⟨rfl, HO5.out⟩
end Go.Proofs.Ytnikfeaggppmpaa.Wr
