/-
  The table's functions walked: IndexFunc, ContainsFunc, Free. No macro, syntax, notation, axiom, sorry.
-/
import Derived.Test.YtecpginkacaebaaDoorEnt
namespace Go.Proofs.YtecpginkacaebaaDoor.Ent
open Go.RowKit Go.Proofs.YtecpginkacaebaaDoorW.PrintWords Go.Proofs.YtecpginkacaebaaDoorW.PrintLast Go.Proofs.YtecpginkacaebaaDoor.Base Go.Proofs.YtecpginkacaebaaDoor.Heap Go.Proofs.YtecpginkacaebaaDoor.Nam Go.Proofs.YtecpginkacaebaaDoor.PP
set_option linter.unusedVariables false
set_option linter.unusedSimpArgs false
set_option maxRecDepth 100000

def idx (p : E → Bool) (es : List E) : Int := match es.findIdx? p with | some i => (i : Int) | none => -1
theorem idx_at {p : E → Bool} {es : List E} {k : Nat} {e : E} (h : es[k]? = some e) (hp : p e = true) (hn : ∀ j x, j < k → es[j]? = some x → p x = false) : idx p es = k := by
  unfold idx
  have hk := (List.getElem?_eq_some_iff.1 h)
  have : es.findIdx? p = some k := by
    rw [List.findIdx?_eq_some_iff_getElem]
    refine ⟨hk.1, by rw [hk.2]; exact hp, fun j hj => ?_⟩
    have hl : j < es.length := Nat.lt_trans hj hk.1
    have := hn j es[j] hj (List.getElem?_eq_getElem hl)
    simp [this]
  rw [this]
theorem idx_none {p : E → Bool} {es : List E} (hn : ∀ j x, j < es.length → es[j]? = some x → p x = false) : idx p es = -1 := by
  unfold idx
  have : es.findIdx? p = none := by
    rw [List.findIdx?_eq_none_iff]
    intro x hx
    obtain ⟨j, hj, rfl⟩ := List.getElem_of_mem hx
    exact hn j _ hj (List.getElem?_eq_getElem _)
  rw [this]
theorem idx_any (p : E → Bool) (es : List E) : decide (idx p es ≥ 0) = es.any p := by
  unfold idx
  cases h : es.findIdx? p with
  | none =>
    have := List.findIdx?_eq_none_iff.1 h
    have h2 : es.any p = false := by rw [List.any_eq_false]; intro x hx; simp [this x hx]
    rw [h2]
    rfl
  | some i =>
    have := List.findIdx?_eq_some_iff_getElem.1 h
    have h2 : es.any p = true := List.any_eq_true.2 ⟨_, List.getElem_mem this.1, this.2.1⟩
    rw [h2]
    simp
/-- What is asked of a function value. -/
def PredB (g : Nat) (b : Nat) (p : E → Bool) (w : World) : Prop := ∀ (W : World) (e : E), Below w.heap.size w W → Calls Tryd.prog g #[(.agg #[.int .u16 e.id, .int .u16 0, .bool false, .int .i64 0, .bool false, .bool false, .bool false, .bool false, .int .i64 0, .string e.nm, .int .u16 e.ty, .slice none 0 0, .slice none 0 0, .slice none 0 0, .int .i64 0, .string e.cl, .int .i64 e.po, .bool false, .int .i64 e.un]), .pointer (some ⟨b, 0, none⟩)] W fun x w' => x = .returned (.bool (p e)) ∧ Below W.heap.size W w'
theorem PredB.call {g b : Nat} {p : E → Bool} {w W : World} (h : PredB g b p w) (e : E) (hb : Below w.heap.size w W) : Calls Tryd.prog g #[(.agg #[.int .u16 e.id, .int .u16 0, .bool false, .int .i64 0, .bool false, .bool false, .bool false, .bool false, .int .i64 0, .string e.nm, .int .u16 e.ty, .slice none 0 0, .slice none 0 0, .slice none 0 0, .int .i64 0, .string e.cl, .int .i64 e.po, .bool false, .int .i64 e.un]), .pointer (some ⟨b, 0, none⟩)] W fun x w' => x = .returned (.bool (p e)) ∧ Below W.heap.size W w' := h W e hb
set_option maxHeartbeats 4000000 in
theorem indexFunc_ (g b : Nat) (p : E → Bool) (A : Option Addr) (c : Nat) (es : List E) (w : World) (hC : Kd.C kE w A es.length es) (eg : ∀ args w, (callFunc g args).run Tryd.prog w = .ok (.enter g args) w) (hp : PredB g b p w) :
    Calls Tryd.prog 23 #[.slice A es.length c, .func (.func g) #[] #[.pointer (some ⟨b, 0, none⟩)]] w fun x w' => x = .returned (.int .i64 (idx p es)) ∧ Below w.heap.size w w' := by
  have hlen : es.length ≤ 9223372036854775807 := hC.2.1
  have HC := Lib.hid hC
  have HP := Lib.hid hp
  clear hC hp
  go_enter Tryd.func23, Tryd.ntmps23
  go_wp2_with fail
  go_loopw [8] (fun i wr => ∃ k : Nat, k ≤ es.length ∧ i = .int .i64 k ∧ Aside0 (∀ j e, j < k → es[j]? = some e → p e = false) ∧ Aside0 (Below w.heap.size w wr))
    (fun i _ => es.length - (intOf i).toNat)
  case atStart => exact ⟨0, Nat.zero_le _, rfl, ⟨fun j e h => absurd h (Nat.not_lt_zero j)⟩, ⟨by repeat (first | exact Below.refl _ _ | apply pw_below_drewN | apply below_drew1)⟩⟩
  case round =>
    obtain ⟨k, hk, rfl, HA, HB⟩ := hrel
    by_cases hlt : k < es.length
    · obtain ⟨e, he⟩ : ∃ e, es[k]? = some e := ⟨_, List.getElem?_eq_getElem hlt⟩
      obtain ⟨ad, ha, hld⟩ := load_ (Kd.C_below HC.out HB.out) k e he
      subst ha
      have HE := Lib.hid he
      clear he
      cases hpe : p e with
      | true =>
        have HI := Lib.hid (idx_at HE.out hpe HA.out)
        go_wp2_with ((with_reducible refine gate_ld (t := 42) rfl ?_); refine ev_load rfl rfl rfl hld ?_)
        with_reducible refine (HP.out.call e HB.out).mono ?_
        rintro x w1 ⟨rfl, hb⟩
        rw [hpe]
        have HB1 := Lib.hid (HB.out.trans (hb.mono HB.out.size))
        clear hb hld
        go_wp2_with fail
        go_ret
        exact ⟨congrArg (fun z => Ending.returned (.int .i64 z)) HI.out.symm, by exact HB1.out⟩
      | false =>
        go_wp2_with ((with_reducible refine gate_ld (t := 42) rfl ?_); refine ev_load rfl rfl rfl hld ?_)
        with_reducible refine (HP.out.call e HB.out).mono ?_
        rintro x w1 ⟨rfl, hb⟩
        rw [hpe]
        have HB1 := Lib.hid (HB.out.trans (hb.mono HB.out.size))
        clear hb hld
        go_wp2_with fail
        go_roundw
        case rel => exact ⟨k + 1, by omega, by go_num, ⟨fun j x hj hx => by
          by_cases h : j = k
          · subst h
            rw [HE.out] at hx
            injection hx with hx
            rw [← hx]
            exact hpe
          · exact HA.out j x (by omega) hx⟩, ⟨HB1.out⟩⟩
        case measure => simp [intOf]; omega
    · obtain rfl : k = es.length := by omega
      have HI := Lib.hid (idx_none HA.out)
      go_wp2
      go_ret
      exact ⟨congrArg (fun z => Ending.returned (.int .i64 z)) HI.out.symm, by exact HB.out⟩
theorem containsFunc_ (g b : Nat) (p : E → Bool) (A : Option Addr) (c : Nat) (es : List E) (w : World) (hC : Kd.C kE w A es.length es) (eg : ∀ args w, (callFunc g args).run Tryd.prog w = .ok (.enter g args) w) (hp : PredB g b p w) :
    Calls Tryd.prog 14 #[.slice A es.length c, .func (.func g) #[] #[.pointer (some ⟨b, 0, none⟩)]] w fun x w' => x = .returned (.bool (es.any p)) ∧ Below w.heap.size w w' := by
  have HC := Lib.hid hC
  have HP := Lib.hid hp
  clear hC hp
  go_enter Tryd.func14, Tryd.ntmps14
  go_wp2_with fail
  with_reducible refine (indexFunc_ g b p A c es _ HC.out eg HP.out).mono ?_
  rintro x w1 ⟨rfl, hb⟩
  have HB1 := Lib.hid hb
  clear hb
  go_wp2_with fail
  go_ret
  have hx := idx_any p es
  exact ⟨by rw [← hx]; rfl, by exact HB1.out⟩
/-- Free's own predicate. -/
theorem free1_ (id : Int) (b : Nat) (w : World) (hb : w.heap[b]? = some (.cells #[.int .u16 id] 26 (0, 0))) : PredB 15 b (fun e => decide (e.id = id)) w := by
  intro W e hW
  have hb1 := cells1 (blk_below hb hW)
  have hb2 := fun o => cells1 (blk_below hb (below_alloc hW o))
  have hq : (e.id == id) = decide (e.id = id) := by by_cases h : e.id = id <;> simp [h]
  go_enter Tryd.func15, Tryd.ntmps15
  go_wp2_with fail
  go_ret
  exact ⟨rfl, below_alloc (Below.refl _ _) _⟩
theorem add1_ (x : E) (b : Nat) (w : World) (hb : Var w b x) : PredB 16 b (fun e => decide (e.id = x.id)) w := by
  intro W e hW
  have hb1 := (blk_ x (blk_below hb hW)).1
  have hb2 := fun o => (blk_ x (blk_below hb (below_alloc hW o))).1
  have hq : (e.id == x.id) = decide (e.id = x.id) := by by_cases h : e.id = x.id <;> simp [h]
  go_enter Tryd.func16, Tryd.ntmps16
  go_wp2_with fail
  go_ret
  exact ⟨rfl, below_alloc (Below.refl _ _) _⟩
/-- The first number from one on that is not taken. -/
def freeN (ids : List Int) : Nat → Int → Int
  | 0, _ => 0
  | k + 1, id => if id ∈ ids then freeN ids k ((id + 1) % 65536) else id
theorem any_id (es : List E) (id : Int) : es.any (fun e => decide (e.id = id)) = decide (id ∈ es.map E.id) := by
  by_cases h : id ∈ es.map E.id
  · rw [decide_eq_true h]
    obtain ⟨e, he, hh⟩ := List.mem_map.1 h
    exact List.any_eq_true.2 ⟨e, he, by simp [hh]⟩
  · rw [decide_eq_false h, List.any_eq_false]
    intro e he
    simp only [decide_eq_true_eq]
    exact fun hh => h (List.mem_map.2 ⟨e, he, hh⟩)
theorem eg_free : ∀ args w, (callFunc 15 args).run Tryd.prog w = .ok (.enter 15 args) w := enters_ Tryd.func15 (by kernel_rfl) rfl
theorem eg_add : ∀ args w, (callFunc 16 args).run Tryd.prog w = .ok (.enter 16 args) w := enters_ Tryd.func16 (by kernel_rfl) rfl
set_option maxHeartbeats 4000000 in
theorem free_ (A : Option Addr) (c : Nat) (es : List E) (id : Int) (w : World) (hC : Kd.C kE w A es.length es) (h0 : 0 ≤ id) (h1 : id < 65536) :
    Calls Tryd.prog 6 #[.slice A es.length c, .int .u16 id] w fun x w' => x = .returned (.int .u16 (freeN (es.map E.id) 65536 id)) ∧ Below w.heap.size w w' := by
  have HC := Lib.hid hC
  obtain ⟨T, hT⟩ : ∃ T, freeN (es.map E.id) 65536 id = T := ⟨_, rfl⟩
  rw [hT]
  have HT := Lib.hid hT
  have hbn := blk_new w (.cells #[.int .u16 id] 26)
  have hbb := below_alloc (Below.refl w.heap.size w) (.cells #[.int .u16 id] 26)
  obtain ⟨b, hb⟩ : ∃ b, w.heap.size = b := ⟨_, rfl⟩
  have HN := Lib.hid hbn
  have HBB := Lib.hid hbb
  have HI := Lib.hid (show 0 ≤ id ∧ id < 65536 from ⟨h0, h1⟩)
  clear hC hT hbn hbb h0 h1
  go_enter Tryd.func6, Tryd.ntmps6
  go_wp2_with fail
  (try rw [hb])
  rw [hb] at HN HBB
  have HBE := Lib.hid hb
  clear hb
  go_loopw [5] (fun i wr => ∃ k : Nat, k ≤ 65536 ∧ i = .int .i64 k ∧ ∃ x : Int, Aside0 (wr.heap[b]? = some (.cells #[.int .u16 x] 26 (0, 0))) ∧ Aside0 (0 ≤ x ∧ x < 65536) ∧ Aside0 (freeN (es.map E.id) (65536 - k) x = T) ∧ Aside0 (Below b w wr))
    (fun i _ => 65536 - (intOf i).toNat)
  case atStart => exact ⟨0, Nat.zero_le _, rfl, id, ⟨HN.out⟩, ⟨HI.out⟩, ⟨HT.out⟩, ⟨HBB.out⟩⟩
  case round =>
    obtain ⟨k, hk, rfl, x, HX, HXR, HF, HB⟩ := hrel
    by_cases hlt : k < 65536
    · have hcl := cells1 HX.out
      have d1 : decide ((k : Int) < 65536) = true := decide_eq_true (by omega)
      have hwk : wrap64 ((k : Int) + 1) = (k : Int) + 1 := w64 (by omega) (by omega)
      have hwk2 : IntKind.i64.wrap ((k : Int) + 1) = (k : Int) + 1 := IntWalk.i64_in _ (by omega)
      have HLT := Lib.hid hlt
      have HK := Lib.hid hk
      clear hlt hk
      go_wp2_with fail
      with_reducible refine (containsFunc_ 15 b _ A c es _ (Kd.C_below HC.out (by rw [HBE.out]; exact HB.out)) eg_free (free1_ x b _ HX.out)).mono ?_
      rintro e w1 ⟨rfl, hb1⟩
      rw [any_id]
      have hX1 := blk_below HX.out hb1
      have HX1 := Lib.hid hX1
      have hcl1 := cells1 hX1
      have hfr1 := froz1 hX1
      have HB1 := Lib.hid (HB.out.trans (hb1.mono (by have := blk_lt HX.out; omega)))
      have hfn : freeN (es.map E.id) (65536 - k) x = if x ∈ es.map E.id then freeN (es.map E.id) (65536 - (k + 1)) ((x + 1) % 65536) else x := by
        rw [show 65536 - k = (65536 - (k + 1)) + 1 by have := HLT.out; omega]
        rfl
      rw [HF.out] at hfn
      have HFN := Lib.hid hfn
      clear hcl hb1 hX1 hfn
      by_cases hin : x ∈ es.map E.id
      · rw [decide_eq_true hin]
        rw [if_pos hin] at HFN
        have hw := IntKind.wrap_u16 (x + 1)
        go_wp2_with fail
        go_roundw
        case rel => exact ⟨k + 1, by have := HLT.out; omega, by first | go_num | simp, (x + 1) % 65536, ⟨by first | exact blk_set HX1.out 0 _ | simpa using blk_set HX1.out 0 (.int .u16 ((x + 1) % 65536))⟩, ⟨by omega⟩, ⟨HFN.out.symm⟩, ⟨HB1.out.setCell (p := ⟨b, 0, none⟩) (Nat.le_refl _) _⟩⟩
        case measure => have := HLT.out; simp [intOf]; omega
      · rw [decide_eq_false hin]
        rw [if_neg hin] at HFN
        go_wp2_with fail
        go_ret
        exact ⟨congrArg (fun z => Ending.returned (.int .u16 z)) HFN.out.symm, by rw [HBE.out]; exact HB1.out⟩
    · obtain rfl : k = 65536 := by omega
      go_wp2
      go_ret
      exact ⟨congrArg (fun z => Ending.returned (.int .u16 z)) HF.out, by rw [HBE.out]; exact HB.out⟩
end Go.Proofs.YtecpginkacaebaaDoor.Ent
