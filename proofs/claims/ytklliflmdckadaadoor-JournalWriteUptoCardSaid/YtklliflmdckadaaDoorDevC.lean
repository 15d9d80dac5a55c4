/-
  The methods of a device, each by a contract: what it answers, what stands on the device behind it, and that nothing else is turned. No macro, syntax, notation, axiom, sorry.
-/
import Derived.Test.YtklliflmdckadaaDoorProg
import Derived.Test.YtklliflmdckadaaDoorDevW
import Derived.OrdersHeld
import Derived.Outline
import Derived.StillTailTactics
import Derived.Lib.Hide
namespace Go.Proofs.YtklliflmdckadaaDoor.DevC
open Go.RowKit Go.Proofs.YtklliflmdckadaaDoorW.PrintWords Go.Proofs.YtklliflmdckadaaDoor.DevW
set_option linter.unusedVariables false
set_option linter.unusedSimpArgs false
set_option maxRecDepth 100000

abbrev D (w : World) (base g : Nat) (F : List Nat) (sv : Value) (T : List Seg) (nw : Int) : Prop := Dev 29 59 5 w base g F sv T nw

/-- What is on a device: of each segment its bytes, and how many are safe. -/
abbrev St := List (List Int × Int)
def stOf (T : List Seg) : St := T.map fun x => x.2
theorem stOf_len (T : List Seg) : (stOf T).length = T.length := List.length_map _
theorem stOf_get {T : List Seg} {i : Nat} {x : Seg} (h : T[i]? = some x) : (stOf T)[i]? = some x.2 := by unfold stOf; rw [List.getElem?_map, h]; rfl

/-- Behind a deed: the device holds st, its count is nw; nothing but its own blocks is turned. -/
def After (w : World) (base g : Nat) (F : List Nat) (st : St) (nw : Int) (w' : World) : Prop :=
  ∃ F' sv' T', D w' base g F' sv' T' nw ∧ stOf T' = st ∧ Turned F w w' ∧ ∀ k ∈ F', k ∈ F ∨ w.heap.size ≤ k

theorem own_slice_le {w : World} {base n : Nat} {e : TypeId} {size : Nat} {v : Value} {xs : List Value} (h : w.ownsRow base e size v n xs) : ∃ A c, v = .slice A n c ∧ n ≤ c := by
  rcases h.2 with ⟨rfl, rfl⟩ | ⟨g, cap, cur, rfl, _, _, hc, _⟩
  · exact ⟨none, 0, rfl, Nat.le_refl _⟩
  · exact ⟨_, cap, rfl, hc⟩

/-- What the walk reads of one segment. -/
theorem seg_facts {w : World} {base g : Nat} {F : List Nat} {sv : Value} {T : List Seg} {nw : Int} (h : D w base g F sv T nw) (k : Nat) (hk : k < T.length) :
    ∃ gs cap A c b s, sv = .slice (some ⟨gs, 0, none⟩) T.length cap ∧ T.length ≤ cap ∧ gs ∈ F ∧ gs < w.heap.size ∧ T[k]? = some (.slice A b.length c, b, s) ∧ b.length ≤ c ∧
      w.cell? ⟨gs, k * 2, none⟩ = some (.slice A b.length c) ∧ w.cell? ⟨gs, k * 2 + 1, none⟩ = some (.int .i64 s) ∧ w.frozen? ⟨gs, k * 2, none⟩ = false ∧ w.frozen? ⟨gs, k * 2 + 1, none⟩ = false := by
  obtain ⟨gs, cap, rfl, hc, hF⟩ := h.segs_at (by omega)
  have hget := List.getElem?_eq_getElem hk
  obtain ⟨⟨v, b, s⟩, hx⟩ : ∃ x, T[k] = x := ⟨_, rfl⟩
  rw [hx] at hget
  obtain ⟨A, c, hv, hbc⟩ := own_slice_le (h.rows _ _ hget)
  simp only at hv hbc
  subst hv
  have ca := h.at0 hget
  have cb := h.at1 hget
  rw [show 2 * k = k * 2 by omega] at ca cb
  exact ⟨gs, cap, A, c, b, s, rfl, hc, hF, (h.foot gs hF).2, hget, hbc, ca, cb, h.frozS _, h.frozS _⟩

/-- How many bytes the last segment has. -/
def dlast (st : St) : Int := match st[st.length - 1]? with | none => 0 | some x => x.1.length
theorem last (w : World) (base g : Nat) (F : List Nat) (sv : Value) (T : List Seg) (nw : Int) (h : D w base g F sv T nw) (hl : T.length ≤ 1099511627776) :
    Calls Tryd.prog 15 #[.pointer (some ⟨g, 0, none⟩)] w fun e w' => e = .returned (.int .i64 (dlast (stOf T))) ∧ ∃ n, w' = w.drewN n := by
  by_cases h0 : T.length = 0
  · have c0 := h.cell0
    obtain ⟨A, cap, rfl, hc⟩ := h.segs_slice
    have hd : dlast (stOf T) = 0 := by
      have : T = [] := List.eq_nil_of_length_eq_zero h0
      subst this; rfl
    rw [hd]
    rw [h0] at c0
    clear h
    go_enter Tryd.func15, Tryd.ntmps15
    go_wp2
    go_ret
    exact ⟨rfl, 0, rfl⟩
  · obtain ⟨gs, cap, A, c, b, s, rfl, hc, hF, hgl, hget, hbc, ca, cb, fa, fb⟩ := seg_facts h (T.length - 1) (by omega)
    have c0 := h.cell0
    have hd : dlast (stOf T) = b.length := by
      unfold dlast
      rw [stOf_len, stOf_get hget]
    rw [hd]
    obtain ⟨n, hn⟩ : ∃ n, T.length = n + 1 := ⟨T.length - 1, by omega⟩
    rw [hn] at c0 ca hl
    rw [show n + 1 - 1 = n by omega] at ca
    clear h hget hd hc h0 hn cb fa fb
    go_enter Tryd.func15, Tryd.ntmps15
    go_wp2
    go_quiet (fail)
    go_wp2
    go_ret
    exact ⟨by first | rfl | simp, _, rfl⟩

/-- How many bytes are safe, in all. -/
def dsafe (st : St) : Int := (st.map fun x => x.2).sum
theorem dsafe_snoc (st : St) (x : List Int × Int) : dsafe (st ++ [x]) = dsafe st + x.2 := by simp [dsafe]
theorem dsafe_take (st : St) (i : Nat) (x : List Int × Int) (h : st[i]? = some x) : dsafe (st.take (i + 1)) = dsafe (st.take i) + x.2 := by
  have hi := (List.getElem?_eq_some_iff.1 h).1
  rw [List.take_succ_eq_append_getElem hi, dsafe_snoc]
  rw [List.getElem?_eq_getElem hi] at h
  injection h with h
  rw [h]


/-- All is safe. -/
def dsync (st : St) : St := st.map fun p => (p.1, (p.1.length : Int))
def dsyncTo (st : St) (k : Nat) : St := dsync (st.take k) ++ st.drop k
theorem dsyncTo_zero (st : St) : dsyncTo st 0 = st := by simp [dsyncTo, dsync]
theorem dsyncTo_all (st : St) : dsyncTo st st.length = dsync st := by simp [dsyncTo]
theorem dsyncTo_len (st : St) (k : Nat) : (dsyncTo st k).length = st.length := by simp [dsyncTo, dsync]; omega
theorem dsyncTo_get (st : St) (k : Nat) (h : k < st.length) : (dsyncTo st k)[k]? = st[k]? := by
  unfold dsyncTo
  have hl : (dsync (st.take k)).length = k := by simp [dsync]; omega
  rw [List.getElem?_append_right (by omega), hl, List.getElem?_drop]
  congr 1
  omega
theorem dsyncTo_set (st : St) (k : Nat) (x : List Int × Int) (h : st[k]? = some x) : (dsyncTo st k).set k (x.1, (x.1.length : Int)) = dsyncTo st (k + 1) := by
  have hk := (List.getElem?_eq_some_iff.1 h).1
  unfold dsyncTo
  have hl : (dsync (st.take k)).length = k := by simp [dsync]; omega
  have e1 : st.take (k + 1) = st.take k ++ [x] := by
    rw [List.take_succ_eq_append_getElem hk]
    rw [List.getElem?_eq_getElem hk] at h
    injection h with h
    rw [h]
  have e2 : st.drop k = x :: st.drop (k + 1) := by
    rw [List.drop_eq_getElem_cons hk]
    rw [List.getElem?_eq_getElem hk] at h
    injection h with h
    rw [h]
  rw [e1, e2, List.set_append_right _ _ (by omega), hl, Nat.sub_self]
  simp [dsync]
theorem stOf_set (T : List Seg) (i : Nat) (x : Seg) : stOf (T.set i x) = (stOf T).set i x.2 := by simp [stOf, List.map_set]

theorem sync (w : World) (base g : Nat) (F : List Nat) (sv : Value) (T : List Seg) (nw : Int) (h : D w base g F sv T nw) (hl : T.length ≤ 1099511627776) :
    Calls Tryd.prog 11 #[.pointer (some ⟨g, 0, none⟩)] w fun e w' => e = .returned (.tuple #[]) ∧ After w base g F (dsync (stOf T)) nw w' := by
  obtain ⟨As, cap, rfl, hc⟩ := h.segs_slice
  have c0 := h.cell0
  have H := Lib.hid h
  clear h
  go_enter Tryd.func11, Tryd.ntmps11
  go_wp2
  go_loopw [8] (fun i wx => ∃ k : Nat, k ≤ T.length ∧ i = .int .i64 k ∧ Aside0 (∃ T1, T1.length = T.length ∧ stOf T1 = dsyncTo (stOf T) k ∧ D wx base g F (.slice As T.length cap) T1 nw ∧ Turned F w wx))
    (fun i _ => T.length - (intOf i).toNat)
  case atStart => exact ⟨0, Nat.zero_le _, rfl, ⟨T, rfl, (dsyncTo_zero _).symm, H.out, Turned.refl _ _⟩⟩
  case round =>
    obtain ⟨k, hk, rfl, hrel⟩ := hrel
    obtain ⟨T1, hT1, hst, hD, hT⟩ := hrel.out
    clear hrel
    by_cases hlt : k < T.length
    · obtain ⟨gs, cap', A, c, b, s, he, _, hgF, hgl, hget, hbc, ca, cb, fa, fb⟩ := seg_facts hD k (by omega)
      injection he with he hll hcc
      clear hll
      subst he
      subst hcc
      have c1 := hD.cell0
      have HD := Lib.hid hD
      have HT := Lib.hid hT
      have HS := Lib.hid hst
      have HG := Lib.hid hget
      have HL := Lib.hid hT1
      clear hD hT hst hget hT1
      go_wp2
      go_still_tail 16, (by kernel_rfl)
      change wpList _ _ _ _ _ wr.drew
      have HD2 := Lib.hid HD.out.drew
      have HT2 := Lib.hid HT.out.drew
      have cb2 : wr.drew.cell? ⟨gs, k * 2 + 1, none⟩ = some (.int .i64 s) := cb
      have fb2 : wr.drew.frozen? ⟨gs, k * 2 + 1, none⟩ = false := fb
      have hz : wr.heap.size = wr.drew.heap.size := rfl
      obtain ⟨w2, hw2⟩ : ∃ w2, wr.drew = w2 := ⟨_, rfl⟩
      rw [hw2] at HD2 HT2 cb2 fb2 hz ⊢
      rw [hz] at hgl
      clear hw2 HD HT ca cb fa fb c1 hz
      go_wp2
      go_roundw
      case rel =>
        refine ⟨k + 1, by omega, by go_num, ⟨T1.set k (.slice A b.length c, b, (b.length : Int)), by rw [List.length_set]; exact HL.out, ?_, ?_, ?_⟩⟩
        · rw [stOf_set, HS.out]
          have := stOf_get HG.out
          rw [HS.out, dsyncTo_get _ _ (by rw [stOf_len]; omega)] at this
          exact dsyncTo_set _ _ _ this
        · have hE := HD2.out
          rw [← HL.out] at hE
          have := hE.storeSafe (by decide) (by decide) HG.out (b.length : Int)
          rw [List.length_set, HL.out, show 2 * k = k * 2 by omega] at this
          exact this
        · exact HT2.out.setCell (p := ⟨gs, k * 2 + 1, none⟩) (.inl hgF) _
      case measure => simp [intOf]; omega
    · have hkk : k = T.length := by omega
      have HD := Lib.hid hD
      have HT := Lib.hid hT
      have HS := Lib.hid hst
      clear hD hT hst hT1
      go_wp2
      go_end0
      refine ⟨rfl, F, _, T1, HD.out, ?_, HT.out, fun k hk => .inl hk⟩
      rw [HS.out, hkk, ← stOf_len, dsyncTo_all]
end Go.Proofs.YtklliflmdckadaaDoor.DevC
