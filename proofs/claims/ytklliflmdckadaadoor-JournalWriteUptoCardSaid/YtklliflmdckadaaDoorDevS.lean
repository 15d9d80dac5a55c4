/-
  What a device tells: the bytes of its segments, in rows that are new. No macro, syntax, notation, axiom, sorry.
-/
import Derived.Test.YtklliflmdckadaaDoorDevE
namespace Go.Proofs.YtklliflmdckadaaDoor.DevC
open Go.RowKit Go.Proofs.YtklliflmdckadaaDoorW.PrintWords Go.Proofs.YtklliflmdckadaaDoor.DevW
set_option linter.unusedVariables false
set_option linter.unusedSimpArgs false
set_option maxRecDepth 100000

theorem infoR : (Tryd.prog.info? 32).map (fun i => (i.zero, i.size, i.bytes)) = some (some (.slice none 0 0), 1, 24) := by kernel_rfl

/-- The bytes of all segments. -/
def dsegs (st : St) : List (List Int) := st.map fun x => x.1
theorem dsegs_take (st : St) (i : Nat) (x : List Int × Int) (h : st[i]? = some x) : dsegs (st.take (i + 1)) = dsegs (st.take i) ++ [x.1] := by
  have hi := (List.getElem?_eq_some_iff.1 h).1
  rw [List.take_succ_eq_append_getElem hi]
  rw [List.getElem?_eq_getElem hi] at h
  injection h with h
  rw [h]
  simp [dsegs]
theorem dsegs_len (st : St) : (dsegs st).length = st.length := List.length_map _

/-- Bytes of the call's own read. -/
theorem own_C {w : World} {base : Nat} {e : TypeId} {A : Option Addr} {c : Nat} {b : List Int} (h : w.ownsRow base e 1 (.slice A b.length c) b.length (nums .u8 b)) : Kd.C (Kd.int .u8) w A b.length b :=
  (Kd.R_reads' (Kd.R_of_own (enc := Value.int .u8) (h1 := fun _ => rfl) (ok := fun _ => True) (by exact h) (fun _ _ => trivial))).2.2

set_option maxHeartbeats 1000000 in
theorem segments (w : World) (base g : Nat) (F : List Nat) (sv : Value) (T : List Seg) (nw : Int) (h : D w base g F sv T nw) (hl : T.length ≤ 1000000000000) (hb : ∀ b s, (b, s) ∈ stOf T → b.length ≤ 140737488355328) :
    Calls Tryd.prog 10 #[.pointer (some ⟨g, 0, none⟩)] w fun e w' => ∃ v, e = .returned v ∧ Kd.R (Kd.slice 5 (Kd.int .u8)) 32 w' w.heap.size (fun _ => True) v (dsegs (stOf T)) ∧ Below w.heap.size w w' := by
  obtain ⟨As, cap, rfl, hc⟩ := h.segs_slice
  have c0 := h.cell0
  have H := Lib.hid h
  have HB := Lib.hid hb
  clear h hb
  go_enter Tryd.func10, Tryd.ntmps10
  go_wp2
  go_loopw [3, 11] (fun n i wx => ∃ k : Nat, k ≤ T.length ∧ i = .int .i64 k ∧ Aside0 (Kd.R (Kd.slice 5 (Kd.int .u8)) 32 wx w.heap.size (fun _ => True) n (dsegs ((stOf T).take k))) ∧ Aside0 (Below w.heap.size w wx))
    (fun _ i _ => T.length - (intOf i).toNat)
  case atStart => exact ⟨0, Nat.zero_le _, rfl, ⟨Kd.R_nil _ _ _ _ _⟩, ⟨Below.refl _ _⟩⟩
  case round =>
    obtain ⟨k, hk, rfl, HR, HW⟩ := hrel
    by_cases hlt : k < T.length
    · have hE := H.out.below HW.out
      obtain ⟨gs, cap', A, c, b, s, he, _, _, hgl, hget, hbc, ca, cb, _, _⟩ := seg_facts hE k hlt
      injection he with he hll hcc
      clear hll
      subst he
      have HE := Lib.hid hE
      have hbl : b.length ≤ 140737488355328 := HB.out b s (by unfold stOf; exact List.mem_map.2 ⟨_, List.mem_of_getElem? hget, rfl⟩)
      have HG := Lib.hid hget
      have hsl := Kd.R_slice HR.out
      obtain ⟨Ao, co, hvo⟩ := hsl
      subst hvo
      have hz : wr.heap.size < (wr.alloc (Obj.cells #[Value.slice A b.length c, Value.int IntKind.i64 s] 59)).heap.size := by simp
      have hlen : (dsegs ((stOf T).take k)).length = k := by rw [dsegs_len, List.length_take, stOf_len]; omega
      have HLEN := Lib.hid hlen
      clear hE hget hcc hlen
      go_wp2_with ((with_reducible refine gate_builtin (b := .append) (xs := #[.const (.slice none 0 0), .tmp 17]) rfl ?_); at_builtin; refine print_append_row w.heap.size rfl (.const (.slice none 0 0)) (.tmp 17) 32 5 .u8 1 rfl Tryd.underlying32 infoB (by decide) (.slice none 0 0) [] b A b.length c rfl rfl (World.ownsRow_nil _ _ _ _) ?hr (Below.refl _ _) ?hb (by simpa using hbl) ?_)
      case hr => exact (C_reads (own_C (HE.out.rows _ _ HG.out))).below (below_alloc (Below.refl _ _) _)
      case hb => have := HW.out.size; simp; omega
      intro v1 w1 hown hB hg hat
      obtain ⟨A1, c1, hv1, hc1⟩ := own_slice_le hown
      subst hv1
      have hgb : Below (wr.alloc (Obj.cells #[Value.slice A b.length c, Value.int IntKind.i64 s] 59)).heap.size (wr.alloc (Obj.cells #[Value.slice A b.length c, Value.int IntKind.i64 s] 59)) w1 :=
        ⟨hg.os, hg.tape, hg.output, hg.size, fun q hq => hg.block q hq (by simp [Value.ownBlock])⟩
      have HO1 := Lib.hid (Kd.R_below (Kd.R_alloc HR.out _) hgb)
      have HW1 := Lib.hid ((HW.out.alloc HW.out.size _).trans (hgb.mono (by have := HW.out.size; simp; omega)))
      have HN1 := Lib.hid hown
      clear hown hB hg hat hgb HR HE ca cb
      go_wp2_with ((with_reducible refine gate_builtin (b := .append) (xs := #[.tmp 15, .tmp 19]) rfl ?_); at_builtin; refine Kd.R_append (Kd.slice 5 (Kd.int .u8)) (w0 := w1) w.heap.size rfl (.tmp 15) (.tmp 19) 42 32 (.slice none 0 0) 24 rfl Tryd.underlying42 infoR rfl (by decide) (by decide) (.slice Ao (dsegs ((stOf T).take k)).length co) (dsegs ((stOf T).take k)) b [.slice A1 b.length c1] (fun _ => True) (fun q => some q ≠ (Value.slice Ao (dsegs ((stOf T).take k)).length co).ownBlock) rfl rfl ?hp (fun _ hq => ⟨trivial, hq⟩) (fun _ _ => trivial) HO1.out (Below.refl _ _) HW1.out.size ?hl ?_)
      case hp =>
        refine ⟨_, rfl, Kd.R_of_own (enc := Value.int .u8) (h1 := fun _ => rfl) HN1.out (fun q hq e => ?_)⟩
        obtain ⟨cs1, h1⟩ := own_typed HN1.out q hq
        obtain ⟨cs2, h2⟩ := Kd.R_typed HO1.out q e.symm
        rw [h1] at h2
        injection h2 with h2
        injection h2 with _ h2
        exact absurd h2 (by decide)
      case hl => have := HLEN.out; omega
      intro v2 w2 hR2 hB2 hg2 hat2
      have hR2' : Kd.R (Kd.slice 5 (Kd.int .u8)) 32 w2 w.heap.size (fun _ => True) v2 (dsegs ((stOf T).take (k + 1))) := by rw [dsegs_take _ _ _ (stOf_get HG.out)]; exact hR2
      obtain ⟨A2, c2, hv2⟩ := Kd.R_slice hR2'
      subst hv2
      have HR3 := Aside0.mk hR2'
      have HW3 := Aside0.mk (HW1.out.trans hB2)
      clear hR2 hB2 hg2 hat2 hR2' HO1 HN1
      go_wp2
      go_roundw
      case rel => exact ⟨k + 1, by omega, by go_num, HR3, HW3⟩
      case measure => simp [intOf]; omega
    · have hkk : k = T.length := by omega
      have hd : dsegs ((stOf T).take k) = dsegs (stOf T) := by rw [hkk, ← stOf_len, List.take_length]
      have HR3 := HR.out
      rw [hd] at HR3
      obtain ⟨A2, c2, hv2⟩ := Kd.R_slice HR3
      subst hv2
      have HR4 := Lib.hid HR3
      clear hd HR3
      go_wp2
      go_ret
      exact ⟨_, rfl, HR4.out, HW.out⟩
end Go.Proofs.YtklliflmdckadaaDoor.DevC
