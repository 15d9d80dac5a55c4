/-
  The journal's functions, by hand: what they leave of a device that lives. No macro, syntax, notation, axiom, sorry.
-/
import Derived.Test.YtklliflmdckadaaDoorPJx2
import Derived.Test.YtklliflmdckadaaDoorDevL
import Derived.Test.YtklliflmdckadaaDoorHandM
import Derived.Test.YtklliflmdckadaaDoorHandW
namespace Go.Proofs.YtklliflmdckadaaDoor.PJ
open Go.RowKit Go.Proofs.YtklliflmdckadaaDoorW.PrintWords Go.Proofs.YtklliflmdckadaaDoorW.PrintLast Go.Proofs.YtklliflmdckadaaDoor.DevW Go.Proofs.YtklliflmdckadaaDoor.DevC
set_option linter.unusedVariables false
set_option linter.unusedSimpArgs false
set_option maxRecDepth 100000

/-- What is told of rows of bytes, one behind the other; and whether each is told whole. -/
def jtold (A : List Int → List (List Int) × Int) (ss : List (List Int)) : List (List Int) := ss.flatMap fun s => (A s).1
def jwhole (A : List Int → List (List Int) × Int) (ss : List (List Int)) : Bool := ss.all fun s => decide ((A s).2 = (s.length : Int))
theorem take_snoc {α : Type} {ss : List α} {i : Nat} {x : α} (h : ss[i]? = some x) : ss.take (i + 1) = ss.take i ++ [x] := by
  have hi := (List.getElem?_eq_some_iff.1 h).1
  rw [List.take_succ_eq_append_getElem hi]
  rw [List.getElem?_eq_getElem hi] at h
  injection h with h
  rw [h]
theorem jtold_snoc (A : List Int → List (List Int) × Int) (ss : List (List Int)) (x : List Int) : jtold A (ss ++ [x]) = jtold A ss ++ (A x).1 := by simp [jtold]
theorem jwhole_snoc (A : List Int → List (List Int) × Int) (ss : List (List Int)) (x : List Int) : jwhole A (ss ++ [x]) = (jwhole A ss && decide ((A x).2 = (x.length : Int))) := by simp [jwhole]
theorem jtold_take_le (A : List Int → List (List Int) × Int) (ss : List (List Int)) (i : Nat) : (jtold A (ss.take i)).length ≤ (jtold A ss).length := by
  have e : jtold A ss = jtold A (ss.take i) ++ jtold A (ss.drop i) := by
    conv => lhs; rw [← List.take_append_drop i ss]
    unfold jtold
    rw [List.flatMap_append]
  rw [e, List.length_append]
  omega
theorem V_row {w : World} {e e' b n c : Nat} {ok : Nat → Prop} {A : Option Addr} {xs : List (List Int)} (h : Kd.V (Kd.slice e (Kd.int .u8)) e' w b ok (.slice A n c) xs) (i : Nat) (x : List Int) (hx : xs[i]? = some x) :
    ∃ ad Ax cx, A = some ad ∧ w.cell? (ad.add i) = some (.slice Ax x.length cx) ∧ x.length ≤ cx ∧ Kd.F (Kd.int .u8) w ok Ax x.length x := by
  have hi := (List.getElem?_eq_some_iff.1 hx).1
  have hn := (Kd.V_at h).1
  obtain ⟨ad, cs, hA, _, hK, hc, _⟩ := Kd.F_get (Kd.V_F h) ([] : List Int) (i : Int) (by omega) (by omega)
  have hg : xs.getD (i : Int).toNat [] = x := by rw [List.getD_eq_getElem?_getD, show (i : Int).toNat = i by omega, hx]; rfl
  rw [hg] at hK
  obtain ⟨Ax, cx, rfl, hl, hF⟩ := Kd.FK_slice_open hK
  have := hc 0 _ rfl
  rw [show (i : Int).toNat * (Kd.slice e (Kd.int IntKind.u8)).sz + 0 = i by show (i : Int).toNat * 1 + 0 = i; omega] at this
  exact ⟨ad, Ax, cx, hA, this, hl, hF⟩

set_option maxHeartbeats 4000000 in
/-- journal.Read -/
theorem read_ {w0 w : World} {g : Nat} {F : List Nat} {st : St} {nw : Int} (h : Live w0 w g F st nw) (hl : st.length ≤ 1000000000) (hb : ∀ b s, (b, s) ∈ st → b.length ≤ 140737488355328)
    (A : List Int → List (List Int) × Int) (hA : ∀ b ∈ dsegs st, ∃ k, frame_All.f k b = some (A b)) (hn : (jtold A (dsegs st)).length ≤ 5000000000000) :
    Calls Tryd.prog 9 #[.pointer (some ⟨g, 0, none⟩)] w fun e w' => ∃ v, e = .returned (.tuple #[v, .bool (jwhole A (dsegs st))]) ∧ Kd.V (Kd.slice 5 (Kd.int .u8)) 32 w' 0 (fun k => w.heap.size ≤ k) v (jtold A (dsegs st)) ∧ Below w.heap.size w w' := by
  have hlen : (dsegs st).length = st.length := dsegs_len st
  obtain ⟨ss, hss⟩ : ∃ ss, dsegs st = ss := ⟨_, rfl⟩
  rw [hss] at hA hn hlen ⊢
  have HSS := Lib.hid hss
  have HL := Lib.hid h
  have HA' := Lib.hid hA
  have HN' := Lib.hid hn
  have HBB := Lib.hid hb
  clear h hA hn hb hss
  go_enter Tryd.func9, Tryd.ntmps9
  go_wp2_with fail
  refine (live_segments HL.out (by omega) HBB.out).mono ?_
  rintro e w3 ⟨v, rfl, hR, hB⟩
  rw [HSS.out] at hR
  clear HBB
  obtain ⟨As, cs, hv⟩ := Kd.R_slice hR
  subst hv
  have HV := Lib.hid (Kd.V_bound (Kd.R_V (base' := 0) hR))
  have HB := Lib.hid hB
  clear hR hB HL
  go_wp2_with fail
  go_loopw [4, 5, 13] (fun v4 v5 i wx => ∃ j : Nat, j ≤ ss.length ∧ v5 = .bool (jwhole A (ss.take j)) ∧ i = .int .i64 j ∧ Aside0 (Kd.N (Kd.slice 5 (Kd.int .u8)) 32 wx w3.heap.size (fun k => w3.heap.size ≤ k) v4 (jtold A (ss.take j))) ∧ Aside0 (Below w3.heap.size w3 wx))
    (fun _ _ i _ => ss.length - (intOf i).toNat)
  case atStart => exact ⟨0, Nat.zero_le _, rfl, rfl, ⟨Kd.N_nil _ _ _ _ _⟩, ⟨Below.refl _ _⟩⟩
  case round =>
    obtain ⟨j, hj, rfl, rfl, HO, HX⟩ := hrel
    by_cases hlt : j < ss.length
    · have hget := List.getElem?_eq_getElem hlt
      obtain ⟨x, hx⟩ : ∃ x, ss[j] = x := ⟨_, rfl⟩
      rw [hx] at hget
      obtain ⟨ad, Ax, cx, hAs, hcell, hcx, hF⟩ := V_row (Kd.V_below HV.out HX.out) j x hget
      subst hAs
      have hxl : x.length ≤ 9223372036854775807 := (Kd.F_now hF).2.1
      obtain ⟨k, hk⟩ := HA'.out x (List.mem_of_getElem? hget)
      obtain ⟨a1, a2, ha⟩ : ∃ a1 a2, A x = (a1, a2) := ⟨_, _, rfl⟩
      rw [ha] at hk
      have ht := take_snoc hget
      have et : jtold A (ss.take (j + 1)) = jtold A (ss.take j) ++ a1 := by rw [ht, jtold_snoc, ha]
      have ew : jwhole A (ss.take (j + 1)) = (jwhole A (ss.take j) && decide (a2 = (x.length : Int))) := by rw [ht, jwhole_snoc, ha]
      have hle := jtold_take_le A ss (j + 1)
      rw [et, List.length_append] at hle
      have hN := HN'.out
      obtain ⟨os, hos⟩ : ∃ os, jtold A (ss.take j) = os := ⟨_, rfl⟩
      rw [hos] at HO et hle
      have ET := Lib.hid et
      have EW := Lib.hid ew
      have HK := Lib.hid hk
      have HF := Lib.hid hF
      have hle2 : (os.length + a1.length) * 24 ≤ 140737488355328 := by omega
      have HLE := Lib.hid hle2
      clear hget hx ha ht et ew hk hF hos hle hN hle2
      go_wp2_with fail
      refine (frame_All.calls k (fun _ => True) Ax cx x a1 a2 wr (Kd.V_mk hcx (Kd.F_mono HF.out (fun _ _ => trivial))) HK.out).mono ?_
      rintro e w4 ⟨vf, rfl, hS, hb⟩
      obtain ⟨Af, cf, hvf⟩ := Kd.R_slice (Kd.S_R hS)
      subst hvf
      have HO4 := Lib.hid (Kd.N_below HO.out hb)
      have HX4 := Lib.hid (HX.out.trans (hb.mono HX.out.size))
      have hlt4 := Kd.N_lt HO.out
      have HS := Lib.hid (Kd.S_F hS)
      have HLT := Lib.hid hlt4
      have hsz := HX.out.size
      clear hS hb hlt4 HO HF
      cases hjw : jwhole A (ss.take j)
      all_goals
        go_wp2_with ((with_reducible refine gate_builtin (b := .append) (xs := #[.tmp 22, .tmp 23]) rfl ?_); at_builtin; refine Kd.N_append_rows (w0 := w4) (Kd.slice 5 (Kd.int .u8)) w3.heap.size rfl (.tmp 22) (.tmp 23) 42 32 (.slice none 0 0) 24 rfl Tryd.underlying42 infoR rfl (by decide) (by omega) u4 os a1 _ _ _ (fun k => w3.heap.size ≤ k) (fun k => wr.heap.size ≤ k) rfl rfl HO4.out HS.out (fun q hq => ⟨Nat.le_trans hsz hq, fun e_ => by have := HLT.out q e_.symm; omega⟩) (fun q hq => Nat.le_trans HX4.out.size hq) (Below.refl _ _) HX4.out.size HLE.out ?_)
        intro v5 w5 hO hb5 hg hat
        have HO5 := Lib.hid hO
        rw [← ET.out] at HO5
        have HX5 := Lib.hid (HX4.out.trans hb5)
        have hew := EW.out
        rw [hjw] at hew
        clear hO hb5 hg hat HO4 HX4 HLT HS
        go_wp2
        go_roundw
        case rel => exact ⟨j + 1, by omega, by rw [hew]; first | rfl | simp, by go_num, ⟨HO5.out⟩, ⟨HX5.out⟩⟩
        case measure => simp [intOf]; omega
    · have hjj : j = ss.length := by omega
      have hO := HO.out
      rw [hjj, List.take_length] at hO
      have HO' := Lib.hid hO
      rw [hjj, List.take_length]
      clear hO
      go_wp2
      go_ret2
      exact ⟨_, rfl, Kd.V_mono (Kd.N_V HO'.out) (fun k hk => Nat.le_trans HB.out.size hk), HB.out.trans (HX.out.mono HB.out.size)⟩
end Go.Proofs.YtklliflmdckadaaDoor.PJ
