/- part of a proof; what it has no use for was struck out -/
import Derived.Test.YtnikfeaggppmpaaDoorNam
import Derived.Test.YtnikfeaggppmpaaDoorPMx7
import Derived.Test.YtnikfeaggppmpaaDoorPMx6
import Derived.Test.YtnikfeaggppmpaaDoorQMGet32
import Derived.ScopeJumps
import Derived.WalkMore
import Derived.OwnWalk
namespace Go.Proofs.YtnikfeaggppmpaaDoor.Rd
open Go.RowKit Go.Proofs.YtnikfeaggppmpaaDoor.PM Go.Proofs.YtnikfeaggppmpaaDoorW.PrintWords Go.Proofs.YtnikfeaggppmpaaDoorW.PrintLast Go.Proofs.YtnikfeaggppmpaaDoor.Base Go.Proofs.YtnikfeaggppmpaaDoor.Nam Go.Proofs.YtnikfeaggppmpaaDoor.QM
set_option linter.unusedVariables false
set_option linter.unusedSimpArgs false
set_option maxRecDepth 100000
def rdC (m : ByteArray) : Nat → Int → Int → Int → List (List Int) → Option (Option (List (List Int) × Int))
  | 0, _, _, _, _ => none
  | k + 1, p, e, low, ls =>
    if p < 0 ∨ (m.size : Int) ≤ p then some none
    else if bt m p = 0 then some (some (ls, if e < 0 then p + 1 else e))
    else if bt m p ≤ 63 ∧ p + bt m p < m.size ∧ ls.length < 127 then rdC m k (p + (1 + bt m p)) e low (ls ++ [((bytesOf m).take (p + 1 + bt m p).toNat).drop (p + 1).toNat])
    else if 192 ≤ bt m p ∧ p + 1 < m.size ∧ (bt m p - 192) * 256 + bt m (p + 1) < low then rdC m k ((bt m p - 192) * 256 + bt m (p + 1)) (if e < 0 then p + 2 else e) ((bt m p - 192) * 256 + bt m (p + 1)) ls
    else some none
theorem rdC_total (m : ByteArray) : ∀ (k : Nat) (p e low : Int) (ls : List (List Int)), low.toNat * 128 + (127 - ls.length) < k → ∃ r, rdC m k p e low ls = some r
  | 0, _, _, _, _, h => absurd h (Nat.not_lt_zero _)
  | k + 1, p, e, low, ls, h => by
    unfold rdC
    have r0 := bt_range m p
    have r1 := bt_range m (p + 1)
    repeat' split
    all_goals first
      | exact ⟨_, rfl⟩
      | (rename_i hc; exact rdC_total m k _ _ _ _ (by simp only [List.length_append, List.length_cons, List.length_nil]; omega))
      | (rename_i hc; exact rdC_total m k _ _ _ _ (by omega))
def rdV : Option (List (List Int) × Int) → List Int × Int × Bool
  | none => ([], 0, false)
  | some (ls, e) => if mkOk ls = true then (mkL ls, e, true) else ([], 0, false)
def rdOut (r : Option (List (List Int) × Int)) : Value := .tuple #[.string (strOfNums (rdV r).1), .int .i64 (rdV r).2.1, .bool (rdV r).2.2]
theorem own_slice' {w : World} {base n : Nat} {e : TypeId} {size : Nat} {v : Value} {xs : List Value} (h : w.ownsRow base e size v n xs) : ∃ A c, v = .slice A n c := by
  rcases h.2 with ⟨rfl, rfl⟩ | ⟨g, cap, cur, rfl, _⟩
  · exact ⟨none, 0, rfl⟩
  · exact ⟨_, _, rfl⟩
def sliceLen : Value → Nat | .slice _ n _ => n | _ => 0
structure RHead (w : World) (m : ByteArray) (r : Option (List (List Int) × Int)) (wr : World) (p e low : Int) (v : Value) (ls : List (List Int)) (k : Nat) : Prop where
  out : rdC m k p e low ls = some r
  rng : -9223372036854775808 ≤ p ∧ p ≤ 9223372036854775807
  own : wr.ownsRow w.heap.size 9 1 v (ls.map strOfNums).length (encs Value.string (ls.map strOfNums))
  b8 : ∀ l ∈ ls, B8 l
  len : ls.length ≤ 127
  bel : Below w.heap.size w wr
def RFr (m : ByteArray) (a : Act) (p' e low : Int) (v : Value) : Prop := ∃ u : Nat → Value, a = { tmps := #[.string m, .int .i64 p', undef, undef, .string { data := #[] }, .int .i64 0, .bool false, v, .int .i64 e, .int .i64 low, u 10, u 11, u 12, u 13, u 14, u 15, u 16, u 17, u 18, u 19, u 20, u 21, u 22, u 23, u 24, u 25, u 26, u 27, u 28, u 29, u 30, u 31, u 32, u 33, u 34, u 35, u 36, u 37, u 38, u 39, u 40, u 41, u 42, u 43, u 44, u 45, u 46, u 47, u 48, u 49, u 50, u 51, u 52, u 53, u 54, u 55, u 56, u 57, u 58, u 59, u 60, u 61, u 62, u 63, u 64, u 65, u 66, u 67, u 68, u 69, u 70, u 71, u 72, u 73, u 74, u 75, u 76, u 77, u 78, u 79, u 80, u 81, u 82, u 83, u 84, u 85, u 86, u 87, u 88, u 89, u 90, u 91, u 92, u 93, u 94, u 95, u 96, u 97, u 98, u 99, u 100], defers := [] }
theorem RFr_mk (m : ByteArray) (p' e low : Int) (v : Value) (u10 u11 u12 u13 u14 u15 u16 u17 u18 u19 u20 u21 u22 u23 u24 u25 u26 u27 u28 u29 u30 u31 u32 u33 u34 u35 u36 u37 u38 u39 u40 u41 u42 u43 u44 u45 u46 u47 u48 u49 u50 u51 u52 u53 u54 u55 u56 u57 u58 u59 u60 u61 u62 u63 u64 u65 u66 u67 u68 u69 u70 u71 u72 u73 u74 u75 u76 u77 u78 u79 u80 u81 u82 u83 u84 u85 u86 u87 u88 u89 u90 u91 u92 u93 u94 u95 u96 u97 u98 u99 u100 : Value) : RFr m { tmps := #[.string m, .int .i64 p', undef, undef, .string { data := #[] }, .int .i64 0, .bool false, v, .int .i64 e, .int .i64 low, u10, u11, u12, u13, u14, u15, u16, u17, u18, u19, u20, u21, u22, u23, u24, u25, u26, u27, u28, u29, u30, u31, u32, u33, u34, u35, u36, u37, u38, u39, u40, u41, u42, u43, u44, u45, u46, u47, u48, u49, u50, u51, u52, u53, u54, u55, u56, u57, u58, u59, u60, u61, u62, u63, u64, u65, u66, u67, u68, u69, u70, u71, u72, u73, u74, u75, u76, u77, u78, u79, u80, u81, u82, u83, u84, u85, u86, u87, u88, u89, u90, u91, u92, u93, u94, u95, u96, u97, u98, u99, u100], defers := [] } p' e low v :=
  ⟨fun j => [u10, u11, u12, u13, u14, u15, u16, u17, u18, u19, u20, u21, u22, u23, u24, u25, u26, u27, u28, u29, u30, u31, u32, u33, u34, u35, u36, u37, u38, u39, u40, u41, u42, u43, u44, u45, u46, u47, u48, u49, u50, u51, u52, u53, u54, u55, u56, u57, u58, u59, u60, u61, u62, u63, u64, u65, u66, u67, u68, u69, u70, u71, u72, u73, u74, u75, u76, u77, u78, u79, u80, u81, u82, u83, u84, u85, u86, u87, u88, u89, u90, u91, u92, u93, u94, u95, u96, u97, u98, u99, u100].getD (j - 10) undef, rfl⟩
def RJ (w : World) (m : ByteArray) (r : Option (List (List Int) × Int)) (a : Act) (wr : World) : Prop := ∃ (p' e low : Int) (v : Value) (ls : List (List Int)) (k : Nat), RFr m a p' e low v ∧ RHead w m r wr p' e low v ls k
def rMu (a : Act) : Nat := (intOf (a.tmps.getD 9 undef)).toNat * 128 + (127 - sliceLen (a.tmps.getD 7 undef))
theorem rMu_of {m : ByteArray} {a : Act} {p e low : Int} {v : Value} (h : RFr m a p e low v) : rMu a = low.toNat * 128 + (127 - sliceLen v) := by
  obtain ⟨u, rfl⟩ := h
  rfl
theorem wp_scope_jumps2 {P : Program} {a : Act} {w : World} {Q : Exit → Act → World → Prop} {c X : Code} (l : Nat) (J : Act → World → Prop) (μ : Act → World → Nat) (hf : findLabel c l = some (Code.skip.seq X))
    (pass : ∀ a w, J a w → X.wp P (Exit.jump l (fun a' w' => J a' w' ∧ μ a' w' < μ a w) Q) a w)
    (first : (∀ a w, J a w → X.wp P (Exit.jump l J Q) a w) → c.wp P (Exit.jump l J Q) a w) : (Code.scope c).wp P Q a w :=
  wp_scope_jumps l J μ hf (first fun a w hJ => Code.wp_mono (by
    intro e a' w' h
    cases e <;> first | exact h | exact ⟨h.1, h.2.1⟩) (pass a w hJ)) (fun a w hJ => by
      refine wp_seq ?_
      refine wp_skip ?_
      exact pass a w hJ)
theorem and16383 {b c : Int} (h0 : 192 ≤ b) (h1 : b < 256) (h2 : 0 ≤ c) (h3 : c < 256) : Go.bits .and .u16 (b * 256 + c) 16383 = (b - 192) * 256 + c := by
  have e : Go.bits .and .u16 (b * 256 + c) 16383 = (b * 256 + c) % 16384 := bits_mask .u16 16 (by decide) wraps_u16 14 (by decide) (b * 256 + c) (by omega) (by omega)
  rw [e]
  omega
theorem infoStr : (Tryd.prog.info? 9).map (fun i => (i.zero, i.size, i.bytes)) = some (some (.string ByteArray.empty), 1, 16) := by kernel_rfl
set_option maxHeartbeats 4000000 in
theorem read_ (m : ByteArray) (p : Int) (k : Nat) (r : Option (List (List Int) × Int)) (h : rdC m k p (-1) p [] = some r) (hm : m.size ≤ 1000000000) (hp : -9223372036854775808 ≤ p ∧ p ≤ 9223372036854775807) (w : World) :
    Calls Tryd.prog 27 #[.string m, .int .i64 p] w fun e w' => e = .returned (rdOut r) ∧ Below w.heap.size w w' := by
  have H := Lib.hid h
  clear h
  go_enter Tryd.func27, Tryd.ntmps27
  go_wp2
  refine wp_scope_jumps2 0 (RJ w m r) (fun a _ => rMu a) rfl ?_ ?_
  case refine_2 =>
    intro hpass
    go_wp2
    go_step3
    rename_i K1 hK1
    refine hK1 _ _ ?_
    exact hpass _ _ ⟨p, -1, p, .slice none 0 0, [], k, RFr_mk _ _ _ _ _ _ _ _ _ _ _ _ _ _ _ _ _ _ _ _ _ _ _ _ _ _ _ _ _ _ _ _ _ _ _ _ _ _ _ _ _ _ _ _ _ _ _ _ _ _ _ _ _ _ _ _ _ _ _ _ _ _ _ _ _ _ _ _ _ _ _ _ _ _ _ _ _ _ _ _ _ _ _ _ _ _ _ _ _ _ _ _ _ _ _ _ , ⟨H.out, hp, World.ownsRow_nil _ _ _ _, by simp, by simp, Below.refl _ _⟩⟩
  case refine_1 =>
    rintro a' wr ⟨p', e, low, v, ls, k', hF, hA0⟩
    have hmu := rMu_of hF
    obtain ⟨u, rfl⟩ := hF
    have hA := Aside0.mk hA0
    clear hA0
    have h := hA.out.out
    obtain ⟨A, c, hv⟩ := own_slice' hA.out.own
    subst hv
    cases k' with
    | zero => cases h
    | succ k1 =>
    unfold rdC at h
    have hpr := hA.out.rng
    have HB := Lib.hid hA.out.bel
    by_cases c1 : p' < 0 ∨ (m.size : Int) ≤ p'
    · rw [if_pos c1] at h
      obtain rfl := Option.some.inj h
      clear h hmu hA
      rcases c1 with c1 | c1
      · have d1 : decide (p' < 0) = true := decide_eq_true c1
        go_wp2
        simp only [Exit.jump]
        go_ret3
        exact ⟨rfl, HB.out⟩
      · by_cases c0 : p' < 0
        · have d1 : decide (p' < 0) = true := decide_eq_true c0
          go_wp2
          simp only [Exit.jump]
          go_ret3
          exact ⟨rfl, HB.out⟩
        · have d1 : decide (p' < 0) = false := decide_eq_false c0
          have d2 : decide ((m.size : Int) ≤ p') = true := decide_eq_true c1
          go_wp2
          simp only [Exit.jump]
          go_ret3
          exact ⟨rfl, HB.out⟩
    · rw [if_neg c1] at h
      obtain ⟨q, rfl⟩ : ∃ q : Nat, p' = q := ⟨p'.toNat, by omega⟩
      have hq : q < m.size := by omega
      have d1 : decide ((q : Int) < 0) = false := decide_eq_false (by omega)
      have d2 : decide ((m.size : Int) ≤ (q : Int)) = false := decide_eq_false (by omega)
      have d3 : decide (m.size ≤ q) = false := decide_eq_false (by omega)
      have hx : ∀ h : q < m.size, ((m[q]'h).toNat : Int) = bt m q := bt_at m q
      have hbr := bt_range m q
      obtain ⟨b, hb⟩ : ∃ b, bt m q = b := ⟨_, rfl⟩
      rw [hb] at h hx hbr
      have HBQ := Lib.hid hb
      clear hb c1 hpr
      obtain ⟨hb0, hb1⟩ := hbr
      by_cases c2 : b = 0
      · rw [if_pos c2] at h
        have hr := Option.some.inj h
        have HR := Lib.hid hr
        subst c2
        clear h hr hmu
        have hmk : name_Make.f (ls.map strOfNums) = some (strOfNums (mk ls), mkOk ls) := by
          unfold name_Make.f
          have e1 : (ls.map strOfNums).map bytesOf = ls := by
            rw [List.map_map]
            conv => rhs; rw [← List.map_id ls]
            exact List.map_congr_left fun l hl => bytes_str (hA.out.b8 l hl)
          rw [e1]
        have hCC := Kd.R_reads' (Kd.R_of_own (enc := Value.string) (h1 := fun _ => rfl) (ok := fun _ => True) hA.out.own (fun _ _ => trivial))
        have HC := Lib.hid hCC
        have HMK := Lib.hid hmk
        obtain ⟨ss, hss⟩ : ∃ ss, ls.map strOfNums = ss := ⟨_, rfl⟩
        rw [hss] at HC HMK ⊢
        clear hCC hmk hA hss
        by_cases c3 : e < 0
        all_goals
          (try have d4 : decide (e < 0) = true := decide_eq_true c3)
          (try have d4 : decide (e < 0) = false := decide_eq_false c3)
          first | rw [if_pos c3] at HR | rw [if_neg c3] at HR
          go_wp2_with fail
          refine (name_Make.calls A c ss _ _ wr HC.out.2.2 HC.out.2.1 HMK.out).mono ?_
          rintro e2 w2 ⟨rfl, hb⟩
          have HB2 := Lib.hid (HB.out.trans (hb.mono HB.out.size))
          clear hb
          have hok : mkOk ls = true ∨ mkOk ls = false := by cases mkOk ls <;> simp
          rcases hok with hok | hok
          · have hm1 : mk ls = mkL ls := by unfold mk; rw [if_pos hok]
            rw [hok, hm1]
            have HOK := Lib.hid hok
            clear hm1 hok
            go_wp2
            simp only [Exit.jump]
            go_ret3
            exact ⟨by rw [← HR.out]; unfold rdOut rdV; simp only [HOK.out, if_true]; rfl, HB2.out⟩
          · rw [hok]
            have HOK := Lib.hid hok
            clear hok
            go_wp2
            simp only [Exit.jump]
            go_ret3
            exact ⟨by rw [← HR.out]; unfold rdOut rdV; simp only [HOK.out, if_false]; rfl, HB2.out⟩
      · rw [if_neg c2] at h
        have d5 : (b == 0) = false := by simpa using c2
        have d5' : decide (b = 0) = false := by simpa using c2
        obtain ⟨nl, hnl⟩ : ∃ nl, (ls.map strOfNums).length = nl := ⟨_, rfl⟩
        have hnl2 : nl = ls.length := by rw [← hnl, List.length_map]
        by_cases c3 : b ≤ 63 ∧ (q : Int) + b < m.size ∧ ls.length < 127
        · rw [if_pos c3] at h
          obtain ⟨c31, c32, c33⟩ := c3
          have d6 : decide (b ≤ 63) = true := decide_eq_true c31
          have d7 : decide ((q : Int) + b < (m.size : Int)) = true := decide_eq_true c32
          have d8 : decide ((nl : Int) < 127) = true := decide_eq_true (by omega)
          have d9 : decide (nl < 127) = true := decide_eq_true (by omega)
          obtain ⟨lab, hlab⟩ : ∃ lab, ((bytesOf m).take ((q : Int) + 1 + b).toNat).drop ((q : Int) + 1).toNat = lab := ⟨_, rfl⟩
          have hl8 : B8 lab := by rw [← hlab]; exact ((of_b8 m).take _).drop _
          have hsl : ∀ wx : World, (Instr.slice 9 (.string m) (some (.int .i64 ((q : Int) + 1))) (some (.int .i64 ((q : Int) + 1 + b))) none).run Tryd.prog wx = .ok (.string (strOfNums lab)) wx := fun wx => by
            rw [run_slice_string wx _ _ .i64 .i64 _ _ Tryd.underlying9 (by omega) (by omega) (by omega)]
            congr 2
            apply str_inj'
            rw [bytes_str hl8, bytes_ex, hlab]
          rw [hlab] at h
          have HH := Lib.hid h
          have HL8 := Lib.hid hl8
          have HO := hA.out.own
          have HMU := Lib.hid hmu
          have HNL := Lib.hid hnl
          have HNL2 := Lib.hid hnl2
          clear h hl8 hmu hlab
          rw [hnl] at HO HMU ⊢
          have HOO := Lib.hid HO
          have hnb : nl ≤ 127 := by omega
          clear HO hnl hnl2
          go_wp2_with (at_builtin; refine print_append_of (w0 := wr) Value.string w.heap.size rfl (.tmp 60) (.tmp 69) 102 9 (.string ByteArray.empty) 16 rfl Tryd.underlying102 infoStr rfl (by decide) (.slice A nl c) (ls.map strOfNums) (strOfNums lab) rfl rfl rfl ?ho (Below.refl _ _) ?hb ?hl ?_)
          case ho => rw [← HNL2.out]; exact HOO.out
          case hb => exact HB.out.size
          case hl => rw [← HNL2.out]; omega
          intro v1 w2 hown hb2 hg _
          have hown2 : w2.ownsRow w.heap.size 9 1 v1 ((ls ++ [lab]).map strOfNums).length (encs Value.string ((ls ++ [lab]).map strOfNums)) := by
            rw [List.map_append]
            simpa using hown
          have HB2 := Lib.hid (HB.out.trans hb2)
          have HO2 := Lib.hid hown2
          clear hown hown2 hb2 hg
          go_wp2
          go_step3
          have hnew : RHead w m r w2 ((q : Int) + (1 + b)) e low v1 (ls ++ [lab]) k1 := ⟨HH.out, by omega, HO2.out, fun l hl => by
            rcases List.mem_append.1 hl with hl | hl
            · exact hA.out.b8 l hl
            · simp at hl; subst hl; exact HL8.out, by simp; omega, HB2.out⟩
          have hlen1 : sliceLen v1 = nl + 1 := by
            obtain ⟨A1, c1, hv1⟩ := own_slice' HO2.out
            rw [hv1]
            simp [sliceLen, HNL2.out]
          refine (show (0 = 0 ∧ RJ w m r _ w2 ∧ rMu _ < rMu _) from ⟨rfl, ⟨_, _, _, _, _, k1, RFr_mk _ _ _ _ _ _ _ _ _ _ _ _ _ _ _ _ _ _ _ _ _ _ _ _ _ _ _ _ _ _ _ _ _ _ _ _ _ _ _ _ _ _ _ _ _ _ _ _ _ _ _ _ _ _ _ _ _ _ _ _ _ _ _ _ _ _ _ _ _ _ _ _ _ _ _ _ _ _ _ _ _ _ _ _ _ _ _ _ _ _ _ _ _ _ _ _ , hnew⟩, ?_⟩)
          rw [HMU.out, rMu_of (RFr_mk _ _ _ _ _ _ _ _ _ _ _ _ _ _ _ _ _ _ _ _ _ _ _ _ _ _ _ _ _ _ _ _ _ _ _ _ _ _ _ _ _ _ _ _ _ _ _ _ _ _ _ _ _ _ _ _ _ _ _ _ _ _ _ _ _ _ _ _ _ _ _ _ _ _ _ _ _ _ _ _ _ _ _ _ _ _ _ _ _ _ _ _ _ _ _ _ ), hlen1]
          show _ < low.toNat * 128 + (127 - nl)
          have := HNL2.out
          omega
        · rw [if_neg c3] at h
          have hcond : ((decide (b ≤ 63) && decide ((q : Int) + b < (m.size : Int))) && decide ((nl : Int) < 127)) = false := by
            by_cases q1 : b ≤ 63
            · by_cases q2 : (q : Int) + b < m.size
              · have q3 : ¬ (nl : Int) < 127 := fun q4 => c3 ⟨q1, q2, by omega⟩
                simp [q3]
              · simp [q2]
            · simp [q1]
          by_cases c4 : 192 ≤ b ∧ (q : Int) + 1 < m.size ∧ (b - 192) * 256 + bt m ((q : Int) + 1) < low
          · rw [if_pos c4] at h
            obtain ⟨c41, c42, c43⟩ := c4
            have d6 : decide (b ≤ 63) = false := decide_eq_false (by omega)
            have d7 : decide (192 ≤ b) = true := decide_eq_true c41
            have hget := get16_in m q (by omega) (by omega) (by omega)
            have hbr1 := bt_range m ((q : Int) + 1)
            rw [HBQ.out] at hget
            obtain ⟨b1, hb1⟩ : ∃ b1, bt m ((q : Int) + 1) = b1 := ⟨_, rfl⟩
            rw [hb1] at hget hbr1 h c43
            obtain ⟨x, hx2⟩ : ∃ x, b * 256 + b1 = x := ⟨_, rfl⟩
            obtain ⟨y, hy⟩ : ∃ y, (b - 192) * 256 + b1 = y := ⟨_, rfl⟩
            have hand : Go.bits .and .u16 x 16383 = y := by rw [← hx2, ← hy]; exact and16383 (by omega) (by omega) (by omega) (by omega)
            rw [hx2] at hget
            rw [hy] at h c43
            have hy0 : 0 ≤ y := by omega
            have hy1 : y < 16384 := by omega
            have HH := Lib.hid h
            have HG := Lib.hid hget
            have HMU := Lib.hid hmu
            have HAND := Lib.hid hand
            have HNL2 := Lib.hid hnl2
            rw [hnl] at HMU
            clear h hget hmu hnl hnl2 hbr1 hb1 hx2 hy hand
            have d8 : decide (low ≤ y) = false := decide_eq_false (by omega)
            by_cases c5 : e < 0
            all_goals
              (try have d9 : decide (e < 0) = true := decide_eq_true c5)
              (try have d9 : decide (e < 0) = false := decide_eq_false c5)
              have HH2 := HH.out
              first | rw [if_pos c5] at HH2 | rw [if_neg c5] at HH2
              have HH3 := Lib.hid HH2
              clear HH2
              go_wp2_with fail
              refine (num_Get16.calls m q _ true wr HG.out).mono ?_
              rintro e2 w2 ⟨rfl, ⟨nn, rfl⟩⟩
              have hand := HAND.out
              go_wp2
              go_step3
              have hnew := (show RHead w m r (wr.drewN nn) y _ y (.slice A (ls.map strOfNums).length c) ls k1 from ⟨HH3.out, by omega, hA.out.own, hA.out.b8, hA.out.len, pw_below_drewN hA.out.bel nn⟩)
              refine (show (0 = 0 ∧ RJ w m r _ (wr.drewN nn) ∧ rMu _ < rMu _) from ⟨rfl, ⟨_, _, _, _, _, k1, RFr_mk _ _ _ _ _ _ _ _ _ _ _ _ _ _ _ _ _ _ _ _ _ _ _ _ _ _ _ _ _ _ _ _ _ _ _ _ _ _ _ _ _ _ _ _ _ _ _ _ _ _ _ _ _ _ _ _ _ _ _ _ _ _ _ _ _ _ _ _ _ _ _ _ _ _ _ _ _ _ _ _ _ _ _ _ _ _ _ _ _ _ _ _ _ _ _ _ , by simpa using hnew⟩, ?_⟩)
              rw [rMu_of (RFr_mk _ _ _ _ _ _ _ _ _ _ _ _ _ _ _ _ _ _ _ _ _ _ _ _ _ _ _ _ _ _ _ _ _ _ _ _ _ _ _ _ _ _ _ _ _ _ _ _ _ _ _ _ _ _ _ _ _ _ _ _ _ _ _ _ _ _ _ _ _ _ _ _ _ _ _ _ _ _ _ _ _ _ _ _ _ _ _ _ _ _ _ _ _ _ _ _ ), rMu_of (RFr_mk _ _ _ _ _ _ _ _ _ _ _ _ _ _ _ _ _ _ _ _ _ _ _ _ _ _ _ _ _ _ _ _ _ _ _ _ _ _ _ _ _ _ _ _ _ _ _ _ _ _ _ _ _ _ _ _ _ _ _ _ _ _ _ _ _ _ _ _ _ _ _ _ _ _ _ _ _ _ _ _ _ _ _ _ _ _ _ _ _ _ _ _ _ _ _ _ )]
              simp only [sliceLen]
              have := HNL2.out
              (try simp only [List.length_map])
              omega
          · rw [if_neg c4] at h
            obtain rfl := Option.some.inj h
            clear h hmu
            have hnl3 : nl = ls.length := hnl2
            have HNL := Lib.hid hnl
            by_cases q1 : b ≤ 63
            · have d6 : decide (b ≤ 63) = true := decide_eq_true q1
              have d9 : decide (192 ≤ b) = false := decide_eq_false (by omega)
              by_cases q2 : (q : Int) + b < m.size
              · have d7 : decide ((q : Int) + b < (m.size : Int)) = true := decide_eq_true q2
                have d8 : decide (ls.length < 127) = false := decide_eq_false (fun q4 => c3 ⟨q1, q2, q4⟩)
                have d8' : decide ((ls.length : Int) < 127) = false := decide_eq_false (by have := of_decide_eq_false d8; omega)
                clear hA hnl hnl2 hnl3
                go_wp2
                simp only [Exit.jump]
                go_ret3
                exact ⟨rfl, HB.out⟩
              · have d7 : decide ((q : Int) + b < (m.size : Int)) = false := decide_eq_false q2
                clear hA hnl hnl2 hnl3
                go_wp2
                simp only [Exit.jump]
                go_ret3
                exact ⟨rfl, HB.out⟩
            · have d6 : decide (b ≤ 63) = false := decide_eq_false q1
              by_cases q3 : 192 ≤ b
              · have d9 : decide (192 ≤ b) = true := decide_eq_true q3
                by_cases q4 : (q : Int) + 1 < m.size
                · have hget := get16_in m q (by omega) (by omega) (by omega)
                  have hbr1 := bt_range m ((q : Int) + 1)
                  rw [HBQ.out] at hget
                  obtain ⟨b1, hb1⟩ : ∃ b1, bt m ((q : Int) + 1) = b1 := ⟨_, rfl⟩
                  rw [hb1] at hget hbr1 c4
                  obtain ⟨x, hx2⟩ : ∃ x, b * 256 + b1 = x := ⟨_, rfl⟩
                  obtain ⟨y, hy⟩ : ∃ y, (b - 192) * 256 + b1 = y := ⟨_, rfl⟩
                  have hand : Go.bits .and .u16 x 16383 = y := by rw [← hx2, ← hy]; exact and16383 (by omega) (by omega) (by omega) (by omega)
                  rw [hx2] at hget
                  rw [hy] at c4
                  have hy0 : 0 ≤ y := by omega
                  have hy1 : y < 16384 := by omega
                  have d8 : decide (low ≤ y) = true := decide_eq_true (by omega)
                  have HG := Lib.hid hget
                  have HAND := Lib.hid hand
                  clear hget hbr1 hb1 hx2 hy hand hA hnl hnl2 hnl3 c4 c3
                  by_cases c5 : e < 0
                  all_goals
                    (try have d10 : decide (e < 0) = true := decide_eq_true c5)
                    (try have d10 : decide (e < 0) = false := decide_eq_false c5)
                    go_wp2_with fail
                    refine (num_Get16.calls m q _ true wr HG.out).mono ?_
                    rintro e2 w2 ⟨rfl, ⟨nn, rfl⟩⟩
                    have hand := HAND.out
                    go_wp2
                    simp only [Exit.jump]
                    go_ret3
                    exact ⟨rfl, pw_below_drewN HB.out nn⟩
                · have hget := get16_out m q (by omega) (by omega)
                  have HG := Lib.hid hget
                  clear hget hA hnl hnl2 hnl3 c4 c3
                  by_cases c5 : e < 0
                  all_goals
                    (try have d10 : decide (e < 0) = true := decide_eq_true c5)
                    (try have d10 : decide (e < 0) = false := decide_eq_false c5)
                    go_wp2_with fail
                    refine (num_Get16.calls m q _ false wr HG.out).mono ?_
                    rintro e2 w2 ⟨rfl, ⟨nn, rfl⟩⟩
                    go_wp2
                    simp only [Exit.jump]
                    go_ret3
                    exact ⟨rfl, pw_below_drewN HB.out nn⟩
              · have d9 : decide (192 ≤ b) = false := decide_eq_false q3
                clear hA hnl hnl2 hnl3
                go_wp2
                simp only [Exit.jump]
                go_ret3
                exact ⟨rfl, HB.out⟩
end Go.Proofs.YtnikfeaggppmpaaDoor.Rd
