/-
  The law PointRead walked: what Read reads the law's own reading reads. No macro, syntax, notation, axiom, sorry.
-/
import Derived.Test.YtdmpmcmpkmldnaaPPx4
import Derived.Test.YtdmpmcmpkmldnaaRdL
import Derived.Deep.QuietTactic
import Derived.BigQuiet
namespace Go.Proofs.Ytdmpmcmpkmldnaa.PP
open Go.RowKit Go.Proofs.YtdmpmcmpkmldnaaW.PrintWords Go.Proofs.YtdmpmcmpkmldnaaW.PrintLast Go.Proofs.Ytdmpmcmpkmldnaa.Base Go.Proofs.Ytdmpmcmpkmldnaa.Nam Go.Proofs.Ytdmpmcmpkmldnaa.Trn Go.Proofs.Ytdmpmcmpkmldnaa.MapS Go.Proofs.Ytdmpmcmpkmldnaa.Wr Go.Proofs.Ytdmpmcmpkmldnaa.Rd
set_option linter.unusedVariables false
set_option linter.unusedSimpArgs false
set_option maxRecDepth 100000

def bolterlaw03_PointRead.f (a0 : ByteArray) (a1 : Int) : Option Bool := if a0.size ≤ 1048576 ∧ -9223372036854775808 ≤ a1 ∧ a1 ≤ 9223372036854775807 then some true else none
theorem rdV_len (r : Option (List (List Int) × Int)) : (rdV r).1.length ≤ 254 := by
  unfold rdV
  split
  · simp
  · split
    · rename_i h
      exact ((mkOk_iff _).1 h).2
    · simp
set_option maxHeartbeats 2000000 in
theorem bolterlaw03_PointRead.calls (a0 : ByteArray) (a1 : Int) (r : Bool) (w : World) (h : bolterlaw03_PointRead.f a0 a1 = some r) :
    Calls Try.prog 3 #[.string a0, .int .i64 a1] w fun e w' => e = .returned (.bool r) ∧ Below w.heap.size w w' := by
  unfold bolterlaw03_PointRead.f at h
  by_cases hc : a0.size ≤ 1048576 ∧ -9223372036854775808 ≤ a1 ∧ a1 ≤ 9223372036854775807
  case neg => rw [if_neg hc] at h; cases h
  rw [if_pos hc] at h
  obtain rfl := Option.some.inj h
  clear h
  obtain ⟨hsz, hp⟩ := hc
  have HS := Lib.hid hsz
  obtain ⟨k, hk⟩ : ∃ k, (a1.toNat * 128 + 127 + 1) = k := ⟨_, rfl⟩
  obtain ⟨q, hq⟩ := rdC_total a0 k a1 (-1) a1 [] (by simp; omega)
  have HR := Lib.hid (fun w => read_ a0 a1 k q hq (by omega) hp w)
  have HQL := Lib.hid (rdV_len q)
  have HV : Hid ((rdV q).2.2 = true → nm (rdV q).1 = true ∧ B8 (rdV q).1) := by
    refine Lib.hid fun hv => ?_
    cases q with
    | none => cases hv
    | some x =>
      obtain ⟨ls, e⟩ := x
      have hb := rdC_b8 a0 k _ _ _ _ _ _ hq (fun l hl => by cases hl)
      by_cases ho : mkOk ls = true
      · have e0 : rdV (some (ls, e)) = (mkL ls, e, true) := if_pos ho
        rw [e0]
        refine ⟨mk_nm ho hb, ?_⟩
        have := mk_b8 hb
        rwa [mk, if_pos ho] at this
      · have e0 : rdV (some (ls, e)) = ([], 0, false) := if_neg ho
        rw [e0] at hv
        cases hv
  have HL : Hid (a0.size ≤ 3000 → bolterlaw03_read.f 9301 a0 a1 = some (strOfNums (rdV q).1, (rdV q).2.1, (rdV q).2.2)) := by
    refine Lib.hid fun hm => ?_
    rw [read_f a0 hm a1, rdO, rd_same a0 hm a1 k q hq]
  have hv0 : (rdV q).2.2 = false → (rdV q).2.1 = 0 := by
    intro hv
    cases q with
    | none => rfl
    | some y =>
      obtain ⟨ls, e⟩ := y
      by_cases ho : mkOk ls = true
      · rw [show rdV (some (ls, e)) = (mkL ls, e, true) from if_pos ho] at hv
        cases hv
      · rw [show rdV (some (ls, e)) = ([], 0, false) from if_neg ho]
  have HV0 := Lib.hid hv0
  clear hv0
  obtain ⟨x, hx⟩ : ∃ x, (rdV q).1 = x := ⟨_, rfl⟩
  obtain ⟨e1, he1⟩ : ∃ x, (rdV q).2.1 = x := ⟨_, rfl⟩
  obtain ⟨ok, hok⟩ : ∃ x, (rdV q).2.2 = x := ⟨_, rfl⟩
  unfold rdOut at HR
  rw [hx, hok] at HV
  rw [he1, hok] at HV0
  rw [hx] at HQL
  rw [hx, he1, hok] at HL HR
  clear hx he1 hok hq hk hp
  have HM := Lib.hid (fun w => may_ (strOfNums x) (by rw [str_size]; have := HQL.out; omega) w)
  go_enter Try.func3, Try.ntmps3
  go_wp2_with fail
  refine (awake_ w).mono ?_
  rintro e w1 ⟨rfl, hb⟩
  have HB := Lib.hid hb
  clear hb
  by_cases hm : 3000 < a0.size
  · have hm1 : decide ((3000 : Int) < a0.size) = true := decide_eq_true (by omega)
    go_wp2
    go_ret
    exact ⟨by first | rfl | simp, HB.out⟩
  · have hm1 : ¬ (3000 : Int) < a0.size := by omega
    have HL1 := Lib.hid (HL.out (by omega))
    go_wp2_with fail
    refine (HR.out w1).mono ?_
    rintro e w2 ⟨rfl, hb⟩
    have HB2 := Lib.hid (HB.out.trans (hb.mono HB.out.size))
    clear hb
    go_wp2_with fail
    go_at_call 10
    refine (bolterlaw03_read.calls 9301 a0 a1 _ _ _ w2 HL1.out).mono ?_
    rintro e w3 ⟨rfl, hb⟩
    have HB3 := Lib.hid (HB2.out.trans (hb.mono HB2.out.size))
    clear hb
    cases ok with
    | false =>
      have he0 : e1 = 0 := HV0.out rfl
      subst he0
      go_wp2
      go_ret
      exact ⟨by first | rfl | simp, HB3.out⟩
    | true =>
      obtain ⟨hnm, hb8⟩ := HV.out rfl
      have HBY := Lib.hid (bytes_str hb8)
      have HNM := Lib.hid hnm
      clear hnm hb8
      go_wp2_with fail
      refine (HM.out w3).mono ?_
      rintro e w4 ⟨rfl, hb⟩
      rw [HBY.out, HNM.out]
      have HB4 := Lib.hid (HB3.out.trans (hb.mono HB3.out.size))
      clear hb
      go_wp2
      go_ret
      exact ⟨by first | rfl | simp, HB4.out⟩
end Go.Proofs.Ytdmpmcmpkmldnaa.PP
