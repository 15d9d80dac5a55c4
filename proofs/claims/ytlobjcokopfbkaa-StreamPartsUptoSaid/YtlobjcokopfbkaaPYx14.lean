/- part of a proof; what it has no use for was struck out -/
import Derived.Test.YtlobjcokopfbkaaChn
import Derived.Test.YtlobjcokopfbkaaPYx12
import Derived.Test.YtlobjcokopfbkaaPYx9
import Derived.Test.YtlobjcokopfbkaaPYx3
namespace Go.Proofs.Ytlobjcokopfbkaa.PY
open Go.RowKit Go.Proofs.YtlobjcokopfbkaaW Go.Proofs.YtlobjcokopfbkaaW.PrintWords Go.Proofs.YtlobjcokopfbkaaW.PrintLast Go.Proofs.YtlobjcokopfbkaaW.PrintMore Go.Proofs.Ytlobjcokopfbkaa.Base Go.Proofs.Ytlobjcokopfbkaa.Nam Go.Proofs.Ytlobjcokopfbkaa.Soa Go.Proofs.Ytlobjcokopfbkaa.QY Go.Proofs.Ytlobjcokopfbkaa.Str
set_option linter.unusedVariables false
set_option linter.unusedSimpArgs false
set_option maxRecDepth 100000
theorem cut_R (A : Option Addr) (n c i : Nat) (hi : i ≤ c) (hin : i ≤ n) (W : World) : (Instr.slice 24 (.slice A n c) none (some (.int .i64 (i : Int))) none).run Try.prog W = .ok (.slice A i c) W := by
  obtain ⟨i0, hi0, hz0, hz1, hz2⟩ := info_parts info32
  have hel : Try.prog.elem 24 = 32 := by simp [Program.elem, Try.underlying24]
  have hu : Try.prog.underlying 24 = some (.slice (Try.prog.elem 24)) := by rw [hel]; exact Try.underlying24
  have hsz : ∀ W : World, (sizeOf 32).run Try.prog W = .ok 4 W := fun W => by simp [sizeOf, typeInfo, hi0, hz1]
  rw [run_slice_h W _ _ n c hu .i64 (i : Int) (by omega) (by omega), hel]
  simp only [hsz, Result.andThen, sliced, Int.toNat_natCast, Nat.zero_mul, Nat.sub_zero]
  congr 2
  cases A with
  | none => split <;> rfl
  | some ad => split <;> rfl
theorem Origin_ev2 (n : Int) (h0 : 0 ≤ n) : Ev (fun k => bolterlaw09_Origin.f k n) (strOfNums (nameL [n % 6])) := by
  have ht : Int.tmod n 6 = n % 6 := Int.tmod_eq_emod_of_nonneg h0
  obtain ⟨K, hK⟩ := Name_ev [n % 6] (B8.cons (by omega) (by omega) B8.nil) (by simp)
  refine ⟨K, fun k hk => ?_⟩
  have h := hK k hk
  simp only at h
  show bolterlaw09_Origin.f k n = _
  unfold bolterlaw09_Origin.f
  rw [ht, h]
  rfl
open Classical in
noncomputable def bolterlaw09_StreamParts.f (a0 : Int) (a1 : Int) (l2 : List (List LA)) : Option Bool := if (0 ≤ a0 ∧ a0 < 256) ∧ (0 ≤ a1 ∧ a1 < 4294967296) ∧ (∀ p ∈ l2, (∀ a ∈ p, WfL a) ∧ p.length ≤ 1048576) ∧ l2.length ≤ 1048576 then some true else none
set_option maxHeartbeats 4000000 in
theorem bolterlaw09_StreamParts.calls (a0 a1 : Int) (A2 : Option Addr) (c2 : Nat) (l2 : List (List LA)) (r : Bool) (w : World) (hr2 : Kd.C (Kd.slice 54 k54) w A2 l2.length l2) (hc2 : l2.length ≤ c2) (h : bolterlaw09_StreamParts.f a0 a1 l2 = some r) :
    Calls Try.prog 4 #[.int .u8 a0, .int .u32 a1, .slice A2 l2.length c2] w fun e w' => e = .returned (.bool r) ∧ Below w.heap.size w w' := by
  unfold bolterlaw09_StreamParts.f at h
  by_cases hc : (0 ≤ a0 ∧ a0 < 256) ∧ (0 ≤ a1 ∧ a1 < 4294967296) ∧ (∀ p ∈ l2, (∀ a ∈ p, WfL a) ∧ p.length ≤ 1048576) ∧ l2.length ≤ 1048576
  case neg => rw [if_neg hc] at h; cases h
  rw [if_pos hc] at h
  obtain rfl := Option.some.inj h
  clear h
  obtain ⟨ha0, ha1, hwl, hl⟩ := hc
  have HR2 := Lib.hid hr2
  have HWL := Lib.hid hwl
  have HA1 := Lib.hid ha1
  obtain ⟨k0, hk0⟩ := Ev.rounds (Origin_ev2 a0 ha0.1)
  obtain ⟨x, hx⟩ : ∃ x, strOfNums (nameL [a0 % 6]) = x := ⟨_, rfl⟩
  have hxs : x.size ≤ 1000 := by rw [← hx, str_size]; have := nameL_len [a0 % 6]; omega
  rw [hx] at hk0
  have HK0 := Lib.hid hk0
  clear hr2 hwl hk0 hx ha1
  go_enter Try.func4, Try.ntmps4
  go_wp2_with fail
  refine (bolterlaw09_awake.calls 0 true w rfl).mono ?_
  rintro e w1 ⟨rfl, hb⟩
  have HB1 := Lib.hid hb
  clear hb
  go_wp2_with fail
  with_reducible refine (bolterlaw09_Origin.calls k0 a0 x w1 HK0.out).mono ?_
  rintro e w2 ⟨rfl, hb⟩
  have HB2 := Lib.hid (HB1.out.trans (hb.mono HB1.out.size))
  clear hb HB1
  go_wp2_with fail
  with_reducible refine (chain_ x hxs a1 HA1.out A2 c2 l2 w2 (Kd.C_below HR2.out HB2.out) hc2 hl HWL.out).mono ?_
  rintro e w3 ⟨v5, rfl, hR, hb⟩
  have hlen := chain_len x a1 l2
  have hT := chain_two x a1 l2
  have hD := chain_done x a1 l2 HA1.out
  obtain ⟨rs, hrs⟩ : ∃ rs, chainL x a1 l2 = rs := ⟨_, rfl⟩
  rw [hrs] at hR hlen hT hD
  obtain ⟨A5, c5, rfl, hc5, hC⟩ := Kd.R_reads hR
  have HC := Lib.hid hC
  have HB3 := Lib.hid (HB2.out.trans (hb.mono HB2.out.size))
  have HT := Lib.hid hT
  have HD := Lib.hid hD
  clear hR hC hb HB2 hrs HR2 hT hD
  by_cases h2 : l2.length < 2
  · have d2 : decide ((l2.length : Int) < 2) = true := decide_eq_true (by omega)
    obtain ⟨kd, hkd⟩ := Ev.rounds (Done_ev rs (by omega))
    rw [(HT.out h2).2] at hkd
    have HKD := Lib.hid hkd
    clear h2 hkd
    go_wp2_with fail
    refine (stream_Done.calls kd A5 c5 rs true w3 HC.out hc5 HKD.out).mono ?_
    rintro e w4 ⟨rfl, hb⟩
    have HB4 := Lib.hid (HB3.out.trans (hb.mono HB3.out.size))
    clear hb
    go_wp2
    go_ret
    exact ⟨rfl, HB4.out⟩
  · have d2 : decide ((l2.length : Int) < 2) = false := decide_eq_false (by omega)
    have HD2 := Lib.hid (HD.out (by omega))
    clear h2 HD HT
    go_wp2_with fail
    go_loopw [8] (fun i wx => ∃ j : Nat, 2 ≤ j ∧ j ≤ rs.length ∧ i = .int .i64 j ∧ Aside0 (Below w3.heap.size w3 wx))
      (fun i _ => rs.length - (intOf i).toNat)
    case atStart => exact ⟨2, Nat.le_refl _, hlen.1, rfl, ⟨Below.refl _ _⟩⟩
    case round =>
      obtain ⟨j, hj2, hj, rfl, HX⟩ := hrel
      have HXC := Lib.hid (Kd.C_below HC.out HX.out)
      by_cases hlt : j < rs.length
      · have hsl := cut_R A5 rs.length c5 j (by omega) hj
        have htl : (rs.take j).length = j := by rw [List.length_take]; omega
        obtain ⟨kd, hkd⟩ := Ev.rounds (Done_ev (rs.take j) (by omega))
        rw [HD2.out.2 j hj2 hlt] at hkd
        have HKD := Lib.hid hkd
        have HTL := Lib.hid htl
        clear hkd htl
        go_wp2_with fail
        have key := stream_Done.calls kd A5 c5 (rs.take j) false wr (Kd.C_take HXC.out hj) (by rw [HTL.out]; omega) HKD.out
        rw [HTL.out] at key
        refine key.mono ?_
        clear key
        rintro e w4 ⟨rfl, hb⟩
        have HX4 := Lib.hid (HX.out.trans (hb.mono HX.out.size))
        clear hb
        go_wp2
        go_roundw
        case rel => exact ⟨j + 1, by omega, by omega, by go_num, ⟨HX4.out⟩⟩
        case measure => simp [intOf]; omega
      · obtain rfl : j = rs.length := by omega
        obtain ⟨kd, hkd⟩ := Ev.rounds (Done_ev rs (by omega))
        rw [HD2.out.1] at hkd
        have HKD := Lib.hid hkd
        clear hkd
        go_wp2_with fail
        refine (stream_Done.calls kd A5 c5 rs true wr HXC.out hc5 HKD.out).mono ?_
        rintro e w4 ⟨rfl, hb⟩
        have HB4 := Lib.hid (HB3.out.trans ((HX.out.trans (hb.mono HX.out.size)).mono HB3.out.size))
        clear hb
        go_wp2
        go_ret
        exact ⟨rfl, HB4.out⟩
end Go.Proofs.Ytlobjcokopfbkaa.PY
