/- part of a proof; what it has no use for was struck out -/
import Derived.Test.YtlobjcokopfbkaaUnd
import Derived.Test.YtlobjcokopfbkaaPYx12
import Derived.Test.YtlobjcokopfbkaaPYx9
import Derived.Test.YtlobjcokopfbkaaPYx3
namespace Go.Proofs.Ytlobjcokopfbkaa.PY
open Go.RowKit Go.Proofs.YtlobjcokopfbkaaW Go.Proofs.YtlobjcokopfbkaaW.PrintWords Go.Proofs.YtlobjcokopfbkaaW.PrintLast Go.Proofs.YtlobjcokopfbkaaW.PrintMore Go.Proofs.Ytlobjcokopfbkaa.Base Go.Proofs.Ytlobjcokopfbkaa.Nam Go.Proofs.Ytlobjcokopfbkaa.Soa Go.Proofs.Ytlobjcokopfbkaa.QY Go.Proofs.Ytlobjcokopfbkaa.Str
set_option linter.unusedVariables false
set_option linter.unusedSimpArgs false
set_option maxRecDepth 100000
attribute [local go_sem high] eqA32
theorem rec_at {w : World} {A : Option Addr} {rs : List R} (h : Kd.C k32 w A rs.length rs) (i : Nat) (r : R) (hr : rs[i]? = some r) :
    ∃ ad, A = some ad ∧ w.cell? (ad.add (i * 4)) = some (.string r.f0) ∧ w.cell? ⟨(ad.add (i * 4)).block, (ad.add (i * 4)).off + 1, none⟩ = some (.int .u16 r.f1) ∧ w.cell? ⟨(ad.add (i * 4)).block, (ad.add (i * 4)).off + 2, none⟩ = some (.int .u32 r.f2) ∧ w.cell? ⟨(ad.add (i * 4)).block, (ad.add (i * 4)).off + 3, none⟩ = some (.string r.f3) := by
  have hi := (List.getElem?_eq_some_iff.1 hr).1
  obtain ⟨ad, h0, h1, h2, h3, h4⟩ := at_T32 h (i : Int) (by omega) (by omega)
  rw [rd_R hr, show ((i : Int)).toNat = i by omega] at h1 h2 h3 h4
  exact ⟨ad, h0, h1, h2, h3, h4⟩
theorem underL_len (x : ByteArray) (l : List LA) (most : Nat) (soas : Bool) : (underL x l most soas).length ≤ most := by unfold underL; rw [List.length_map, List.length_take]; omega
theorem Origin_ev (n : Int) (h0 : 0 ≤ n) : Ev (fun k => bolterlaw09_Origin.f k n) (strOfNums (nameL [n % 6])) := by
  have ht : Int.tmod n 6 = n % 6 := Int.tmod_eq_emod_of_nonneg h0
  obtain ⟨K, hK⟩ := Name_ev [n % 6] (B8.cons (by omega) (by omega) B8.nil) (by simp)
  refine ⟨K, fun k hk => ?_⟩
  have h := hK k hk
  simp only at h
  show bolterlaw09_Origin.f k n = _
  unfold bolterlaw09_Origin.f
  rw [ht, h]
  rfl
open Classical in
noncomputable def bolterlaw09_StreamDone.f (a0 : Int) (l1 : List LA) : Option Bool := if (0 ≤ a0 ∧ a0 < 256) ∧ (∀ a ∈ l1, WfL a) ∧ l1.length ≤ 1048576 then some true else none
set_option maxHeartbeats 4000000 in
theorem bolterlaw09_StreamDone.calls (a0 : Int) (A1 : Option Addr) (c1 : Nat) (l1 : List LA) (r : Bool) (w : World) (hr1 : Kd.C k54 w A1 l1.length l1) (hc1 : l1.length ≤ c1) (h : bolterlaw09_StreamDone.f a0 l1 = some r) :
    Calls Try.prog 3 #[.int .u8 a0, .slice A1 l1.length c1] w fun e w' => e = .returned (.bool r) ∧ Below w.heap.size w w' := by
  unfold bolterlaw09_StreamDone.f at h
  by_cases hc : (0 ≤ a0 ∧ a0 < 256) ∧ (∀ a ∈ l1, WfL a) ∧ l1.length ≤ 1048576
  case neg => rw [if_neg hc] at h; cases h
  rw [if_pos hc] at h
  obtain rfl := Option.some.inj h
  clear h
  obtain ⟨ha0, hwl, hl⟩ := hc
  have HR1 := Lib.hid hr1
  have HWL := Lib.hid hwl
  obtain ⟨k0, hk0⟩ := Ev.rounds (Origin_ev a0 ha0.1)
  obtain ⟨x, hx⟩ : ∃ x, strOfNums (nameL [a0 % 6]) = x := ⟨_, rfl⟩
  have hxs : x.size ≤ 1000 := by rw [← hx, str_size]; have := nameL_len [a0 % 6]; omega
  rw [hx] at hk0
  have HK0 := Lib.hid hk0
  clear hr1 hwl hk0 hx
  go_enter Try.func3, Try.ntmps3
  go_wp2_with fail
  refine (bolterlaw09_awake.calls 0 true w rfl).mono ?_
  rintro e w1 ⟨rfl, hb⟩
  have HB1 := Lib.hid hb
  clear hb
  go_wp2_with fail
  with_reducible refine (bolterlaw09_Origin.calls k0 a0 x w1 HK0.out).mono ?_
  rintro e w2 ⟨rfl, hb⟩
  have HB2 := Lib.hid (HB1.out.trans (hb.mono HB1.out.size))
  clear hb HB1
  go_wp2_with fail
  have key := under_ x hxs A1 c1 l1 30 true w2 (Kd.C_below HR1.out HB2.out) hc1 hl (by decide) HWL.out
  rw [show ((30 : Nat) : Int) = 30 from rfl] at key
  with_reducible refine key.mono ?_
  clear key
  rintro e w3 ⟨v5, rfl, hR, hb⟩
  have hrl := underL_len x l1 30 true
  obtain ⟨rs, hrs⟩ : ∃ rs, underL x l1 30 true = rs := ⟨_, rfl⟩
  rw [hrs] at hR hrl
  obtain ⟨A5, c5, rfl, hc5, hC⟩ := Kd.R_reads hR
  have HC := Lib.hid hC
  have HB3 := Lib.hid (HB2.out.trans (hb.mono HB2.out.size))
  obtain ⟨kd, hkd⟩ := Ev.rounds (Done_ev rs (by omega))
  have HKD := Lib.hid hkd
  clear hR hC hb HB2 hrs hkd HR1
  obtain ⟨r0, hr0⟩ : ∃ r0, rs.headD z32 = r0 := ⟨_, rfl⟩
  have HR0 := Lib.hid hr0
  clear hr0
  go_wp2_with fail
  go_loopw [6, 18] (fun v6 i wx => ∃ j : Nat, j ≤ rs.length ∧ i = .int .i64 j ∧ v6 = .int .i64 (cnt (rs.take j) r0 : Int) ∧ Aside0 (Below w3.heap.size w3 wx))
    (fun _ i _ => rs.length - (intOf i).toNat)
  case atStart => exact ⟨0, Nat.zero_le _, rfl, rfl, ⟨Below.refl _ _⟩⟩
  case round =>
    obtain ⟨j, hj, rfl, rfl, HX⟩ := hrel
    by_cases hlt : j < rs.length
    · obtain ⟨a, ha⟩ : ∃ a, rs[j]? = some a := ⟨_, List.getElem?_eq_getElem hlt⟩
      have h0 : rs[0]? = some r0 := by
        have h := HR0.out
        cases rs with
        | nil => simp at hlt
        | cons y t => simpa using h
      obtain ⟨ad, hA, p0, p1, p2, p3⟩ := rec_at (Kd.C_below HC.out HX.out) j a ha
      subst hA
      have hcs := cnt_step r0 ha
      have hcl := cnt_take_le rs r0 j
      obtain ⟨n, hn⟩ : ∃ n, cnt (rs.take j) r0 = n := ⟨_, rfl⟩
      rw [hn] at hcs hcl ⊢
      have HCS := Lib.hid hcs
      have H0 := Lib.hid h0
      clear hcs hn ha h0
      have hw1 : wrap64 ((n : Int) + 1) = ((n + 1 : Nat) : Int) := w64n n (by omega)
      have hw2 : wrap64 ((j : Int) + 1) = ((j + 1 : Nat) : Int) := w64n j (by omega)
      have qp : 0 < rs.length := by omega
      have qp2 : (0 : Int) < (rs.length : Int) := by omega
      go_upto_region 8 with fail
      have hbA := below_alloc (Below.refl wr.heap.size wr) (Obj.cells #[Value.string a.f0, Value.int .u16 a.f1, Value.int .u32 a.f2, Value.string a.f3] 32)
      obtain ⟨g8, hg8⟩ : ∃ g, wr.heap.size = g := ⟨_, rfl⟩
      obtain ⟨wb, hwb⟩ : ∃ wb, wr.alloc (Obj.cells #[Value.string a.f0, Value.int .u16 a.f1, Value.int .u32 a.f2, Value.string a.f3] 32) = wb := ⟨_, rfl⟩
      have hBK : wb.heap[g8]? = some (Obj.cells #[Value.string a.f0, Value.int .u16 a.f1, Value.int .u32 a.f2, Value.string a.f3] 32 (0, 0)) := by rw [← hwb, ← hg8]; exact blk_new wr _
      rw [hwb] at hbA ⊢
      rw [hg8]
      have HXb := Lib.hid (HX.out.trans (hbA.mono HX.out.size))
      obtain ⟨ad', hA', q0, q1, q2, q3⟩ := rec_at (Kd.C_below HC.out HXb.out) 0 r0 H0.out
      obtain rfl := Option.some.inj hA'
      rw [Nat.zero_mul] at q0 q1 q2 q3
      change wb.cell? ad = _ at q0
      change wb.cell? ⟨ad.block, ad.off + 1, none⟩ = _ at q1
      change wb.cell? ⟨ad.block, ad.off + 2, none⟩ = _ at q2
      change wb.cell? ⟨ad.block, ad.off + 3, none⟩ = _ at q3
      have f0 := (blk_cell hBK 0).trans rfl
      have f1 := (blk_cell hBK 1).trans rfl
      have f2 := (blk_cell hBK 2).trans rfl
      have f3 := (blk_cell hBK 3).trans rfl
      clear hwb hg8 hbA hBK HX p0 p1 p2 p3
      by_cases he : eqR a r0 = true
      · have he1 : (a.f0.toList == r0.f0.toList && (a.f1 == r0.f1 && (a.f2 == r0.f2 && (a.f3.toList == r0.f3.toList)))) = true := he
        have HE := Lib.hid he
        clear he
        go_wp2
        go_quiet (fail)
        go_wp2
        go_roundw
        case rel => exact ⟨j + 1, by omega, by go_num, by rw [HCS.out, if_pos HE.out]; rfl, ⟨pw_below_drewN HXb.out _⟩⟩
        case measure => simp [intOf]; omega
      · have he1 : (a.f0.toList == r0.f0.toList && (a.f1 == r0.f1 && (a.f2 == r0.f2 && (a.f3.toList == r0.f3.toList)))) = false := (by simpa using he : eqR a r0 = false)
        have HE := Lib.hid he
        clear he
        go_wp2
        go_quiet (fail)
        go_wp2
        go_roundw
        case rel => exact ⟨j + 1, by omega, by go_num, by rw [HCS.out, if_neg HE.out]; rfl, ⟨pw_below_drewN HXb.out _⟩⟩
        case measure => simp [intOf]; omega
    · obtain rfl : j = rs.length := by omega
      rw [List.take_length]
      have HDK : Hid (Kd.C k32 wr A5 rs.length rs) := Lib.hid (Kd.C_below HC.out HX.out)
      have HB9 := Lib.hid (HB3.out.trans (HX.out.mono HB3.out.size))
      clear HX hj hlt HB3 HC
      match rs, hc5, hrl, HR0, HKD, HDK with
      | [], hc5, hrl, HR0, HKD, HDK =>
        go_wp2_with fail
        refine (stream_Done.calls kd A5 c5 [] false wr HDK.out hc5 HKD.out).mono ?_
        rintro e w4 ⟨rfl, hb⟩
        have HB4 := Lib.hid (HB9.out.trans (hb.mono HB9.out.size))
        clear hb
        go_wp2
        go_ret
        exact ⟨rfl, HB4.out⟩
      | [y0], hc5, hrl, HR0, HKD, HDK =>
        have hd : doneB [y0] = true := by
          have h : eqR y0 y0 = true := (eqR_iff _ _).2 rfl
          unfold doneB wantN cnt
          simp [h]
        have HKD2 := Lib.hid (HKD.out.trans (congrArg some hd))
        clear hd
        go_wp2_with fail
        refine (stream_Done.calls kd A5 c5 [y0] true wr HDK.out hc5 HKD2.out).mono ?_
        rintro e w4 ⟨rfl, hb⟩
        have HB4 := Lib.hid (HB9.out.trans (hb.mono HB9.out.size))
        clear hb
        go_wp2
        go_ret
        exact ⟨rfl, HB4.out⟩
      | y0 :: y1 :: tl, hc5, hrl, HR0, HKD, HDK =>
        have hy : y0 = r0 := HR0.out
        obtain ⟨rs, hrs⟩ : ∃ rs, y0 :: y1 :: tl = rs := ⟨_, rfl⟩
        have h0 : rs[0]? = some y0 := by rw [← hrs]; rfl
        have h1 : rs[1]? = some y1 := by rw [← hrs]; rfl
        have hp : 2 ≤ rs.length := by rw [← hrs]; simp
        have hd : doneB rs = decide ((if y1.f1 = 6 ∧ eqR y1 y0 = false then 3 else 2) ≤ cnt rs y0) := by rw [← hrs]; rfl
        rw [hrs] at hc5 hrl HKD HDK ⊢
        subst hy
        obtain ⟨ad, hA, p0, p1, p2, p3⟩ := rec_at HDK.out 1 y1 h1
        obtain ⟨ad', hA', q0, q1, q2, q3⟩ := rec_at HDK.out 0 y0 h0
        rw [hA] at hA'
        obtain rfl := Option.some.inj hA'
        subst hA
        rw [Nat.zero_mul] at q0 q1 q2 q3
        rw [Nat.one_mul] at p0 p1 p2 p3
        change wr.cell? ⟨ad.block, ad.off + 4, none⟩ = _ at p0
        change wr.cell? ⟨ad.block, ad.off + 4 + 1, none⟩ = _ at p1
        change wr.cell? ⟨ad.block, ad.off + 4 + 2, none⟩ = _ at p2
        change wr.cell? ⟨ad.block, ad.off + 4 + 3, none⟩ = _ at p3
        change wr.cell? ad = _ at q0
        change wr.cell? ⟨ad.block, ad.off + 1, none⟩ = _ at q1
        change wr.cell? ⟨ad.block, ad.off + 2, none⟩ = _ at q2
        change wr.cell? ⟨ad.block, ad.off + 3, none⟩ = _ at q3
        obtain ⟨z, hz⟩ : ∃ z : Int, (cnt rs y0 : Int) = z := ⟨_, rfl⟩
        rw [hz]
        have HZ := Lib.hid hz
        have HD := Lib.hid hd
        have e1 : ((rs.length : Int) == 1) = false := beq_eq_false_iff_ne.mpr (by omega)
        have e2 : decide ((1 : Int) < (rs.length : Int)) = true := decide_eq_true (by omega)
        have qp : 0 < rs.length := by omega
        have qp1 : 1 < rs.length := by omega
        have qp2 : (0 : Int) < (rs.length : Int) := by omega
        have qp3 : (1 : Int) < (rs.length : Int) := by omega
        clear hrs h0 h1 hp hd hz
        by_cases h6 : y1.f1 = 6
        · have d6 : (y1.f1 == 6) = true := by rw [h6]; rfl
          by_cases he : eqR y1 y0 = true
          · have he1 : (y1.f0.toList == y0.f0.toList && (y1.f1 == y0.f1 && (y1.f2 == y0.f2 && (y1.f3.toList == y0.f3.toList)))) = true := he
            have he2 : (!(y1.f0.toList == y0.f0.toList) || (!(y1.f1 == y0.f1) || (!(y1.f2 == y0.f2) || !(y1.f3.toList == y0.f3.toList)))) = false := by rw [neR, he]; rfl
            have HN : Hid (¬ (y1.f1 = 6 ∧ eqR y1 y0 = false)) := Lib.hid (by rw [he]; simp)
            clear he h6
            obtain ⟨β, hβ⟩ : ∃ β, decide (2 ≤ z) = β := ⟨_, rfl⟩
            have HKD2 : Hid (stream_Done.f kd rs = some β) := Lib.hid (by rw [HKD.out, HD.out, if_neg HN.out, ← hβ, ← HZ.out]; congr 1; exact decide_eq_decide.2 (by omega))
            go_wp2_with fail
            go_quiet (fail)
            go_wp2_with fail
            refine (stream_Done.calls kd (some ad) c5 rs β _ (Kd.C_below HDK.out (pw_below_drewN (Below.refl _ _) _)) hc5 HKD2.out).mono ?_
            rintro e w4 ⟨rfl, hb⟩
            have HB4 := Lib.hid ((pw_below_drewN HB9.out _).trans (hb.mono (pw_below_drewN HB9.out nq).size))
            clear hb
            go_wp2
            go_ret
            exact ⟨by simp, HB4.out⟩
          · have he' : eqR y1 y0 = false := by simpa using he
            have he1 : (y1.f0.toList == y0.f0.toList && (y1.f1 == y0.f1 && (y1.f2 == y0.f2 && (y1.f3.toList == y0.f3.toList)))) = false := he'
            have he2 : (!(y1.f0.toList == y0.f0.toList) || (!(y1.f1 == y0.f1) || (!(y1.f2 == y0.f2) || !(y1.f3.toList == y0.f3.toList)))) = true := by rw [neR, he']; rfl
            have HN : Hid (y1.f1 = 6 ∧ eqR y1 y0 = false) := Lib.hid ⟨h6, he'⟩
            clear he he' h6
            obtain ⟨β, hβ⟩ : ∃ β, decide (3 ≤ z) = β := ⟨_, rfl⟩
            have HKD2 : Hid (stream_Done.f kd rs = some β) := Lib.hid (by rw [HKD.out, HD.out, if_pos HN.out, ← hβ, ← HZ.out]; congr 1; exact decide_eq_decide.2 (by omega))
            go_wp2_with fail
            go_quiet (fail)
            go_wp2_with fail
            refine (stream_Done.calls kd (some ad) c5 rs β _ (Kd.C_below HDK.out (pw_below_drewN (Below.refl _ _) _)) hc5 HKD2.out).mono ?_
            rintro e w4 ⟨rfl, hb⟩
            have HB4 := Lib.hid ((pw_below_drewN HB9.out _).trans (hb.mono (pw_below_drewN HB9.out nq).size))
            clear hb
            go_wp2
            go_ret
            exact ⟨by simp, HB4.out⟩
        · have d6 : (y1.f1 == 6) = false := beq_eq_false_iff_ne.mpr h6
          have HN : Hid (¬ (y1.f1 = 6 ∧ eqR y1 y0 = false)) := Lib.hid (fun h => h6 h.1)
          clear h6
          obtain ⟨β, hβ⟩ : ∃ β, decide (2 ≤ z) = β := ⟨_, rfl⟩
          have HKD2 : Hid (stream_Done.f kd rs = some β) := Lib.hid (by rw [HKD.out, HD.out, if_neg HN.out, ← hβ, ← HZ.out]; congr 1; exact decide_eq_decide.2 (by omega))
          go_wp2_with fail
          go_quiet (fail)
          go_wp2_with fail
          refine (stream_Done.calls kd (some ad) c5 rs β _ (Kd.C_below HDK.out (pw_below_drewN (Below.refl _ _) _)) hc5 HKD2.out).mono ?_
          rintro e w4 ⟨rfl, hb⟩
          have HB4 := Lib.hid ((pw_below_drewN HB9.out _).trans (hb.mono (pw_below_drewN HB9.out nq).size))
          clear hb
          go_wp2
          go_ret
          exact ⟨by simp, HB4.out⟩
end Go.Proofs.Ytlobjcokopfbkaa.PY
