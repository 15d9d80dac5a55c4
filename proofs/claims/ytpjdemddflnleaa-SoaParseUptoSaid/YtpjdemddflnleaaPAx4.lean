/-
  The law SoaParse walked: data that are read are those of what is read of them. No macro, syntax, notation, axiom, sorry.
-/
import Derived.Test.YtpjdemddflnleaaSoa
import Derived.Test.YtpjdemddflnleaaPAx2
namespace Go.Proofs.Ytpjdemddflnleaa.PA
open Go.RowKit Go.Proofs.YtpjdemddflnleaaW.PrintWords Go.Proofs.YtpjdemddflnleaaW.PrintLast Go.Proofs.Ytpjdemddflnleaa.Heap Go.Proofs.Ytpjdemddflnleaa.Soa Go.Proofs.Ytpjdemddflnleaa.Nam Go.Proofs.Ytpjdemddflnleaa.Base Go.Proofs.Ytpjdemddflnleaa.QA
set_option linter.unusedVariables false
set_option linter.unusedSimpArgs false
set_option maxRecDepth 100000

theorem awake_ (w : World) : Calls Try.prog 8 #[] w fun e w' => e = .returned (.bool true) ∧ Below w.heap.size w w' := by
  obtain ⟨k, hk⟩ := Ev.rounds (Ev.of (fun k => bolterlaw07_awake.mono k) (k := 30) (r := true) (by kernel_rfl))
  exact bolterlaw07_awake.calls k _ w hk
theorem rmay6 (s : ByteArray) (hs : s.size ≤ 1000000000000) (w : World) : Calls Try.prog 13 #[.int .u16 6, .string s] w fun e w' => e = .returned (.bool (soaP (bytesOf s)).2.2.2) ∧ Below w.heap.size w w' := by
  obtain ⟨k, hk⟩ := Ev.rounds (rmay_soa s hs)
  exact rdata_May.calls k 6 s _ w hk
theorem data_ (a b : List Int) (n0 n1 n2 n3 n4 : Int) (ha : B8 a) (hb : B8 b) (hs : a.length + b.length ≤ 1000000000000) (w : World) :
    Calls Try.prog 9 #[.agg #[.string (strOfNums a), .string (strOfNums b), .int .u32 n0, .int .u32 n1, .int .u32 n2, .int .u32 n3, .int .u32 n4]] w fun e w' => e = .returned (.tuple #[.string (strOfNums (dataL a b [n0, n1, n2, n3, n4])), .bool (nm a && nm b)]) ∧ Below w.heap.size w w' := by
  obtain ⟨k, hk⟩ := Ev.rounds (data_ev a b n0 n1 n2 n3 n4 ha hb hs)
  exact soa_Data.calls k _ _ n0 n1 n2 n3 n4 _ _ w hk
def bolterlaw07_SoaParse.f (a0 : ByteArray) : Option Bool := if a0.size ≤ 1048576 then some true else none
set_option maxHeartbeats 2000000 in
theorem bolterlaw07_SoaParse.calls (a0 : ByteArray) (r : Bool) (w : World) (h : bolterlaw07_SoaParse.f a0 = some r) :
    Calls Try.prog 5 #[.string a0] w fun e w' => e = .returned (.bool r) ∧ Below w.heap.size w w' := by
  unfold bolterlaw07_SoaParse.f at h
  by_cases hc : a0.size ≤ 1048576
  case neg => rw [if_neg hc] at h; cases h
  rw [if_pos hc] at h
  obtain rfl := Option.some.inj h
  clear h
  obtain ⟨a, b, l, ok, hp⟩ : ∃ a b l ok, soaP (bytesOf a0) = (a, b, l, ok) := ⟨_, _, _, _, rfl⟩
  have hP := fun w => parse_ a0 (by omega) w
  have hM := fun w => rmay6 a0 (by omega) w
  simp only [hp] at hP hM
  have HM := Lib.hid hM
  have HP := Lib.hid hP
  clear hM hP
  cases ok with
  | false =>
    go_enter Try.func5, Try.ntmps5
    go_wp2_with fail
    refine (awake_ w).mono ?_
    rintro e w1 ⟨rfl, hb⟩
    have HB := Lib.hid hb
    clear hb
    go_wp2_with fail
    refine (HP.out w1).mono ?_
    rintro e w2 ⟨rfl, hb⟩
    have HB2 := Lib.hid (HB.out.trans (hb.mono HB.out.size))
    clear hb HB
    have hz : soaPV (a, b, l, false) = #[.string ⟨#[]⟩, .string ⟨#[]⟩, .int .u32 0, .int .u32 0, .int .u32 0, .int .u32 0, .int .u32 0] := rfl
    rw [hz]
    clear hz
    go_wp2_with fail
    refine (HM.out _).mono ?_
    rintro e w3 ⟨rfl, hb⟩
    have hblk := blk_below (blk_new w2 (.cells #[.string ⟨#[]⟩, .string ⟨#[]⟩, .int .u32 0, .int .u32 0, .int .u32 0, .int .u32 0, .int .u32 0] 28)) hb
    have HB3 := Lib.hid ((below_alloc HB2.out _).trans (hb.mono (below_alloc HB2.out _).size))
    obtain ⟨g3, hg3⟩ : ∃ g3, w2.heap.size = g3 := ⟨_, rfl⟩
    rw [hg3] at hblk
    (try rw [hg3])
    obtain ⟨c0, c1, c2, c3, c4, c5, c6⟩ := cells7 hblk
    clear hb HB2 hblk hg3
    go_wp2
    go_ret
    exact ⟨rfl, HB3.out⟩
  | true =>
    obtain ⟨hna, hnb, h20, hd⟩ := soaP_yes hp
    have hb8 := of_b8 a0
    have hlen := of_size a0
    rw [hd] at hb8 hlen
    have ha8 : B8 a := hb8.left
    have hb8b : B8 b := fun y hy => hb8 y (by simp [hy])
    have hl8 : B8 l := fun y hy => hb8 y (by simp [hy])
    have hn : all32 [num4 l 0, num4 l 4, num4 l 8, num4 l 12, num4 l 16] = l := by
      have e0 := be_num4 hl8 0 (by omega)
      have e1 := be_num4 hl8 4 (by omega)
      have e2 := be_num4 hl8 8 (by omega)
      have e3 := be_num4 hl8 12 (by omega)
      have e4 := be_num4 hl8 16 (by omega)
      show be32 (num4 l 0) ++ (be32 (num4 l 4) ++ (be32 (num4 l 8) ++ (be32 (num4 l 12) ++ (be32 (num4 l 16) ++ [])))) = l
      rw [show num4 l 0 = num4 l ((0 : Nat) : Int) from rfl, e0, show num4 l 4 = num4 l ((4 : Nat) : Int) from rfl, e1, show num4 l 8 = num4 l ((8 : Nat) : Int) from rfl, e2, show num4 l 12 = num4 l ((12 : Nat) : Int) from rfl, e3, show num4 l 16 = num4 l ((16 : Nat) : Int) from rfl, e4]
      rw [List.append_nil]
      have t4 : (l.drop 16).take 4 = l.drop 16 := List.take_of_length_le (by rw [List.length_drop]; omega)
      rw [t4]
      have s3 : (l.drop 12).take 4 ++ l.drop 16 = l.drop 12 := by have := List.take_append_drop 4 (l.drop 12); rwa [List.drop_drop] at this
      have s2 : (l.drop 8).take 4 ++ l.drop 12 = l.drop 8 := by have := List.take_append_drop 4 (l.drop 8); rwa [List.drop_drop] at this
      have s1 : (l.drop 4).take 4 ++ l.drop 8 = l.drop 4 := by have := List.take_append_drop 4 (l.drop 4); rwa [List.drop_drop] at this
      rw [s3, s2, s1]
      exact List.take_append_drop 4 l
    obtain ⟨n0, hn0⟩ : ∃ n0, num4 l 0 = n0 := ⟨_, rfl⟩
    obtain ⟨n1, hn1⟩ : ∃ n0, num4 l 4 = n0 := ⟨_, rfl⟩
    obtain ⟨n2, hn2⟩ : ∃ n0, num4 l 8 = n0 := ⟨_, rfl⟩
    obtain ⟨n3, hn3⟩ : ∃ n0, num4 l 12 = n0 := ⟨_, rfl⟩
    obtain ⟨n4, hn4⟩ : ∃ n0, num4 l 16 = n0 := ⟨_, rfl⟩
    rw [hn0, hn1, hn2, hn3, hn4] at hn
    have hz : soaPV (a, b, l, true) = #[.string (strOfNums a), .string (strOfNums b), .int .u32 n0, .int .u32 n1, .int .u32 n2, .int .u32 n3, .int .u32 n4] := by
      subst hn0 hn1 hn2 hn3 hn4
      rfl
    have hs : strOfNums (dataL a b [n0, n1, n2, n3, n4]) = a0 := by
      unfold dataL
      rw [if_pos ⟨hna, hnb⟩, hn, ← hd, str_of]
    have hab : a.length + b.length ≤ 1000000000000 := by simp at hlen; omega
    have hD := fun w => data_ a b n0 n1 n2 n3 n4 ha8 hb8b hab w
    rw [hs, hna, hnb] at hD
    have HD := Lib.hid hD
    have HZ := Lib.hid hz
    clear hD hz hs hn hn0 hn1 hn2 hn3 hn4 hd hb8 hlen hna hnb h20 hab hp
    go_enter Try.func5, Try.ntmps5
    go_wp2_with fail
    refine (awake_ w).mono ?_
    rintro e w1 ⟨rfl, hb⟩
    have HB := Lib.hid hb
    clear hb
    go_wp2_with fail
    refine (HP.out w1).mono ?_
    rintro e w2 ⟨rfl, hb⟩
    have HB2 := Lib.hid (HB.out.trans (hb.mono HB.out.size))
    clear hb HB
    rw [HZ.out]
    go_wp2_with fail
    refine (HM.out _).mono ?_
    rintro e w3 ⟨rfl, hb⟩
    have hblk := blk_below (blk_new w2 (.cells #[.string (strOfNums a), .string (strOfNums b), .int .u32 n0, .int .u32 n1, .int .u32 n2, .int .u32 n3, .int .u32 n4] 28)) hb
    have HB3 := Lib.hid ((below_alloc HB2.out _).trans (hb.mono (below_alloc HB2.out _).size))
    obtain ⟨g3, hg3⟩ : ∃ g3, w2.heap.size = g3 := ⟨_, rfl⟩
    rw [hg3] at hblk
    (try rw [hg3])
    obtain ⟨c0, c1, c2, c3, c4, c5, c6⟩ := cells7 hblk
    clear hb HB2 hblk hg3
    go_wp2_with fail
    refine (HD.out _).mono ?_
    rintro e w4 ⟨rfl, hb⟩
    have HB4 := Lib.hid (HB3.out.trans (hb.mono HB3.out.size))
    clear hb HB3 c0 c1 c2 c3 c4 c5 c6
    go_wp2
    go_ret
    exact ⟨by simp, HB4.out⟩
end Go.Proofs.Ytpjdemddflnleaa.PA
