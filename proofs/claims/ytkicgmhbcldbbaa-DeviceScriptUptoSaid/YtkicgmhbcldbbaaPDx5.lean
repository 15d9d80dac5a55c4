/-
  The law DeviceScript of layer 23: what stands on a device, and what of it is safe, deed by deed. No macro, syntax, notation, axiom, sorry.
-/
import Derived.Test.YtkicgmhbcldbbaaPDx4
namespace Go.Proofs.Ytkicgmhbcldbbaa.PD
open Go.RowKit Go.Proofs.YtkicgmhbcldbbaaW.PrintWords Go.Proofs.Ytkicgmhbcldbbaa.DevW Go.Proofs.Ytkicgmhbcldbbaa.DevC
set_option linter.unusedVariables false
set_option linter.unusedSimpArgs false
set_option maxRecDepth 100000

theorem dlast_take (st : St) (j : Nat) (x : List Int × Int) (h : st[j]? = some x) : dlast (st.take (j + 1)) = x.1.length := by
  have hj := (List.getElem?_eq_some_iff.1 h).1
  unfold dlast
  have hl : (st.take (j + 1)).length = j + 1 := by rw [List.length_take]; omega
  rw [hl, Nat.add_sub_cancel, List.getElem?_take, if_pos (by omega), h]
theorem strs_get {st : St} {j : Nat} {x : List Int × Int} (h : st[j]? = some x) : (strs st)[j]? = some (strOfNums x.1) := by unfold strs; rw [List.getElem?_map, h]; rfl
theorem safes_get {st : St} {j : Nat} {x : List Int × Int} (h : st[j]? = some x) : (safes st)[j]? = some x.2 := by unfold safes; rw [List.getElem?_map, h]; rfl
theorem strs_segs (st : St) : strs st = (dsegs st).map strOfNums := by simp [strs, dsegs, List.map_map, Function.comp_def]

theorem infoInt : (Try.prog.info? 3).map (fun i => (i.zero, i.size, i.bytes)) = some (some (.int .i64 0), 1, 8) := by kernel_rfl
theorem last_row {st : St} {b : List Int} {s : Int} {n : Nat} (h : st[n]? = some (b, s)) (hn : st.length - 1 = n) (f : List Int × Int → List Int × Int) :
    strs (onLast f st) = (strs st).set n (strOfNums (f (b, s)).1) ∧ safes (onLast f st) = (safes st).set n (f (b, s)).2 := by
  unfold onLast
  rw [hn, h]
  simp [strs, safes, List.map_set]
theorem set_same {α : Type} {l : List α} {i : Nat} {x : α} (h : l[i]? = some x) : l.set i x = l := by
  apply List.ext_getElem?
  intro j
  by_cases e : i = j
  · subst e
    rw [List.getElem?_set_self (List.getElem?_eq_some_iff.1 h).1, h]
  · rw [List.getElem?_set_ne e]

def bolterlaw23_DeviceScript.f (l0 : List Deed) : Option Bool := if bulk l0 ≤ 1048576 ∧ l0.length ≤ 1048576 ∧ (∀ a ∈ l0, 0 ≤ a.f0 ∧ a.f0 < 256 ∧ -128 ≤ a.f2 ∧ a.f2 < 128) then some true else none

set_option maxHeartbeats 8000000 in
theorem bolterlaw23_DeviceScript.calls (A0 : Option Addr) (c0 : Nat) (l0 : List Deed) (r : Bool) (w : World) (hr0 : Kd.C k41 w A0 l0.length l0) (hc0 : l0.length ≤ c0) (h : bolterlaw23_DeviceScript.f l0 = some r) :
    Calls Try.prog 6 #[.slice A0 l0.length c0] w fun e w' => e = .returned (.bool r) ∧ Below w.heap.size w w' := by
  unfold bolterlaw23_DeviceScript.f at h
  by_cases hb : bulk l0 ≤ 1048576 ∧ l0.length ≤ 1048576 ∧ (∀ a ∈ l0, 0 ≤ a.f0 ∧ a.f0 < 256 ∧ -128 ≤ a.f2 ∧ a.f2 < 128)
  case neg => rw [if_neg hb] at h; cases h
  rw [if_pos hb] at h
  obtain rfl := Option.some.inj h
  clear h
  obtain ⟨hsum, hlen, hal⟩ := hb
  have HR0 := Lib.hid hr0
  have HSUM := Lib.hid hsum
  have HAL := Lib.hid hal
  clear hr0 hsum hal
  go_enter Try.func6, Try.ntmps6
  go_wp2_with fail
  refine (awake _).mono ?_
  rintro e w1 ⟨rfl, hb1⟩
  have HL1 := Lib.hid (Live.fresh w w1 hb1)
  clear hb1
  go_wp2_with fail
  go_loopw [4, 5, 6, 21] (fun v4 v5 v6 i wx => ∃ k : Nat, k ≤ l0.length ∧ i = .int .i64 k ∧ v6 = .int .i64 (counts (l0.take k)) ∧
      Aside0 (∃ F, Live w wx w1.heap.size F (deeds (l0.take k)) (counts (l0.take k)) ∧ Row 9 Value.string w wx F v4 (strs (deeds (l0.take k))) ∧ Row 3 (Value.int .i64) w wx F v5 (safes (deeds (l0.take k)))))
    (fun _ _ _ i _ => l0.length - (intOf i).toNat)
  case atStart => exact ⟨0, Nat.zero_le _, rfl, rfl, ⟨_, HL1.out, ⟨World.ownsRow_nil _ _ _ _, fun k hk => by simp [Value.ownBlock] at hk⟩, ⟨World.ownsRow_nil _ _ _ _, fun k hk => by simp [Value.ownBlock] at hk⟩⟩⟩
  case round =>
    obtain ⟨k, hk, rfl, rfl, hrel⟩ := hrel
    obtain ⟨F, hL, hS, hI⟩ := hrel.out
    clear hrel
    by_cases hlt : k < l0.length
    · have hget := List.getElem?_eq_getElem hlt
      obtain ⟨x, hx⟩ : ∃ x, l0[k] = x := ⟨_, rfl⟩
      rw [hx] at hget
      obtain ⟨ad, Ax, cx, ha, hc0', hc1', hc2', hcx, hC⟩ := deed_at HR0.out k x hget
      have hcell0 := pw_cell_below hL.base hc0'
      have hcell1 := pw_cell_below hL.base hc1'
      have hcell2 := pw_cell_below hL.base hc2'
      subst ha
      rw [add_field _ _ _ (by omega)] at hcell1 hcell2
      have hok := deeds_ok l0 k hk
      have hbk := bulk_take l0 (k + 1)
      rw [bulk_succ l0 k x hget] at hbk
      have hsum := HSUM.out
      have hnext := deeds_succ l0 k x hget
      have hcnt := counts_succ l0 k x hget
      have hcb := counts_bd (l0.take k)
      rw [List.length_take] at hcb
      obtain ⟨hp0, hp1, hn0, hn1⟩ := HAL.out x (List.mem_of_getElem? hget)
      obtain ⟨st, hst⟩ : ∃ st, deeds (l0.take k) = st := ⟨_, rfl⟩
      obtain ⟨nw, hnw⟩ : ∃ nw, counts (l0.take k) = nw := ⟨_, rfl⟩
      rw [hst] at hL hS hI hok hnext
      rw [hnw] at hL hcnt hcb
      rw [hnw]
      obtain ⟨A4, c4, hv4, hc4⟩ := hS.slice
      obtain ⟨A5, c5, hv5, hc5⟩ := hI.slice
      subst hv4 hv5
      rw [strs_len] at hc4 hS ⊢
      rw [safes_len] at hc5 hI ⊢
      have HL := Lib.hid hL
      have HS := Lib.hid hS
      have HI := Lib.hid hI
      have HOK := Lib.hid hok
      have HG := Lib.hid hget
      have HC := Lib.hid hC
      have HN := Lib.hid hnext
      have HCN := Lib.hid hcnt
      have hstl : st.length ≤ 1048576 := by omega
      have htot : total st ≤ 1048576 := by omega
      have hxl : x.f1.length ≤ 1048576 := by omega
      have hnw0 : 0 ≤ nw ∧ nw ≤ 1048576 := by omega
      clear hL hS hI hok hget hx hC hnext hcnt hc0' hc1' hc2' hst hnw hcb hbk hsum
      obtain ⟨q, hqe⟩ : ∃ q, x.f0 % 6 = q := ⟨_, rfl⟩
      have HQE := Lib.hid hqe
      clear hqe
      go_upto_block 2 with fail
      rw [HQE.out]
      obtain ⟨t, ht⟩ : ∃ t : Int, ((st.length : Int) - 1) = t := ⟨_, rfl⟩
      rw [ht]
      have HT0 := Lib.hid ht
      clear ht
      have HLb := Lib.hid (HL.out.below (below_alloc (Below.refl _ _) (Obj.cells #[Value.int IntKind.u8 x.f0, Value.slice Ax x.f1.length cx, Value.int IntKind.i8 x.f2] 41)))
      have HSb := Lib.hid (HS.out.below (below_alloc (Below.refl _ _) (Obj.cells #[Value.int IntKind.u8 x.f0, Value.slice Ax x.f1.length cx, Value.int IntKind.i8 x.f2] 41)))
      have HIb := Lib.hid (HI.out.below (below_alloc (Below.refl _ _) (Obj.cells #[Value.int IntKind.u8 x.f0, Value.slice Ax x.f1.length cx, Value.int IntKind.i8 x.f2] 41)))
      have hblk : (wr.alloc (Obj.cells #[Value.int IntKind.u8 x.f0, Value.slice Ax x.f1.length cx, Value.int IntKind.i8 x.f2] 41)).heap[wr.heap.size]? = some (Obj.cells #[Value.int IntKind.u8 x.f0, Value.slice Ax x.f1.length cx, Value.int IntKind.i8 x.f2] 41) := heap_alloc_new wr _
      have hg8 : ∀ q ∈ F, q ≠ wr.heap.size := fun q hq e => by have := (HL.out.foot q hq).2; omega
      have hg8w : w.heap.size ≤ wr.heap.size := HL.out.base.size
      clear HL HS HI hcell0 hcell1 hcell2
      obtain ⟨g8, hg8e⟩ : ∃ g8, wr.heap.size = g8 := ⟨_, rfl⟩
      rw [hg8e] at hg8 hg8w hblk ⊢
      obtain ⟨wb, hwb⟩ : ∃ wb, wr.alloc (Obj.cells #[Value.int IntKind.u8 x.f0, Value.slice Ax x.f1.length cx, Value.int IntKind.i8 x.f2] 41) = wb := ⟨_, rfl⟩
      rw [hwb] at HLb HSb HIb hblk ⊢
      have HBLK := Lib.hid hblk
      have HG8 := Lib.hid hg8
      clear hwb hg8e hblk hg8
      obtain ⟨st2, hst2⟩ : ∃ st2, deed st x = st2 := ⟨_, rfl⟩
      obtain ⟨nw2, hnw2⟩ : ∃ nw2, nw + (if x.f0 % 6 = 0 ∨ x.f0 % 6 = 1 then (1 : Int) else 0) = nw2 := ⟨_, rfl⟩
      have hok2 := deed_ok x HOK.out.1
      rw [hst2] at hok2
      have hst2l : st2.length ≤ 1048577 := by have := hok2.2.2; omega
      have hst2t : total st2 ≤ 2097152 := by have := hok2.2.1; omega
      have HST2 := Lib.hid hst2
      have HNW2 := Lib.hid hnw2
      have HOK2 := Lib.hid hok2.1
      clear hst2 hnw2 hok2
      go_cut [4, 5, 6] (fun v4 v5 v6 wx => v6 = .int .i64 nw2 ∧ Aside0 (∃ F', Live w wx w1.heap.size F' st2 nw2 ∧ Row 9 Value.string w wx F' v4 (strs st2) ∧ Row 3 (Value.int .i64) w wx F' v5 (safes st2)))
      case first =>
        have hq : q = 0 ∨ q = 1 ∨ q = 2 ∨ q = 3 ∨ q = 4 ∨ q = 5 := by have := HQE.out; omega
        have f0c : wb.cell? ⟨g8, 0, none⟩ = some (.int .u8 x.f0) := by rw [blk_cell HBLK.out]; rfl
        have f1c : wb.cell? ⟨g8, 1, none⟩ = some (.slice Ax x.f1.length cx) := by rw [blk_cell HBLK.out]; rfl
        have f2c : wb.cell? ⟨g8, 2, none⟩ = some (.int .i8 x.f2) := by rw [blk_cell HBLK.out]; rfl
        have HQ := Lib.hid hq
        clear hq
        rcases HQ.out with rfl | rfl | rfl | rfl | rfl | rfl
        · as_aux_lemma =>
          have hd : deed st x = dappend st x.f1 := by unfold deed; have hq := HQE.out; rw [if_pos (by omega)]
          have hnn : nw2 = nw + 1 := by have hq := HQE.out; rw [← HNW2.out, if_pos (by omega)]
          have hdd : st2 = dappend st x.f1 := HST2.out.symm.trans hd
          clear hd
          subst hnn
          have HDD := Lib.hid hdd
          clear hdd
          go_wp2_with fail
          refine (live_append HLb.out (by omega) (by omega) (by omega) Ax cx x.f1 hcx (fun w' ht => C_args HLb.out.base ht (fun q hq => (HLb.out.foot q hq).1) HC.out) (by intro b t h; have := total_mem h; omega) (by omega)).mono ?_
          rintro e w2 ⟨rfl, F2, hL, ht, hF⟩
          have HL2 := Lib.hid hL
          have HS2 := Lib.hid (HSb.out.next ht hF)
          have HI2 := Lib.hid (HIb.out.next ht hF)
          have hbl2 : w2.heap[g8]? = wb.heap[g8]? := ht.block g8 (blk_lt HBLK.out) (fun hm => HG8.out g8 hm rfl)
          have f1w : w2.cell? ⟨g8, 1, none⟩ = some (.slice Ax x.f1.length cx) := (World.cell?_of_block (a := ⟨g8, 1, none⟩) hbl2).trans f1c
          have HCV := Lib.hid (fun w' (hb : Below w.heap.size w w') => Kd.C_string (P := Try.prog) (c := cx) Try.underlying28 Try.underlying5 Try.underlying9 (Kd.C_below HC.out hb))
          clear hL ht hF HLb HSb HIb f0c f1c f2c hbl2
          by_cases h0 : st.length = 0
          · have hnil : st = [] := List.eq_nil_of_length_eq_zero h0
            subst hnil
            obtain rfl : t = -1 := by have := HT0.out; simp at this; omega
            have hcv0 : ∀ w', Below w.heap.size w w' → (convert 28 9 (.slice Ax x.f1.length cx)).run Try.prog w' = .ok (.string (strOfNums x.f1)) w' := HCV.out
            have o1 := own_lit_of (enc := Value.string) w2 w.heap.size 9 [(⟨#[]⟩ : ByteArray)] HL2.out.base.size (by simp)
            have o2 := own_lit_of (enc := Value.int .i64) (w2.alloc (.cells #[.string ⟨#[]⟩] 9)) w.heap.size 3 [(0 : Int)] (by have := HL2.out.base.size; simp; omega) (by simp)
            have hz2 : (w2.alloc (.cells #[.string ⟨#[]⟩] 9)).heap.size = w2.heap.size + 1 := by simp
            rw [hz2] at o2
            have hb2 : Below w2.heap.size w2 ((w2.alloc (.cells #[.string ⟨#[]⟩] 9)).alloc (.cells #[.int .i64 0] 3)) := below_alloc (below_alloc (Below.refl _ _) _) _
            have hR1 : Row 9 Value.string w ((w2.alloc (.cells #[.string ⟨#[]⟩] 9)).alloc (.cells #[.int .i64 0] 3)) F2 (.slice (some ⟨w2.heap.size, 0, none⟩) 1 1) [(⟨#[]⟩ : ByteArray)] :=
              ⟨pw_own_below o1 (below_alloc (Below.refl _ _) _), fun q hq hm => by have := (HL2.out.foot q hm).2; have e : w2.heap.size = q := (by simpa [Value.ownBlock] using hq); omega⟩
            have hR2 : Row 3 (Value.int .i64) w ((w2.alloc (.cells #[.string ⟨#[]⟩] 9)).alloc (.cells #[.int .i64 0] 3)) F2 (.slice (some ⟨w2.heap.size + 1, 0, none⟩) 1 1) [(0 : Int)] :=
              ⟨o2, fun q hq hm => by have := (HL2.out.foot q hm).2; have e : w2.heap.size + 1 = q := (by simpa [Value.ownBlock] using hq); omega⟩
            have HLn := Lib.hid (HL2.out.below hb2)
            have HSn := Lib.hid hR1
            have HIn := Lib.hid hR2
            have g8l : g8 < w2.heap.size := World.block_lt_of_cell? w2 _ f1w
            clear o1 o2 hz2 hb2 hR1 hR2 HL2 HS2 HI2 hcv0
            have f1n : ((w2.alloc (.cells #[.string ⟨#[]⟩] 9)).alloc (.cells #[.int .i64 0] 3)).cell? ⟨g8, 1, none⟩ = some (.slice Ax x.f1.length cx) := pw_cell_below (below_alloc (below_alloc (Below.refl _ _) _) _) f1w
            have hcs : ((w2.alloc (.cells #[.string ⟨#[]⟩] 9)).alloc (.cells #[.int .i64 0] 3)).cell? ⟨w2.heap.size, 0, none⟩ = some (.string ⟨#[]⟩) := by
              obtain ⟨_, _, he, _, hc, _⟩ := HSn.out.at_ 0 _ rfl
              injection he with he _ _
              injection he with he
              injection he with he
              rw [← he] at hc
              exact hc
            have hfs : ((w2.alloc (.cells #[.string ⟨#[]⟩] 9)).alloc (.cells #[.int .i64 0] 3)).frozen? ⟨w2.heap.size, 0, none⟩ = false := by
              obtain ⟨_, _, he, _, _, hf, _⟩ := HSn.out.at_ 0 _ rfl
              injection he with he _ _
              injection he with he
              injection he with he
              rw [← he] at hf
              exact hf
            have hlt0 : decide (((0 : Nat) : Int) - 1 < 0) = true := by decide
            have hlt1 : decide ((-1 : Int) < 0) = true := by decide
            go_upto_region 22 with fail
            obtain ⟨wn, hwn⟩ : ∃ wn, (w2.alloc (.cells #[.string ⟨#[]⟩] 9)).alloc (.cells #[.int .i64 0] 3) = wn := ⟨_, rfl⟩
            rw [hwn] at HLn HSn HIn f1n hcs hfs ⊢
            clear hwn
            have hcv1 := HCV.out wn HLn.out.base
            have hcv2 := HCV.out wn.drew (HLn.out.base.trans (below_drew (Below.refl _ _)))
            have hsz1 : (strOfNums x.f1).size = x.f1.length := str_size _
            have hsum0 : (⟨#[]⟩ : ByteArray) ++ strOfNums x.f1 = strOfNums x.f1 := by
              have := str_append [] x.f1
              exact this
            have hov0 : ¬ 9223372036854775807 < (⟨#[]⟩ : ByteArray).size + (strOfNums x.f1).size := by rw [hsz1]; show ¬ 9223372036854775807 < 0 + x.f1.length; omega
            have hov1 : ¬ 9223372036854775807 < x.f1.length := by omega
            have hov2 : ¬ 9223372036854775807 < (⟨#[]⟩ : ByteArray).size + x.f1.length := by show ¬ 9223372036854775807 < 0 + x.f1.length; omega
            go_still_tail 11, (by kernel_rfl)
            change wpList _ _ _ _ _ wn.drew
            have HLd := Lib.hid (HLn.out.below (below_drew (Below.refl _ _)))
            have HSd := Lib.hid (HSn.out.below (below_drew (Below.refl _ _)))
            have HId := Lib.hid (HIn.out.below (below_drew (Below.refl _ _)))
            have hcsd : wn.drew.cell? ⟨w2.heap.size, 0, none⟩ = some (.string ⟨#[]⟩) := hcs
            have hfsd : wn.drew.frozen? ⟨w2.heap.size, 0, none⟩ = false := hfs
            obtain ⟨wd, hwd⟩ : ∃ wd, wn.drew = wd := ⟨_, rfl⟩
            rw [hwd] at HLd HSd HId hcsd hfsd ⊢
            clear hwd HLn HSn HIn hcs hfs f1n hcv1 hcv2
            go_wp2_with fail
            go_meet
            have hst2 : st2 = [(x.f1, 0)] := HDD.out
            subst hst2
            refine ⟨rfl, ⟨F2, live_row HLd.out HSd.out 0 _, ?_, HId.out.far (HId.out.apart HSd.out (by decide)) 0 _⟩⟩
            exact HSd.out.set_ 0 (strOfNums x.f1)
          · obtain ⟨n, rfl⟩ : ∃ n : Nat, t = n := ⟨st.length - 1, by have := HT0.out; omega⟩
            have hnl : n < st.length := by have := HT0.out; omega
            have HNL : Hid (st.length - 1 = n) := by
              have : st.length - 1 = n := by have := HT0.out; omega
              exact this
            have hget := List.getElem?_eq_getElem hnl
            obtain ⟨⟨b, s⟩, hbs⟩ : ∃ y, st[n] = y := ⟨_, rfl⟩
            rw [hbs] at hget
            obtain ⟨g4, c4n, hv4, _, hcs, hfs, _⟩ := HS2.out.at_ _ _ (strs_get hget)
            rw [strs_len] at hv4
            injection hv4 with hv4 _ hcc4
            subst hv4
            subst hcc4
            have HGT := Lib.hid hget
            have hbl : b.length ≤ 1048576 := by have := total_mem (List.mem_of_getElem? hget); omega
            have hpos : 0 < st.length := by omega
            clear hget hbs
            go_upto_region 22 with fail
            have hcv1 := HCV.out w2 HL2.out.base
            have hcv2 := HCV.out w2.drew (HL2.out.base.trans (below_drew (Below.refl _ _)))
            have hsz1 : (strOfNums x.f1).size = x.f1.length := str_size _
            have hsz2 : (strOfNums b).size = b.length := str_size _
            have hsum0 : strOfNums b ++ strOfNums x.f1 = strOfNums (b ++ x.f1) := str_append _ _
            have hov0 : ¬ 9223372036854775807 < b.length + x.f1.length := by omega
            go_still_tail 11, (by kernel_rfl)
            change wpList _ _ _ _ _ w2.drew
            have HLd := Lib.hid (HL2.out.below (below_drew (Below.refl _ _)))
            have HSd := Lib.hid (HS2.out.below (below_drew (Below.refl _ _)))
            have HId := Lib.hid (HI2.out.below (below_drew (Below.refl _ _)))
            have hcsd : w2.drew.cell? ⟨g4, n, none⟩ = some (.string (strOfNums b)) := hcs
            have hfsd : w2.drew.frozen? ⟨g4, n, none⟩ = false := hfs
            obtain ⟨wd, hwd⟩ : ∃ wd, w2.drew = wd := ⟨_, rfl⟩
            rw [hwd] at HLd HSd HId hcsd hfsd ⊢
            clear hwd HL2 HS2 HI2 hcs hfs hcv1 hcv2
            go_wp2_with fail
            go_meet
            have e := last_row (n := n) HGT.out HNL.out (fun p => (p.1 ++ x.f1, p.2))
            have hst2 : st2 = onLast (fun p => (p.1 ++ x.f1, p.2)) st := by
              rw [HDD.out]
              unfold dappend
              rw [if_neg (by intro h; rw [h] at hpos; exact absurd hpos (by simp))]
            subst hst2
            have hS' : Row 9 Value.string w wd F2 (.slice (some ⟨g4, 0, none⟩) (strs st).length c4) (strs st) := by rw [strs_len]; exact HSd.out
            have h1 := hS'.set_ n (strOfNums (b ++ x.f1))
            rw [List.length_set, strs_len, ← e.1] at h1
            have h2 : safes (onLast (fun p => (p.1 ++ x.f1, p.2)) st) = safes st := by
              rw [e.2]
              exact set_same (x := s) (safes_get HGT.out)
            have hL5 := live_row HLd.out HSd.out n (.string (strOfNums (b ++ x.f1)))
            have hda : dappend st x.f1 = onLast (fun p => (p.1 ++ x.f1, p.2)) st := HDD.out.symm
            rw [hda] at hL5
            refine ⟨rfl, ⟨F2, hL5, h1, ?_⟩⟩
            rw [h2]
            exact HId.out.far (HId.out.apart HSd.out (by decide)) _ _
        · as_aux_lemma =>
          have hd : deed st x = dappend st x.f1 := by unfold deed; have hq := HQE.out; rw [if_pos (by omega)]
          have hnn : nw2 = nw + 1 := by have hq := HQE.out; rw [← HNW2.out, if_pos (by omega)]
          have hdd : st2 = dappend st x.f1 := HST2.out.symm.trans hd
          clear hd
          subst hnn
          have HDD := Lib.hid hdd
          clear hdd
          go_wp2_with fail
          refine (live_append HLb.out (by omega) (by omega) (by omega) Ax cx x.f1 hcx (fun w' ht => C_args HLb.out.base ht (fun q hq => (HLb.out.foot q hq).1) HC.out) (by intro b t h; have := total_mem h; omega) (by omega)).mono ?_
          rintro e w2 ⟨rfl, F2, hL, ht, hF⟩
          have HL2 := Lib.hid hL
          have HS2 := Lib.hid (HSb.out.next ht hF)
          have HI2 := Lib.hid (HIb.out.next ht hF)
          have hbl2 : w2.heap[g8]? = wb.heap[g8]? := ht.block g8 (blk_lt HBLK.out) (fun hm => HG8.out g8 hm rfl)
          have f1w : w2.cell? ⟨g8, 1, none⟩ = some (.slice Ax x.f1.length cx) := (World.cell?_of_block (a := ⟨g8, 1, none⟩) hbl2).trans f1c
          have HCV := Lib.hid (fun w' (hb : Below w.heap.size w w') => Kd.C_string (P := Try.prog) (c := cx) Try.underlying28 Try.underlying5 Try.underlying9 (Kd.C_below HC.out hb))
          clear hL ht hF HLb HSb HIb f0c f1c f2c hbl2
          by_cases h0 : st.length = 0
          · have hnil : st = [] := List.eq_nil_of_length_eq_zero h0
            subst hnil
            obtain rfl : t = -1 := by have := HT0.out; simp at this; omega
            have hcv0 : ∀ w', Below w.heap.size w w' → (convert 28 9 (.slice Ax x.f1.length cx)).run Try.prog w' = .ok (.string (strOfNums x.f1)) w' := HCV.out
            have o1 := own_lit_of (enc := Value.string) w2 w.heap.size 9 [(⟨#[]⟩ : ByteArray)] HL2.out.base.size (by simp)
            have o2 := own_lit_of (enc := Value.int .i64) (w2.alloc (.cells #[.string ⟨#[]⟩] 9)) w.heap.size 3 [(0 : Int)] (by have := HL2.out.base.size; simp; omega) (by simp)
            have hz2 : (w2.alloc (.cells #[.string ⟨#[]⟩] 9)).heap.size = w2.heap.size + 1 := by simp
            rw [hz2] at o2
            have hb2 : Below w2.heap.size w2 ((w2.alloc (.cells #[.string ⟨#[]⟩] 9)).alloc (.cells #[.int .i64 0] 3)) := below_alloc (below_alloc (Below.refl _ _) _) _
            have hR1 : Row 9 Value.string w ((w2.alloc (.cells #[.string ⟨#[]⟩] 9)).alloc (.cells #[.int .i64 0] 3)) F2 (.slice (some ⟨w2.heap.size, 0, none⟩) 1 1) [(⟨#[]⟩ : ByteArray)] :=
              ⟨pw_own_below o1 (below_alloc (Below.refl _ _) _), fun q hq hm => by have := (HL2.out.foot q hm).2; have e : w2.heap.size = q := (by simpa [Value.ownBlock] using hq); omega⟩
            have hR2 : Row 3 (Value.int .i64) w ((w2.alloc (.cells #[.string ⟨#[]⟩] 9)).alloc (.cells #[.int .i64 0] 3)) F2 (.slice (some ⟨w2.heap.size + 1, 0, none⟩) 1 1) [(0 : Int)] :=
              ⟨o2, fun q hq hm => by have := (HL2.out.foot q hm).2; have e : w2.heap.size + 1 = q := (by simpa [Value.ownBlock] using hq); omega⟩
            have HLn := Lib.hid (HL2.out.below hb2)
            have HSn := Lib.hid hR1
            have HIn := Lib.hid hR2
            have g8l : g8 < w2.heap.size := World.block_lt_of_cell? w2 _ f1w
            clear o1 o2 hz2 hb2 hR1 hR2 HL2 HS2 HI2 hcv0
            have f1n : ((w2.alloc (.cells #[.string ⟨#[]⟩] 9)).alloc (.cells #[.int .i64 0] 3)).cell? ⟨g8, 1, none⟩ = some (.slice Ax x.f1.length cx) := pw_cell_below (below_alloc (below_alloc (Below.refl _ _) _) _) f1w
            have hcs : ((w2.alloc (.cells #[.string ⟨#[]⟩] 9)).alloc (.cells #[.int .i64 0] 3)).cell? ⟨w2.heap.size, 0, none⟩ = some (.string ⟨#[]⟩) := by
              obtain ⟨_, _, he, _, hc, _⟩ := HSn.out.at_ 0 _ rfl
              injection he with he _ _
              injection he with he
              injection he with he
              rw [← he] at hc
              exact hc
            have hfs : ((w2.alloc (.cells #[.string ⟨#[]⟩] 9)).alloc (.cells #[.int .i64 0] 3)).frozen? ⟨w2.heap.size, 0, none⟩ = false := by
              obtain ⟨_, _, he, _, _, hf, _⟩ := HSn.out.at_ 0 _ rfl
              injection he with he _ _
              injection he with he
              injection he with he
              rw [← he] at hf
              exact hf
            have hlt0 : decide (((0 : Nat) : Int) - 1 < 0) = true := by decide
            have hlt1 : decide ((-1 : Int) < 0) = true := by decide
            go_upto_region 22 with fail
            obtain ⟨wn, hwn⟩ : ∃ wn, (w2.alloc (.cells #[.string ⟨#[]⟩] 9)).alloc (.cells #[.int .i64 0] 3) = wn := ⟨_, rfl⟩
            rw [hwn] at HLn HSn HIn f1n hcs hfs ⊢
            clear hwn
            have hcv1 := HCV.out wn HLn.out.base
            have hcv2 := HCV.out wn.drew (HLn.out.base.trans (below_drew (Below.refl _ _)))
            have hsz1 : (strOfNums x.f1).size = x.f1.length := str_size _
            have hsum0 : (⟨#[]⟩ : ByteArray) ++ strOfNums x.f1 = strOfNums x.f1 := by
              have := str_append [] x.f1
              exact this
            have hov0 : ¬ 9223372036854775807 < (⟨#[]⟩ : ByteArray).size + (strOfNums x.f1).size := by rw [hsz1]; show ¬ 9223372036854775807 < 0 + x.f1.length; omega
            have hov1 : ¬ 9223372036854775807 < x.f1.length := by omega
            have hov2 : ¬ 9223372036854775807 < (⟨#[]⟩ : ByteArray).size + x.f1.length := by show ¬ 9223372036854775807 < 0 + x.f1.length; omega
            go_still_tail 11, (by kernel_rfl)
            change wpList _ _ _ _ _ wn.drew
            have HLd := Lib.hid (HLn.out.below (below_drew (Below.refl _ _)))
            have HSd := Lib.hid (HSn.out.below (below_drew (Below.refl _ _)))
            have HId := Lib.hid (HIn.out.below (below_drew (Below.refl _ _)))
            have hcsd : wn.drew.cell? ⟨w2.heap.size, 0, none⟩ = some (.string ⟨#[]⟩) := hcs
            have hfsd : wn.drew.frozen? ⟨w2.heap.size, 0, none⟩ = false := hfs
            obtain ⟨wd, hwd⟩ : ∃ wd, wn.drew = wd := ⟨_, rfl⟩
            rw [hwd] at HLd HSd HId hcsd hfsd ⊢
            clear hwd HLn HSn HIn hcs hfs f1n hcv1 hcv2
            go_wp2_with fail
            go_meet
            have hst2 : st2 = [(x.f1, 0)] := HDD.out
            subst hst2
            refine ⟨rfl, ⟨F2, live_row HLd.out HSd.out 0 _, ?_, HId.out.far (HId.out.apart HSd.out (by decide)) 0 _⟩⟩
            exact HSd.out.set_ 0 (strOfNums x.f1)
          · obtain ⟨n, rfl⟩ : ∃ n : Nat, t = n := ⟨st.length - 1, by have := HT0.out; omega⟩
            have hnl : n < st.length := by have := HT0.out; omega
            have HNL : Hid (st.length - 1 = n) := by
              have : st.length - 1 = n := by have := HT0.out; omega
              exact this
            have hget := List.getElem?_eq_getElem hnl
            obtain ⟨⟨b, s⟩, hbs⟩ : ∃ y, st[n] = y := ⟨_, rfl⟩
            rw [hbs] at hget
            obtain ⟨g4, c4n, hv4, _, hcs, hfs, _⟩ := HS2.out.at_ _ _ (strs_get hget)
            rw [strs_len] at hv4
            injection hv4 with hv4 _ hcc4
            subst hv4
            subst hcc4
            have HGT := Lib.hid hget
            have hbl : b.length ≤ 1048576 := by have := total_mem (List.mem_of_getElem? hget); omega
            have hpos : 0 < st.length := by omega
            clear hget hbs
            go_upto_region 22 with fail
            have hcv1 := HCV.out w2 HL2.out.base
            have hcv2 := HCV.out w2.drew (HL2.out.base.trans (below_drew (Below.refl _ _)))
            have hsz1 : (strOfNums x.f1).size = x.f1.length := str_size _
            have hsz2 : (strOfNums b).size = b.length := str_size _
            have hsum0 : strOfNums b ++ strOfNums x.f1 = strOfNums (b ++ x.f1) := str_append _ _
            have hov0 : ¬ 9223372036854775807 < b.length + x.f1.length := by omega
            go_still_tail 11, (by kernel_rfl)
            change wpList _ _ _ _ _ w2.drew
            have HLd := Lib.hid (HL2.out.below (below_drew (Below.refl _ _)))
            have HSd := Lib.hid (HS2.out.below (below_drew (Below.refl _ _)))
            have HId := Lib.hid (HI2.out.below (below_drew (Below.refl _ _)))
            have hcsd : w2.drew.cell? ⟨g4, n, none⟩ = some (.string (strOfNums b)) := hcs
            have hfsd : w2.drew.frozen? ⟨g4, n, none⟩ = false := hfs
            obtain ⟨wd, hwd⟩ : ∃ wd, w2.drew = wd := ⟨_, rfl⟩
            rw [hwd] at HLd HSd HId hcsd hfsd ⊢
            clear hwd HL2 HS2 HI2 hcs hfs hcv1 hcv2
            go_wp2_with fail
            go_meet
            have e := last_row (n := n) HGT.out HNL.out (fun p => (p.1 ++ x.f1, p.2))
            have hst2 : st2 = onLast (fun p => (p.1 ++ x.f1, p.2)) st := by
              rw [HDD.out]
              unfold dappend
              rw [if_neg (by intro h; rw [h] at hpos; exact absurd hpos (by simp))]
            subst hst2
            have hS' : Row 9 Value.string w wd F2 (.slice (some ⟨g4, 0, none⟩) (strs st).length c4) (strs st) := by rw [strs_len]; exact HSd.out
            have h1 := hS'.set_ n (strOfNums (b ++ x.f1))
            rw [List.length_set, strs_len, ← e.1] at h1
            have h2 : safes (onLast (fun p => (p.1 ++ x.f1, p.2)) st) = safes st := by
              rw [e.2]
              exact set_same (x := s) (safes_get HGT.out)
            have hL5 := live_row HLd.out HSd.out n (.string (strOfNums (b ++ x.f1)))
            have hda : dappend st x.f1 = onLast (fun p => (p.1 ++ x.f1, p.2)) st := HDD.out.symm
            rw [hda] at hL5
            refine ⟨rfl, ⟨F2, hL5, h1, ?_⟩⟩
            rw [h2]
            exact HId.out.far (HId.out.apart HSd.out (by decide)) _ _
        · as_aux_lemma =>
          have hd : deed st x = dbegin st := by unfold deed; have hq := HQE.out; rw [if_neg (by omega), if_pos hq]
          have hnn : nw2 = nw := by have hq := HQE.out; rw [← HNW2.out, if_neg (by omega)]; omega
          have hdd : st2 = dbegin st := HST2.out.symm.trans hd
          clear hd
          subst hnn
          have HDD := Lib.hid hdd
          clear hdd
          go_wp2_with fail
          refine (live_begin HLb.out (by omega)).mono ?_
          rintro e w2 ⟨rfl, F2, hL, ht, hF⟩
          have HL2 := Lib.hid hL
          have HS2 := Lib.hid (HSb.out.next ht hF)
          have HI2 := Lib.hid (HIb.out.next ht hF)
          clear hL ht hF HLb HSb HIb f0c f1c f2c
          obtain ⟨wo, hwo⟩ : ∃ wo, wr = wo := ⟨_, rfl⟩
          clear hwo
          go_wp2_with fail
          go_loopw [99] (fun i wx => ∃ j : Nat, j ≤ st.length ∧ i = .int .i64 j ∧ Aside0 (Live w wx w1.heap.size F2 (dbegin st) nw2 ∧ Row 9 Value.string w wx F2 (.slice A4 st.length c4) (strs st) ∧ Row 3 (Value.int .i64) w wx F2 (.slice A5 st.length c5) (safes (dsyncTo st j))))
            (fun i _ => st.length - (intOf i).toNat)
          case atStart => exact ⟨0, Nat.zero_le _, rfl, ⟨HL2.out, HS2.out, by rw [dsyncTo_zero]; exact HI2.out⟩⟩
          case round =>
            obtain ⟨j, hj, rfl, hrel⟩ := hrel
            obtain ⟨hL, hS, hI⟩ := hrel.out
            clear hrel
            by_cases hjl : j < st.length
            · have hget := List.getElem?_eq_getElem hjl
              obtain ⟨⟨b, s⟩, hbs⟩ : ∃ y, st[j] = y := ⟨_, rfl⟩
              rw [hbs] at hget
              obtain ⟨g4, c4n, hv4, _, hcs, _⟩ := hS.at_ _ _ (strs_get hget)
              obtain ⟨g5, c5n, hv5, _, hci, hfi, _⟩ := hI.at_ j s (safes_get ((dsyncTo_get st j hjl).trans hget))
              rw [strs_len] at hv4
              rw [safes_len, dsyncTo_len] at hv5
              injection hv4 with hv4 _ hcc4
              injection hv5 with hv5 _ hcc5
              subst hv4 hv5 hcc4 hcc5
              have hsz : (strOfNums b).size = b.length := str_size b
              have hI' : Row 3 (Value.int .i64) w wr F2 (.slice (some ⟨g5, 0, none⟩) (safes (dsyncTo st j)).length c5) (safes (dsyncTo st j)) := by rw [safes_len, dsyncTo_len]; exact hI
              have HLx := Lib.hid (live_row hL hI' j (.int .i64 b.length))
              have HSx := Lib.hid (hS.far (hS.apart hI' (by decide)) j (.int .i64 b.length))
              have hI2 := hI'.set_ j (b.length : Int)
              have hst : (safes (dsyncTo st j)).set j (b.length : Int) = safes (dsyncTo st (j + 1)) := by
                rw [← dsyncTo_set st j (b, s) hget]
                simp [safes, List.map_set]
              rw [hst, safes_len, dsyncTo_len] at hI2
              have HIx := Lib.hid hI2
              clear hget hbs hL hS hI hI' hI2 hst
              go_wp2
              go_roundw
              case rel => exact ⟨j + 1, by omega, by go_num, ⟨HLx.out, HSx.out, HIx.out⟩⟩
              case measure => simp [intOf]; omega
            · have hjj : j = st.length := by omega
              have hI3 : Row 3 (Value.int .i64) w wr F2 (.slice A5 st.length c5) (safes (dsync st)) := by rw [hjj, dsyncTo_all] at hI; exact hI
              have HL3 := Lib.hid hL
              have HS3 := Lib.hid hS
              have HI3 := Lib.hid hI3
              clear hL hS hI hI3 HL2 HS2 HI2
              go_wp2_with ((with_reducible refine gate_builtin (b := .append) (xs := #[.tmp 111, .tmp 112]) rfl ?_); at_builtin; refine print_append_of (w0 := wr) Value.string w.heap.size rfl (.tmp 111) (.tmp 112) 35 9 (.string ByteArray.empty) 16 rfl Try.underlying35 infoStr rfl (by decide) (.slice A4 st.length c4) (strs st) (⟨#[]⟩ : ByteArray) rfl rfl rfl HS3.out.1 (Below.refl _ _) HL3.out.base.size (by rw [strs_len]; omega) ?_)
              intro v6 w6 hown hB hg hat
              have hown' : w6.ownsRow w.heap.size 9 1 v6 (strs st ++ [(⟨#[]⟩ : ByteArray)]).length (encs Value.string (strs st ++ [(⟨#[]⟩ : ByteArray)])) := by
                have : (strs st ++ [(⟨#[]⟩ : ByteArray)]).length = st.length + 1 := by rw [List.length_append, strs_len]; rfl
                rw [this]
                simpa [strs_len] using hown
              have HL6 := Lib.hid (live_grown HL3.out hg (fun q hq => ⟨HS3.out.2 q hq, (HS3.out.1.lt q hq).1⟩))
              have HS6 := Lib.hid (Row.grown HL3.out HS3.out hown' hat)
              have HI6 := Lib.hid (HI3.out.over HS3.out hg (by decide))
              clear hown hown' hB hg hat HL3 HS3 HI3
              obtain ⟨A6, c6, hv6, _⟩ := HS6.out.slice
              subst hv6
              go_wp2_with ((with_reducible refine gate_builtin (b := .append) (xs := #[.tmp 114, .tmp 115]) rfl ?_); at_builtin; refine print_append_of (w0 := w6) (Value.int .i64) w.heap.size rfl (.tmp 114) (.tmp 115) 38 3 (.int .i64 0) 8 rfl Try.underlying38 infoInt rfl (by decide) (.slice A5 st.length c5) (safes (dsync st)) (0 : Int) rfl rfl rfl HI6.out.1 (Below.refl _ _) HL6.out.base.size (by rw [safes_len, dsync_len]; omega) ?_)
              intro v7 w7 hown hB hg hat
              have hown' : w7.ownsRow w.heap.size 3 1 v7 (safes (dsync st) ++ [(0 : Int)]).length (encs (Value.int .i64) (safes (dsync st) ++ [(0 : Int)])) := by
                have : (safes (dsync st) ++ [(0 : Int)]).length = st.length + 1 := by rw [List.length_append, safes_len, dsync_len]; rfl
                rw [this]
                simpa [safes_len, dsync_len] using hown
              have HL7 := Lib.hid (live_grown HL6.out hg (fun q hq => ⟨HI6.out.2 q hq, (HI6.out.1.lt q hq).1⟩))
              have HI7 := Lib.hid (Row.grown HL6.out HI6.out hown' hat)
              have HS7 := Lib.hid (HS6.out.over HI6.out hg (by decide))
              clear hown hown' hB hg hat HL6 HS6 HI6
              go_wp2_with fail
              go_meet
              refine ⟨rfl, ⟨F2, by rw [HDD.out]; exact HL7.out, ?_, ?_⟩⟩
              · have e : strs st2 = strs st ++ [(⟨#[]⟩ : ByteArray)] := by rw [HDD.out]; simp [strs, dbegin, dsync, List.map_map, Function.comp_def]; rfl
                have h := HS7.out
                rw [List.length_append] at h
                rw [e]; exact h
              · have e : safes st2 = safes (dsync st) ++ [(0 : Int)] := by rw [HDD.out]; simp [safes, dbegin]
                rw [e]; exact HI7.out
        · as_aux_lemma =>
          have hd : deed st x = dsync st := by unfold deed; have hq := HQE.out; rw [if_neg (by omega), if_neg (by omega), if_pos hq]
          have hnn : nw2 = nw := by have hq := HQE.out; rw [← HNW2.out, if_neg (by omega)]; omega
          have hdd : st2 = dsync st := HST2.out.symm.trans hd
          clear hd
          subst hnn
          have HDD := Lib.hid hdd
          clear hdd
          go_wp2_with fail
          refine (live_sync HLb.out (by omega)).mono ?_
          rintro e w2 ⟨rfl, F2, hL, ht, hF⟩
          have HL2 := Lib.hid hL
          have HS2 := Lib.hid (HSb.out.next ht hF)
          have HI2 := Lib.hid (HIb.out.next ht hF)
          clear hL ht hF HLb HSb HIb f0c f1c f2c
          obtain ⟨wo, hwo⟩ : ∃ wo, wr = wo := ⟨_, rfl⟩
          clear hwo
          go_wp2_with fail
          go_loopw [123] (fun i wx => ∃ j : Nat, j ≤ st.length ∧ i = .int .i64 j ∧ Aside0 (Live w wx w1.heap.size F2 (dsync st) nw2 ∧ Row 9 Value.string w wx F2 (.slice A4 st.length c4) (strs st) ∧ Row 3 (Value.int .i64) w wx F2 (.slice A5 st.length c5) (safes (dsyncTo st j))))
            (fun i _ => st.length - (intOf i).toNat)
          case atStart => exact ⟨0, Nat.zero_le _, rfl, ⟨HL2.out, HS2.out, by rw [dsyncTo_zero]; exact HI2.out⟩⟩
          case round =>
            obtain ⟨j, hj, rfl, hrel⟩ := hrel
            obtain ⟨hL, hS, hI⟩ := hrel.out
            clear hrel
            by_cases hjl : j < st.length
            · have hget := List.getElem?_eq_getElem hjl
              obtain ⟨⟨b, s⟩, hbs⟩ : ∃ y, st[j] = y := ⟨_, rfl⟩
              rw [hbs] at hget
              obtain ⟨g4, c4n, hv4, _, hcs, _⟩ := hS.at_ _ _ (strs_get hget)
              obtain ⟨g5, c5n, hv5, _, hci, hfi, _⟩ := hI.at_ j s (safes_get ((dsyncTo_get st j hjl).trans hget))
              rw [strs_len] at hv4
              rw [safes_len, dsyncTo_len] at hv5
              injection hv4 with hv4 _ hcc4
              injection hv5 with hv5 _ hcc5
              subst hv4 hv5 hcc4 hcc5
              have hsz : (strOfNums b).size = b.length := str_size b
              have hI' : Row 3 (Value.int .i64) w wr F2 (.slice (some ⟨g5, 0, none⟩) (safes (dsyncTo st j)).length c5) (safes (dsyncTo st j)) := by rw [safes_len, dsyncTo_len]; exact hI
              have HLx := Lib.hid (live_row hL hI' j (.int .i64 b.length))
              have HSx := Lib.hid (hS.far (hS.apart hI' (by decide)) j (.int .i64 b.length))
              have hI2 := hI'.set_ j (b.length : Int)
              have hst : (safes (dsyncTo st j)).set j (b.length : Int) = safes (dsyncTo st (j + 1)) := by
                rw [← dsyncTo_set st j (b, s) hget]
                simp [safes, List.map_set]
              rw [hst, safes_len, dsyncTo_len] at hI2
              have HIx := Lib.hid hI2
              clear hget hbs hL hS hI hI' hI2 hst
              go_wp2
              go_roundw
              case rel => exact ⟨j + 1, by omega, by go_num, ⟨HLx.out, HSx.out, HIx.out⟩⟩
              case measure => simp [intOf]; omega
            · have hjj : j = st.length := by omega
              have hI3 : Row 3 (Value.int .i64) w wr F2 (.slice A5 st.length c5) (safes (dsync st)) := by rw [hjj, dsyncTo_all] at hI; exact hI
              have HL3 := Lib.hid hL
              have HS3 := Lib.hid hS
              have HI3 := Lib.hid hI3
              clear hL hS hI hI3 HL2 HS2 HI2
              go_wp2_with fail
              go_meet
              refine ⟨rfl, ⟨F2, by rw [HDD.out]; exact HL3.out, ?_, ?_⟩⟩
              · have e : strs st2 = strs st := by rw [HDD.out]; simp [strs, dsync, List.map_map, Function.comp_def]
                rw [e]; exact HS3.out
              · rw [HDD.out]; exact HI3.out
        · as_aux_lemma =>
          have hd : deed st x = dcrash st x.f2 := by unfold deed; have hq := HQE.out; rw [if_neg (by omega), if_neg (by omega), if_neg (by omega), if_pos hq]
          have hnn : nw2 = nw := by have hq := HQE.out; rw [← HNW2.out, if_neg (by omega)]; omega
          have hdd : st2 = dcrash st x.f2 := HST2.out.symm.trans hd
          clear hd
          subst hnn
          have HDD := Lib.hid hdd
          clear hdd
          have hN1 : IntKind.i64.wrap x.f2 = x.f2 := by rw [i64_w]; unfold wrap64; omega
          have hN2 : wrap64 x.f2 = x.f2 := by unfold wrap64; omega
          go_wp2_with fail
          refine (live_crash HLb.out (by omega) x.f2 (by omega) (by omega) (by intro b t h; have h1 := HOK.out.1 b t h; have := total_mem h; exact ⟨h1.1, h1.2, by omega⟩)).mono ?_
          rintro e w2 ⟨rfl, F2, hL, ht, hF⟩
          have HL2 := Lib.hid hL
          have HS2 := Lib.hid (HSb.out.next ht hF)
          have HI2 := Lib.hid (HIb.out.next ht hF)
          have hbl2 : w2.heap[g8]? = wb.heap[g8]? := ht.block g8 (blk_lt HBLK.out) (fun hm => HG8.out g8 hm rfl)
          have f2w : w2.cell? ⟨g8, 2, none⟩ = some (.int .i8 x.f2) := (World.cell?_of_block (a := ⟨g8, 2, none⟩) hbl2).trans f2c
          clear hL ht hF HLb HSb HIb f0c f1c f2c hbl2
          by_cases h0 : st.length = 0
          · have hnil : st = [] := List.eq_nil_of_length_eq_zero h0
            subst hnil
            obtain rfl : t = -1 := by have := HT0.out; simp at this; omega
            go_wp2_with fail
            go_meet
            have hst2 : st2 = [] := HDD.out
            subst hst2
            exact ⟨rfl, ⟨F2, HL2.out, HS2.out, HI2.out⟩⟩
          · obtain ⟨n, rfl⟩ : ∃ n : Nat, t = n := ⟨st.length - 1, by have := HT0.out; omega⟩
            have hnl : n < st.length := by have := HT0.out; omega
            have HNL : Hid (st.length - 1 = n) := by
              have : st.length - 1 = n := by have := HT0.out; omega
              exact this
            have hget := List.getElem?_eq_getElem hnl
            obtain ⟨⟨b, s⟩, hbs⟩ : ∃ y, st[n] = y := ⟨_, rfl⟩
            rw [hbs] at hget
            obtain ⟨g4, c4n, hv4, _, hcs, hfs, _⟩ := HS2.out.at_ _ _ (strs_get hget)
            obtain ⟨g5, c5n, hv5, _, hci, hfi, _⟩ := HI2.out.at_ _ _ (safes_get hget)
            rw [strs_len] at hv4
            rw [safes_len] at hv5
            injection hv4 with hv4 _ hcc4
            injection hv5 with hv5 _ hcc5
            subst hv4 hv5 hcc4 hcc5
            have HGT := Lib.hid hget
            have hbl : b.length ≤ 1048576 := by have := total_mem (List.mem_of_getElem? hget); omega
            obtain ⟨hs0, hs1⟩ := HOK.out.1 b s (List.mem_of_getElem? hget)
            have hpos : 0 < st.length := by omega
            have hsz : (strOfNums b).size = b.length := str_size b
            have hne45 : ¬ g4 = g5 := fun e => HI2.out.apart HS2.out (by decide) (by rw [e]; rfl)
            have hne54 : ¬ g5 = g4 := fun e => hne45 e.symm
            clear hget hbs
            obtain ⟨m, hm⟩ : ∃ m : Nat, left (b, s) x.f2 = m := ⟨_, rfl⟩
            have hmi : (m : Int) = s + max 0 (min x.f2 ((b.length : Int) - s)) := by
              rw [← hm]; show ((s + max 0 (min x.f2 ((b.length : Int) - s))).toNat : Int) = _; omega
            obtain ⟨rr, hrr⟩ : ∃ rr : Int, (if 0 < x.f2 then x.f2 else 0) = rr := ⟨_, rfl⟩
            have hrv : rr = max 0 x.f2 := by rw [← hrr]; split <;> omega
            have hw2 : IntKind.i64.wrap (s + rr) = s + rr := by rw [i64_w]; unfold wrap64; omega
            have hmn : (if s + rr < (b.length : Int) then s + rr else (b.length : Int)) = (m : Int) := by rw [hmi, hrv]; split <;> omega
            have d1 : decide (0 ≤ (m : Int)) = true := decide_eq_true (by omega)
            have d2 : decide ((m : Int) ≤ (b.length : Int)) = true := decide_eq_true (by omega)
            have hmb : m ≤ b.length := by omega
            have hsx : (strOfNums b).extract 0 m = strOfNums (b.take m) := str_extract b m
            have hrb : 0 ≤ rr ∧ rr ≤ 128 := by omega
            have HM := Lib.hid hm
            clear hmi hrv hm
            go_upto_region 41 with fail
            go_still_tail 23, (by kernel_rfl)
            change wpList _ _ _ _ _ w2.drew
            have HLd := Lib.hid (HL2.out.below (below_drew (Below.refl _ _)))
            have HSd := Lib.hid (HS2.out.below (below_drew (Below.refl _ _)))
            have HId := Lib.hid (HI2.out.below (below_drew (Below.refl _ _)))
            have hcsd : w2.drew.cell? ⟨g4, n, none⟩ = some (.string (strOfNums b)) := hcs
            have hfsd : w2.drew.frozen? ⟨g4, n, none⟩ = false := hfs
            have hcid : w2.drew.cell? ⟨g5, n, none⟩ = some (.int .i64 s) := hci
            have hfid : w2.drew.frozen? ⟨g5, n, none⟩ = false := hfi
            obtain ⟨wd, hwd⟩ : ∃ wd, w2.drew = wd := ⟨_, rfl⟩
            rw [hwd] at HLd HSd HId hcsd hfsd hcid hfid ⊢
            have hszm : (strOfNums (b.take m)).size = m := by rw [str_size, List.length_take]; omega
            clear hwd HL2 HS2 HI2 hcs hfs hci hfi hrr hmn
            go_wp2_with fail
            go_meet
            have e := last_row (n := n) HGT.out HNL.out (fun p => (p.1.take (left p x.f2), (left p x.f2 : Int)))
            simp only [HM.out] at e
            have hS' : Row 9 Value.string w wd F2 (.slice (some ⟨g4, 0, none⟩) (strs st).length c4) (strs st) := by rw [strs_len]; exact HSd.out
            have h4 := hS'.set_ n (strOfNums (b.take m))
            have h5 : Row 3 (Value.int .i64) w (wd.setCell ⟨g4, n, none⟩ (.string (strOfNums (b.take m)))) F2 (.slice (some ⟨g5, 0, none⟩) (safes st).length c5) (safes st) := by rw [safes_len]; exact HId.out.far (HId.out.apart HSd.out (by decide)) _ _
            have h6 := h5.set_ n (m : Int)
            have hL4 := live_row HLd.out hS' n (.string (strOfNums (b.take m)))
            have hst2 : st2 = onLast (fun p => (p.1.take (left p x.f2), (left p x.f2 : Int))) st := HDD.out
            have h7 := h4.far (h4.apart h5 (by decide)) n (.int .i64 (m : Int))
            have hL5 := live_row hL4 h5 n (.int .i64 (m : Int))
            rw [← e.1, ← hst2, strs_len] at h7
            rw [← e.2, ← hst2, safes_len] at h6
            have hlen2 : st2.length = st.length := by rw [HDD.out]; exact crash_len _ _
            rw [hlen2] at h6 h7
            rw [← HDD.out] at hL5
            exact ⟨rfl, ⟨F2, hL5, h7, h6⟩⟩
        · as_aux_lemma =>
          have hd : deed st x = dcut st x.f2 := by unfold deed; have hq := HQE.out; rw [if_neg (by omega), if_neg (by omega), if_neg (by omega), if_neg (by omega)]
          have hnn : nw2 = nw := by have hq := HQE.out; rw [← HNW2.out, if_neg (by omega)]; omega
          have hdd : st2 = dcut st x.f2 := HST2.out.symm.trans hd
          clear hd
          subst hnn
          have HDD := Lib.hid hdd
          clear hdd
          have hN1 : IntKind.i64.wrap x.f2 = x.f2 := by rw [i64_w]; unfold wrap64; omega
          have hN2 : wrap64 x.f2 = x.f2 := by unfold wrap64; omega
          go_wp2_with fail
          refine (live_cut HLb.out (by omega) x.f2 (by intro b t h; have h1 := HOK.out.1 b t h; have := total_mem h; exact ⟨h1.1, h1.2, by omega⟩)).mono ?_
          rintro e w2 ⟨rfl, F2, hL, ht, hF⟩
          have HL2 := Lib.hid hL
          have HS2 := Lib.hid (HSb.out.next ht hF)
          have HI2 := Lib.hid (HIb.out.next ht hF)
          have hbl2 : w2.heap[g8]? = wb.heap[g8]? := ht.block g8 (blk_lt HBLK.out) (fun hm => HG8.out g8 hm rfl)
          have f2w : w2.cell? ⟨g8, 2, none⟩ = some (.int .i8 x.f2) := (World.cell?_of_block (a := ⟨g8, 2, none⟩) hbl2).trans f2c
          clear hL ht hF HLb HSb HIb f0c f1c f2c hbl2
          by_cases h0 : st.length = 0
          · have hnil : st = [] := List.eq_nil_of_length_eq_zero h0
            subst hnil
            obtain rfl : t = -1 := by have := HT0.out; simp at this; omega
            go_wp2_with fail
            go_meet
            have hst2 : st2 = [] := HDD.out
            subst hst2
            exact ⟨rfl, ⟨F2, HL2.out, HS2.out, HI2.out⟩⟩
          · obtain ⟨n, rfl⟩ : ∃ n : Nat, t = n := ⟨st.length - 1, by have := HT0.out; omega⟩
            have hnl : n < st.length := by have := HT0.out; omega
            have HNL : Hid (st.length - 1 = n) := by
              have : st.length - 1 = n := by have := HT0.out; omega
              exact this
            have hget := List.getElem?_eq_getElem hnl
            obtain ⟨⟨b, s⟩, hbs⟩ : ∃ y, st[n] = y := ⟨_, rfl⟩
            rw [hbs] at hget
            obtain ⟨g4, c4n, hv4, _, hcs, hfs, _⟩ := HS2.out.at_ _ _ (strs_get hget)
            obtain ⟨g5, c5n, hv5, _, hci, hfi, _⟩ := HI2.out.at_ _ _ (safes_get hget)
            rw [strs_len] at hv4
            rw [safes_len] at hv5
            injection hv4 with hv4 _ hcc4
            injection hv5 with hv5 _ hcc5
            subst hv4 hv5 hcc4 hcc5
            have HGT := Lib.hid hget
            have hbl : b.length ≤ 1048576 := by have := total_mem (List.mem_of_getElem? hget); omega
            obtain ⟨hs0, hs1⟩ := HOK.out.1 b s (List.mem_of_getElem? hget)
            have hpos : 0 < st.length := by omega
            have hsz : (strOfNums b).size = b.length := str_size b
            have hne45 : ¬ g4 = g5 := fun e => HI2.out.apart HS2.out (by decide) (by rw [e]; rfl)
            have hne54 : ¬ g5 = g4 := fun e => hne45 e.symm
            clear hget hbs
            obtain ⟨m, hm⟩ : ∃ m : Nat, (max 0 (min x.f2 (b.length : Int))).toNat = m := ⟨_, rfl⟩
            have hmi : (m : Int) = max 0 (min x.f2 (b.length : Int)) := by rw [← hm]; omega
            obtain ⟨q, hqq⟩ : ∃ q : Int, (if (b.length : Int) < x.f2 then (b.length : Int) else x.f2) = q := ⟨_, rfl⟩
            have hqv : q = min x.f2 (b.length : Int) := by rw [← hqq]; split <;> omega
            have hmx : (if 0 < q then q else 0) = (m : Int) := by rw [hmi, hqv]; split <;> omega
            obtain ⟨z, hzz⟩ : ∃ z : Int, (if (m : Int) < s then (m : Int) else s) = z := ⟨_, rfl⟩
            have hzv : z = min s (m : Int) := by rw [← hzz]; split <;> omega
            have d1 : decide (0 ≤ (m : Int)) = true := decide_eq_true (by omega)
            have d2 : decide ((m : Int) ≤ (b.length : Int)) = true := decide_eq_true (by omega)
            have hmb : m ≤ b.length := by omega
            have hsx : (strOfNums b).extract 0 m = strOfNums (b.take m) := str_extract b m
            have HM := Lib.hid hm
            have HZ := Lib.hid hzv
            clear hmi hqv hm hzv
            go_upto_region 14 with fail
            go_still_tail 18, (by kernel_rfl)
            change wpList _ _ _ _ _ w2.drew
            have HLd := Lib.hid (HL2.out.below (below_drew (Below.refl _ _)))
            have HSd := Lib.hid (HS2.out.below (below_drew (Below.refl _ _)))
            have HId := Lib.hid (HI2.out.below (below_drew (Below.refl _ _)))
            have hcsd : w2.drew.cell? ⟨g4, n, none⟩ = some (.string (strOfNums b)) := hcs
            have hfsd : w2.drew.frozen? ⟨g4, n, none⟩ = false := hfs
            have hcid : w2.drew.cell? ⟨g5, n, none⟩ = some (.int .i64 s) := hci
            have hfid : w2.drew.frozen? ⟨g5, n, none⟩ = false := hfi
            obtain ⟨wd, hwd⟩ : ∃ wd, w2.drew = wd := ⟨_, rfl⟩
            rw [hwd] at HLd HSd HId hcsd hfsd hcid hfid ⊢
            have hszm : (strOfNums (b.take m)).size = m := by rw [str_size, List.length_take]; omega
            clear hwd HL2 HS2 HI2 hcs hfs hci hfi hqq hmx
            go_upto_region 15 with fail
            have hS' : Row 9 Value.string w wd F2 (.slice (some ⟨g4, 0, none⟩) (strs st).length c4) (strs st) := by rw [strs_len]; exact HSd.out
            have h4 := hS'.set_ n (strOfNums (b.take m))
            have h5 : Row 3 (Value.int .i64) w (wd.setCell ⟨g4, n, none⟩ (.string (strOfNums (b.take m)))) F2 (.slice (some ⟨g5, 0, none⟩) (safes st).length c5) (safes st) := by rw [safes_len]; exact HId.out.far (HId.out.apart HSd.out (by decide)) _ _
            have H4 := Lib.hid h4
            have H5 := Lib.hid h5
            have HL4 := Lib.hid (live_row HLd.out hS' n (.string (strOfNums (b.take m))))
            have c1 : (wd.setCell ⟨g4, n, none⟩ (.string (strOfNums (b.take m)))).cell? ⟨g4, n, none⟩ = some (.string (strOfNums (b.take m))) := World.cell?_setCell_same wd ⟨g4, n, none⟩ _ hcsd
            have c2 : (wd.setCell ⟨g4, n, none⟩ (.string (strOfNums (b.take m)))).cell? ⟨g5, n, none⟩ = some (.int .i64 s) := (World.cell?_setCell_other wd _ _ _ (by intro h; injection h with h _ _; exact hne45 h)).trans hcid
            have c3 : (wd.setCell ⟨g4, n, none⟩ (.string (strOfNums (b.take m)))).frozen? ⟨g5, n, none⟩ = false := (World.frozen?_setCell _ _ _ _).trans hfid
            obtain ⟨we, hwe⟩ : ∃ we, wd.setCell ⟨g4, n, none⟩ (.string (strOfNums (b.take m))) = we := ⟨_, rfl⟩
            rw [hwe] at H4 H5 HL4 c1 c2 c3 ⊢
            clear hwe h4 h5 hS' HLd HSd HId hcsd hfsd hcid hfid
            go_still_tail 13, (by kernel_rfl)
            change wpList _ _ _ _ _ we.drew
            have H4f := Lib.hid (H4.out.below (below_drew (Below.refl _ _)))
            have H5f := Lib.hid (H5.out.below (below_drew (Below.refl _ _)))
            have HLf := Lib.hid (HL4.out.below (below_drew (Below.refl _ _)))
            have c2f : we.drew.cell? ⟨g5, n, none⟩ = some (.int .i64 s) := c2
            have c3f : we.drew.frozen? ⟨g5, n, none⟩ = false := c3
            obtain ⟨wf, hwf⟩ : ∃ wf, we.drew = wf := ⟨_, rfl⟩
            rw [hwf] at H4f H5f HLf c2f c3f ⊢
            clear hwf H4 H5 HL4 c1 c2 c3 hzz
            go_wp2_with fail
            go_meet
            have e := last_row (n := n) HGT.out HNL.out (fun p => (p.1.take (max 0 (min x.f2 p.1.length)).toNat, min p.2 ((max 0 (min x.f2 p.1.length)).toNat : Int)))
            simp only [HM.out] at e
            rw [← HZ.out] at e
            have h6 := H5f.out.set_ n z
            have hst2 : st2 = onLast (fun p => (p.1.take (max 0 (min x.f2 p.1.length)).toNat, min p.2 ((max 0 (min x.f2 p.1.length)).toNat : Int))) st := HDD.out
            have h7 := H4f.out.far (H4f.out.apart H5f.out (by decide)) n (.int .i64 z)
            have hL5 := live_row HLf.out H5f.out n (.int .i64 z)
            rw [← e.1, ← hst2, strs_len] at h7
            rw [← e.2, ← hst2, safes_len] at h6
            have hlen2 : st2.length = st.length := by rw [HDD.out]; exact cut_len _ _
            rw [hlen2] at h6 h7
            rw [← HDD.out] at hL5
            exact ⟨rfl, ⟨F2, hL5, h7, h6⟩⟩
      case rest => as_aux_lemma =>
        obtain ⟨rfl, hcut⟩ := hcut
        obtain ⟨F2, hL, hS, hI⟩ := hcut.out
        clear hcut
        obtain ⟨A4', c4', hv4, hc4'⟩ := hS.slice
        obtain ⟨A5', c5', hv5, hc5'⟩ := hI.slice
        subst hv4 hv5
        rw [strs_len] at hc4' hS ⊢
        rw [safes_len] at hc5' hI ⊢
        have HL := Lib.hid hL
        have HS := Lib.hid hS
        have HI := Lib.hid hI
        have hsok := fine_safeOk HOK2.out (by omega)
        have HSOK := Lib.hid hsok
        have htl : ∀ j : Nat, 0 ≤ dlast (st2.take j) := by
          intro j
          unfold dlast
          split
          · exact Int.le_refl _
          · omega
        clear hL hS hI hsok HLb HSb HIb htl
        obtain ⟨wo, hwo⟩ : ∃ wo, wc = wo := ⟨_, rfl⟩
        rw [hwo] at HL HS HI ⊢
        clear hwo
        go_wp2_with fail
        go_loopw [12, 13, 177] (fun sa la i wx => ∃ j : Nat, j ≤ st2.length ∧ i = .int .i64 j ∧ sa = .int .i64 (dsafe (st2.take j)) ∧ la = .int .i64 (dlast (st2.take j)) ∧ Aside0 (Drawn0 wo wx))
          (fun _ _ i _ => st2.length - (intOf i).toNat)
        case atStart => exact ⟨0, Nat.zero_le _, rfl, rfl, rfl, ⟨Drawn0.refl _⟩⟩
        case round =>
          obtain ⟨j, hj, rfl, rfl, rfl, HD⟩ := hrel
          have hb0 := HSOK.out j
          by_cases hjl : j < st2.length
          · have hget2 := List.getElem?_eq_getElem hjl
            obtain ⟨y, hy⟩ : ∃ y, st2[j] = y := ⟨_, rfl⟩
            rw [hy] at hget2
            obtain ⟨g4, c4q, hv4, hc4q, hcell4, _⟩ := (HS.out.below HD.out.below).at_ j _ (strs_get hget2)
            obtain ⟨g5, c5q, hv5, hc5q, hcell5, _⟩ := (HI.out.below HD.out.below).at_ j _ (safes_get hget2)
            rw [strs_len] at hv4
            rw [safes_len] at hv5
            injection hv4 with hv4 _ hcc4
            injection hv5 with hv5 _ hcc5
            subst hv4 hv5
            have hb1 := HSOK.out (j + 1)
            rw [dsafe_take st2 j y hget2] at hb1
            have hs1 := str_size y.1
            have HT1 := Lib.hid (dsafe_take st2 j y hget2)
            have HT2 := Lib.hid (dlast_take st2 j y hget2)
            clear hget2 hy hcc4 hcc5
            generalize dsafe (st2.take j) = sm at *
            go_wp2
            go_roundw
            case rel => exact ⟨j + 1, by omega, by go_num, by rw [HT1.out], by rw [HT2.out], HD⟩
            case measure => simp [intOf]; omega
          · have hjj : j = st2.length := by omega
            have hLr := HL.out.below HD.out.below
            have hSr := HS.out.below HD.out.below
            have hIr := HI.out.below HD.out.below
            have ht1 : dsafe (st2.take j) = dsafe st2 := by rw [hjj, List.take_length]
            have ht2 : dlast (st2.take j) = dlast st2 := by rw [hjj, List.take_length]
            rw [ht1, ht2]
            have HLr := Lib.hid hLr
            have HSr := Lib.hid hSr
            have HIr := Lib.hid hIr
            clear hLr hSr hIr ht1 ht2 HL HS HI hb0
            have hmemt : ∀ b t, (b, t) ∈ st2 → b.length ≤ 140737488355328 := by intro b t h; have := total_mem h; omega
            have HMT := Lib.hid hmemt
            clear hmemt
            go_wp2_with fail
            refine (live_segments HLr.out (by omega) HMT.out).mono ?_
            rintro e wq ⟨v, rfl, hR, hB⟩
            obtain ⟨Aq, cq, hv⟩ := Kd.R_slice hR
            rw [dsegs_len] at hv
            subst hv
            have hRr := Kd.R_reads' hR
            have HRA : Hid (Kd.C (Kd.slice 5 (Kd.int .u8)) wq Aq (dsegs st2).length (dsegs st2)) := by
              have := hRr.2.2
              exact this
            have HLq := Lib.hid (HLr.out.below hB)
            have HSq := Lib.hid (HSr.out.below hB)
            have HIq := Lib.hid (HIr.out.below hB)
            have hcq2 : st2.length ≤ cq := hRr.2.1
            clear hR hB hRr HLr HSr HIr
            go_wp2_with fail
            have hsame := same_true wq Aq cq (dsegs st2) A4' c4' (strs st2) HRA.out (HSq.out.reads rfl) (by rw [dsegs_len]; omega) (by rw [strs_len]; omega) (strs_segs st2) (by rw [dsegs_len]; omega)
            rw [dsegs_len, strs_len] at hsame
            refine hsame.mono ?_
            clear hsame
            rintro e wt ⟨rfl, hB⟩
            have HLt := Lib.hid (HLq.out.below hB)
            have HSt := Lib.hid (HSq.out.below hB)
            have HIt := Lib.hid (HIq.out.below hB)
            clear hB HLq HSq HIq HRA
            go_wp2_with fail
            refine (live_safe HLt.out (by omega) HSOK.out).mono ?_
            rintro e wu ⟨rfl, hB⟩
            have HLu := Lib.hid (HLt.out.below hB)
            have HSu := Lib.hid (HSt.out.below hB)
            have HIu := Lib.hid (HIt.out.below hB)
            clear hB HLt HSt HIt
            have hself : ∀ z : Int, (z == z) = true := fun z => by simp
            go_wp2_with fail
            refine (live_last HLu.out (by omega)).mono ?_
            rintro e wv ⟨rfl, nd, rfl⟩
            have HLv := Lib.hid (HLu.out.below (pw_below_drewN (Below.refl _ _) nd))
            have HSv := Lib.hid (HSu.out.below (pw_below_drewN (Below.refl _ _) nd))
            have HIv := Lib.hid (HIu.out.below (pw_below_drewN (Below.refl _ _) nd))
            go_wp2_with fail
            refine (live_writes HLv.out).mono ?_
            rintro e wz ⟨rfl, rfl⟩
            go_wp2_with fail
            have e1 : deeds (l0.take (k + 1)) = st2 := HN.out.trans HST2.out
            have e2 : counts (l0.take (k + 1)) = nw2 := HCN.out.trans HNW2.out
            refine ⟨⟨k + 1, by omega, by go_num, by rw [e2], ⟨F2, by rw [e1, e2]; exact HLv.out, ?_, ?_⟩⟩, by simp only [intOf]; omega⟩
            · rw [e1]; exact HSv.out
            · rw [e1]; exact HIv.out
    · have hkk : k = l0.length := by omega
      go_wp2
      go_ret
      exact ⟨rfl, hL.base⟩
end Go.Proofs.Ytkicgmhbcldbbaa.PD
