/-
  The law PointWrite walked: what the writer writes is what the law's own map says. No macro, syntax, notation, axiom, sorry.
-/
import Derived.Test.YtdmpmcmpkmldnaaPPx7
namespace Go.Proofs.Ytdmpmcmpkmldnaa.PP
open Go.RowKit Go.Proofs.YtdmpmcmpkmldnaaW.PrintWords Go.Proofs.YtdmpmcmpkmldnaaW.PrintLast Go.Proofs.Ytdmpmcmpkmldnaa.Base Go.Proofs.Ytdmpmcmpkmldnaa.Nam Go.Proofs.Ytdmpmcmpkmldnaa.Trn Go.Proofs.Ytdmpmcmpkmldnaa.MapS Go.Proofs.Ytdmpmcmpkmldnaa.Wr Go.Proofs.Ytdmpmcmpkmldnaa.Rd
set_option linter.unusedVariables false
set_option linter.unusedSimpArgs false
set_option maxRecDepth 100000

/-- In the law's inner loop: the writer as it was, the law's own map, and what is still to be written. -/
structure WHead (w wx : World) (g b : Nat) (F : List Nat) (bq : List Int) (f : List Int → Option Int) (fin : List Int × (List Int → Option Int)) (ls : List (List Int)) (v : List Int) (f2 : List Int → Option Int) (n : Nat) : Prop where
  wr : Wr wx w.heap.size g F bq f
  bF : b ∉ F
  bw : w.heap.size ≤ b
  mis : MIs wx b n f2
  nle : n ≤ bq.length + v.length
  rng : ∀ x a, f2 x = some a → 0 ≤ a ∧ a < 16384
  out : wN (bq ++ v) f2 ls = fin
  lab : ∀ l ∈ ls, Lab l ∧ B8 l
  len : bq.length + v.length + (lay ls).length ≤ 16000
  below : Below w.heap.size w wx
theorem WHead.update {w wx w2 : World} {g b : Nat} {F : List Nat} {bq : List Int} {f : List Int → Option Int} {fin : List Int × (List Int → Option Int)} {l : List Int} {r : List (List Int)} {v : List Int} {f2 : List Int → Option Int} {n : Nat}
    (h : WHead w wx g b F bq f fin (l :: r) v f2 n) (hf : f2 (lay (l :: r)) = none) (hm : MIs w2 b (n + 1) (upd f2 (lay (l :: r)) ((bq.length + v.length : Nat) : Int))) (hg : wx.grownBy w2 (some b)) :
    WHead w w2 g b F bq f fin r (v ++ (l.length : Int) :: l) (upd f2 (lay (l :: r)) ((bq.length + v.length : Nat) : Int)) (n + 1) := by
  have hlen := h.len
  rw [lay_cons] at hlen
  simp only [List.length_append, List.length_cons] at hlen
  refine ⟨h.wr.other (F1 := [b]) (Turned.of_grown hg fun k e => by injection e with e; rw [e]; simp) (fun k hk => by rw [List.mem_singleton.1 hk]; exact h.bF), h.bF, h.bw, hm, ?_, ?_, ?_, fun x hx => h.lab x (List.mem_cons_of_mem _ hx), ?_, ?_⟩
  · have := h.nle
    simp
    omega
  · intro x a hx
    unfold upd at hx
    split at hx
    · have := Option.some.inj hx
      omega
    · exact h.rng x a hx
  · rw [← h.out, wN_new hf, if_pos (by rw [List.length_append]; omega), List.length_append, List.append_assoc]
  · simp
    omega
  · exact h.below.trans ((Turned.of_grown hg (F := [b]) fun k e => by injection e with e; rw [e]; simp).below (fun k hk => by rw [List.mem_singleton.1 hk]; exact h.bw) h.below.size)
/-- Between the names. -/
def OHead (w wx : World) (g b : Nat) (bs0 : List Int) (D : List (List Int)) : Prop := ∃ F n, Wr wx w.heap.size g F (wAll bs0 (fun _ => none) D).1 (wAll bs0 (fun _ => none) D).2 ∧ b ∉ F ∧ w.heap.size ≤ b ∧ MIs wx b n (wAll bs0 (fun _ => none) D).2 ∧ n ≤ (wAll bs0 (fun _ => none) D).1.length ∧ Below w.heap.size w wx
theorem Wr.rng {w : World} {base g : Nat} {F : List Nat} {bs : List Int} {f : List Int → Option Int} (h : Wr w base g F bs f) : ∀ x a, f x = some a → 0 ≤ a ∧ a < 16384 := by
  obtain ⟨v, m, h⟩ := h
  exact h.rng
theorem cut_lo {P : Program} (t e : TypeId) (kl : IntKind) {i : TypeInfo} (ht : P.underlying t = some (.slice e)) (hi : P.info? e = some i) (size : Nat) (hsz : i.size = size) (A : Option Addr) (n c lo : Nat) (h1 : lo ≤ n) :
    ∀ W : World, (Instr.slice t (.slice A n c) (some (.int kl (lo : Int))) none none).run P W = .ok (.slice (if c = lo then A else A.map (·.add (lo * size))) (n - lo) (c - lo)) W := by
  intro W
  have hel : P.elem t = e := by simp [Program.elem, ht]
  have hu : P.underlying t = some (.slice (P.elem t)) := by rw [hel]; exact ht
  rw [run_slice_l W t A n c hu kl (lo : Int) (by omega) (by omega), hel]
  simp [sizeOf, typeInfo, hi, hsz, sliced, Result.andThen]
def bolterlaw03_PointWrite.f (l0 : List (List Int)) (a1 : Int) : Option Bool := if (∀ l ∈ l0, (∀ y ∈ l, 0 ≤ y ∧ y < 256) ∧ l.length ≤ 1000000000) ∧ l0.length ≤ 1000000000 ∧ 0 ≤ a1 ∧ a1 < 256 then some true else none
set_option maxHeartbeats 4000000 in
theorem bolterlaw03_PointWrite.calls (A0 : Option Addr) (c0 : Nat) (l0 : List (List Int)) (a1 : Int) (r : Bool) (w : World) (hr0 : Kd.C (Kd.slice 5 (Kd.int .u8)) w A0 l0.length l0) (hc0 : l0.length ≤ c0) (h : bolterlaw03_PointWrite.f l0 a1 = some r) :
    Calls Try.prog 4 #[.slice A0 l0.length c0, .int .u8 a1] w fun e w' => e = .returned (.bool r) ∧ Below w.heap.size w w' := by
  unfold bolterlaw03_PointWrite.f at h
  by_cases hc : (∀ l ∈ l0, (∀ y ∈ l, 0 ≤ y ∧ y < 256) ∧ l.length ≤ 1000000000) ∧ l0.length ≤ 1000000000 ∧ 0 ≤ a1 ∧ a1 < 256
  case neg => rw [if_neg hc] at h; cases h
  rw [if_pos hc] at h
  obtain rfl := Option.some.inj h
  clear h
  obtain ⟨h8, hln, ha0, ha1⟩ := hc
  have HR0 := Lib.hid hr0
  have H8 := Lib.hid h8
  clear hr0 h8
  obtain ⟨j, hj, hj20⟩ : ∃ j : Nat, a1.tmod 20 = j ∧ j < 20 := ⟨(a1.tmod 20).toNat, by have := Int.tmod_nonneg 20 ha0; omega, by have := Int.tmod_lt_of_pos a1 (show (0 : Int) < 20 by omega); omega⟩
  have hmk := fun (W : World) (hb : w.heap.size ≤ W.heap.size) => make8 j hj20 W w.heap.size hb
  have HMK := Lib.hid hmk
  clear hmk
  have hmm := @run_makeMap Try.prog
  go_enter Try.func4, Try.ntmps4
  go_wp2_with fail
  refine (awake_ w).mono ?_
  rintro e w1 ⟨rfl, hb⟩
  have HB := Lib.hid hb
  clear hb
  obtain ⟨cs, hmk, hown⟩ := HMK.out w1 HB.out.size
  go_upto_region 4 with (fail)
  obtain ⟨w2, hw2⟩ : ∃ w2, w1.alloc (.cells cs 5) = w2 := ⟨_, rfl⟩
  rw [hw2] at hown
  have hs2 : w2.heap.size = w1.heap.size + 1 := by rw [← hw2]; simp
  have hb2 : Below w.heap.size w w2 := by rw [← hw2]; exact below_alloc HB.out _
  obtain ⟨F, hW, hF⟩ := Wr.freshOf w2 (base := w.heap.size) (by have := HB.out.size; omega) hown
  obtain ⟨g, hg⟩ : ∃ g, w1.heap.size + 1 = g := ⟨_, rfl⟩
  rw [hs2, hg] at hW
  rw [hw2, hg]
  have HFB := Lib.hid (show ∀ k ∈ F, w.heap.size ≤ k from fun k hk => (hW.foot k hk).1)
  have hb3 := below_alloc hb2 (.cells #[.slice (some ⟨w1.heap.size, 0, none⟩) j j, .map none] 33)
  obtain ⟨w3, hw3⟩ : ∃ w3, w2.alloc (.cells #[.slice (some ⟨w1.heap.size, 0, none⟩) j j, .map none] 33) = w3 := ⟨_, rfl⟩
  rw [hw3] at hW hb3 ⊢
  have HB3 := Lib.hid hb3
  clear hb3 hw3 hw2 hg hs2 hb2 hown hF
  obtain ⟨A, c, hc1, hf1, ho1, -⟩ := hW.cell
  have HW := Lib.hid hW
  rw [List.length_replicate] at hc1
  clear hW ho1
  obtain ⟨i8, hi8, hz80, hz81, hz82⟩ := info_parts info8
  have HIN := Lib.hid hi8
  have HSZ1 := Lib.hid hz81
  clear hi8 hz80 hz81 hz82
  go_wp2_with fail
  clear hc1 hf1 hmk hmm
  obtain ⟨b, hb⟩ : ∃ b, w3.heap.size = b := ⟨_, rfl⟩
  have hM0 := mis_made w3
  have hbF : b ∉ F := fun hk => by have := (HW.out.foot b hk).2; omega
  have hbw : w.heap.size ≤ b := by have := HB3.out.size; omega
  have hW4 := HW.out.below (below_alloc (Below.refl _ _) (.map #[] 0))
  have hX4 := below_alloc HB3.out (.map #[] 0)
  rw [hb] at hM0 ⊢
  obtain ⟨w4, hw4⟩ : ∃ w4, w3.alloc (.map #[] 0) = w4 := ⟨_, rfl⟩
  rw [hw4] at hM0 hW4 hX4 ⊢
  have HO : Hid (OHead w w4 g b (List.replicate j 0) (l0.take 0)) := Lib.hid ⟨F, 0, hW4, hbF, hbw, hM0, Nat.zero_le _, hX4⟩
  clear hM0 hbF hbw hW4 hX4 hw4 hb HW HB3
  go_loopw [31] (fun i wx => ∃ q : Nat, q ≤ l0.length ∧ q ≤ 40 ∧ i = .int .i64 q ∧ Hid (OHead w wx g b (List.replicate j 0) (l0.take q)))
    (fun i _ => l0.length - (intOf i).toNat)
  case atStart => exact ⟨0, Nat.zero_le _, by omega, rfl, HO⟩
  case round =>
    obtain ⟨q, hq, hq40, rfl, HO⟩ := hrel
    by_cases hlt : q < l0.length
    · have hget := List.getElem?_eq_getElem hlt
      obtain ⟨B, hbb⟩ : ∃ B, l0[q] = B := ⟨_, rfl⟩
      rw [hbb] at hget
      obtain ⟨ad, Ab, cb, ha, hcell0, hcb, hC⟩ := row_at HR0.out q B hget
      obtain ⟨Fx, nx, hWx, hbFx, hbwx, hMx, hnx, hXx⟩ := HO.out
      have hcell := pw_cell_below hXx hcell0
      subst ha
      by_cases h40 : q = 40
      · subst h40
        simp [Addr.add] at hcell
        clear hget hbb hC hcell0 hWx hbFx hbwx hMx hnx hXx
        obtain ⟨Fq, nq, hWq, -, -, -, -, hXq⟩ := HO.out
        obtain ⟨A2, c2, hc2, -, -, -⟩ := hWq.cell
        obtain ⟨x, hx⟩ := wAll_more (l0.take 40) (List.replicate j 0) (fun _ => none) (Inv.none _)
        have hge : j ≤ (wAll (List.replicate j 0) (fun _ => none) (l0.take 40)).1.length := by rw [hx]; simp
        obtain ⟨z, hz⟩ : ∃ z, (wAll (List.replicate j 0) (fun _ => none) (l0.take 40)).1.length = z := ⟨_, rfl⟩
        rw [hz] at hc2 hge
        have hge1 : decide ((z : Int) ≥ (j : Int)) = true := decide_eq_true (by omega)
        have hge2 : (j : Int) ≤ (z : Int) := by omega
        have HXQ := Lib.hid hXq
        clear hWq hXq hx HO
        go_wp2
        go_ret
        exact ⟨by first | rfl | simp, HXQ.out⟩
      · have hq1 : decide ((q : Int) = 40) = false := decide_eq_false (by omega)
        have hq2 : ¬ (q : Int) = 40 := by omega
        have hb8 := H8.out B (List.mem_of_getElem? hget)
        obtain ⟨kn, hkn⟩ := Ev.rounds (Name_ev B hb8.1 (by omega))
        have HKN := Lib.hid hkn
        have HC := Lib.hid hC
        have htk : l0.take (q + 1) = l0.take q ++ [B] := by rw [List.take_succ_eq_append_getElem hlt, hbb]
        have HTK := Lib.hid htk
        have hlen := wAll_len (l0.take q) (List.replicate j 0) (fun _ => none)
        rw [List.length_replicate, List.length_take] at hlen
        obtain ⟨⟨bq, f⟩, hbq⟩ : ∃ x, wAll (List.replicate j 0) (fun _ => none) (l0.take q) = x := ⟨_, rfl⟩
        rw [hbq] at hWx hMx hnx hlen
        have HWA := Lib.hid hbq
        have HWX := Lib.hid hWx
        have HMX := Lib.hid hMx
        have HNX := Lib.hid hnx
        have HXX := Lib.hid hXx
        have HBF := Lib.hid hbFx
        have HBW := Lib.hid hbwx
        simp only at hlen
        have hlen' : bq.length ≤ 3459 := by omega
        clear hkn hC hcell0 hb8 hget hbb htk hbq hWx hMx hnx hXx hbFx hbwx HO hlen
        go_wp2_with fail
        go_at_call 12
        refine (bolterlaw02_Name.calls kn Ab cb B _ _ (Kd.C_below HC.out HXX.out) hcb HKN.out).mono ?_
        rintro e w4 ⟨rfl, hb⟩
        rw [nameL_lay]
        have hW4 := HWX.out.below hb
        obtain ⟨A1, c1, hc1, hf1, -, -⟩ := hW4.cell
        obtain ⟨p, hp⟩ : ∃ p, bq.length = p := ⟨_, rfl⟩
        rw [hp] at hc1
        have HPP := Lib.hid hp
        have HPB := Lib.hid (show p ≤ 3459 by omega)
        obtain ⟨fin, hfin⟩ : ∃ fin, wN bq f (wordsL B) = fin := ⟨_, rfl⟩
        have HFN := Lib.hid hfin
        have hnb := nameL_len B
        rw [nameL_lay] at hnb
        have hH : WHead w w4 g b Fx bq f fin (wordsL B) [] f nx := ⟨hW4, HBF.out, HBW.out, mis_move HMX.out (hb.block b (mis_lt HMX.out)), by have := HNX.out; simpa using this, Wr.rng hW4, by rw [List.append_nil]; exact hfin, fun l hl => ⟨(words_ok B l hl).1, (words_ok B l hl).2.1⟩, by simp; omega, HXX.out.trans (hb.mono HXX.out.size)⟩
        have HH := Lib.hid hH
        clear hb hW4 hp hfin hH hlen' HWX HMX HNX HXX
        go_wp2_with fail
        clear hc1 hf1
        go_loopw [12, 13] (fun x y wx => ∃ (ls : List (List Int)) (v : List Int) (f2 : List Int → Option Int) (n2 : Nat), x = .string (strOfNums v) ∧ y = .string (strOfNums (lay ls)) ∧ Hid (WHead w wx g b Fx bq f fin ls v f2 n2))
          (fun _ t _ => match t with | .string s => s.size | _ => 0)
        case atStart => exact ⟨wordsL B, [], f, nx, rfl, rfl, HH⟩
        case round =>
          obtain ⟨ls, v, f2, n2, rfl, rfl, HH⟩ := hrel
          cases ls with
          | nil =>
            have hs0 : (strOfNums (lay [])).size = 0 := str_size _
            have hd1 : decide (0 < (strOfNums (lay [])).size) = false := by rw [hs0]; rfl
            have hd2 : decide (0 < ((strOfNums (lay [])).size : Int)) = false := by rw [hs0]; rfl
            have hem : (strOfNums (lay [])).toList.isEmpty = true := by first | kernel_rfl | decide
            clear hs0
            have hout := HH.out.out
            have hlen := HH.out.len
            obtain ⟨V, hV⟩ : ∃ V, v ++ [0] = V := ⟨_, rfl⟩
            have hVl : V.length = v.length + 1 := by rw [← hV]; simp
            have hfin : wN bq f (wordsL B) = (bq ++ V, f2) := by rw [HFN.out, ← hout, ← hV, ← List.append_assoc]; rfl
            have HFIN := Lib.hid hfin
            have HWR := Lib.hid HH.out.wr
            have HMR := Lib.hid HH.out.mis
            have HBR := Lib.hid HH.out.below
            have hn2 : n2 ≤ p + V.length := by have := HH.out.nle; have := HPP.out; omega
            have HN2 := Lib.hid hn2
            have hsum : strOfNums v ++ (⟨#[0]⟩ : ByteArray) = strOfNums V := by rw [← hV, str_app]; rfl
            have hvs := str_size v
            have hov : ¬ 9223372036854775807 < (strOfNums v).size + (⟨#[0]⟩ : ByteArray).size := by rw [hvs]; show ¬ _ < v.length + 1; omega
            clear hout hlen hfin hn2 hVl hvs HH hV
            go_wp2_with fail
            with_reducible refine (name_yes HWR.out (wordsL B) (fun l hl => (words_ok B l hl).1) (fun l hl => (words_ok B l hl).2.2.1) (by have := nameL_len B; rw [nameL_lay] at this; omega) (fun l hl => (words_ok B l hl).2.1) (by have := HPP.out; have := HPB.out; omega)).mono ?_
            rintro e w5 ⟨rfl, F5, hW5, hF5, hT⟩
            rw [HFIN.out] at hW5
            obtain ⟨A2, c2, hc2, hf2, ho2, -⟩ := hW5.cell
            have hz : (bq ++ V).length = p + V.length := by rw [List.length_append, HPP.out]
            rw [hz] at hc2
            have hC := own_C ho2
            have hd := Kd.C_drop (m := bq.length) hC.1 (by simp) hC.2
            rw [List.drop_left, HPP.out] at hd
            obtain ⟨A3, hA3⟩ : ∃ A3, (if c2 = p then A2 else A2.map (·.add (p * 1))) = A3 := ⟨_, rfl⟩
            have hd' : Kd.C (Kd.int .u8) w5 A3 V.length V := by rw [← hA3]; exact hd
            have hsl := cut_lo (P := Try.prog) 30 5 .i64 Try.underlying30 HIN.out 1 HSZ1.out A2 (p + V.length) c2 p (by omega)
            rw [hA3, show p + V.length - p = V.length by omega] at hsl
            have hcv := Kd.C_string (P := Try.prog) (c := c2 - p) Try.underlying30 Try.underlying5 Try.underlying9 hd'
            have hnl : ¬ ((p + V.length : Nat) : Int) < (p : Int) := by omega
            have hp0 : (0 : Int) ≤ (p : Int) := by omega
            have hp1 : (p : Int) ≤ ((p + V.length : Nat) : Int) := by omega
            have hp2 : p + V.length ≤ c2 := by have := hC.2; rw [hz] at this; exact this
            have hp3 : ((p + V.length : Nat) : Int) ≤ (c2 : Int) := by omega
            have hblt := mis_lt HMR.out
            have hM5 := mis_move HMR.out (hT.block b hblt HBF.out)
            have hb5 : b ∉ F5 := fun hk => by
              rcases hF5 b hk with h | h
              · exact HBF.out h
              · omega
            have HX5 := HBR.out.trans (hT.below (fun k hk => (HWR.out.foot k hk).1) HBR.out.size)
            have HEND : Hid (OHead w w5 g b (List.replicate j 0) (l0.take (q + 1))) := Lib.hid ⟨F5, n2, by rw [HTK.out, wAll_snoc, HWA.out, HFIN.out]; exact hW5, hb5, HBW.out, by rw [HTK.out, wAll_snoc, HWA.out, HFIN.out]; exact hM5, by rw [HTK.out, wAll_snoc, HWA.out, HFIN.out]; have := HN2.out; rw [hz]; exact this, HX5⟩
            clear hW5 hF5 hT hf2 ho2 hz hC hd hd' hA3 hM5 hb5 HX5 hblt
            go_wp2
            go_roundw
            case rel => exact ⟨q + 1, by omega, by omega, by go_num, HEND⟩
            case measure => simp [intOf]; omega
          | cons l r =>
            have hlab := HH.out.lab l (by simp)
            have hl8 : B8 (lay (l :: r)) := lay_b8 fun x hx => ⟨(HH.out.lab x hx).2, by have := (HH.out.lab x hx).1; unfold Lab at this; omega⟩
            have hlen := HH.out.len
            have hlc : lay (l :: r) = (l.length : Int) :: (l ++ lay r) := rfl
            have hlen3 : (lay (l :: r)).length = l.length + 1 + (lay r).length := by rw [hlc]; simp; omega
            have hlook := mis_look HH.out.mis (lay (l :: r)) hl8 (by unfold maxLen; omega)
            obtain ⟨N, hN⟩ : ∃ N, lay (l :: r) = N := ⟨_, rfl⟩
            have hsz := str_size N
            have hout := HH.out.out
            rw [hN] at hlook hl8 hlen3 hlen ⊢
            have hd1 : decide (0 < (strOfNums N).size) = true := decide_eq_true (by rw [hsz]; omega)
            have hd2 : decide (0 < ((strOfNums N).size : Int)) = true := decide_eq_true (by rw [hsz]; omega)
            have hbN : (strOfNums N).size = N.length := hsz
            have hem : (strOfNums N).toList.isEmpty = false := by
              rw [str_list]
              cases N with
              | nil => exact absurd hlen3 (by simp only [List.length_nil]; omega)
              | cons x y => rfl
            have HNE := Lib.hid hN
            have hvs := str_size v
            have HLEN := Lib.hid hlen3
            have HLE := Lib.hid hlen
            have HPL := Lib.hid (show p + v.length ≤ 16000 by have := HPP.out; omega)
            cases hfl : f2 N with
            | some c =>
              have hrng := HH.out.rng N c hfl
              have hw := wN_seen (bs := bq ++ v) (f := f2) (l := l) (ls := r) (a := c) (by rw [hN]; exact hfl)
              rw [hw] at hout
              rw [hfl] at hlook
              simp only [Option.getD_some, Option.isSome_some] at hlook
              obtain ⟨hr0, hr1⟩ := hrng
              have hdv : c.tdiv 256 = c / 256 := by rw [Int.tdiv_eq_ediv_of_nonneg hr0]
              have hmd : c.tmod 256 = c % 256 := by rw [Int.tmod_eq_emod_of_nonneg hr0]
              obtain ⟨y1, hy1⟩ : ∃ y, 192 + c / 256 = y := ⟨_, rfl⟩
              obtain ⟨y2, hy2⟩ : ∃ y, c % 256 = y := ⟨_, rfl⟩
              have hq1 : wrap64 (c.tdiv 256) = c.tdiv 256 := w64 (by omega) (by omega)
              have hq2 : wrap64 (192 + c.tdiv 256) = y1 := by rw [w64 (by omega) (by omega), hdv, hy1]
              have hq3 : y1 % 256 = y1 := by omega
              rw [hy2] at hmd
              obtain ⟨V, hV⟩ : ∃ V, v ++ [y1, y2] = V := ⟨_, rfl⟩
              have hVl : V.length = v.length + 2 := by rw [← hV]; simp
              have hbe : QP.be16 (49152 + c) = [y1, y2] := by
                unfold QP.be16
                rw [show (49152 + c) / 256 % 256 = y1 by omega, show (49152 + c) % 256 = y2 by omega]
              have hfin : wN bq f (wordsL B) = (bq ++ V, f2) := by rw [HFN.out, ← hout, ← hV, ← List.append_assoc, hbe]
              have HFIN := Lib.hid hfin
              have HWR := Lib.hid HH.out.wr
              have HMR := Lib.hid HH.out.mis
              have HBR := Lib.hid HH.out.below
              have hn2 : n2 ≤ p + V.length := by have := HH.out.nle; have := HPP.out; omega
              have HN2 := Lib.hid hn2
              have hw1 : IntKind.i64.wrap y1 = y1 := IntWalk.i64_in _ (by omega)
              have hw2 : IntKind.u8.wrap y1 = y1 := by rw [IntKind.wrap_u8]; omega
              have hw3 : IntKind.u8.wrap y2 = y2 := by rw [IntKind.wrap_u8]; omega
              have hw4 : IntKind.i64.wrap y2 = y2 := IntWalk.i64_in _ (by omega)
              have hsum : strOfNums v ++ strOfNums [y1, y2] = strOfNums V := by rw [← hV, str_app]
              have h2s := str_size [y1, y2]
              have hov : ¬ 9223372036854775807 < (strOfNums v).size + (strOfNums [y1, y2]).size := by rw [hvs, h2s]; have := HPL.out; show ¬ _ < v.length + 2; omega
              have hcv : ∀ W : World, (convert 30 9 (.slice (some ⟨W.heap.size, 0, none⟩) 2 2)).run Try.prog (W.alloc (.cells #[.int .u8 y1, .int .u8 y2] 5)) = .ok (.string (strOfNums [y1, y2])) (W.alloc (.cells #[.int .u8 y1, .int .u8 y2] 5)) := fun W => own_string (P := Try.prog) Try.underlying30 Try.underlying5 Try.underlying9 (own_lit W 0 5 .u8 [y1, y2] (Nat.zero_le _) (by simp))
              clear hfl hout hw hdv hy1 hy2 hVl hbe hfin hn2 h2s HH hV hlab hl8 hlc hlen3 hlen hr0 hr1 hsz hN hbN hvs
              go_wp2_with fail
              have hba := below_alloc (Below.refl wr.heap.size wr) (.cells #[.int .u8 y1, .int .u8 y2] 5)
              obtain ⟨wr2, hwr2⟩ : ∃ x, wr.alloc (.cells #[.int .u8 y1, .int .u8 y2] 5) = x := ⟨_, rfl⟩
              rw [hwr2] at hba ⊢
              have HMR := Lib.hid (mis_move HMR.out (hba.block b (mis_lt HMR.out)))
              have HBR := Lib.hid (HBR.out.trans (hba.mono HBR.out.size))
              have HWR := Lib.hid (HWR.out.below hba)
              clear hba hwr2
              with_reducible refine (name_yes HWR.out (wordsL B) (fun l hl => (words_ok B l hl).1) (fun l hl => (words_ok B l hl).2.2.1) (by have := nameL_len B; rw [nameL_lay] at this; omega) (fun l hl => (words_ok B l hl).2.1) (by have := HPP.out; have := HPB.out; omega)).mono ?_
              rintro e w5 ⟨rfl, F5, hW5, hF5, hT⟩
              rw [HFIN.out] at hW5
              obtain ⟨A2, c2, hc2, hf2, ho2, -⟩ := hW5.cell
              have hz : (bq ++ V).length = p + V.length := by rw [List.length_append, HPP.out]
              rw [hz] at hc2
              have hC := own_C ho2
              have hd := Kd.C_drop (m := bq.length) hC.1 (by simp) hC.2
              rw [List.drop_left, HPP.out] at hd
              obtain ⟨A3, hA3⟩ : ∃ A3, (if c2 = p then A2 else A2.map (·.add (p * 1))) = A3 := ⟨_, rfl⟩
              have hd' : Kd.C (Kd.int .u8) w5 A3 V.length V := by rw [← hA3]; exact hd
              have hsl := cut_lo (P := Try.prog) 30 5 .i64 Try.underlying30 HIN.out 1 HSZ1.out A2 (p + V.length) c2 p (by omega)
              rw [hA3, show p + V.length - p = V.length by omega] at hsl
              have hcv := Kd.C_string (P := Try.prog) (c := c2 - p) Try.underlying30 Try.underlying5 Try.underlying9 hd'
              have hnl : ¬ ((p + V.length : Nat) : Int) < (p : Int) := by omega
              have hp0 : (0 : Int) ≤ (p : Int) := by omega
              have hp1 : (p : Int) ≤ ((p + V.length : Nat) : Int) := by omega
              have hp2 : p + V.length ≤ c2 := by have := hC.2; rw [hz] at this; exact this
              have hp3 : ((p + V.length : Nat) : Int) ≤ (c2 : Int) := by omega
              have hblt := mis_lt HMR.out
              have hM5 := mis_move HMR.out (hT.block b hblt HBF.out)
              have hb5 : b ∉ F5 := fun hk => by
                rcases hF5 b hk with h | h
                · exact HBF.out h
                · omega
              have HX5 := HBR.out.trans (hT.below (fun k hk => (HWR.out.foot k hk).1) HBR.out.size)
              have HEND : Hid (OHead w w5 g b (List.replicate j 0) (l0.take (q + 1))) := Lib.hid ⟨F5, n2, by rw [HTK.out, wAll_snoc, HWA.out, HFIN.out]; exact hW5, hb5, HBW.out, by rw [HTK.out, wAll_snoc, HWA.out, HFIN.out]; exact hM5, by rw [HTK.out, wAll_snoc, HWA.out, HFIN.out]; have := HN2.out; rw [hz]; exact this, HX5⟩
              clear hW5 hF5 hT hf2 ho2 hz hC hd hd' hA3 hM5 hb5 HX5 hblt
              go_wp2
              go_roundw
              case rel => exact ⟨q + 1, by omega, by omega, by go_num, HEND⟩
              case measure => simp [intOf]; omega
            | none =>
              have hlook2 := hlook
              rw [hfl] at hlook
              simp only [Option.getD_none, Option.isSome_none] at hlook
              have hpv : ((p : Int) + ((strOfNums v).size : Int)) = ((bq.length + v.length : Nat) : Int) := by rw [hvs, HPP.out]; omega
              have hw6 : IntKind.i64.wrap ((p : Int) + ((strOfNums v).size : Int)) = (p : Int) + ((strOfNums v).size : Int) := IntWalk.i64_in _ (by rw [hvs]; have := HPL.out; omega)
              obtain ⟨w2, hrun, hm2, hg2⟩ := mis_put HH.out.mis (by have := HH.out.nle; unfold maxLen; omega) N hl8 (by unfold maxLen; omega) ((p : Int) + ((strOfNums v).size : Int)) (by rw [hpv]; exact wf64 _ (by omega))
              rw [hpv, ← hN] at hm2
              have HUP := Lib.hid (HH.out.update (by rw [hN]; exact hfl) hm2 hg2)
              have hbt : bt (strOfNums N) 0 = (l.length : Int) := by
                rw [str_bt N hl8 (by omega) (by omega), ← hN]
                rfl
              have hp : 0 < (strOfNums N).size := by rw [hbN]; omega
              have hpi : (0 : Int) < ((strOfNums N).size : Int) := by omega
              have hx9 : ∀ h : 0 < (strOfNums N).size, (((strOfNums N)[0]'h).toNat : Int) = (l.length : Int) := fun h => (bt_at (strOfNums N) 0 h).trans hbt
              have hNb := bytes_str hl8
              have hll : l.length ≤ 63 := hlab.1.2
              have hex0 : (strOfNums N).extract 0 (1 + l.length) = strOfNums ((l.length : Int) :: l) := by
                apply str_inj'
                rw [bytes_ex, hNb, bytes_str (B8.cons (by omega) (by omega) hlab.2), ← hN, hlc, Nat.add_comm 1]
                simp
              have hex1 : (strOfNums N).extract (1 + l.length) (strOfNums N).size = strOfNums (lay r) := by
                apply str_inj'
                rw [bytes_ex, List.take_of_length_le (by rw [hNb, hbN]; exact Nat.le_refl _), hNb, bytes_str (lay_b8 fun x hx => ⟨(HH.out.lab x (by simp [hx])).2, by have := (HH.out.lab x (by simp [hx])).1; unfold Lab at this; omega⟩), ← hN, hlc, Nat.add_comm 1]
                simp
              have hw1 : IntKind.i64.wrap (1 + (l.length : Int)) = 1 + (l.length : Int) := IntWalk.i64_in _ (by omega)
              have hw0 : IntKind.i64.wrap (l.length : Int) = (l.length : Int) := IntWalk.i64_in _ (by omega)
              have hi0 : (0 : Int) ≤ 1 + (l.length : Int) := by omega
              have hi1 : 1 + (l.length : Int) ≤ ((strOfNums N).size : Int) := by rw [hbN]; omega
              have hi2 : (1 + (l.length : Int)).toNat = 1 + l.length := by omega
              have hsl : ∀ wx : World, (Instr.slice 23 (.string (strOfNums N)) none (some (.int .i64 (1 + (l.length : Int)))) none).run Try.prog wx = .ok (.string (strOfNums ((l.length : Int) :: l))) wx := fun wx => by
                rw [run_slice_string_h wx _ _ Try.underlying23 .i64 _ hi0 hi1, hi2, hex0]
              have hsl2 : ∀ wx : World, (Instr.slice 23 (.string (strOfNums N)) (some (.int .i64 (1 + (l.length : Int)))) none none).run Try.prog wx = .ok (.string (strOfNums (lay r))) wx := fun wx => by
                rw [run_slice_string_l wx _ _ Try.underlying23 .i64 _ hi0 hi1, hi2, hex1]
              obtain ⟨y, hy⟩ : ∃ y, (l.length : Int) :: l = y := ⟨_, rfl⟩
              rw [hy] at hsl
              have HY := Lib.hid hy
              have hys := str_size y
              have hyl : y.length = l.length + 1 := by rw [← hy]; rfl
              have hov : ¬ 9223372036854775807 < (strOfNums v).size + (strOfNums y).size := by rw [hvs, hys]; omega
              clear hbN hNb hbt hex0 hex1 hi0 hi1 hi2 hfl hout hm2 hg2 hlab hl8 hlc hlen3 hlen hsz hN hy hys hyl hpv hlook2 HH hvs
              go_wp2
              go_roundw
              case rel => exact ⟨r, v ++ (l.length : Int) :: l, _, n2 + 1, by rw [str_app, HY.out], rfl, HUP⟩
              case measure =>
                have e1 := str_size (lay r)
                have e2 := str_size N
                have e3 := HLEN.out
                simp
                omega
    · have hqn : q = l0.length := by omega
      obtain ⟨Fq, nq, hWq, -, -, -, -, hXq⟩ := HO.out
      obtain ⟨A2, c2, hc2, -, -, -⟩ := hWq.cell
      obtain ⟨x, hx⟩ := wAll_more (l0.take q) (List.replicate j 0) (fun _ => none) (Inv.none _)
      have hge : j ≤ (wAll (List.replicate j 0) (fun _ => none) (l0.take q)).1.length := by rw [hx]; simp
      obtain ⟨z, hz⟩ : ∃ z, (wAll (List.replicate j 0) (fun _ => none) (l0.take q)).1.length = z := ⟨_, rfl⟩
      rw [hz] at hc2 hge
      have hge1 : decide ((z : Int) ≥ (j : Int)) = true := decide_eq_true (by omega)
      have hge2 : (j : Int) ≤ (z : Int) := by omega
      have HXQ := Lib.hid hXq
      clear hWq hXq hx HO
      go_wp2
      go_ret
      exact ⟨by first | rfl | simp, HXQ.out⟩
end Go.Proofs.Ytdmpmcmpkmldnaa.PP
