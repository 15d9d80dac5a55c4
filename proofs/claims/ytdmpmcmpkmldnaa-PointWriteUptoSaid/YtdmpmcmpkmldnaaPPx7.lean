/-
  The law PointBack walked: what the writer writes Read reads. No macro, syntax, notation, axiom, sorry.
-/
import Derived.Test.YtdmpmcmpkmldnaaPPx4
import Derived.Test.YtdmpmcmpkmldnaaWnRd
import Derived.Test.YtdmpmcmpkmldnaaWrd
import Derived.Deep.QuietTactic
import Derived.BigQuiet
import Derived.Laws.MakeOwn
import Derived.Laws.OwnMore
namespace Go.Proofs.Ytdmpmcmpkmldnaa.PP
open Go.RowKit Go.Proofs.YtdmpmcmpkmldnaaW.PrintWords Go.Proofs.YtdmpmcmpkmldnaaW.PrintLast Go.Proofs.Ytdmpmcmpkmldnaa.Base Go.Proofs.Ytdmpmcmpkmldnaa.Nam Go.Proofs.Ytdmpmcmpkmldnaa.Trn Go.Proofs.Ytdmpmcmpkmldnaa.MapS Go.Proofs.Ytdmpmcmpkmldnaa.Wr Go.Proofs.Ytdmpmcmpkmldnaa.Rd
set_option linter.unusedVariables false
set_option linter.unusedSimpArgs false
set_option maxRecDepth 100000

/-- The writer behind the names of numbers. -/
def wAll : List Int → (List Int → Option Int) → List (List Int) → List Int × (List Int → Option Int)
  | bs, f, [] => (bs, f)
  | bs, f, ns :: r => wAll (wN bs f (wordsL ns)).1 (wN bs f (wordsL ns)).2 r
theorem wAll_snoc : ∀ (a : List (List Int)) (bs : List Int) (f : List Int → Option Int) (ns : List Int), wAll bs f (a ++ [ns]) = wN (wAll bs f a).1 (wAll bs f a).2 (wordsL ns)
  | [], _, _, _ => rfl
  | x :: a, bs, f, ns => by
    simp only [List.cons_append, wAll]
    exact wAll_snoc a _ _ ns
theorem words_lab (ns : List Int) : ∀ l ∈ wordsL ns, Lab l := ((mkOk_iff _).1 (words_mkOk ns)).1
theorem wAll_inv : ∀ (a : List (List Int)) (bs : List Int) (f : List Int → Option Int), Inv bs f → Inv (wAll bs f a).1 (wAll bs f a).2
  | [], _, _, h => h
  | ns :: a, bs, f, h => wAll_inv a _ _ (wN_step h (words_lab ns)).1
theorem wAll_more : ∀ (a : List (List Int)) (bs : List Int) (f : List Int → Option Int), Inv bs f → ∃ x, (wAll bs f a).1 = bs ++ x
  | [], _, _, h => ⟨[], (List.append_nil _).symm⟩
  | ns :: a, bs, f, h => by
    obtain ⟨h1, ⟨x, hx⟩, _⟩ := wN_step h (words_lab ns)
    obtain ⟨y, hy⟩ := wAll_more a _ _ h1
    exact ⟨x ++ y, by rw [wAll, hy, hx, List.append_assoc]⟩
theorem wAll_app : ∀ (a b : List (List Int)) (bs : List Int) (f : List Int → Option Int), wAll bs f (a ++ b) = wAll (wAll bs f a).1 (wAll bs f a).2 b
  | [], _, _, _ => rfl
  | x :: a, b, bs, f => by
    simp only [List.cons_append, wAll]
    exact wAll_app a b _ _
theorem wN_len : ∀ (ls : List (List Int)) (bs : List Int) (f : List Int → Option Int), (wN bs f ls).1.length ≤ bs.length + (lay ls).length + 2
  | [], bs, f => by simp [wN]; omega
  | l :: ls, bs, f => by
    simp only [wN]
    split
    · simp [QP.be16]
    · refine Nat.le_trans (wN_len ls _ _) ?_
      rw [lay_cons]
      simp
      omega
theorem wAll_len : ∀ (a : List (List Int)) (bs : List Int) (f : List Int → Option Int), (wAll bs f a).1.length ≤ bs.length + 86 * a.length
  | [], bs, f => by simp [wAll]
  | ns :: a, bs, f => by
    have h1 := wAll_len a (wN bs f (wordsL ns)).1 (wN bs f (wordsL ns)).2
    have h2 := wN_len (wordsL ns) bs f
    have h3 := nameL_len ns
    rw [nameL_lay] at h3
    rw [wAll, List.length_cons]
    omega
/-- Each name is read from where it was written. -/
theorem back (bs : List Int) (a : List (List Int)) (i : Nat) (ns : List Int) (hi : a[i]? = some ns) :
    Gd (wAll bs (fun _ => none) a).1 (wAll bs (fun _ => none) (a.take i)).1.length (wAll bs (fun _ => none) (a.take i)).1.length (wordsL ns) (wAll bs (fun _ => none) (a.take (i + 1))).1.length := by
  have hlt := (List.getElem?_eq_some_iff.1 hi).1
  have he := (List.getElem?_eq_some_iff.1 hi).2
  have hi0 := wAll_inv (a.take i) bs _ (Inv.none bs)
  obtain ⟨h1, ⟨x, hx⟩, h2⟩ := wN_step hi0 (words_lab ns)
  have ht : a.take (i + 1) = a.take i ++ [ns] := by rw [List.take_succ_eq_append_getElem hlt, he]
  obtain ⟨y, hy⟩ := wAll_more (a.drop (i + 1)) _ _ h1
  have hall : (wAll bs (fun _ => none) a).1 = (wAll bs (fun _ => none) (a.take (i + 1))).1 ++ y := by
    conv => lhs; rw [← List.take_append_drop (i + 1) a]
    rw [wAll_app, ht, wAll_snoc, hy]
  rw [hall, ht, wAll_snoc]
  exact h2.grow y
theorem back_read (bs : List Int) (a : List (List Int)) (m : ByteArray) (hm : bytesOf m = (wAll bs (fun _ => none) a).1) (i : Nat) (ns : List Int) (hi : a[i]? = some ns) :
    ∃ k, rdC m k ((wAll bs (fun _ => none) (a.take i)).1.length : Int) (-1) ((wAll bs (fun _ => none) (a.take i)).1.length : Int) [] = some (some (wordsL ns, ((wAll bs (fun _ => none) (a.take (i + 1))).1.length : Int))) := by
  have h1 := back bs a i ns hi m [] (by rw [hm, List.append_nil])
  have h2 := words_len ns
  obtain ⟨k, hk⟩ := h1 ((wAll bs (fun _ => none) (a.take i)).1.length : Int) (-1) [] (Int.le_refl _) (by simp; omega)
  exact ⟨k, hk⟩
theorem wN_b8 : ∀ (ls : List (List Int)) (bs : List Int) (f : List Int → Option Int), B8 bs → (∀ l ∈ ls, Lab l ∧ B8 l) → B8 (wN bs f ls).1
  | [], bs, f, h, _ => by
    simp only [wN]
    intro y hy
    rcases List.mem_append.1 hy with hy | hy
    · exact h y hy
    · rw [List.mem_singleton.1 hy]
      omega
  | l :: ls, bs, f, h, hl => by
    simp only [wN]
    split
    · intro y hy
      rcases List.mem_append.1 hy with hy | hy
      · exact h y hy
      · unfold QP.be16 at hy
        simp only [List.mem_cons, List.not_mem_nil, or_false] at hy
        rcases hy with rfl | rfl <;> omega
    · refine wN_b8 ls _ _ ?_ fun x hx => hl x (List.mem_cons_of_mem _ hx)
      have h1 := hl l (List.mem_cons_self ..)
      have h2 := h1.1
      unfold Lab at h2
      intro y hy
      rcases List.mem_append.1 hy with hy | hy
      · exact h y hy
      · rcases List.mem_cons.1 hy with rfl | hy
        · omega
        · exact h1.2 y hy
theorem wAll_b8 : ∀ (a : List (List Int)) (bs : List Int) (f : List Int → Option Int), B8 bs → B8 (wAll bs f a).1
  | [], _, _, h => h
  | ns :: a, bs, f, h => wAll_b8 a _ _ (wN_b8 _ _ _ h fun l hl => ⟨(words_ok ns l hl).1, (words_ok ns l hl).2.1⟩)
theorem rdOut_of (ns : List Int) (e : Int) : rdOut (some (wordsL ns, e)) = .tuple #[.string (strOfNums (nameL ns)), .int .i64 e, .bool true] := by
  have e0 : rdV (some (wordsL ns, e)) = (mkL (wordsL ns), e, true) := if_pos (words_mkOk ns)
  unfold rdOut
  rw [e0]
  rfl
theorem info8 : (Try.prog.info? 5).map (fun i => (i.zero, i.size, i.bytes)) = some (some (.int .u8 0), 1, 1) := by kernel_rfl
theorem make8 (j : Nat) (hj : j < 20) (W : World) (base : Nat) (hb : base ≤ W.heap.size) : ∃ cs : Array Value, (Instr.makeSlice 30 (.int .u8 (j : Int)) (.int .u8 (j : Int))).run Try.prog W = .ok (.slice (some ⟨W.heap.size, 0, none⟩) j j) (W.alloc (.cells cs 5)) ∧
    (W.alloc (.cells cs 5)).ownsRow base 5 1 (.slice (some ⟨W.heap.size, 0, none⟩) j j) (List.replicate j (0 : Int)).length (nums .u8 (List.replicate j 0)) := by
  refine ⟨madeCells #[.int .u8 0] j, run_make_row' 30 5 (.int .u8 0) 1 Try.underlying30 info8 rfl .u8 .u8 j (by omega) (by omega) W, ?_⟩
  rw [List.length_replicate]
  exact own_made W base _ .u8 j hb (by omega)
theorem row_at {w : World} {e : Nat} {A : Option Addr} {n : Nat} {xs : List (List Int)} (h : Kd.C (Kd.slice e (Kd.int .u8)) w A n xs) (i : Nat) (x : List Int) (hx : xs[i]? = some x) :
    ∃ ad A0 c0, A = some ad ∧ w.cell? (ad.add i) = some (.slice A0 x.length c0) ∧ x.length ≤ c0 ∧ Kd.C (Kd.int .u8) w A0 x.length x := by
  have hi := (List.getElem?_eq_some_iff.1 hx).1
  have hn := h.1
  obtain ⟨ad, ha, hc⟩ := h.2.2 (by omega)
  obtain ⟨c, h1, ⟨A0, c0, h2, h3, h4⟩, h5⟩ := hc i x hx
  subst h2
  have := h5 0 _ rfl
  rw [show i * (Kd.slice e (Kd.int IntKind.u8)).sz + 0 = i by show i * 1 + 0 = i; omega] at this
  exact ⟨ad, A0, c0, ha, this, h3, h4⟩

def bolterlaw03_PointBack.f (l0 : List (List Int)) (a1 : Int) : Option Bool := if (∀ l ∈ l0, (∀ y ∈ l, 0 ≤ y ∧ y < 256) ∧ l.length ≤ 1000000000) ∧ l0.length ≤ 1000000000 ∧ 0 ≤ a1 ∧ a1 < 256 then some true else none
set_option maxHeartbeats 2000000 in
theorem bolterlaw03_PointBack.calls (A0 : Option Addr) (c0 : Nat) (l0 : List (List Int)) (a1 : Int) (r : Bool) (w : World) (hr0 : Kd.C (Kd.slice 5 (Kd.int .u8)) w A0 l0.length l0) (hc0 : l0.length ≤ c0) (h : bolterlaw03_PointBack.f l0 a1 = some r) :
    Calls Try.prog 5 #[.slice A0 l0.length c0, .int .u8 a1] w fun e w' => e = .returned (.bool r) ∧ Below w.heap.size w w' := by
  unfold bolterlaw03_PointBack.f at h
  by_cases hc : (∀ l ∈ l0, (∀ y ∈ l, 0 ≤ y ∧ y < 256) ∧ l.length ≤ 1000000000) ∧ l0.length ≤ 1000000000 ∧ 0 ≤ a1 ∧ a1 < 256
  case neg => rw [if_neg hc] at h; cases h
  rw [if_pos hc] at h
  obtain rfl := Option.some.inj h
  clear h
  obtain ⟨h8, hln, ha0, ha1⟩ := hc
  have HR0 := Lib.hid hr0
  have H8 := Lib.hid h8
  clear hr0 h8
  obtain ⟨j, hj, hj20⟩ : ∃ j : Nat, a1.tmod 20 = j ∧ j < 20 := ⟨(a1.tmod 20).toNat, by have := Int.tmod_nonneg 20 ha0; omega, by have := Int.tmod_lt_of_pos a1 (show (0 : Int) < 20 by omega); omega⟩
  have hmk := fun (W : World) (hb : w.heap.size ≤ W.heap.size) => make8 j hj20 W w.heap.size hb
  have HMK := Lib.hid hmk
  clear hmk
  go_enter Try.func5, Try.ntmps5
  go_wp2_with fail
  refine (awake_ w).mono ?_
  rintro e w1 ⟨rfl, hb⟩
  have HB := Lib.hid hb
  clear hb
  obtain ⟨cs, hmk, hown⟩ := HMK.out w1 HB.out.size
  go_upto_region 4 with (fail)
  obtain ⟨w2, hw2⟩ : ∃ w2, w1.alloc (.cells cs 5) = w2 := ⟨_, rfl⟩
  rw [hw2] at hown
  have hs2 : w2.heap.size = w1.heap.size + 1 := by rw [← hw2]; simp
  have hb2 : Below w.heap.size w w2 := by rw [← hw2]; exact below_alloc HB.out _
  obtain ⟨F, hW, hF⟩ := Wr.freshOf w2 (base := w.heap.size) (by have := HB.out.size; omega) hown
  obtain ⟨g, hg⟩ : ∃ g, w1.heap.size + 1 = g := ⟨_, rfl⟩
  rw [hs2, hg] at hW
  rw [hw2, hg]
  have HFB := Lib.hid (show ∀ k ∈ F, w.heap.size ≤ k from fun k hk => (hW.foot k hk).1)
  have hb3 := below_alloc hb2 (.cells #[.slice (some ⟨w1.heap.size, 0, none⟩) j j, .map none] 33)
  obtain ⟨w3, hw3⟩ : ∃ w3, w2.alloc (.cells #[.slice (some ⟨w1.heap.size, 0, none⟩) j j, .map none] 33) = w3 := ⟨_, rfl⟩
  rw [hw3] at hW hb3 ⊢
  have HB3 := Lib.hid hb3
  clear hb3 hw3 hw2 hg hs2 hb2 hown hF
  obtain ⟨A, c, hc1, hf1, ho1, -⟩ := hW.cell
  have HW := Lib.hid hW
  rw [List.length_replicate] at hc1
  clear hW ho1
  obtain ⟨n, hn⟩ : ∃ n, min l0.length 40 = n := ⟨_, rfl⟩
  have hn1 : min (l0.length : Int) 40 = (n : Int) := by omega
  have hn2 : (0 : Int) ≤ (n : Int) := by omega
  have hn3 : (n : Int) ≤ (l0.length : Int) := by omega
  have hn4 : (n : Int) ≤ (c0 : Int) := by omega
  have HIV := Lib.hid (Inv.none (List.replicate j 0))
  go_wp2_with fail
  clear hc1 hf1 hn1 hmk
  go_loopw [35] (fun i wx => ∃ q : Nat, q ≤ n ∧ i = .int .i64 q ∧ Hid (∃ Fq, Wr wx w.heap.size g Fq (wAll (List.replicate j 0) (fun _ => none) (l0.take q)).1 (wAll (List.replicate j 0) (fun _ => none) (l0.take q)).2) ∧ Hid (Below w.heap.size w wx))
    (fun i _ => n - (intOf i).toNat)
  case atStart => exact ⟨0, Nat.zero_le _, rfl, Lib.hid ⟨F, HW.out⟩, HB3⟩
  case round =>
    obtain ⟨q, hq, rfl, HQ, HX⟩ := hrel
    by_cases hlt : q < n
    · have hql : q < l0.length := by omega
      have hget := List.getElem?_eq_getElem hql
      obtain ⟨b, hbb⟩ : ∃ b, l0[q] = b := ⟨_, rfl⟩
      rw [hbb] at hget
      obtain ⟨ad, Ab, cb, ha, hcell0, hcb, hC⟩ := row_at HR0.out q b hget
      have hcell := pw_cell_below HX.out hcell0
      subst ha
      have hb8 := H8.out b (List.mem_of_getElem? hget)
      obtain ⟨kn, hkn⟩ := Ev.rounds (Name_ev b hb8.1 (by omega))
      have HKN := Lib.hid hkn
      have HC := Lib.hid hC
      have htk : l0.take (q + 1) = l0.take q ++ [b] := by rw [List.take_succ_eq_append_getElem hql, hbb]
      have HTK := Lib.hid htk
      have hlen := wAll_len (l0.take q) (List.replicate j 0) (fun _ => none)
      rw [List.length_replicate, List.length_take] at hlen
      obtain ⟨Fq, hWq⟩ := HQ.out
      have HWQ := Lib.hid hWq
      clear hWq HQ hkn hC hcell0 hb8 hget hbb htk
      go_wp2_with fail
      go_at_call 12
      refine (bolterlaw02_Name.calls kn Ab cb b _ _ (Kd.C_below HC.out HX.out) hcb HKN.out).mono ?_
      rintro e w4 ⟨rfl, hb⟩
      rw [nameL_lay]
      have HX4 := Lib.hid (HX.out.trans (hb.mono HX.out.size))
      have HWQ4 := Lib.hid (HWQ.out.below hb)
      have HFQ := Lib.hid (show ∀ k ∈ Fq, w.heap.size ≤ k from fun k hk => (HWQ4.out.foot k hk).1)
      clear hb
      go_wp2_with fail
      with_reducible refine (name_yes HWQ4.out (wordsL b) (fun l hl => (words_ok b l hl).1) (fun l hl => (words_ok b l hl).2.2.1) (by have := nameL_len b; rw [nameL_lay] at this; omega) (fun l hl => (words_ok b l hl).2.1) (by omega)).mono ?_
      rintro e w5 ⟨rfl, F5, hW5, -, hT⟩
      have HX5 := Lib.hid (HX4.out.trans (hT.below HFQ.out HX4.out.size))
      rw [← wAll_snoc, ← HTK.out] at hW5
      have HQ5 : Hid (∃ Fq, Wr w5 w.heap.size g Fq (wAll (List.replicate j 0) (fun _ => none) (l0.take (q + 1))).1 (wAll (List.replicate j 0) (fun _ => none) (l0.take (q + 1))).2) := Lib.hid ⟨F5, hW5⟩
      clear hW5 hT
      go_wp2
      go_roundw
      case rel => exact ⟨q + 1, by omega, by go_num, HQ5, HX5⟩
      case measure => simp [intOf]; omega
    · have hqn : n = q := by omega
      subst hqn
      obtain ⟨Fq, hWq⟩ := HQ.out
      clear HQ
      obtain ⟨A2, c2, hc2, hf2, ho2, -⟩ := hWq.cell
      have hcv := fun m_ : Nat => own_string (P := Try.prog) Try.underlying30 Try.underlying5 Try.underlying9 (pw_own_drewN ho2 m_)
      have hcv0 := own_string (P := Try.prog) Try.underlying30 Try.underlying5 Try.underlying9 ho2
      have hcd := fun m_ : Nat => (show (wr.drewN m_).cell? ⟨g, 0, none⟩ = _ from hc2)
      clear ho2 hf2
      have hzl := wAll_len (l0.take n) (List.replicate j 0) (fun _ => none)
      have hz8 := wAll_b8 (l0.take n) (List.replicate j 0) (fun _ => none) (fun y hy => by rw [(List.mem_replicate.1 hy).2]; omega)
      have hback := fun (i : Nat) (ns : List Int) (hi : i < n) (hns : l0[i]? = some ns) => back_read (List.replicate j 0) (l0.take n) (strOfNums (wAll (List.replicate j 0) (fun _ => none) (l0.take n)).1) (bytes_str hz8) i ns (by rw [List.getElem?_take, if_pos hi]; exact hns)
      rw [List.length_replicate, List.length_take] at hzl
      have hend : ((wAll (List.replicate j 0) (fun _ => none) ((l0.take n).take n)).1.length : Int) = ((strOfNums (wAll (List.replicate j 0) (fun _ => none) (l0.take n)).1).size : Int) := by rw [str_size, List.take_take, Nat.min_self]
      have hms : (strOfNums (wAll (List.replicate j 0) (fun _ => none) (l0.take n)).1).size ≤ 100000 := by rw [str_size]; omega
      have hst : ((wAll (List.replicate j 0) (fun _ => none) ((l0.take n).take 0)).1.length : Int) = (j : Int) := by rw [List.take_zero]; simp [wAll]
      have hbd : ∀ i, i ≤ n → ((wAll (List.replicate j 0) (fun _ => none) ((l0.take n).take i)).1.length : Int) ≤ 100000 := by
        intro i hi
        have := wAll_len ((l0.take n).take i) (List.replicate j 0) (fun _ => none)
        rw [List.length_replicate, List.length_take, List.length_take] at this
        omega
      obtain ⟨S, hS⟩ : ∃ S, strOfNums (wAll (List.replicate j 0) (fun _ => none) (l0.take n)).1 = S := ⟨_, rfl⟩
      rw [hS] at hback hend hms
      rw [hS] at hcv0
      simp only [hS] at hcv
      obtain ⟨z, hz⟩ : ∃ z, (wAll (List.replicate j 0) (fun _ => none) (l0.take n)).1.length = z := ⟨_, rfl⟩
      rw [hz] at hc2 hcv0
      simp only [hz] at hcv hcd
      obtain ⟨P, hP⟩ : ∃ P : Nat → Int, (fun i => ((wAll (List.replicate j 0) (fun _ => none) ((l0.take n).take i)).1.length : Int)) = P := ⟨_, rfl⟩
      have hPi : ∀ i : Nat, ((wAll (List.replicate j 0) (fun _ => none) ((l0.take n).take i)).1.length : Int) = P i := fun i => congrFun hP i
      rw [hPi] at hend hst
      simp only [hPi] at hback hbd
      have hP0 : ∀ i, 0 ≤ P i := fun i => by rw [← hPi]; omega
      have HBK := Lib.hid hback
      have HEND := Lib.hid hend
      have HBD := Lib.hid hbd
      have HP0 := Lib.hid hP0
      clear hback hend hzl hz8 hWq hbd hPi hP hS hP0
      go_wp2_with fail
      go_loopw [6, 53] (fun v6 i wx => ∃ q : Nat, q ≤ n ∧ i = .int .i64 q ∧ v6 = .int .i64 (P q) ∧ Hid (Below w.heap.size w wx))
        (fun _ i _ => n - (intOf i).toNat)
      case atStart => exact ⟨0, Nat.zero_le _, rfl, by rw [hst], by first | exact HX | exact Lib.hid (pw_below_drewN HX.out _)⟩
      case round =>
        obtain ⟨q, hq, rfl, rfl, HX⟩ := hrel
        by_cases hlt : q < n
        · have hql : q < l0.length := by omega
          have hget := List.getElem?_eq_getElem hql
          obtain ⟨b, hbb⟩ : ∃ b, l0[q] = b := ⟨_, rfl⟩
          rw [hbb] at hget
          obtain ⟨ad, Ab, cb, ha, hcell0, hcb, hC⟩ := row_at HR0.out q b hget
          have hcell := pw_cell_below HX.out hcell0
          subst ha
          have hb8 := H8.out b (List.mem_of_getElem? hget)
          obtain ⟨kn, hkn⟩ := Ev.rounds (Name_ev b hb8.1 (by omega))
          obtain ⟨kr, hkr⟩ := HBK.out q b hlt hget
          have hp1 := HBD.out q (by omega)
          have hp0 := HP0.out q
          have HRD := Lib.hid (fun w => read_ S (P q) kr _ hkr (by omega) ⟨by omega, by omega⟩ w)
          have HKN := Lib.hid hkn
          have HC := Lib.hid hC
          clear hkn hC hcell0 hb8 hget hbb hkr hp1 hp0
          go_wp2_with fail
          refine (HRD.out _).mono ?_
          rintro e w4 ⟨rfl, hb⟩
          rw [rdOut_of]
          have HX4 := Lib.hid (HX.out.trans (hb.mono HX.out.size))
          clear hb
          go_wp2_with fail
          go_at_call 12
          refine (bolterlaw02_Name.calls kn Ab cb b _ _ (Kd.C_below HC.out HX4.out) hcb HKN.out).mono ?_
          rintro e w5 ⟨rfl, hb⟩
          have HX5 := Lib.hid (HX4.out.trans (hb.mono HX4.out.size))
          clear hb
          go_wp2
          go_roundw
          case rel => exact ⟨q + 1, by omega, by go_num, rfl, HX5⟩
          case measure => simp [intOf]; omega
        · have hqn : n = q := by omega
          subst hqn
          rw [HEND.out]
          go_wp2
          go_ret
          exact ⟨by first | rfl | simp, HX.out⟩
end Go.Proofs.Ytdmpmcmpkmldnaa.PP
