/- part of a proof; what it has no use for was struck out -/
import Derived.Test.YtnikfeaggppmpaaWr
import Derived.Test.YtnikfeaggppmpaaNam
import Derived.Test.YtnikfeaggppmpaaPMx5
import Derived.Test.YtnikfeaggppmpaaQMGet32
import Derived.WalkSpells
import Derived.Deep.RegionLaw
import Derived.StillTactics
import Derived.OwnWalk
import Derived.IntWalk
namespace Go.Proofs.Ytnikfeaggppmpaa.Wr
open Go.RowKit Go.Proofs.Ytnikfeaggppmpaa.PM Go.Proofs.YtnikfeaggppmpaaW.PrintWords Go.Proofs.YtnikfeaggppmpaaW.PrintLast Go.Proofs.Ytnikfeaggppmpaa.Base Go.Proofs.Ytnikfeaggppmpaa.Nam Go.Proofs.Ytnikfeaggppmpaa.Trn Go.Proofs.Ytnikfeaggppmpaa.MapS Go.Proofs.Ytnikfeaggppmpaa.QM
set_option linter.unusedVariables false
set_option linter.unusedSimpArgs false
set_option maxRecDepth 100000
def wN : List Int → (List Int → Option Int) → List (List Int) → List Int × (List Int → Option Int)
  | bs, f, [] => (bs ++ [0], f)
  | bs, f, l :: ls => match f (lay (l :: ls)) with
    | some a => (bs ++ be16 (49152 + a), f)
    | none => wN (bs ++ (l.length : Int) :: l) (if bs.length < 16384 then upd f (lay (l :: ls)) (bs.length : Int) else f) ls
theorem own_C {w : World} {base : Nat} {e : TypeId} {A : Option Addr} {c : Nat} {b : List Int} (h : w.ownsRow base e 1 (.slice A b.length c) b.length (nums .u8 b)) : Kd.C (Kd.int .u8) w A b.length b ∧ b.length ≤ c :=
  have h1 := Kd.R_reads' (Kd.R_of_own (enc := Value.int .u8) (h1 := fun _ => rfl) (ok := fun _ => True) (by exact h) (fun _ _ => trivial))
  ⟨h1.2.2, h1.2.1⟩
theorem own_slice {w : World} {base : Nat} {e : TypeId} {n : Nat} {v : Value} {xs : List Value} (h : w.ownsRow base e 1 v n xs) : ∃ A c, v = .slice A n c := by
  rcases h.2 with ⟨rfl, rfl⟩ | ⟨g, cap, cur, rfl, _⟩
  · exact ⟨none, 0, rfl⟩
  · exact ⟨_, _, rfl⟩
theorem put16_ (A : Option Addr) (c : Nat) (b : List Int) (A1 : Option Addr) (c1 : Nat) (ns : List Int) (w : World) (h0 : Kd.C (Kd.int .u8) w A b.length b) (hc : b.length ≤ c) (h1 : Kd.C (Kd.int .u16) w A1 ns.length ns) (hc1 : ns.length ≤ c1) (hb : b.length + 2 * ns.length < 140737488355328) :
    Calls Try.prog 23 #[.slice A b.length c, .slice A1 ns.length c1] w fun e w' => ∃ v, e = .returned v ∧ w'.ownsRow w.heap.size 5 1 v (b ++ all16 ns).length (nums .u8 (b ++ all16 ns)) ∧ Below w.heap.size w w' := by
  obtain ⟨k, hk⟩ := Ev.rounds (put16 b ns hb)
  refine (num_Put16.calls k A c b A1 c1 ns _ w h0 hc h1 hc1 hk).mono ?_
  rintro e w' ⟨v, rfl, hR, hB⟩
  exact ⟨v, rfl, Kd.own_of_R hR, hB⟩
theorem name_no {w : World} {base g : Nat} {F : List Nat} {bs : List Int} {f : List Int → Option Int} (h : Wr w base g F bs f) (n : List Int) (hn8 : B8 n) (hn : nm n = false) (hl : n.length ≤ 140737488355328) :
    Calls Try.prog 24 #[.pointer (some ⟨g, 0, none⟩), .string (strOfNums n)] w fun e w' => e = .returned (.tuple #[]) ∧ Below w.heap.size w w' := by
  have HM := Lib.hid (may_ (strOfNums n) (by rw [str_size]; exact hl) w)
  have hbn := bytes_str hn8
  have HN := Lib.hid hn
  have HBN := Lib.hid hbn
  clear hbn hn
  go_enter Try.func24, Try.ntmps24
  go_wp2_with fail
  refine HM.out.mono ?_
  rintro e w1 ⟨rfl, hb⟩
  rw [HBN.out, HN.out]
  have HB := Lib.hid hb
  clear hb HM
  go_wp2
  refine bodyPost_ret (results_none rfl _ _ _) rfl ?_
  exact ⟨rfl, HB.out⟩
theorem or49152 {a : Int} (h0 : 0 ≤ a) (h1 : a < 16384) : Go.bits .or .u16 49152 a = 49152 + a :=
  bits_join .u16 16 (by decide) wraps_u16 14 49152 a (by omega) (by decide) (by decide) h0 (by omega) (by omega)
theorem infoB : (Try.prog.info? 5).map (fun i => (i.zero, i.size, i.bytes)) = some (some (.int .u8 0), 1, 1) := by kernel_rfl
structure NHead (w : World) (base g : Nat) (F : List Nat) (bs : List Int) (f : List Int → Option Int) (ls : List (List Int)) (wr : World) (ls' : List (List Int)) (F' : List Nat) (v' : Value) (b n : Nat) (bs' : List Int) (f' : List Int → Option Int) : Prop where
  len : (lay ls').length ≤ 254
  len2 : bs'.length + (lay ls').length ≤ 100000001000
  lab : ∀ l ∈ ls', Lab l ∧ B8 l
  out : wN bs' f' ls' = wN bs f ls
  wm : Wm wr base g F' v' (.map (some b)) bs' f' bs'.length
  mis : MIs wr b n f'
  nle : n ≤ bs'.length
  bF : b ∈ F'
  foot : ∀ k ∈ F', k ∈ F ∨ w.heap.size ≤ k
  turn : Turned F w wr
theorem C_one (w : World) (k : IntKind) (e : TypeId) (x : Int) : Kd.C (Kd.int k) (w.alloc (.cells #[.int k x] e)) (some ⟨w.heap.size, 0, none⟩) [x].length [x] := by
  have h := own_lit_of (enc := Value.int k) w w.heap.size e [x] (Nat.le_refl _) (by simp)
  have h2 := Kd.R_reads' (Kd.R_of_own (enc := Value.int k) (h1 := fun _ => rfl) (ok := fun _ => True) (by exact h) (fun _ _ => trivial))
  exact h2.2.2
theorem wN_seen {bs : List Int} {f : List Int → Option Int} {l : List Int} {ls : List (List Int)} {a : Int} (h : f (lay (l :: ls)) = some a) : wN bs f (l :: ls) = (bs ++ be16 (49152 + a), f) := by
  simp only [wN, h]
theorem wN_new {bs : List Int} {f : List Int → Option Int} {l : List Int} {ls : List (List Int)} (h : f (lay (l :: ls)) = none) : wN bs f (l :: ls) = wN (bs ++ (l.length : Int) :: l) (if bs.length < 16384 then upd f (lay (l :: ls)) (bs.length : Int) else f) ls := by
  simp only [wN, h]
theorem own_lower {w : World} {base base' n : Nat} {e : TypeId} {size : Nat} {v : Value} {xs : List Value} (h : w.ownsRow base e size v n xs) (hb : base' ≤ base) : w.ownsRow base' e size v n xs := by
  refine ⟨h.1, ?_⟩
  rcases h.2 with hn | ⟨g, cap, cur, hv, hg, rest⟩
  · exact .inl hn
  · exact .inr ⟨g, cap, cur, hv, by omega, rest⟩
theorem seen_rng {f : List Int → Option Int} (h : ∀ x a, f x = some a → 0 ≤ a ∧ a < 16384) {N : List Int} {n : Nat} (hn : n < 16384) : ∀ x a, upd f N (n : Int) x = some a → 0 ≤ a ∧ a < 16384 := by
  intro x a hx
  unfold upd at hx
  split at hx
  · injection hx with hx
    omega
  · exact h x a hx
theorem step_str {P : Program} {ops : Array Oper} {o : Oper} {a : Act} {W : World} {K : Act → World → Prop} {Q : Exit → Act → World → Prop} {E : Prop} (base : Nat) (hg : o.guard = none) (s x : Operand) (t u e : TypeId)
    (ho : o.op = .call { callee := .builtin .append, args := #[s, x], argTypes := #[t, u] })
    (ht : P.underlying t = some (.slice e)) (hu : P.underlying u = some .string) (hinfo : (P.info? e).map (fun i => (i.zero, i.size, i.bytes)) = some (some (.int .u8 0), 1, 1))
    (v : Value) (xs : List Int) (y : List Int) (hy : B8 y) (hs : a.eval s = v) (hx : a.eval x = .string (strOfNums y))
    (HO : W.ownsRow base e 1 v xs.length (nums .u8 xs)) (hbase : base ≤ W.heap.size) (hl : xs.length + y.length ≤ 140737488355328)
    (h : ∀ v1 w1, w1.ownsRow base e 1 v1 (xs ++ y).length (nums .u8 (xs ++ y)) → W.grownBy w1 v.ownBlock → (v1.ownBlock = v.ownBlock ∨ ∃ b, v1.ownBlock = some b ∧ W.heap.size ≤ b) → K (a.put o.dst v1) w1) :
    if Region.wanted o (yielded ops a.tmps) = true then Oper.wp P o a W K Q else E := by
  have hw : Region.wanted o (yielded ops a.tmps) = true := by simp [Region.wanted, hg]
  rw [if_pos hw]
  obtain ⟨i0, hi, hzz⟩ := Option.map_eq_some_iff.1 hinfo
  simp only [Prod.mk.injEq] at hzz
  obtain ⟨hz0, hz1, hz2⟩ := hzz
  have hsz := str_size y
  obtain ⟨v1, w1, hr, h2, h3, h4⟩ := Lib.run_append_own_string (P := P) W base t u o.type e i0 ht hu hi hz0 hz1 hz2 v xs.length (nums .u8 xs) HO (strOfNums y) (by simp only [maxLen]; omega) (by omega) hbase
  have hat := append_str_at ht hu hi hz0 hz1 hz2 HO (by omega) hr
  unfold Oper.wp execOp
  simp only [ho, resolve, invoke, builtin, Sem.run_bind, Sem.run_pure, Result.andThen_ok, List.map_toArray, List.map_cons, List.map_nil, hs, hx, hr]
  refine h v1 w1 ?_ h3 hat
  have hl2 : (xs ++ y).length = xs.length + (strOfNums y).size := by rw [List.length_append, hsz]
  have hc : nums .u8 (xs ++ y) = nums .u8 xs ++ Lib.strCells (strOfNums y) := by
    rw [nums_append]
    congr 1
    have := bytes_str hy
    conv => lhs; rw [← this]
    simp [nums, bytesOf, Lib.strCells]
  rw [hl2, hc]
  exact h2
theorem wf64 (n : Nat) (h : n ≤ 9223372036854775807) : (Lit.int .i64 (n : Int)).wf = true := by
  simp only [Lit.wf, IntKind.min, IntKind.max]
  simp [IntKind.signed, IntKind.bits]
  omega
theorem own_at {w : World} {base n : Nat} {e : TypeId} {size : Nat} {v : Value} {xs : List Value} (h : w.ownsRow base e size v n xs) (hn : 0 < n) : ∃ b, v.ownBlock = some b ∧ base ≤ b := by
  rcases h.2 with ⟨_, h0⟩ | ⟨g, cap, cur, rfl, hg, rest⟩
  · omega
  · exact ⟨g, rfl, hg⟩
set_option maxHeartbeats 4000000 in
theorem name_yes {w : World} {base g : Nat} {F : List Nat} {bs : List Int} {f : List Int → Option Int} (h : Wr w base g F bs f) (ls : List (List Int)) (h1 : ∀ l ∈ ls, Lab l) (h2 : ∀ l ∈ ls, fold l = l) (h3 : (lay ls).length ≤ 254) (h8 : ∀ l ∈ ls, B8 l) (hl : bs.length ≤ 100000000000) :
    Calls Try.prog 24 #[.pointer (some ⟨g, 0, none⟩), .string (strOfNums (lay ls))] w fun e w' => e = .returned (.tuple #[]) ∧ ∃ F1, Wr w' base g F1 (wN bs f ls).1 (wN bs f ls).2 ∧ (∀ k ∈ F1, k ∈ F ∨ w.heap.size ≤ k) ∧ Turned F w w' := by
  have hn := nm_lay h1 h2 h3
  have hb8 : B8 (lay ls) := lay_b8 fun l hm => ⟨h8 l hm, by have := h1 l hm; unfold Lab at this; omega⟩
  have hM := may_ (strOfNums (lay ls)) (by rw [str_size]; omega) w
  rw [bytes_str hb8, hn] at hM
  obtain ⟨v, m, h⟩ := h
  obtain ⟨A, c, hv⟩ := own_slice h.own
  subst hv
  have HL := Lib.hid h1
  have H8 := Lib.hid h8
  have H := Lib.hid h
  have HM := Lib.hid hM
  have qT : ∀ (w : World) (r : Option Nat), (binOp .eql 68 (.map r) (.map none)).run Try.prog w = .ok (.bool r.isNone) w := fun w r => run_eql_map_nil w _ _ _ r Try.underlying68
  have hmm := @run_makeMap Try.prog
  rcases h.map with ⟨rfl, hf⟩ | ⟨b, n, rfl, hbF, hMI, hnl⟩
  · clear hn hM h h1 h2 h8 hb8 hf
    go_enter Try.func24, Try.ntmps24
    go_wp2_with fail
    refine HM.out.mono ?_
    rintro e w1 ⟨rfl, hb⟩
    have H1 := Lib.hid (H.out.below hb)
    have HB := Lib.hid hb
    have hc1 := H1.out.cell1
    have hfz := H1.out.froz 1
    have hfz2 : (w1.alloc (.map #[] 0)).frozen? ⟨g, 1, none⟩ = false := blk_frozen (blk_alloc H1.out.blk _) 1
    have hc2 : (w1.alloc (.map #[] 0)).cell? ⟨g, 1, none⟩ = some (.map none) := by rw [blk_cell (blk_alloc H1.out.blk _)]; rfl
    clear hb HM
    go_wp2_with fail
    clear hc1 hfz hfz2 hc2
    go_loopw [1] (fun t wr => ∃ (ls' : List (List Int)) (F' : List Nat) (v' : Value) (b n : Nat) (bs' : List Int) (f' : List Int → Option Int), t = .string (strOfNums (lay ls')) ∧ Aside0 (NHead w base g F bs f ls wr ls' F' v' b n bs' f'))
      (fun t _ => match t with | .string s => s.size | _ => 0)
    case atStart =>
      obtain ⟨F1, k1, k2, k3, k4, k5, k6, k7⟩ := H1.out.mapped
      refine ⟨ls, F1, .slice A bs.length c, w1.heap.size, 0, bs, f, rfl, ⟨⟨h3, by omega, fun l hm => ⟨HL.out l hm, H8.out l hm⟩, rfl, ?_, ?_, Nat.zero_le _, k3, ?_, ?_⟩⟩⟩
      · rw [k7]; exact k1
      · rw [k7]; exact k2
      · intro k hk
        rcases k5 k hk with hk | hk
        · exact .inl hk
        · exact .inr (by have := HB.out.size; omega)
      · exact (Turned.of_below HB.out F).trans k6 (fun b hb => .inl hb)
    case round =>
      obtain ⟨ls', F', v', b, n, bs', f', rfl, hH⟩ := hrel
      have HH := hH
      clear hH
      obtain ⟨A', c', hv'⟩ := own_slice HH.out.wm.own
      subst hv'
      have hle254 := HH.out.len
      have hlen2 := HH.out.len2
      cases ls' with
      | nil =>
        have hz : (strOfNums (lay [])).size = 0 := str_size _
        have hd1 : decide (0 < (strOfNums (lay [])).size) = false := by rw [hz]; rfl
        have hd2 : decide (0 < ((strOfNums (lay [])).size : Int)) = false := by rw [hz]; rfl
        have hc0 := HH.out.wm.cell0
        have hf0 := HH.out.wm.froz 0
        clear hz
        go_wp2_with (at_builtin; refine print_append_num (w0 := wr) base rfl (.tmp 81) (.tmp 82) 40 5 .u8 1 rfl Try.underlying40 infoB (by decide) (.slice A' bs'.length c') bs' 0 rfl rfl HH.out.wm.own (Below.refl _ _) HH.out.wm.size (by omega) ?_)
        intro v1 w2 hown _ hg hat
        have hown' : w2.ownsRow base 5 1 v1 (bs' ++ [0]).length (nums .u8 (bs' ++ [0])) := by simpa using hown
        have hblk := blk_grown HH.out.wm.blk hg (fun e => HH.out.wm.ne_v e.symm)
        have hc2 : w2.cell? ⟨g, 0, none⟩ = some (.slice A' bs'.length c') := by rw [blk_cell hblk]; rfl
        have hf2 : w2.frozen? ⟨g, 0, none⟩ = false := blk_frozen hblk 0
        have HP := Lib.hid (HH.out.wm.put hg hown' hat (by simp))
        obtain ⟨z, hz⟩ : ∃ z, bs' ++ [0] = z := ⟨_, rfl⟩
        rw [hz] at hown' HP
        obtain ⟨A9, c9, hv9⟩ := own_slice hown'
        subst hv9
        have HZ := Lib.hid hz
        clear hz
        clear hown hown' hblk hg hat hc0 hf0
        go_wp2
        go_end0
        obtain ⟨F1, p1, p2, p3, p4⟩ := HP.out
        have ho := HH.out.out
        have hzz : wN bs' f' [] = (z, f') := by rw [← HZ.out]; rfl
        rw [← ho, hzz]
        refine ⟨rfl, F1, ⟨_, _, p1⟩, ?_, HH.out.turn.trans p4 HH.out.foot⟩
        intro k hk
        rcases p3 k hk with hk | hk
        · exact HH.out.foot k hk
        · exact .inr (by have := HH.out.turn.size; omega)
      | cons l r =>
        have hlab := HH.out.lab l (by simp)
        have hl8 : B8 (lay (l :: r)) := lay_b8 fun x hx => ⟨(HH.out.lab x hx).2, by have := (HH.out.lab x hx).1; unfold Lab at this; omega⟩
        have hlook := mis_look HH.out.mis (lay (l :: r)) hl8 (by unfold maxLen; omega)
        have hlc : lay (l :: r) = (l.length : Int) :: (l ++ lay r) := rfl
        have hlen3 : (lay (l :: r)).length = l.length + 1 + (lay r).length := by rw [hlc]; simp; omega
        obtain ⟨N, hN⟩ : ∃ N, lay (l :: r) = N := ⟨_, rfl⟩
        have hsz := str_size N
        have hout := HH.out.out
        rw [hN] at hlook hl8 hlen3 hle254 hlen2 ⊢
        have hd1 : decide (0 < (strOfNums N).size) = true := decide_eq_true (by rw [hsz]; omega)
        have hd2 : decide (0 < ((strOfNums N).size : Int)) = true := decide_eq_true (by rw [hsz]; omega)
        have HLEN := Lib.hid hlen3
        have HSZ := Lib.hid hsz
        have HL8 := Lib.hid hl8
        have HLAB := Lib.hid hlab
        have HNN := Lib.hid (hlc.symm.trans hN)
        have hc0 := HH.out.wm.cell0
        have hf0 := HH.out.wm.froz 0
        have hc1 := HH.out.wm.cell1
        have hb0 : bs'.length ≤ 100000001000 := by omega
        have hle := hle254
        have hle2 := hlen2
        clear hlen3 hsz hl8 hlab hlc hle254 hlen2
        cases hfl : f' N with
        | some a =>
          have hrng := HH.out.wm.rng N a hfl
          have hw := wN_seen (bs := bs') (f := f') (l := l) (ls := r) (a := a) (by rw [hN]; exact hfl)
          rw [hw] at hout
          rw [hfl] at hlook
          simp only [Option.getD_some, Option.isSome_some] at hlook
          have HOUT := Lib.hid hout
          clear hfl hout hw hN
          obtain ⟨ha0, ha1⟩ := hrng
          go_wp2_with fail
          obtain ⟨y, hy⟩ : ∃ y, Go.bits .or .u16 49152 a = y := ⟨_, rfl⟩
          have HY := Lib.hid (hy.symm.trans (or49152 ha0 ha1))
          (try rw [hy])
          clear hy hlook
          have hCv := own_C HH.out.wm.own
          have hC1 := C_one wr .u16 22 y
          refine (put16_ A' c' bs' _ 1 [y] _ (Kd.C_alloc hCv.1 _) hCv.2 hC1 (by simp) (by simp; omega)).mono ?_
          rintro e w2 ⟨v1, rfl, ho, hb⟩
          have hb2 : Below wr.heap.size wr w2 := (below_alloc (Below.refl _ _) _).trans (hb.mono (by simp))
          have hsz1 : (wr.alloc (.cells #[.int .u16 y] 22)).heap.size = wr.heap.size + 1 := by simp
          have e2 : bs' ++ all16 [y] = bs' ++ be16 (49152 + a) := by rw [HY.out]; rfl
          rw [e2, hsz1] at ho
          obtain ⟨b1, hb1, hb1l⟩ := own_at ho (by simp [be16])
          have hown := own_lower ho (base' := base) (by have := HH.out.wm.size; omega)
          have HP := Lib.hid (HH.out.wm.put (grown_of_below hb2 _) hown (.inr ⟨b1, hb1, by omega⟩) (by simp))
          have hblk := blk_below HH.out.wm.blk hb2
          have hc2 : w2.cell? ⟨g, 0, none⟩ = some (.slice A' bs'.length c') := by rw [blk_cell hblk]; rfl
          have hf2 : w2.frozen? ⟨g, 0, none⟩ = false := blk_frozen hblk 0
          obtain ⟨z, hz⟩ : ∃ z, bs' ++ be16 (49152 + a) = z := ⟨_, rfl⟩
          rw [hz] at hown HP ho
          obtain ⟨A9, c9, hv9⟩ := own_slice hown
          subst hv9
          have HZ := Lib.hid hz
          clear hz
          clear hb hb2 ho hown hblk hb1 hb1l e2 hsz1 hCv hC1 hc0 hf0 hc1
          go_wp2
          refine bodyPost_ret (results_none rfl _ _ _) rfl ?_
          obtain ⟨F1, p1, p2, p3, p4⟩ := HP.out
          rw [← HOUT.out, HZ.out]
          refine ⟨rfl, F1, ⟨_, _, p1⟩, ?_, HH.out.turn.trans p4 HH.out.foot⟩
          intro k hk
          rcases p3 k hk with hk | hk
          · exact HH.out.foot k hk
          · exact .inr (by have := HH.out.turn.size; omega)
        | none =>
          have hw := wN_new (bs := bs') (f := f') (l := l) (ls := r) (by rw [hN]; exact hfl)
          rw [hw, hN] at hout
          rw [hfl] at hlook
          simp only [Option.getD_none, Option.isSome_none] at hlook
          have HOUT := Lib.hid hout
          clear hfl hout hw hN
          have hlook2 := hlook
          by_cases hbig : bs'.length < 16384
          · have hd3 : decide (bs'.length < 16384) = true := decide_eq_true hbig
            have hd4 : decide ((bs'.length : Int) < 16384) = true := decide_eq_true (by omega)
            obtain ⟨w2, hrun, hm2, hg2⟩ := mis_put HH.out.mis (by have := HH.out.nle; unfold maxLen; omega) N HL8.out (by unfold maxLen; omega) (bs'.length : Int) (wf64 bs'.length (by omega))
            go_upto_region 10 with fail
            have hS := HH.out.wm.see HH.out.mis HH.out.bF HH.out.nle hm2 hg2 (seen_rng HH.out.wm.rng hbig)
            obtain ⟨hW2, hT2⟩ := hS
            have HW2 := Lib.hid hW2
            have HT2 := Lib.hid hT2
            have HM2 := Lib.hid hm2
            clear hW2 hT2 hg2 hrun hlook hlook2 hm2
            have hc2 := HW2.out.cell0
            have hf2 := HW2.out.froz 0
            have hbN : (strOfNums N).size = N.length := HSZ.out
            have hp : 0 < (strOfNums N).size := by rw [hbN]; have := HLEN.out; omega
            have hpi : (0 : Int) < ((strOfNums N).size : Int) := by omega
            have hbt : bt (strOfNums N) 0 = (l.length : Int) := by
              rw [str_bt N HL8.out (by omega) (by have := HLEN.out; omega), ← HNN.out]
              rfl
            have hx9 : ∀ h : 0 < (strOfNums N).size, (((strOfNums N)[0]'h).toNat : Int) = (l.length : Int) := fun h => (bt_at (strOfNums N) 0 h).trans hbt
            have hN8 := HL8.out
            have hNb := bytes_str hN8
            have hll : l.length ≤ 63 := HLAB.out.1.2
            have hex0 : (strOfNums N).extract 0 (1 + l.length) = strOfNums ((l.length : Int) :: l) := by
              apply str_inj'
              rw [bytes_ex, hNb, bytes_str (B8.cons (by omega) (by omega) HLAB.out.2), ← HNN.out, Nat.add_comm 1]
              simp
            have hex1 : (strOfNums N).extract (1 + l.length) (strOfNums N).size = strOfNums (lay r) := by
              apply str_inj'
              rw [bytes_ex, List.take_of_length_le (by rw [hNb, hbN]; exact Nat.le_refl _), hNb, bytes_str (lay_b8 fun x hx => ⟨(HH.out.lab x (by simp [hx])).2, by have := (HH.out.lab x (by simp [hx])).1; unfold Lab at this; omega⟩), ← HNN.out, Nat.add_comm 1]
              simp
            have hw1 : IntKind.i64.wrap (1 + (l.length : Int)) = 1 + (l.length : Int) := IntWalk.i64_in _ (by omega)
            have hi0 : (0 : Int) ≤ 1 + (l.length : Int) := by omega
            have hi1 : 1 + (l.length : Int) ≤ ((strOfNums N).size : Int) := by rw [hbN]; have := HLEN.out; omega
            have hi2 : (1 + (l.length : Int)).toNat = 1 + l.length := by omega
            have hsl : ∀ wx : World, (Instr.slice 25 (.string (strOfNums N)) none (some (.int .i64 (1 + (l.length : Int)))) none).run Try.prog wx = .ok (.string (strOfNums ((l.length : Int) :: l))) wx := fun wx => by
              rw [run_slice_string_h wx _ _ Try.underlying25 .i64 _ hi0 hi1, hi2, hex0]
            have hsl2 : ∀ wx : World, (Instr.slice 25 (.string (strOfNums N)) (some (.int .i64 (1 + (l.length : Int)))) none none).run Try.prog wx = .ok (.string (strOfNums (lay r))) wx := fun wx => by
              rw [run_slice_string_l wx _ _ Try.underlying25 .i64 _ hi0 hi1, hi2, hex1]
            clear hbN hNb hbt hex0 hex1 hi0 hi1 hi2
            have hy8 : B8 ((l.length : Int) :: l) := B8.cons (by omega) (by omega) HLAB.out.2
            have HY8 := Lib.hid hy8
            have HN8 := Lib.hid hN8
            obtain ⟨y, hy⟩ : ∃ y, (l.length : Int) :: l = y := ⟨_, rfl⟩
            have hyl : y.length = l.length + 1 := by rw [← hy]; rfl
            have HYL := Lib.hid hyl
            rw [hy] at hsl HY8
            have HYE := Lib.hid hy
            clear hy8 hN8 hy hyl
            have hw0 : IntKind.i64.wrap (l.length : Int) = (l.length : Int) := IntWalk.i64_in _ (by omega)
            go_region_law
              ((refine step_str base ?h1 (.tmp 61) (.tmp 67) 40 25 5 ?h2 Try.underlying40 Try.underlying25 infoB (.slice A' bs'.length c') bs' y HY8.out ?h3 ?h4 ?h5 ?h6 ?h7 ?_; (case h1 => rfl); (case h2 => rfl); (case h3 => rfl); (case h4 => rfl); (case h5 => exact HW2.out.own); (case h6 => exact HW2.out.size); (case h7 => have := HYL.out; omega); intro v1 w3 hown hg0 hat; have hg : w2.grownBy w3 (Value.slice A' bs'.length c').ownBlock := ⟨hg0.os, hg0.tape, hg0.output, hg0.size, hg0.block⟩; clear hg0; obtain ⟨z, hz⟩ : ∃ z, bs' ++ y = z := ⟨_, rfl⟩; rw [hz] at hown; obtain ⟨A9, c9, hv9⟩ := own_slice hown; subst hv9; have hblk := blk_grown HW2.out.blk hg (fun e => HW2.out.ne_v e.symm); have hc3 : w3.cell? ⟨g, 0, none⟩ = some (.slice A' bs'.length c') := (by rw [blk_cell hblk]; rfl); have hf3 : w3.frozen? ⟨g, 0, none⟩ = false := blk_frozen hblk 0; have HOWN := Lib.hid hown; have HGR := Lib.hid hg; have HAT := Lib.hid hat; have HZ := Lib.hid hz; clear hown hg hat hz hblk))
            all_goals
              have HP := Lib.hid (HW2.out.put HGR.out HOWN.out HAT.out (by rw [← HZ.out, List.length_append]; have := HYL.out; omega))
              clear hc2 hf2 hc3 hf3
              go_wp2
              go_roundw
              case rel =>
                obtain ⟨F1, p1, p2, p3, p4⟩ := HP.out
                refine ⟨r, F1, (.slice A9 z.length c9), b, n + 1, z, _, rfl, ⟨⟨by have := HLEN.out; omega, by rw [← HZ.out, List.length_append]; have := HLEN.out; have := HYL.out; omega, fun x hx => HH.out.lab x (by simp [hx]), ?_, p1, ?_, (by rw [← HZ.out, List.length_append]; have := HH.out.nle; have := HYL.out; omega), p2 _ HH.out.bF, ?_, ?_⟩⟩⟩
                · rw [← HOUT.out, ← HZ.out, ← HYE.out, if_pos hbig]
                · exact mis_move (mis_kept HM2.out HGR.out (fun e => own_map HW2.out.own HM2.out e.symm)) (Below.heap_setCell _ _ _ _ (HW2.out.ne_m HM2.out))
                · intro k hk
                  rcases p3 k hk with hk | hk
                  · exact HH.out.foot k hk
                  · exact .inr (by have := HH.out.turn.size; have := HT2.out.size; omega)
                · exact (HH.out.turn.trans HT2.out HH.out.foot).trans p4 HH.out.foot
              case measure =>
                have e1 := str_size (lay r)
                have e2 := HSZ.out
                have e3 := HLEN.out
                simp
                omega

          · have hd3 : decide (bs'.length < 16384) = false := decide_eq_false hbig
            have hd4 : decide ((bs'.length : Int) < 16384) = false := decide_eq_false (by omega)
            go_upto_region 10 with fail
            have HW2 := Lib.hid HH.out.wm
            have HT2 := Lib.hid (Turned.refl F' wr)
            have HM2 := Lib.hid HH.out.mis
            have hc2 := HW2.out.cell0
            have hf2 := HW2.out.froz 0
            have hbN : (strOfNums N).size = N.length := HSZ.out
            have hp : 0 < (strOfNums N).size := by rw [hbN]; have := HLEN.out; omega
            have hpi : (0 : Int) < ((strOfNums N).size : Int) := by omega
            have hbt : bt (strOfNums N) 0 = (l.length : Int) := by
              rw [str_bt N HL8.out (by omega) (by have := HLEN.out; omega), ← HNN.out]
              rfl
            have hx9 : ∀ h : 0 < (strOfNums N).size, (((strOfNums N)[0]'h).toNat : Int) = (l.length : Int) := fun h => (bt_at (strOfNums N) 0 h).trans hbt
            have hN8 := HL8.out
            have hNb := bytes_str hN8
            have hll : l.length ≤ 63 := HLAB.out.1.2
            have hex0 : (strOfNums N).extract 0 (1 + l.length) = strOfNums ((l.length : Int) :: l) := by
              apply str_inj'
              rw [bytes_ex, hNb, bytes_str (B8.cons (by omega) (by omega) HLAB.out.2), ← HNN.out, Nat.add_comm 1]
              simp
            have hex1 : (strOfNums N).extract (1 + l.length) (strOfNums N).size = strOfNums (lay r) := by
              apply str_inj'
              rw [bytes_ex, List.take_of_length_le (by rw [hNb, hbN]; exact Nat.le_refl _), hNb, bytes_str (lay_b8 fun x hx => ⟨(HH.out.lab x (by simp [hx])).2, by have := (HH.out.lab x (by simp [hx])).1; unfold Lab at this; omega⟩), ← HNN.out, Nat.add_comm 1]
              simp
            have hw1 : IntKind.i64.wrap (1 + (l.length : Int)) = 1 + (l.length : Int) := IntWalk.i64_in _ (by omega)
            have hi0 : (0 : Int) ≤ 1 + (l.length : Int) := by omega
            have hi1 : 1 + (l.length : Int) ≤ ((strOfNums N).size : Int) := by rw [hbN]; have := HLEN.out; omega
            have hi2 : (1 + (l.length : Int)).toNat = 1 + l.length := by omega
            have hsl : ∀ wx : World, (Instr.slice 25 (.string (strOfNums N)) none (some (.int .i64 (1 + (l.length : Int)))) none).run Try.prog wx = .ok (.string (strOfNums ((l.length : Int) :: l))) wx := fun wx => by
              rw [run_slice_string_h wx _ _ Try.underlying25 .i64 _ hi0 hi1, hi2, hex0]
            have hsl2 : ∀ wx : World, (Instr.slice 25 (.string (strOfNums N)) (some (.int .i64 (1 + (l.length : Int)))) none none).run Try.prog wx = .ok (.string (strOfNums (lay r))) wx := fun wx => by
              rw [run_slice_string_l wx _ _ Try.underlying25 .i64 _ hi0 hi1, hi2, hex1]
            clear hbN hNb hbt hex0 hex1 hi0 hi1 hi2
            have hy8 : B8 ((l.length : Int) :: l) := B8.cons (by omega) (by omega) HLAB.out.2
            have HY8 := Lib.hid hy8
            have HN8 := Lib.hid hN8
            obtain ⟨y, hy⟩ : ∃ y, (l.length : Int) :: l = y := ⟨_, rfl⟩
            have hyl : y.length = l.length + 1 := by rw [← hy]; rfl
            have HYL := Lib.hid hyl
            rw [hy] at hsl HY8
            have HYE := Lib.hid hy
            clear hy8 hN8 hy hyl
            have hw0 : IntKind.i64.wrap (l.length : Int) = (l.length : Int) := IntWalk.i64_in _ (by omega)
            go_region_law
              ((refine step_str base ?h1 (.tmp 61) (.tmp 67) 40 25 5 ?h2 Try.underlying40 Try.underlying25 infoB (.slice A' bs'.length c') bs' y HY8.out ?h3 ?h4 ?h5 ?h6 ?h7 ?_; (case h1 => rfl); (case h2 => rfl); (case h3 => rfl); (case h4 => rfl); (case h5 => exact HW2.out.own); (case h6 => exact HW2.out.size); (case h7 => have := HYL.out; omega); intro v1 w3 hown hg0 hat; have hg : wr.grownBy w3 (Value.slice A' bs'.length c').ownBlock := ⟨hg0.os, hg0.tape, hg0.output, hg0.size, hg0.block⟩; clear hg0; obtain ⟨z, hz⟩ : ∃ z, bs' ++ y = z := ⟨_, rfl⟩; rw [hz] at hown; obtain ⟨A9, c9, hv9⟩ := own_slice hown; subst hv9; have hblk := blk_grown HW2.out.blk hg (fun e => HW2.out.ne_v e.symm); have hc3 : w3.cell? ⟨g, 0, none⟩ = some (.slice A' bs'.length c') := (by rw [blk_cell hblk]; rfl); have hf3 : w3.frozen? ⟨g, 0, none⟩ = false := blk_frozen hblk 0; have HOWN := Lib.hid hown; have HGR := Lib.hid hg; have HAT := Lib.hid hat; have HZ := Lib.hid hz; clear hown hg hat hz hblk))
            all_goals
              have HP := Lib.hid (HW2.out.put HGR.out HOWN.out HAT.out (by rw [← HZ.out, List.length_append]; have := HYL.out; omega))
              clear hc2 hf2 hc3 hf3
              go_wp2
              go_roundw
              case rel =>
                obtain ⟨F1, p1, p2, p3, p4⟩ := HP.out
                refine ⟨r, F1, (.slice A9 z.length c9), b, n, z, _, rfl, ⟨⟨by have := HLEN.out; omega, by rw [← HZ.out, List.length_append]; have := HLEN.out; have := HYL.out; omega, fun x hx => HH.out.lab x (by simp [hx]), ?_, p1, ?_, (by rw [← HZ.out, List.length_append]; have := HH.out.nle; omega), p2 _ HH.out.bF, ?_, ?_⟩⟩⟩
                · rw [← HOUT.out, ← HZ.out, ← HYE.out, if_neg hbig]
                · exact mis_move (mis_kept HM2.out HGR.out (fun e => own_map HW2.out.own HM2.out e.symm)) (Below.heap_setCell _ _ _ _ (HW2.out.ne_m HM2.out))
                · intro k hk
                  rcases p3 k hk with hk | hk
                  · exact HH.out.foot k hk
                  · exact .inr (by have := HH.out.turn.size; have := HT2.out.size; omega)
                · exact (HH.out.turn.trans HT2.out HH.out.foot).trans p4 HH.out.foot
              case measure =>
                have e1 := str_size (lay r)
                have e2 := HSZ.out
                have e3 := HLEN.out
                simp
                omega
  · have HMI := Lib.hid hMI
    clear hn hM h h1 h2 h8 hb8 hMI
    go_enter Try.func24, Try.ntmps24
    go_wp2_with fail
    refine HM.out.mono ?_
    rintro e w1 ⟨rfl, hb⟩
    have H1 := Lib.hid (H.out.below hb)
    have HMI1 := Lib.hid (mis_kept HMI.out (grown_of_below hb none) (by simp))
    have HB := Lib.hid hb
    have hc1 := H1.out.cell1
    clear hb HM HMI
    go_wp2_with fail
    clear hc1
    go_loopw [1] (fun t wr => ∃ (ls' : List (List Int)) (F' : List Nat) (v' : Value) (b n : Nat) (bs' : List Int) (f' : List Int → Option Int), t = .string (strOfNums (lay ls')) ∧ Aside0 (NHead w base g F bs f ls wr ls' F' v' b n bs' f'))
      (fun t _ => match t with | .string s => s.size | _ => 0)
    case atStart =>
      exact ⟨ls, F, .slice A bs.length c, b, n, bs, f, rfl, ⟨⟨h3, by omega, fun l hm => ⟨HL.out l hm, H8.out l hm⟩, rfl, H1.out, HMI1.out, hnl, hbF, fun k hk => .inl hk, Turned.of_below HB.out F⟩⟩⟩
    case round =>
      obtain ⟨ls', F', v', b, n, bs', f', rfl, hH⟩ := hrel
      have HH := hH
      clear hH
      obtain ⟨A', c', hv'⟩ := own_slice HH.out.wm.own
      subst hv'
      have hle254 := HH.out.len
      have hlen2 := HH.out.len2
      cases ls' with
      | nil =>
        have hz : (strOfNums (lay [])).size = 0 := str_size _
        have hd1 : decide (0 < (strOfNums (lay [])).size) = false := by rw [hz]; rfl
        have hd2 : decide (0 < ((strOfNums (lay [])).size : Int)) = false := by rw [hz]; rfl
        have hc0 := HH.out.wm.cell0
        have hf0 := HH.out.wm.froz 0
        clear hz
        go_wp2_with (at_builtin; refine print_append_num (w0 := wr) base rfl (.tmp 81) (.tmp 82) 40 5 .u8 1 rfl Try.underlying40 infoB (by decide) (.slice A' bs'.length c') bs' 0 rfl rfl HH.out.wm.own (Below.refl _ _) HH.out.wm.size (by omega) ?_)
        intro v1 w2 hown _ hg hat
        have hown' : w2.ownsRow base 5 1 v1 (bs' ++ [0]).length (nums .u8 (bs' ++ [0])) := by simpa using hown
        have hblk := blk_grown HH.out.wm.blk hg (fun e => HH.out.wm.ne_v e.symm)
        have hc2 : w2.cell? ⟨g, 0, none⟩ = some (.slice A' bs'.length c') := by rw [blk_cell hblk]; rfl
        have hf2 : w2.frozen? ⟨g, 0, none⟩ = false := blk_frozen hblk 0
        have HP := Lib.hid (HH.out.wm.put hg hown' hat (by simp))
        obtain ⟨z, hz⟩ : ∃ z, bs' ++ [0] = z := ⟨_, rfl⟩
        rw [hz] at hown' HP
        obtain ⟨A9, c9, hv9⟩ := own_slice hown'
        subst hv9
        have HZ := Lib.hid hz
        clear hz
        clear hown hown' hblk hg hat hc0 hf0
        go_wp2
        go_end0
        obtain ⟨F1, p1, p2, p3, p4⟩ := HP.out
        have ho := HH.out.out
        have hzz : wN bs' f' [] = (z, f') := by rw [← HZ.out]; rfl
        rw [← ho, hzz]
        refine ⟨rfl, F1, ⟨_, _, p1⟩, ?_, HH.out.turn.trans p4 HH.out.foot⟩
        intro k hk
        rcases p3 k hk with hk | hk
        · exact HH.out.foot k hk
        · exact .inr (by have := HH.out.turn.size; omega)
      | cons l r =>
        have hlab := HH.out.lab l (by simp)
        have hl8 : B8 (lay (l :: r)) := lay_b8 fun x hx => ⟨(HH.out.lab x hx).2, by have := (HH.out.lab x hx).1; unfold Lab at this; omega⟩
        have hlook := mis_look HH.out.mis (lay (l :: r)) hl8 (by unfold maxLen; omega)
        have hlc : lay (l :: r) = (l.length : Int) :: (l ++ lay r) := rfl
        have hlen3 : (lay (l :: r)).length = l.length + 1 + (lay r).length := by rw [hlc]; simp; omega
        obtain ⟨N, hN⟩ : ∃ N, lay (l :: r) = N := ⟨_, rfl⟩
        have hsz := str_size N
        have hout := HH.out.out
        rw [hN] at hlook hl8 hlen3 hle254 hlen2 ⊢
        have hd1 : decide (0 < (strOfNums N).size) = true := decide_eq_true (by rw [hsz]; omega)
        have hd2 : decide (0 < ((strOfNums N).size : Int)) = true := decide_eq_true (by rw [hsz]; omega)
        have HLEN := Lib.hid hlen3
        have HSZ := Lib.hid hsz
        have HL8 := Lib.hid hl8
        have HLAB := Lib.hid hlab
        have HNN := Lib.hid (hlc.symm.trans hN)
        have hc0 := HH.out.wm.cell0
        have hf0 := HH.out.wm.froz 0
        have hc1 := HH.out.wm.cell1
        have hb0 : bs'.length ≤ 100000001000 := by omega
        have hle := hle254
        have hle2 := hlen2
        clear hlen3 hsz hl8 hlab hlc hle254 hlen2
        cases hfl : f' N with
        | some a =>
          have hrng := HH.out.wm.rng N a hfl
          have hw := wN_seen (bs := bs') (f := f') (l := l) (ls := r) (a := a) (by rw [hN]; exact hfl)
          rw [hw] at hout
          rw [hfl] at hlook
          simp only [Option.getD_some, Option.isSome_some] at hlook
          have HOUT := Lib.hid hout
          clear hfl hout hw hN
          obtain ⟨ha0, ha1⟩ := hrng
          go_wp2_with fail
          obtain ⟨y, hy⟩ : ∃ y, Go.bits .or .u16 49152 a = y := ⟨_, rfl⟩
          have HY := Lib.hid (hy.symm.trans (or49152 ha0 ha1))
          (try rw [hy])
          clear hy hlook
          have hCv := own_C HH.out.wm.own
          have hC1 := C_one wr .u16 22 y
          refine (put16_ A' c' bs' _ 1 [y] _ (Kd.C_alloc hCv.1 _) hCv.2 hC1 (by simp) (by simp; omega)).mono ?_
          rintro e w2 ⟨v1, rfl, ho, hb⟩
          have hb2 : Below wr.heap.size wr w2 := (below_alloc (Below.refl _ _) _).trans (hb.mono (by simp))
          have hsz1 : (wr.alloc (.cells #[.int .u16 y] 22)).heap.size = wr.heap.size + 1 := by simp
          have e2 : bs' ++ all16 [y] = bs' ++ be16 (49152 + a) := by rw [HY.out]; rfl
          rw [e2, hsz1] at ho
          obtain ⟨b1, hb1, hb1l⟩ := own_at ho (by simp [be16])
          have hown := own_lower ho (base' := base) (by have := HH.out.wm.size; omega)
          have HP := Lib.hid (HH.out.wm.put (grown_of_below hb2 _) hown (.inr ⟨b1, hb1, by omega⟩) (by simp))
          have hblk := blk_below HH.out.wm.blk hb2
          have hc2 : w2.cell? ⟨g, 0, none⟩ = some (.slice A' bs'.length c') := by rw [blk_cell hblk]; rfl
          have hf2 : w2.frozen? ⟨g, 0, none⟩ = false := blk_frozen hblk 0
          obtain ⟨z, hz⟩ : ∃ z, bs' ++ be16 (49152 + a) = z := ⟨_, rfl⟩
          rw [hz] at hown HP ho
          obtain ⟨A9, c9, hv9⟩ := own_slice hown
          subst hv9
          have HZ := Lib.hid hz
          clear hz
          clear hb hb2 ho hown hblk hb1 hb1l e2 hsz1 hCv hC1 hc0 hf0 hc1
          go_wp2
          refine bodyPost_ret (results_none rfl _ _ _) rfl ?_
          obtain ⟨F1, p1, p2, p3, p4⟩ := HP.out
          rw [← HOUT.out, HZ.out]
          refine ⟨rfl, F1, ⟨_, _, p1⟩, ?_, HH.out.turn.trans p4 HH.out.foot⟩
          intro k hk
          rcases p3 k hk with hk | hk
          · exact HH.out.foot k hk
          · exact .inr (by have := HH.out.turn.size; omega)
        | none =>
          have hw := wN_new (bs := bs') (f := f') (l := l) (ls := r) (by rw [hN]; exact hfl)
          rw [hw, hN] at hout
          rw [hfl] at hlook
          simp only [Option.getD_none, Option.isSome_none] at hlook
          have HOUT := Lib.hid hout
          clear hfl hout hw hN
          have hlook2 := hlook
          by_cases hbig : bs'.length < 16384
          · have hd3 : decide (bs'.length < 16384) = true := decide_eq_true hbig
            have hd4 : decide ((bs'.length : Int) < 16384) = true := decide_eq_true (by omega)
            obtain ⟨w2, hrun, hm2, hg2⟩ := mis_put HH.out.mis (by have := HH.out.nle; unfold maxLen; omega) N HL8.out (by unfold maxLen; omega) (bs'.length : Int) (wf64 bs'.length (by omega))
            go_upto_region 10 with fail
            have hS := HH.out.wm.see HH.out.mis HH.out.bF HH.out.nle hm2 hg2 (seen_rng HH.out.wm.rng hbig)
            obtain ⟨hW2, hT2⟩ := hS
            have HW2 := Lib.hid hW2
            have HT2 := Lib.hid hT2
            have HM2 := Lib.hid hm2
            clear hW2 hT2 hg2 hrun hlook hlook2 hm2
            have hc2 := HW2.out.cell0
            have hf2 := HW2.out.froz 0
            have hbN : (strOfNums N).size = N.length := HSZ.out
            have hp : 0 < (strOfNums N).size := by rw [hbN]; have := HLEN.out; omega
            have hpi : (0 : Int) < ((strOfNums N).size : Int) := by omega
            have hbt : bt (strOfNums N) 0 = (l.length : Int) := by
              rw [str_bt N HL8.out (by omega) (by have := HLEN.out; omega), ← HNN.out]
              rfl
            have hx9 : ∀ h : 0 < (strOfNums N).size, (((strOfNums N)[0]'h).toNat : Int) = (l.length : Int) := fun h => (bt_at (strOfNums N) 0 h).trans hbt
            have hN8 := HL8.out
            have hNb := bytes_str hN8
            have hll : l.length ≤ 63 := HLAB.out.1.2
            have hex0 : (strOfNums N).extract 0 (1 + l.length) = strOfNums ((l.length : Int) :: l) := by
              apply str_inj'
              rw [bytes_ex, hNb, bytes_str (B8.cons (by omega) (by omega) HLAB.out.2), ← HNN.out, Nat.add_comm 1]
              simp
            have hex1 : (strOfNums N).extract (1 + l.length) (strOfNums N).size = strOfNums (lay r) := by
              apply str_inj'
              rw [bytes_ex, List.take_of_length_le (by rw [hNb, hbN]; exact Nat.le_refl _), hNb, bytes_str (lay_b8 fun x hx => ⟨(HH.out.lab x (by simp [hx])).2, by have := (HH.out.lab x (by simp [hx])).1; unfold Lab at this; omega⟩), ← HNN.out, Nat.add_comm 1]
              simp
            have hw1 : IntKind.i64.wrap (1 + (l.length : Int)) = 1 + (l.length : Int) := IntWalk.i64_in _ (by omega)
            have hi0 : (0 : Int) ≤ 1 + (l.length : Int) := by omega
            have hi1 : 1 + (l.length : Int) ≤ ((strOfNums N).size : Int) := by rw [hbN]; have := HLEN.out; omega
            have hi2 : (1 + (l.length : Int)).toNat = 1 + l.length := by omega
            have hsl : ∀ wx : World, (Instr.slice 25 (.string (strOfNums N)) none (some (.int .i64 (1 + (l.length : Int)))) none).run Try.prog wx = .ok (.string (strOfNums ((l.length : Int) :: l))) wx := fun wx => by
              rw [run_slice_string_h wx _ _ Try.underlying25 .i64 _ hi0 hi1, hi2, hex0]
            have hsl2 : ∀ wx : World, (Instr.slice 25 (.string (strOfNums N)) (some (.int .i64 (1 + (l.length : Int)))) none none).run Try.prog wx = .ok (.string (strOfNums (lay r))) wx := fun wx => by
              rw [run_slice_string_l wx _ _ Try.underlying25 .i64 _ hi0 hi1, hi2, hex1]
            clear hbN hNb hbt hex0 hex1 hi0 hi1 hi2
            have hy8 : B8 ((l.length : Int) :: l) := B8.cons (by omega) (by omega) HLAB.out.2
            have HY8 := Lib.hid hy8
            have HN8 := Lib.hid hN8
            obtain ⟨y, hy⟩ : ∃ y, (l.length : Int) :: l = y := ⟨_, rfl⟩
            have hyl : y.length = l.length + 1 := by rw [← hy]; rfl
            have HYL := Lib.hid hyl
            rw [hy] at hsl HY8
            have HYE := Lib.hid hy
            clear hy8 hN8 hy hyl
            have hw0 : IntKind.i64.wrap (l.length : Int) = (l.length : Int) := IntWalk.i64_in _ (by omega)
            go_region_law
              ((refine step_str base ?h1 (.tmp 61) (.tmp 67) 40 25 5 ?h2 Try.underlying40 Try.underlying25 infoB (.slice A' bs'.length c') bs' y HY8.out ?h3 ?h4 ?h5 ?h6 ?h7 ?_; (case h1 => rfl); (case h2 => rfl); (case h3 => rfl); (case h4 => rfl); (case h5 => exact HW2.out.own); (case h6 => exact HW2.out.size); (case h7 => have := HYL.out; omega); intro v1 w3 hown hg0 hat; have hg : w2.grownBy w3 (Value.slice A' bs'.length c').ownBlock := ⟨hg0.os, hg0.tape, hg0.output, hg0.size, hg0.block⟩; clear hg0; obtain ⟨z, hz⟩ : ∃ z, bs' ++ y = z := ⟨_, rfl⟩; rw [hz] at hown; obtain ⟨A9, c9, hv9⟩ := own_slice hown; subst hv9; have hblk := blk_grown HW2.out.blk hg (fun e => HW2.out.ne_v e.symm); have hc3 : w3.cell? ⟨g, 0, none⟩ = some (.slice A' bs'.length c') := (by rw [blk_cell hblk]; rfl); have hf3 : w3.frozen? ⟨g, 0, none⟩ = false := blk_frozen hblk 0; have HOWN := Lib.hid hown; have HGR := Lib.hid hg; have HAT := Lib.hid hat; have HZ := Lib.hid hz; clear hown hg hat hz hblk))
            all_goals
              have HP := Lib.hid (HW2.out.put HGR.out HOWN.out HAT.out (by rw [← HZ.out, List.length_append]; have := HYL.out; omega))
              clear hc2 hf2 hc3 hf3
              go_wp2
              go_roundw
              case rel =>
                obtain ⟨F1, p1, p2, p3, p4⟩ := HP.out
                refine ⟨r, F1, (.slice A9 z.length c9), b, n + 1, z, _, rfl, ⟨⟨by have := HLEN.out; omega, by rw [← HZ.out, List.length_append]; have := HLEN.out; have := HYL.out; omega, fun x hx => HH.out.lab x (by simp [hx]), ?_, p1, ?_, (by rw [← HZ.out, List.length_append]; have := HH.out.nle; have := HYL.out; omega), p2 _ HH.out.bF, ?_, ?_⟩⟩⟩
                · rw [← HOUT.out, ← HZ.out, ← HYE.out, if_pos hbig]
                · exact mis_move (mis_kept HM2.out HGR.out (fun e => own_map HW2.out.own HM2.out e.symm)) (Below.heap_setCell _ _ _ _ (HW2.out.ne_m HM2.out))
                · intro k hk
                  rcases p3 k hk with hk | hk
                  · exact HH.out.foot k hk
                  · exact .inr (by have := HH.out.turn.size; have := HT2.out.size; omega)
                · exact (HH.out.turn.trans HT2.out HH.out.foot).trans p4 HH.out.foot
              case measure =>
                have e1 := str_size (lay r)
                have e2 := HSZ.out
                have e3 := HLEN.out
                simp
                omega

          · have hd3 : decide (bs'.length < 16384) = false := decide_eq_false hbig
            have hd4 : decide ((bs'.length : Int) < 16384) = false := decide_eq_false (by omega)
            go_upto_region 10 with fail
            have HW2 := Lib.hid HH.out.wm
            have HT2 := Lib.hid (Turned.refl F' wr)
            have HM2 := Lib.hid HH.out.mis
            have hc2 := HW2.out.cell0
            have hf2 := HW2.out.froz 0
            have hbN : (strOfNums N).size = N.length := HSZ.out
            have hp : 0 < (strOfNums N).size := by rw [hbN]; have := HLEN.out; omega
            have hpi : (0 : Int) < ((strOfNums N).size : Int) := by omega
            have hbt : bt (strOfNums N) 0 = (l.length : Int) := by
              rw [str_bt N HL8.out (by omega) (by have := HLEN.out; omega), ← HNN.out]
              rfl
            have hx9 : ∀ h : 0 < (strOfNums N).size, (((strOfNums N)[0]'h).toNat : Int) = (l.length : Int) := fun h => (bt_at (strOfNums N) 0 h).trans hbt
            have hN8 := HL8.out
            have hNb := bytes_str hN8
            have hll : l.length ≤ 63 := HLAB.out.1.2
            have hex0 : (strOfNums N).extract 0 (1 + l.length) = strOfNums ((l.length : Int) :: l) := by
              apply str_inj'
              rw [bytes_ex, hNb, bytes_str (B8.cons (by omega) (by omega) HLAB.out.2), ← HNN.out, Nat.add_comm 1]
              simp
            have hex1 : (strOfNums N).extract (1 + l.length) (strOfNums N).size = strOfNums (lay r) := by
              apply str_inj'
              rw [bytes_ex, List.take_of_length_le (by rw [hNb, hbN]; exact Nat.le_refl _), hNb, bytes_str (lay_b8 fun x hx => ⟨(HH.out.lab x (by simp [hx])).2, by have := (HH.out.lab x (by simp [hx])).1; unfold Lab at this; omega⟩), ← HNN.out, Nat.add_comm 1]
              simp
            have hw1 : IntKind.i64.wrap (1 + (l.length : Int)) = 1 + (l.length : Int) := IntWalk.i64_in _ (by omega)
            have hi0 : (0 : Int) ≤ 1 + (l.length : Int) := by omega
            have hi1 : 1 + (l.length : Int) ≤ ((strOfNums N).size : Int) := by rw [hbN]; have := HLEN.out; omega
            have hi2 : (1 + (l.length : Int)).toNat = 1 + l.length := by omega
            have hsl : ∀ wx : World, (Instr.slice 25 (.string (strOfNums N)) none (some (.int .i64 (1 + (l.length : Int)))) none).run Try.prog wx = .ok (.string (strOfNums ((l.length : Int) :: l))) wx := fun wx => by
              rw [run_slice_string_h wx _ _ Try.underlying25 .i64 _ hi0 hi1, hi2, hex0]
            have hsl2 : ∀ wx : World, (Instr.slice 25 (.string (strOfNums N)) (some (.int .i64 (1 + (l.length : Int)))) none none).run Try.prog wx = .ok (.string (strOfNums (lay r))) wx := fun wx => by
              rw [run_slice_string_l wx _ _ Try.underlying25 .i64 _ hi0 hi1, hi2, hex1]
            clear hbN hNb hbt hex0 hex1 hi0 hi1 hi2
            have hy8 : B8 ((l.length : Int) :: l) := B8.cons (by omega) (by omega) HLAB.out.2
            have HY8 := Lib.hid hy8
            have HN8 := Lib.hid hN8
            obtain ⟨y, hy⟩ : ∃ y, (l.length : Int) :: l = y := ⟨_, rfl⟩
            have hyl : y.length = l.length + 1 := by rw [← hy]; rfl
            have HYL := Lib.hid hyl
            rw [hy] at hsl HY8
            have HYE := Lib.hid hy
            clear hy8 hN8 hy hyl
            have hw0 : IntKind.i64.wrap (l.length : Int) = (l.length : Int) := IntWalk.i64_in _ (by omega)
            go_region_law
              ((refine step_str base ?h1 (.tmp 61) (.tmp 67) 40 25 5 ?h2 Try.underlying40 Try.underlying25 infoB (.slice A' bs'.length c') bs' y HY8.out ?h3 ?h4 ?h5 ?h6 ?h7 ?_; (case h1 => rfl); (case h2 => rfl); (case h3 => rfl); (case h4 => rfl); (case h5 => exact HW2.out.own); (case h6 => exact HW2.out.size); (case h7 => have := HYL.out; omega); intro v1 w3 hown hg0 hat; have hg : wr.grownBy w3 (Value.slice A' bs'.length c').ownBlock := ⟨hg0.os, hg0.tape, hg0.output, hg0.size, hg0.block⟩; clear hg0; obtain ⟨z, hz⟩ : ∃ z, bs' ++ y = z := ⟨_, rfl⟩; rw [hz] at hown; obtain ⟨A9, c9, hv9⟩ := own_slice hown; subst hv9; have hblk := blk_grown HW2.out.blk hg (fun e => HW2.out.ne_v e.symm); have hc3 : w3.cell? ⟨g, 0, none⟩ = some (.slice A' bs'.length c') := (by rw [blk_cell hblk]; rfl); have hf3 : w3.frozen? ⟨g, 0, none⟩ = false := blk_frozen hblk 0; have HOWN := Lib.hid hown; have HGR := Lib.hid hg; have HAT := Lib.hid hat; have HZ := Lib.hid hz; clear hown hg hat hz hblk))
            all_goals
              have HP := Lib.hid (HW2.out.put HGR.out HOWN.out HAT.out (by rw [← HZ.out, List.length_append]; have := HYL.out; omega))
              clear hc2 hf2 hc3 hf3
              go_wp2
              go_roundw
              case rel =>
                obtain ⟨F1, p1, p2, p3, p4⟩ := HP.out
                refine ⟨r, F1, (.slice A9 z.length c9), b, n, z, _, rfl, ⟨⟨by have := HLEN.out; omega, by rw [← HZ.out, List.length_append]; have := HLEN.out; have := HYL.out; omega, fun x hx => HH.out.lab x (by simp [hx]), ?_, p1, ?_, (by rw [← HZ.out, List.length_append]; have := HH.out.nle; omega), p2 _ HH.out.bF, ?_, ?_⟩⟩⟩
                · rw [← HOUT.out, ← HZ.out, ← HYE.out, if_neg hbig]
                · exact mis_move (mis_kept HM2.out HGR.out (fun e => own_map HW2.out.own HM2.out e.symm)) (Below.heap_setCell _ _ _ _ (HW2.out.ne_m HM2.out))
                · intro k hk
                  rcases p3 k hk with hk | hk
                  · exact HH.out.foot k hk
                  · exact .inr (by have := HH.out.turn.size; have := HT2.out.size; omega)
                · exact (HH.out.turn.trans HT2.out HH.out.foot).trans p4 HH.out.foot
              case measure =>
                have e1 := str_size (lay r)
                have e2 := HSZ.out
                have e3 := HLEN.out
                simp
                omega
end Go.Proofs.Ytnikfeaggppmpaa.Wr
