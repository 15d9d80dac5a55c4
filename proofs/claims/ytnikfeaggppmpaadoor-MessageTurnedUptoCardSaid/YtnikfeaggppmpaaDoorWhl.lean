/- part of a proof; what it has no use for was struck out -/
import Derived.Test.YtnikfeaggppmpaaDoorRec
import Derived.Test.YtnikfeaggppmpaaDoorPMx5
namespace Go.Proofs.YtnikfeaggppmpaaDoor.Wr
open Go.RowKit Go.Proofs.YtnikfeaggppmpaaDoor.PM Go.Proofs.YtnikfeaggppmpaaDoorW Go.Proofs.YtnikfeaggppmpaaDoorW.PrintWords Go.Proofs.YtnikfeaggppmpaaDoorW.PrintLast Go.Proofs.YtnikfeaggppmpaaDoorW.PrintMore Go.Proofs.YtnikfeaggppmpaaDoor.Base Go.Proofs.YtnikfeaggppmpaaDoor.Nam Go.Proofs.YtnikfeaggppmpaaDoor.Trn Go.Proofs.YtnikfeaggppmpaaDoor.MapS Go.Proofs.YtnikfeaggppmpaaDoor.QM
set_option linter.unusedVariables false
set_option linter.unusedSimpArgs false
set_option maxRecDepth 100000
structure Msg where
  id : Int
  rp : Bool
  op : Int
  au : Bool
  tr : Bool
  de : Bool
  av : Bool
  co : Int
  qn : ByteArray
  qt : Int
  an : List R
  ns : List R
  ex : List R
  sz : Int
def bit1 (b : Bool) : Int := if b = true then 1 else 0
theorem bits_one (b : Bool) : Ev (fun k => num_Bits.f k [b]) (bit1 b) := by
  cases b <;> exact Ev.of (fun k => num_Bits.mono _ k) (k := 10) (by kernel_rfl)
theorem bits_four (a b c d : Bool) : Ev (fun k => num_Bits.f k [a, b, c, d]) (bit1 a * 8 + bit1 b * 4 + bit1 c * 2 + bit1 d) := by
  cases a <;> cases b <;> cases c <;> cases d <;> exact Ev.of (fun k => num_Bits.mono _ k) (k := 10) (by kernel_rfl)
def flagsV (m : Msg) : Int := Go.bits .or .u16 (Go.bits .or .u16 (Go.bits .or .u16 (IntKind.u16.wrap (bit1 m.rp * 32768)) (IntKind.u16.wrap ((IntKind.u16.wrap m.op) * 2048))) (IntKind.u16.wrap ((bit1 m.au * 8 + bit1 m.tr * 4 + bit1 m.de * 2 + bit1 m.av) * 128))) (IntKind.u16.wrap m.co)
theorem flags_ev (m : Msg) : Ev (fun k => message_flags.f k m.id m.rp m.op m.au m.tr m.de m.av m.co) (flagsV m) := by
  obtain ⟨K1, g1⟩ := bits_one m.rp
  obtain ⟨K2, g2⟩ := bits_four m.au m.tr m.de m.av
  refine ⟨max K1 K2, fun k hk => ?_⟩
  have e1 := g1 k (by omega)
  have e2 := g2 k (by omega)
  simp only at e1 e2
  show message_flags.f k m.id m.rp m.op m.au m.tr m.de m.av m.co = _
  unfold message_flags.f
  rw [e1, Option.bind_some, e2, Option.bind_some]
  rfl
theorem C_six (w : World) (k : IntKind) (e : TypeId) (a b c d x y : Int) : Kd.C (Kd.int k) (w.alloc (.cells #[.int k a, .int k b, .int k c, .int k d, .int k x, .int k y] e)) (some ⟨w.heap.size, 0, none⟩) [a, b, c, d, x, y].length [a, b, c, d, x, y] := by
  have h := own_lit_of (enc := Value.int k) w w.heap.size e [a, b, c, d, x, y] (Nat.le_refl _) (by simp)
  have h2 := Kd.R_reads' (Kd.R_of_own (enc := Value.int k) (h1 := fun _ => rfl) (ok := fun _ => True) (by exact h) (fun _ _ => trivial))
  exact h2.2.2
def headW (m : Msg) : List Int := all16 [m.id, flagsV m, 1, (m.an.length : Int) % 65536, (m.ns.length : Int) % 65536, ((m.ex.length + (if 0 < m.sz then 1 else 0) : Nat) : Int) % 65536]
noncomputable def partsW (m : Msg) : St := recsW m.ex (recsW m.ns (recsW m.an ((namW (bytesOf m.qn) (headW m, fun _ => none)).1 ++ all16 [m.qt, 1], (namW (bytesOf m.qn) (headW m, fun _ => none)).2)))
noncomputable def wholeL (m : Msg) : List Int := if 0 < m.sz then (partsW m).1 ++ [0] ++ all16 [41, m.sz % 65536] ++ all32 [0] ++ all16 [0] else (partsW m).1
def WfM (m : Msg) : Prop := ((∀ r ∈ m.an, WfR r) ∧ (∀ r ∈ m.ns, WfR r) ∧ ∀ r ∈ m.ex, WfR r) ∧ m.qn.size ≤ 1000000000 ∧ m.ex.length ≤ 100000 ∧ m.an.length ≤ 100000 ∧ m.ns.length ≤ 100000 ∧ (0 ≤ m.qt ∧ m.qt < 65536) ∧ (0 ≤ m.id ∧ m.id < 65536)
def whl_T4 : Bool × List (List Nat × List Nat) := (true, [([], []), ([0], [0]), ([1], [1]), ([], []), ([3], [3]), ([4], [4]), ([], []), ([6], [6]), ([7], [7]), ([8], [8]), ([], []), ([10], [10]), ([11], [11]), ([12], [12]), ([], []), ([14], [14]), ([2, 5, 9, 13, 15], [2, 5, 9, 13, 15]), ([16, 5], [16]), ([17], [17]), ([18], [18]), ([19, 17, 0, 1, 2, 3, 4, 5, 6, 7, 8, 9, 10, 11, 12, 13, 14, 15, 16, 17, 18, 19], [19])])
def whl_B4 : List Nat := [0, 1, 3, 0, 8, 24, 0, 64, 192, 448, 0, 1024, 3072, 7168, 0, 16384, 65535, 131071, 262143, 524287, 1048575]
theorem whl_tab4 : rtab .any (opsOf Tryd.f20 4) = whl_T4 := by kernel_rfl
theorem whl_bits4 : waitsOk whl_T4.2 whl_B4 = true := by kernel_rfl
def whl_T6 : Bool × List (List Nat × List Nat) := (true, [([], []), ([], []), ([1], [1]), ([2], [2]), ([3], [3]), ([], []), ([5], [5]), ([6], [6]), ([7], [7]), ([4, 8], [4, 8]), ([0, 0, 1, 2, 3, 4, 5, 6, 7, 8, 9], [0]), ([10, 0, 1, 2, 3, 4, 5, 6, 7, 8, 9], [10]), ([11, 9, 9, 0, 1, 2, 3, 4, 5, 6, 7, 8, 9], [9, 11])])
def whl_B6 : List Nat := [0, 0, 2, 6, 14, 0, 32, 96, 224, 510, 1023, 2047, 4095]
theorem whl_tab6 : rtab .any (opsOf Tryd.f20 6) = whl_T6 := by kernel_rfl
theorem whl_bits6 : waitsOk whl_T6.2 whl_B6 = true := by kernel_rfl
def whl_T18 : Bool × List (List Nat × List Nat) := (true, [([], []), ([], []), ([1], [1]), ([2], [2]), ([3], [3]), ([], []), ([5], [5]), ([6], [6]), ([7], [7]), ([4, 8], [4, 8]), ([0, 0, 1, 2, 3, 4, 5, 6, 7, 8, 9], [0]), ([10, 0, 1, 2, 3, 4, 5, 6, 7, 8, 9], [10]), ([11, 9, 9, 0, 1, 2, 3, 4, 5, 6, 7, 8, 9], [9, 11])])
def whl_B18 : List Nat := [0, 0, 2, 6, 14, 0, 32, 96, 224, 510, 1023, 2047, 4095]
theorem whl_tab18 : rtab .any (opsOf Tryd.f20 18) = whl_T18 := by kernel_rfl
theorem whl_bits18 : waitsOk whl_T18.2 whl_B18 = true := by kernel_rfl
theorem goes_below {w w1 : World} {base g : Nat} {F : List Nat} {bs bs1 : List Int} {f f1 : List Int → Option Int} (hW : Wr w base g F bs f) (h : Goes w w1 base g F bs1 f1) : Below base w w1 :=
  h.turn.below (fun k hk => (hW.foot k hk).1) (by have := hW.gb; omega)
theorem rd_Rm {l : List R} {i : Nat} {a : R} (h : l[i]? = some a) : rd_T70 l (i : Int) = a := by
  unfold rd_T70
  rw [List.getD_eq_getElem?_getD, show ((i : Int)).toNat = i by omega, h]
  rfl
noncomputable def stW (m : Msg) (s : St) (j : Nat) : St := ([m.an, m.ns, m.ex].take j).foldl (fun s l => recsW l s) s
theorem stW_succ {m : Msg} {s : St} {j : Nat} {P : List R} (h : [m.an, m.ns, m.ex][j]? = some P) : stW m s (j + 1) = recsW P (stW m s j) := by
  unfold stW
  rw [List.take_add_one, h]
  simp
theorem stW_len (m : Msg) (s : St) (hm : WfM m) (j : Nat) : (stW m s j).1.length ≤ s.1.length + 450000000 := by
  obtain ⟨_, _, h1, h2, h3, _⟩ := hm
  have e1 := recsW_len m.an s
  have e2 := recsW_len m.ns (recsW m.an s)
  have e3 := recsW_len m.ex (recsW m.ns (recsW m.an s))
  match j with
  | 0 => exact Nat.le_add_right _ _
  | 1 =>
    show (recsW m.an s).1.length ≤ _
    omega
  | 2 =>
    show (recsW m.ns (recsW m.an s)).1.length ≤ _
    omega
  | n + 3 =>
    have : stW m s (n + 3) = recsW m.ex (recsW m.ns (recsW m.an s)) := by
      unfold stW
      rw [List.take_of_length_le (by simp)]
      rfl
    rw [this]
    omega
set_option maxHeartbeats 8000000 in
theorem whole_ (m : Msg) (hm : WfM m) (Aa An Ae : Option Addr) (ca cn ce : Nat) (w : World) (hCa : Kd.C k70 w Aa m.an.length m.an) (hca : m.an.length ≤ ca) (hCn : Kd.C k70 w An m.ns.length m.ns) (hcn : m.ns.length ≤ cn) (hCe : Kd.C k70 w Ae m.ex.length m.ex) (hce : m.ex.length ≤ ce) :
    Calls Tryd.prog 20 #[.agg #[.int .u16 m.id, .bool m.rp, .int .i64 m.op, .bool m.au, .bool m.tr, .bool m.de, .bool m.av, .int .i64 m.co, .string m.qn, .int .u16 m.qt, .slice Aa m.an.length ca, .slice An m.ns.length cn, .slice Ae m.ex.length ce, .int .i64 m.sz]] w fun e w' => ∃ v, e = .returned v ∧ w'.ownsRow w.heap.size 5 1 v (wholeL m).length (nums .u8 (wholeL m)) ∧ Below w.heap.size w w' := by
  obtain ⟨kF, hkF⟩ := Ev.rounds (flags_ev m)
  have HKF := Lib.hid hkF
  obtain ⟨gM, hgM⟩ : ∃ gM, w.heap.size = gM := ⟨_, rfl⟩
  have hbX := below_alloc (Below.refl w.heap.size w) (Obj.cells #[.int .u16 m.id, .bool m.rp, .int .i64 m.op, .bool m.au, .bool m.tr, .bool m.de, .bool m.av, .int .i64 m.co, .string m.qn, .int .u16 m.qt, .slice Aa m.an.length ca, .slice An m.ns.length cn, .slice Ae m.ex.length ce, .int .i64 m.sz] 33)
  have hBK : (w.alloc (Obj.cells #[.int .u16 m.id, .bool m.rp, .int .i64 m.op, .bool m.au, .bool m.tr, .bool m.de, .bool m.av, .int .i64 m.co, .string m.qn, .int .u16 m.qt, .slice Aa m.an.length ca, .slice An m.ns.length cn, .slice Ae m.ex.length ce, .int .i64 m.sz] 33)).heap[gM]? = some (Obj.cells #[.int .u16 m.id, .bool m.rp, .int .i64 m.op, .bool m.au, .bool m.tr, .bool m.de, .bool m.av, .int .i64 m.co, .string m.qn, .int .u16 m.qt, .slice Aa m.an.length ca, .slice An m.ns.length cn, .slice Ae m.ex.length ce, .int .i64 m.sz] 33 (0, 0)) := by rw [← hgM]; exact blk_new w _
  obtain ⟨w1, hw1⟩ : ∃ w1, w.alloc (Obj.cells #[.int .u16 m.id, .bool m.rp, .int .i64 m.op, .bool m.au, .bool m.tr, .bool m.de, .bool m.av, .int .i64 m.co, .string m.qn, .int .u16 m.qt, .slice Aa m.an.length ca, .slice An m.ns.length cn, .slice Ae m.ex.length ce, .int .i64 m.sz] 33) = w1 := ⟨_, rfl⟩
  have HCA := Lib.hid hCa
  have HCN := Lib.hid hCn
  have HCE := Lib.hid hCe
  have HM := Lib.hid hm
  have HGM : Hid (gM < w1.heap.size ∧ w.heap.size = gM) := Lib.hid (by rw [← hw1, ← hgM]; simp)
  clear hkF hCa hCn hCe
  obtain ⟨le0, hle0⟩ : ∃ x : Int, x = ((if 0 < m.sz then 1 else 0 : Nat) : Int) + (m.ex.length : Int) := ⟨_, rfl⟩
  go_enter Tryd.func20, Tryd.ntmps20
  go_upto_region 1 with fail
  rw [hw1] at hbX hBK
  (try rw [hw1])
  (try rw [hgM])
  have HBX := Lib.hid hbX
  have HBK1 := Lib.hid hBK
  clear hbX hBK hw1 hgM
  have p12 := (blk_cell HBK1.out 12).trans rfl
  have p13 := (blk_cell HBK1.out 13).trans rfl
  obtain ⟨la, hla⟩ : ∃ x, (m.an.length : Int) % 65536 = x := ⟨_, rfl⟩
  obtain ⟨ln, hln⟩ : ∃ x, (m.ns.length : Int) % 65536 = x := ⟨_, rfl⟩
  have HLA : Hid (IntKind.u16.wrap (m.an.length : Int) = la) := Lib.hid (by rw [IntKind.wrap_u16]; exact hla)
  have HLN : Hid (IntKind.u16.wrap (m.ns.length : Int) = ln) := Lib.hid (by rw [IntKind.wrap_u16]; exact hln)
  have HLA2 := Lib.hid hla
  have HLN2 := Lib.hid hln
  clear hla hln
  obtain ⟨ke, hke⟩ : ∃ ke : Nat, m.ex.length + (if 0 < m.sz then 1 else 0) = ke := ⟨_, rfl⟩
  obtain ⟨le, hle⟩ : ∃ x, (ke : Int) % 65536 = x := ⟨_, rfl⟩
  have HLE : Hid (IntKind.u16.wrap (ke : Int) = le) := Lib.hid (by rw [IntKind.wrap_u16]; exact hle)
  have HLE2 := Lib.hid (And.intro hle hke)
  clear hle hle0 le0
  by_cases hs : 0 < m.sz
  rotate_left
  focus
    have d1 : decide (m.sz > 0) = false := decide_eq_false hs
    have d2 : decide (0 < m.sz) = false := decide_eq_false hs
    rw [if_neg hs, Nat.add_zero] at hke
    subst hke
    have HS : Hid ((decide (0 < m.sz)) = false) := Lib.hid d2
    go_upto_region 4 with fail
    clear d1 d2 hs
  rotate_left
  focus
    have d1 : decide (m.sz > 0) = true := decide_eq_true hs
    have d2 : decide (0 < m.sz) = true := decide_eq_true hs
    rw [if_pos hs] at hke
    have hw1 : wrap64 ((m.ex.length : Int) + 1) = (ke : Int) := by have := hm.2.2.1; unfold wrap64; omega
    have HS : Hid ((decide (0 < m.sz)) = true) := Lib.hid d2
    replace HLE : Hid (IntKind.u16.wrap (wrap64 ((m.ex.length : Int) + 1)) = le) := Lib.hid (by rw [hw1]; exact HLE.out)
    clear hw1
    go_upto_region 4 with fail
    clear d1 d2 hs hke
  all_goals
    clear p12 p13
    refine start_ (n := 21) (ds := ([] : List Nat)) (S := fun W => Below w1.heap.size w1 W) #[false, false, false, false, false, false, false, false, false, false, false, false, false, false, false, false, false, false, false, false, false] (by kernel_rfl) rfl rfl (below_drew1 (Below.refl w1.heap.size w1)) (fun hHeld => ?_)
    refine with_tabW whl_tab4 whl_bits4 (fun HT_ HW_ => ?_)
    obtain ⟨wa, hwa⟩ : ∃ wa, w1.drew = wa := ⟨_, rfl⟩
    rw [hwa] at hHeld ⊢
    clear hwa
    refine pure_ (i := 0) (N := (some 17)) (v := ?_) (a' := ?_) #[true, false, false, false, false, false, false, false, false, false, false, false, false, false, false, false, false, false, false, false, false] rfl rfl (any_of HT_.out (by kernel_rfl)) (fun _ _ _ h => h) (Or.inl ⟨by rfl, ?_⟩) ?_ ?_
    rotate_left
    · intro w'
      go_simp
      with_reducible rfl
    rotate_left
    · simp only [Act.put, List.setIfInBounds_toArray, List.set_cons_zero, List.set_cons_succ, i64_w, i32_w]
      rfl
    refine pure_ (i := 1) (N := (some 18)) (v := ?_) (a' := ?_) #[true, true, false, false, false, false, false, false, false, false, false, false, false, false, false, false, false, false, false, false, false] rfl rfl (any_of HT_.out (by kernel_rfl)) (fun _ _ _ h => h) (Or.inl ⟨by rfl, ?_⟩) ?_ ?_
    rotate_left
    · intro w'
      go_simp
      with_reducible rfl
    rotate_left
    · simp only [Act.put, List.setIfInBounds_toArray, List.set_cons_zero, List.set_cons_succ, i64_w, i32_w]
      rfl
    refine take_ (i := 2) (N := (some 19)) (v := ?_) (a' := ?_) #[true, true, true, false, false, false, false, false, false, false, false, false, false, false, false, false, false, false, false, false, false] rfl rfl (take_ofW HT_.out HW_.out (by kernel_rfl)) (fun _ _ _ h => h) (Or.inl ⟨by rfl, ?_⟩) hHeld ?_ ?_
    rotate_left
    · intro w' hS
      have f0 := (blk_cell (blk_below HBK1.out hS) 0).trans rfl
      go_simp
      with_reducible rfl
    rotate_left
    · simp only [Act.put, List.setIfInBounds_toArray, List.set_cons_zero, List.set_cons_succ, i64_w, i32_w]
      rfl
    refine pure_ (i := 3) (N := (some 20)) (v := ?_) (a' := ?_) #[true, true, true, true, false, false, false, false, false, false, false, false, false, false, false, false, false, false, false, false, false] rfl rfl (any_of HT_.out (by kernel_rfl)) (fun _ _ _ h => h) (Or.inl ⟨by rfl, ?_⟩) ?_ ?_
    rotate_left
    · intro w'
      go_simp
      with_reducible rfl
    rotate_left
    · simp only [Act.put, List.setIfInBounds_toArray, List.set_cons_zero, List.set_cons_succ, i64_w, i32_w]
      rfl
    refine take_ (i := 4) (N := (some 21)) (v := ?_) (a' := ?_) #[true, true, true, true, true, false, false, false, false, false, false, false, false, false, false, false, false, false, false, false, false] rfl rfl (take_ofW HT_.out HW_.out (by kernel_rfl)) (fun _ _ _ h => h) (Or.inl ⟨by rfl, ?_⟩) hHeld ?_ ?_
    rotate_left
    · intro w' hS
      have f0 := (blk_cell (blk_below HBK1.out hS) 0).trans rfl
      have f1 := (blk_cell (blk_below HBK1.out hS) 1).trans rfl
      have f2 := (blk_cell (blk_below HBK1.out hS) 2).trans rfl
      have f3 := (blk_cell (blk_below HBK1.out hS) 3).trans rfl
      have f4 := (blk_cell (blk_below HBK1.out hS) 4).trans rfl
      have f5 := (blk_cell (blk_below HBK1.out hS) 5).trans rfl
      have f6 := (blk_cell (blk_below HBK1.out hS) 6).trans rfl
      have f7 := (blk_cell (blk_below HBK1.out hS) 7).trans rfl
      go_simp
      with_reducible rfl
    rotate_left
    · simp only [Act.put, List.setIfInBounds_toArray, List.set_cons_zero, List.set_cons_succ, i64_w, i32_w]
      rfl
    refine pure_ (i := 6) (N := (some 23)) (v := ?_) (a' := ?_) #[true, true, true, true, true, false, true, false, false, false, false, false, false, false, false, false, false, false, false, false, false] rfl rfl (any_of HT_.out (by kernel_rfl)) (fun _ _ _ h => h) (Or.inl ⟨by rfl, ?_⟩) ?_ ?_
    rotate_left
    · intro w'
      go_simp
      with_reducible rfl
    rotate_left
    · simp only [Act.put, List.setIfInBounds_toArray, List.set_cons_zero, List.set_cons_succ, i64_w, i32_w]
      rfl
    refine take_ (i := 7) (N := (some 24)) (v := ?_) (a' := ?_) #[true, true, true, true, true, false, true, true, false, false, false, false, false, false, false, false, false, false, false, false, false] rfl rfl (take_ofW HT_.out HW_.out (by kernel_rfl)) (fun _ _ _ h => h) (Or.inl ⟨by rfl, ?_⟩) hHeld ?_ ?_
    rotate_left
    · intro w' hS
      have f10 := (blk_cell (blk_below HBK1.out hS) 10).trans rfl
      go_simp
      with_reducible rfl
    rotate_left
    · simp only [Act.put, List.setIfInBounds_toArray, List.set_cons_zero, List.set_cons_succ, i64_w, i32_w]
      rfl
    refine pure_ (i := 8) (N := (some 25)) (v := ?_) (a' := ?_) #[true, true, true, true, true, false, true, true, true, false, false, false, false, false, false, false, false, false, false, false, false] rfl rfl (any_of HT_.out (by kernel_rfl)) (fun _ _ _ h => h) (Or.inl ⟨by rfl, ?_⟩) ?_ ?_
    rotate_left
    · intro w'
      go_simp
      with_reducible rfl
    rotate_left
    · simp only [Act.put, List.setIfInBounds_toArray, List.set_cons_zero, List.set_cons_succ, i64_w, i32_w]
      rfl
    refine pure_ (i := 9) (N := (some 26)) (v := ?_) (a' := ?_) #[true, true, true, true, true, false, true, true, true, true, false, false, false, false, false, false, false, false, false, false, false] rfl rfl (any_of HT_.out (by kernel_rfl)) (fun _ _ _ h => h) (Or.inl ⟨by rfl, ?_⟩) ?_ ?_
    rotate_left
    · intro w'
      go_simp
      try simp only [HLA.out]
      with_reducible rfl
    rotate_left
    · simp only [Act.put, List.setIfInBounds_toArray, List.set_cons_zero, List.set_cons_succ, i64_w, i32_w]
      rfl
    refine pure_ (i := 10) (N := (some 27)) (v := ?_) (a' := ?_) #[true, true, true, true, true, false, true, true, true, true, true, false, false, false, false, false, false, false, false, false, false] rfl rfl (any_of HT_.out (by kernel_rfl)) (fun _ _ _ h => h) (Or.inl ⟨by rfl, ?_⟩) ?_ ?_
    rotate_left
    · intro w'
      go_simp
      with_reducible rfl
    rotate_left
    · simp only [Act.put, List.setIfInBounds_toArray, List.set_cons_zero, List.set_cons_succ, i64_w, i32_w]
      rfl
    refine take_ (i := 11) (N := (some 28)) (v := ?_) (a' := ?_) #[true, true, true, true, true, false, true, true, true, true, true, true, false, false, false, false, false, false, false, false, false] rfl rfl (take_ofW HT_.out HW_.out (by kernel_rfl)) (fun _ _ _ h => h) (Or.inl ⟨by rfl, ?_⟩) hHeld ?_ ?_
    rotate_left
    · intro w' hS
      have f11 := (blk_cell (blk_below HBK1.out hS) 11).trans rfl
      go_simp
      with_reducible rfl
    rotate_left
    · simp only [Act.put, List.setIfInBounds_toArray, List.set_cons_zero, List.set_cons_succ, i64_w, i32_w]
      rfl
    refine pure_ (i := 12) (N := (some 29)) (v := ?_) (a' := ?_) #[true, true, true, true, true, false, true, true, true, true, true, true, true, false, false, false, false, false, false, false, false] rfl rfl (any_of HT_.out (by kernel_rfl)) (fun _ _ _ h => h) (Or.inl ⟨by rfl, ?_⟩) ?_ ?_
    rotate_left
    · intro w'
      go_simp
      with_reducible rfl
    rotate_left
    · simp only [Act.put, List.setIfInBounds_toArray, List.set_cons_zero, List.set_cons_succ, i64_w, i32_w]
      rfl
    refine pure_ (i := 13) (N := (some 30)) (v := ?_) (a' := ?_) #[true, true, true, true, true, false, true, true, true, true, true, true, true, true, false, false, false, false, false, false, false] rfl rfl (any_of HT_.out (by kernel_rfl)) (fun _ _ _ h => h) (Or.inl ⟨by rfl, ?_⟩) ?_ ?_
    rotate_left
    · intro w'
      go_simp
      try simp only [HLN.out]
      with_reducible rfl
    rotate_left
    · simp only [Act.put, List.setIfInBounds_toArray, List.set_cons_zero, List.set_cons_succ, i64_w, i32_w]
      rfl
    refine pure_ (i := 14) (N := (some 31)) (v := ?_) (a' := ?_) #[true, true, true, true, true, false, true, true, true, true, true, true, true, true, true, false, false, false, false, false, false] rfl rfl (any_of HT_.out (by kernel_rfl)) (fun _ _ _ h => h) (Or.inl ⟨by rfl, ?_⟩) ?_ ?_
    rotate_left
    · intro w'
      go_simp
      with_reducible rfl
    rotate_left
    · simp only [Act.put, List.setIfInBounds_toArray, List.set_cons_zero, List.set_cons_succ, i64_w, i32_w]
      rfl
    refine pure_ (i := 15) (N := (some 32)) (v := ?_) (a' := ?_) #[true, true, true, true, true, false, true, true, true, true, true, true, true, true, true, true, false, false, false, false, false] rfl rfl (any_of HT_.out (by kernel_rfl)) (fun _ _ _ h => h) (Or.inl ⟨by rfl, ?_⟩) ?_ ?_
    rotate_left
    · intro w'
      go_simp
      try simp only [HLE.out]
      with_reducible rfl
    rotate_left
    · simp only [Act.put, List.setIfInBounds_toArray, List.set_cons_zero, List.set_cons_succ, i64_w, i32_w]
      rfl
    refine one_ (i := 5) (N := (some 22)) #[true, true, true, true, true, true, true, true, true, true, true, true, true, true, true, true, false, false, false, false, false] rfl rfl (one_of HT_.out (by kernel_rfl)) (by decide) (fun K hK => ?_)
    refine goes_ Tryd.func34 (by kernel_rfl) rfl #[.agg #[.int .u16 m.id, .bool m.rp, .int .i64 m.op, .bool m.au, .bool m.tr, .bool m.de, .bool m.av, .int .i64 m.co]] (by rfl) rfl rfl (by (try simp only [List.map_toArray, List.map_cons, List.map_nil]); rfl) ?_
    refine (message_flags.calls kF m.id m.rp m.op m.au m.tr m.de m.av m.co (flagsV m) _ HKF.out).mono ?_
    rintro e wb ⟨rfl, hbc⟩
    refine ⟨_, rfl, ?_⟩
    refine hK.out _ _ (hHeld.trans (hbc.mono hHeld.size)) (fun hHeld => ?_)
    clear hbc
    clear hK K
    refine norm_ (a' := ?_) ?_ ?_
    rotate_left
    · show Act.put _ (some 22) _ = _
      simp only [Act.put, List.setIfInBounds_toArray, List.set_cons_zero, List.set_cons_succ, i64_w, i32_w]
      rfl
    refine one_ (i := 16) (N := (some 33)) #[true, true, true, true, true, true, true, true, true, true, true, true, true, true, true, true, true, false, false, false, false] rfl rfl (one_of HT_.out (by kernel_rfl)) (by decide) (fun K hK => ?_)
    go_simp
    refine hK.out _ _ (below_alloc hHeld _) (fun hHeld => ?_)
    clear hK K
    (try simp only [HLA.out, HLN.out, HLE.out] at hHeld ⊢)
    have hCl := C_six wb .u16 24 m.id (flagsV m) 1 la ln le
    obtain ⟨gl, hgl⟩ : ∃ gl, wb.heap.size = gl := ⟨_, rfl⟩
    obtain ⟨wc, hwc⟩ : ∃ wc, wb.alloc (.cells #[.int .u16 m.id, .int .u16 (flagsV m), .int .u16 1, .int .u16 la, .int .u16 ln, .int .u16 le] 24) = wc := ⟨_, rfl⟩
    rw [hgl, hwc] at hCl
    rw [hwc] at hHeld ⊢
    rw [hgl]
    have HCL := Lib.hid hCl
    clear hCl hgl hwc
    refine one_ (i := 17) (N := (some 34)) #[true, true, true, true, true, true, true, true, true, true, true, true, true, true, true, true, true, true, false, false, false] rfl rfl (one_of HT_.out (by kernel_rfl)) (by decide) (fun K hK => ?_)
    refine goes_ Tryd.func33 (by kernel_rfl) rfl #[.slice none 0 0, .slice (some ⟨gl, 0, none⟩) 6 6] (by rfl) rfl rfl (by (try simp only [List.map_toArray, List.map_cons, List.map_nil]); rfl) ?_
    refine (put16_ none 0 [] _ 6 [m.id, flagsV m, 1, la, ln, le] _ (Kd.C_nil _ _) (Nat.zero_le _) HCL.out (Nat.le_refl _) (by simp)).mono ?_
    rintro e wd ⟨vc, rfl, hoc, hbc⟩
    have hoc2 := own_lower hoc hHeld.size
    obtain ⟨b0, hb0⟩ : ∃ b0, [] ++ all16 [m.id, flagsV m, 1, la, ln, le] = b0 := ⟨_, rfl⟩
    have hb0l : b0.length = 12 := by rw [← hb0]; rfl
    rw [hb0] at hoc2
    obtain ⟨Av, cv, hv⟩ := own_slice hoc2
    subst hv
    have HB0 := Lib.hid hb0
    have HB0L := Lib.hid hb0l
    clear hb0 hb0l
    have HSZD := Lib.hid (hHeld.trans (hbc.mono hHeld.size))
    refine ⟨_, rfl, ?_⟩
    refine hK.out _ _ (hHeld.trans (hbc.mono hHeld.size)) (fun hHeld => ?_)
    clear hbc hoc
    clear hK K
    refine norm_ (a' := ?_) ?_ ?_
    rotate_left
    · show Act.put _ (some 34) _ = _
      simp only [Act.put, List.setIfInBounds_toArray, List.set_cons_zero, List.set_cons_succ, i64_w, i32_w]
      rfl
    refine pure_ (i := 18) (N := (some 35)) (v := ?_) (a' := ?_) #[true, true, true, true, true, true, true, true, true, true, true, true, true, true, true, true, true, true, true, false, false] rfl rfl (any_of HT_.out (by kernel_rfl)) (fun _ _ _ h => h) (Or.inl ⟨by rfl, ?_⟩) ?_ ?_
    rotate_left
    · intro w'
      go_simp
      with_reducible rfl
    rotate_left
    · simp only [Act.put, List.setIfInBounds_toArray, List.set_cons_zero, List.set_cons_succ, i64_w, i32_w]
      rfl
    refine one_ (i := 19) (N := (some 36)) #[true, true, true, true, true, true, true, true, true, true, true, true, true, true, true, true, true, true, true, true, false] rfl rfl (one_of HT_.out (by kernel_rfl)) (by decide) (fun K hK => ?_)
    go_simp
    refine hK.out _ _ (below_alloc hHeld _) (fun hHeld => ?_)
    clear hK K
    refine pure_ (i := 20) (N := (some 4)) (v := ?_) (a' := ?_) #[true, true, true, true, true, true, true, true, true, true, true, true, true, true, true, true, true, true, true, true, true] rfl rfl (any_of HT_.out (by kernel_rfl)) (fun _ _ _ h => h) (Or.inl ⟨by rfl, ?_⟩) ?_ ?_
    rotate_left
    · intro w'
      go_simp
      with_reducible rfl
    rotate_left
    · simp only [Act.put, List.setIfInBounds_toArray, List.set_cons_zero, List.set_cons_succ, i64_w, i32_w]
      rfl
    refine done_ (done_of HT_.out (by kernel_rfl)) ?_
    obtain ⟨F0, hW0, hF0⟩ := Wr.freshOf wd (base := w1.heap.size) HSZD.out.size hoc2
    obtain ⟨g, hg⟩ : ∃ g, wd.heap.size = g := ⟨_, rfl⟩
    obtain ⟨w4, hw4⟩ : ∃ w4, wd.alloc (.cells #[.slice Av b0.length cv, .map none] 98) = w4 := ⟨_, rfl⟩
    rw [hg, hw4] at hW0
    rw [hw4] at hHeld ⊢
    rw [hg]
    have HW4 := Lib.hid hW0
    have HB4 := Lib.hid hHeld
    have HBK4 := Lib.hid (blk_below HBK1.out hHeld)
    clear hW0 hF0 hHeld hw4 hg hoc2 HCL HSZD
    have p8 := (blk_cell HBK4.out 8).trans rfl
    go_wp2_with fail
    clear p8
    have key := name_ HW4.out (bytesOf m.qn) (of_b8 m.qn) (by rw [of_size]; exact HM.out.2.1) (by have := HB0L.out; omega)
    rw [str_of] at key
    refine key.mono ?_
    clear key
    rintro e w5 ⟨rfl, hg5⟩
    have hn1 := namW_len (bytesOf m.qn) (b0, fun _ => none)
    obtain ⟨⟨b1, f1⟩, hz⟩ : ∃ s, namW (bytesOf m.qn) (b0, fun _ => none) = s := ⟨_, rfl⟩
    rw [hz] at hg5 hn1
    have HZ := Lib.hid hz
    have HL1 : Hid (b1.length ≤ 268) := Lib.hid (by have := HB0L.out; have := hn1.2; simp only at this; omega)
    have HB5 := Lib.hid (HB4.out.trans (goes_below HW4.out hg5))
    have HBK5 := Lib.hid (blk_below HBK1.out HB5.out)
    have HG5 := Lib.hid hg5
    clear hg5 hz hn1 HBK4
    go_upto_region 6 with fail
    refine start_ (n := 13) (ds := [12]) (S := fun W => Below w5.heap.size w5 W) #[false, false, false, false, false, false, false, false, false, false, false, false, false] (by kernel_rfl) rfl rfl (below_drew1 (Below.refl w5.heap.size w5)) (fun hHeld => ?_)
    refine with_tabW whl_tab6 whl_bits6 (fun HT_ HW_ => ?_)
    obtain ⟨wa, hwa⟩ : ∃ wa, w5.drew = wa := ⟨_, rfl⟩
    rw [hwa] at hHeld ⊢
    clear hwa
    obtain ⟨Ax, cx, hcx, hfx, hox, hCx, hlx⟩ := HG5.out.cell
    have HCX := Lib.hid hcx
    have HKX := Lib.hid hCx
    have HLX := Lib.hid hlx
    clear hcx hfx hox hCx hlx
    refine pure_ (i := 0) (N := (some 42)) (v := ?_) (a' := ?_) #[true, false, false, false, false, false, false, false, false, false, false, false, false] rfl rfl (any_of HT_.out (by kernel_rfl)) (fun _ _ _ h => h) (Or.inl ⟨by rfl, ?_⟩) ?_ ?_
    rotate_left
    · intro w'
      go_simp
      with_reducible rfl
    rotate_left
    · simp only [Act.put, List.setIfInBounds_toArray, List.set_cons_zero, List.set_cons_succ, i64_w, i32_w]
      rfl
    refine pure_ (i := 1) (N := (some 43)) (v := ?_) (a' := ?_) #[true, true, false, false, false, false, false, false, false, false, false, false, false] rfl rfl (any_of HT_.out (by kernel_rfl)) (fun _ _ _ h => h) (Or.inl ⟨by rfl, ?_⟩) ?_ ?_
    rotate_left
    · intro w'
      go_simp
      with_reducible rfl
    rotate_left
    · simp only [Act.put, List.setIfInBounds_toArray, List.set_cons_zero, List.set_cons_succ, i64_w, i32_w]
      rfl
    refine pure_ (i := 2) (N := (some 44)) (v := ?_) (a' := ?_) #[true, true, true, false, false, false, false, false, false, false, false, false, false] rfl rfl (any_of HT_.out (by kernel_rfl)) (fun _ _ _ h => h) (Or.inl ⟨by rfl, ?_⟩) ?_ ?_
    rotate_left
    · intro w'
      go_simp
      with_reducible rfl
    rotate_left
    · simp only [Act.put, List.setIfInBounds_toArray, List.set_cons_zero, List.set_cons_succ, i64_w, i32_w]
      rfl
    refine pure_ (i := 3) (N := (some 45)) (v := ?_) (a' := ?_) #[true, true, true, true, false, false, false, false, false, false, false, false, false] rfl rfl (any_of HT_.out (by kernel_rfl)) (fun _ _ _ h => h) (Or.inl ⟨by rfl, ?_⟩) ?_ ?_
    rotate_left
    · intro w'
      go_simp
      with_reducible rfl
    rotate_left
    · simp only [Act.put, List.setIfInBounds_toArray, List.set_cons_zero, List.set_cons_succ, i64_w, i32_w]
      rfl
    refine take_ (i := 4) (N := (some 46)) (v := ?_) (a' := ?_) #[true, true, true, true, true, false, false, false, false, false, false, false, false] rfl rfl (take_ofW HT_.out HW_.out (by kernel_rfl)) (fun _ _ _ h => h) (Or.inl ⟨by rfl, ?_⟩) hHeld ?_ ?_
    rotate_left
    · intro w' hS
      have hc := (hS.cell (World.block_lt_of_cell? w5 _ HCX.out)).trans HCX.out
      go_simp
      with_reducible rfl
    rotate_left
    · simp only [Act.put, List.setIfInBounds_toArray, List.set_cons_zero, List.set_cons_succ, i64_w, i32_w]
      rfl
    refine pure_ (i := 5) (N := (some 47)) (v := ?_) (a' := ?_) #[true, true, true, true, true, true, false, false, false, false, false, false, false] rfl rfl (any_of HT_.out (by kernel_rfl)) (fun _ _ _ h => h) (Or.inl ⟨by rfl, ?_⟩) ?_ ?_
    rotate_left
    · intro w'
      go_simp
      with_reducible rfl
    rotate_left
    · simp only [Act.put, List.setIfInBounds_toArray, List.set_cons_zero, List.set_cons_succ, i64_w, i32_w]
      rfl
    refine pure_ (i := 6) (N := (some 48)) (v := ?_) (a' := ?_) #[true, true, true, true, true, true, true, false, false, false, false, false, false] rfl rfl (any_of HT_.out (by kernel_rfl)) (fun _ _ _ h => h) (Or.inl ⟨by rfl, ?_⟩) ?_ ?_
    rotate_left
    · intro w'
      go_simp
      with_reducible rfl
    rotate_left
    · simp only [Act.put, List.setIfInBounds_toArray, List.set_cons_zero, List.set_cons_succ, i64_w, i32_w]
      rfl
    refine take_ (i := 7) (N := (some 49)) (v := ?_) (a' := ?_) #[true, true, true, true, true, true, true, true, false, false, false, false, false] rfl rfl (take_ofW HT_.out HW_.out (by kernel_rfl)) (fun _ _ _ h => h) (Or.inl ⟨by rfl, ?_⟩) hHeld ?_ ?_
    rotate_left
    · intro w' hS
      have hb := (blk_cell (blk_below HBK5.out hS) 9).trans rfl
      go_simp
      with_reducible rfl
    rotate_left
    · simp only [Act.put, List.setIfInBounds_toArray, List.set_cons_zero, List.set_cons_succ, i64_w, i32_w]
      rfl
    refine one_ (i := 8) (N := (some 50)) #[true, true, true, true, true, true, true, true, true, false, false, false, false] rfl rfl (one_of HT_.out (by kernel_rfl)) (by decide) (fun K hK => ?_)
    go_simp
    refine hK.out _ _ (below_alloc hHeld _) (fun hHeld => ?_)
    clear hK K
    have hCl : Kd.C (Kd.int .u16) (wa.alloc (.cells #[.int .u16 (m.qt), .int .u16 1] 24)) (some ⟨wa.heap.size, 0, none⟩) ([m.qt, 1] : List Int).length [m.qt, 1] := C_two wa .u16 24 _ _
    obtain ⟨gl, hgl⟩ : ∃ gl, wa.heap.size = gl := ⟨_, rfl⟩
    obtain ⟨wb, hwb⟩ : ∃ wb, wa.alloc (.cells #[.int .u16 (m.qt), .int .u16 1] 24) = wb := ⟨_, rfl⟩
    rw [hgl, hwb] at hCl
    rw [hwb] at hHeld ⊢
    rw [hgl]
    have HCL := Lib.hid hCl
    clear hCl hgl hwb
    refine one_ (i := 9) (N := (some 51)) #[true, true, true, true, true, true, true, true, true, true, false, false, false] rfl rfl (one_of HT_.out (by kernel_rfl)) (by decide) (fun K hK => ?_)
    refine goes_ Tryd.func33 (by kernel_rfl) rfl #[.slice Ax b1.length cx, .slice (some ⟨gl, 0, none⟩) 2 2] (by rfl) rfl rfl (by (try simp only [List.map_toArray, List.map_cons, List.map_nil]); rfl) ?_
    refine (put16_ Ax cx b1 _ 2 [m.qt, 1] _ (Kd.C_below HKX.out hHeld) HLX.out HCL.out (Nat.le_refl _) (by have := HL1.out; simp only [List.length_cons, List.length_nil]; omega)).mono ?_
    rintro e wc ⟨vc, rfl, hoc, hbc⟩
    have hoc2 := own_lower hoc hHeld.size
    obtain ⟨bn, hbn⟩ : ∃ bn, b1 ++ all16 [m.qt, 1] = bn := ⟨_, rfl⟩
    have hbnl : bn.length = b1.length + 4 := by rw [← hbn, List.length_append, all16_len]; rfl
    rw [hbn] at hoc2
    obtain ⟨Av, cv, hv⟩ := own_slice hoc2
    subst hv
    have HBN := Lib.hid hbn
    have HBNL := Lib.hid hbnl
    clear hbn hbnl
    refine ⟨_, rfl, ?_⟩
    refine hK.out _ _ (hHeld.trans (hbc.mono hHeld.size)) (fun hHeld => ?_)
    clear hbc hoc
    clear hK K
    refine norm_ (a' := ?_) ?_ ?_
    rotate_left
    · show Act.put _ (some 51) _ = _
      simp only [Act.put, List.setIfInBounds_toArray, List.set_cons_zero, List.set_cons_succ, i64_w, i32_w]
      rfl
    refine pure_ (i := 10) (N := (some 52)) (v := ?_) (a' := ?_) #[true, true, true, true, true, true, true, true, true, true, true, false, false] rfl rfl (any_of HT_.out (by kernel_rfl)) (fun _ _ _ h => h) (Or.inl ⟨by rfl, ?_⟩) ?_ ?_
    rotate_left
    · intro w'
      go_simp
      with_reducible rfl
    rotate_left
    · simp only [Act.put, List.setIfInBounds_toArray, List.set_cons_zero, List.set_cons_succ, i64_w, i32_w]
      rfl
    refine pure_ (i := 11) (N := (some 53)) (v := ?_) (a' := ?_) #[true, true, true, true, true, true, true, true, true, true, true, true, false] rfl rfl (any_of HT_.out (by kernel_rfl)) (fun _ _ _ h => h) (Or.inl ⟨by rfl, ?_⟩) ?_ ?_
    rotate_left
    · intro w'
      go_simp
      with_reducible rfl
    rotate_left
    · simp only [Act.put, List.setIfInBounds_toArray, List.set_cons_zero, List.set_cons_succ, i64_w, i32_w]
      rfl
    have hcf := (HG5.out.below hHeld).cell
    obtain ⟨Ay, cy, hcy, hfy, -, -, -⟩ := hcf
    have HGN := Lib.hid (HG5.out.put hHeld hoc2 (by have := HBNL.out; omega) (by have := HBNL.out; omega))
    refine last_ (i := 12) (N := none) #[true, true, true, true, true, true, true, true, true, true, true, true, true] rfl rfl (one_of HT_.out (by kernel_rfl)) (by decide) (fun K hK => ?_)
    go_simp
    refine hK.out _ _ ?_
    clear hK K
    refine done_ (done_of HT_.out (by kernel_rfl)) ?_
    obtain ⟨w6, hw6⟩ : ∃ wx, wc.setCell ⟨g, 0, none⟩ (.slice Av bn.length cv) = wx := ⟨_, rfl⟩
    rw [hw6] at HGN ⊢
    clear hw6 hcy hfy HCX HKX HLX HCL hoc2 hHeld
    have HB6 := Lib.hid (HB4.out.trans (goes_below HW4.out HGN.out))
    have HBK6 := Lib.hid (blk_below HBK1.out HB6.out)
    obtain ⟨F6, hW6, hs6, hT6⟩ := HGN.out
    obtain ⟨b2, hb2⟩ : ∃ b2, bn = b2 := ⟨_, rfl⟩
    rw [hb2] at HBN HBNL hW6
    have HL2 : Hid (b2.length ≤ 272) := Lib.hid (by have := HL1.out; have := HBNL.out; omega)
    have HB2 := Lib.hid HBN.out
    have HW6 := Lib.hid hW6
    clear hb2 HBN HBNL hW6 hs6 hT6 HGN HG5 HBK5
    have p10 := (blk_cell HBK6.out 10).trans rfl
    have p11 := (blk_cell HBK6.out 11).trans rfl
    have p12 := (blk_cell HBK6.out 12).trans rfl
    go_upto_region 8 with fail
    clear p10 p11 p12
    obtain ⟨gP, hgP⟩ : ∃ gP, w6.heap.size = gP := ⟨_, rfl⟩
    obtain ⟨w7, hw7⟩ : ∃ w7, w6.alloc (.cells #[.slice Aa m.an.length ca, .slice An m.ns.length cn, .slice Ae m.ex.length ce] 31) = w7 := ⟨_, rfl⟩
    have hb7 : Below w6.heap.size w6 w7 := by rw [← hw7]; exact below_alloc (Below.refl _ _) _
    have hBKP : w7.heap[gP]? = some (.cells #[.slice Aa m.an.length ca, .slice An m.ns.length cn, .slice Ae m.ex.length ce] 31 (0, 0)) := by rw [← hw7, ← hgP]; exact blk_new w6 _
    (try rw [hw7])
    (try rw [hgP])
    have HW7 := Lib.hid (HW6.out.below hb7)
    have HB7 := Lib.hid (HB6.out.trans (hb7.mono HB6.out.size))
    have HFP : Hid (∀ k ∈ F6, k ≠ gP) := Lib.hid (fun k hk e => by have := (HW6.out.foot k hk).2; omega)
    have HBKP := Lib.hid hBKP
    clear hb7 hBKP hw7 hgP HW6 HB6 HBK6
    go_loopw [62] (fun i wx => ∃ j : Nat, j ≤ 3 ∧ i = .int .i64 j ∧ Aside0 (Goes w7 wx w1.heap.size g F6 (stW m (b2, f1) j).1 (stW m (b2, f1) j).2))
      (fun i _ => 3 - (intOf i).toNat)
    case atStart => exact ⟨0, by omega, rfl, ⟨Goes.refl HW7.out⟩⟩
    case round =>
      obtain ⟨j, hj, rfl, HG⟩ := hrel
      have HGj := Lib.hid HG.out
      clear HG
      by_cases hlt : j < 3
      · obtain ⟨P, A, c, hP, hcell, hC, hc, hwf, hlen⟩ : ∃ (P : List R) (A : Option Addr) (c : Nat), [m.an, m.ns, m.ex][j]? = some P ∧ wr.cell? ⟨gP, j, none⟩ = some (.slice A P.length c) ∧ Kd.C k70 w A P.length P ∧ P.length ≤ c ∧ (∀ r ∈ P, WfR r) ∧ P.length ≤ 100000 := by
          have hbk := HGj.out.turn.blk HBKP.out (fun hk => HFP.out gP hk rfl)
          have hm := HM.out
          rcases (show j = 0 ∨ j = 1 ∨ j = 2 by omega) with rfl | rfl | rfl
          · exact ⟨m.an, Aa, ca, rfl, (blk_cell hbk 0).trans rfl, HCA.out, hca, hm.1.1, hm.2.2.2.1⟩
          · exact ⟨m.ns, An, cn, rfl, (blk_cell hbk 1).trans rfl, HCN.out, hcn, hm.1.2.1, hm.2.2.2.2.1⟩
          · exact ⟨m.ex, Ae, ce, rfl, (blk_cell hbk 2).trans rfl, HCE.out, hce, hm.1.2.2, hm.2.2.1⟩
        have HPJ := Lib.hid hP
        have HCP := Lib.hid hC
        have HWF := Lib.hid hwf
        have HSL := Lib.hid (stW_len m (b2, f1) HM.out j)
        obtain ⟨⟨z, fz⟩, hz⟩ : ∃ s, stW m (b2, f1) j = s := ⟨_, rfl⟩
        rw [hz] at HGj HSL
        have HZJ := Lib.hid hz
        clear hP hC hwf hz
        go_wp2_with fail
        clear hcell
        have HGs := Lib.hid HGj.out
        go_loopw [68] (fun i wx => ∃ q : Nat, q ≤ P.length ∧ i = .int .i64 q ∧ Aside0 (Goes w7 wx w1.heap.size g F6 (recsW (P.take q) (z, fz)).1 (recsW (P.take q) (z, fz)).2))
          (fun i _ => P.length - (intOf i).toNat)
        case atStart => exact ⟨0, Nat.zero_le _, rfl, ⟨HGs.out⟩⟩
        case round =>
          obtain ⟨q, hq, rfl, HG⟩ := hrel
          have HGq := Lib.hid HG.out
          clear HG
          by_cases hql : q < P.length
          · obtain ⟨r, hr⟩ : ∃ r, P[q]? = some r := ⟨_, List.getElem?_eq_getElem hql⟩
            have hrd := rd_Rm hr
            have hbw : Below w.heap.size w wr := HBX.out.trans ((HB7.out.trans (goes_below HW7.out HGq.out)).mono HBX.out.size)
            obtain ⟨ad, hA, q0, q1, q2, q3⟩ := at_T70 (Kd.C_below HCP.out hbw) (q : Int) (by omega) (by omega)
            simp only [Int.toNat_natCast, hrd] at q0 q1 q2 q3
            subst hA
            have HR := Lib.hid hr
            have HSQ := Lib.hid (recsW_len (P.take q) (z, fz))
            have HTQ : Hid ((P.take q).length ≤ 100000) := Lib.hid (by rw [List.length_take]; omega)
            clear hr hrd hbw
            go_wp2_with fail
            clear q0 q1 q2 q3
            obtain ⟨Fy, hWy, hsy, hTy⟩ := HGq.out.below (below_alloc (Below.refl wr.heap.size wr) (Obj.cells #[.string r.f0, .int .u16 r.f1, .int .u32 r.f2, .string r.f3] 70))
            obtain ⟨wy, hwy⟩ : ∃ wy, wr.alloc (Obj.cells #[.string r.f0, .int .u16 r.f1, .int .u32 r.f2, .string r.f3] 70) = wy := ⟨_, rfl⟩
            rw [hwy] at hWy hTy ⊢
            have HWy := Lib.hid hWy
            have HSy := Lib.hid hsy
            have HTy := Lib.hid hTy
            clear hwy hWy hsy hTy
            refine (record_ HWy.out r (HWF.out r (List.mem_of_getElem? HR.out)) (by have h1 := HSQ.out.2; have h2 := HTQ.out; have h3 := HSL.out; have h4 := HL2.out; omega)).mono ?_
            rintro e wz ⟨rfl, hg⟩
            have hst := recsW_take HR.out (z, fz)
            have HGn : Hid (Goes w7 wz w1.heap.size g F6 (recsW (P.take (q + 1)) (z, fz)).1 (recsW (P.take (q + 1)) (z, fz)).2) := Lib.hid (by rw [hst]; exact Goes.step HWy.out HSy.out HTy.out hg)
            clear hg hst HWy HSy HTy HSQ HTQ
            go_wp2
            go_roundw
            case rel => exact ⟨q + 1, by omega, by go_num, ⟨HGn.out⟩⟩
            case measure => simp [intOf]; omega
          · obtain rfl : q = P.length := by omega
            have HGn : Hid (Goes w7 wr w1.heap.size g F6 (stW m (b2, f1) (j + 1)).1 (stW m (b2, f1) (j + 1)).2) := Lib.hid (by
              rw [stW_succ HPJ.out, HZJ.out]
              have h := HGq.out
              rw [List.take_length] at h
              exact h)
            clear HGq HGs
            go_wp2
            go_roundw
            case rel => exact ⟨j + 1, by omega, by go_num, ⟨HGn.out⟩⟩
            case measure => simp [intOf]; omega
      · obtain rfl : j = 3 := by omega
        have hsl := stW_len m (b2, f1) HM.out 3
        obtain ⟨⟨z, fz⟩, hz⟩ : ∃ s, stW m (b2, f1) 3 = s := ⟨_, rfl⟩
        rw [hz] at HGj hsl
        have HLZ : Hid (z.length ≤ 500000000) := Lib.hid (by have h := HL2.out; have h2 : z.length ≤ b2.length + 450000000 := hsl; omega)
        have hh : headW m = b0 := by
          rw [← HB0.out]
          unfold headW
          rw [HLA2.out, HLN2.out, HLE2.out.2, HLE2.out.1]
          rfl
        have hpw : partsW m = (z, fz) := by
          unfold partsW
          rw [hh, HZ.out]
          simp only
          rw [HB2.out]
          exact hz
        have HPW := Lib.hid hpw
        have HBKX := Lib.hid (blk_below HBK1.out (HB7.out.trans (goes_below HW7.out HGj.out)))
        have HBW : Hid (Below w.heap.size w wr) := Lib.hid (HBX.out.trans ((HB7.out.trans (goes_below HW7.out HGj.out)).mono HBX.out.size))
        clear hsl hz hh hpw
        have p13 := (blk_cell HBKX.out 13).trans rfl
        by_cases hs : 0 < m.sz
        · have d1 : decide (m.sz > 0) = true := decide_eq_true hs
          have d2 : decide (0 < m.sz) = true := decide_eq_true hs
          obtain ⟨Ar, cr, hcr, hfr, hor, -, -⟩ := HGj.out.cell
          have HCR := Lib.hid hcr
          have HOR := Lib.hid hor
          clear hor
          go_wp2_with (at_builtin; refine print_append_num (w0 := wr) w1.heap.size rfl (.tmp 84) (.tmp 85) 22 5 .u8 1 rfl Tryd.underlying22 infoB (by decide) (.slice Ar z.length cr) z 0 rfl rfl HOR.out (Below.refl _ _) HGj.out.low (by have := HLZ.out; omega) ?_)
          intro v1 w8 hown _ hg hat
          clear d1 d2 hcr hfr p13
          obtain ⟨b3, hb3⟩ : ∃ b3, z ++ [0] = b3 := ⟨_, rfl⟩
          have hown' : w8.ownsRow w1.heap.size 5 1 v1 b3.length (nums .u8 b3) := by rw [← hb3]; simpa using hown
          have hb3l : b3.length = z.length + 1 := by rw [← hb3, List.length_append]; rfl
          have hcf := HGj.out.grown HCR.out hg
          have hc8 := hcf.1
          have hf8 := hcf.2
          have HG8 := Lib.hid (HGj.out.app HCR.out hg hown' hat (by omega))
          obtain ⟨A8, c8, hv8⟩ := own_slice hown'
          subst hv8
          have HB3 := Lib.hid hb3
          have HL3 : Hid (b3.length ≤ 500000001) := Lib.hid (by have := HLZ.out; omega)
          clear hcf hown hown' hg hat HCR HOR hb3 hb3l
          go_upto_region 18 with fail
          clear hc8 hf8
          obtain ⟨w9, hw9⟩ : ∃ w9, w8.setCell ⟨g, 0, none⟩ (.slice A8 b3.length c8) = w9 := ⟨_, rfl⟩
          rw [hw9] at HG8 ⊢
          clear hw9
          have HBK9 := Lib.hid (blk_below HBK1.out (HB7.out.trans (goes_below HW7.out HG8.out)))
          have HSZ : Hid (IntKind.u16.wrap m.sz = m.sz % 65536) := Lib.hid (by rw [IntKind.wrap_u16])
          refine start_ (n := 13) (ds := [12]) (S := fun W => Below w9.heap.size w9 W) #[false, false, false, false, false, false, false, false, false, false, false, false, false] (by kernel_rfl) rfl rfl (below_drew1 (Below.refl w9.heap.size w9)) (fun hHeld => ?_)
          refine with_tabW whl_tab18 whl_bits18 (fun HT_ HW_ => ?_)
          obtain ⟨wa, hwa⟩ : ∃ wa, w9.drew = wa := ⟨_, rfl⟩
          rw [hwa] at hHeld ⊢
          clear hwa
          obtain ⟨Ax, cx, hcx, hfx, hox, hCx, hlx⟩ := HG8.out.cell
          have HCX := Lib.hid hcx
          have HKX := Lib.hid hCx
          have HLX := Lib.hid hlx
          clear hcx hfx hox hCx hlx
          refine pure_ (i := 0) (N := (some 89)) (v := ?_) (a' := ?_) #[true, false, false, false, false, false, false, false, false, false, false, false, false] rfl rfl (any_of HT_.out (by kernel_rfl)) (fun _ _ _ h => h) (Or.inl ⟨by rfl, ?_⟩) ?_ ?_
          rotate_left
          · intro w'
            go_simp
            with_reducible rfl
          rotate_left
          · simp only [Act.put, List.setIfInBounds_toArray, List.set_cons_zero, List.set_cons_succ, i64_w, i32_w]
            rfl
          refine pure_ (i := 1) (N := (some 90)) (v := ?_) (a' := ?_) #[true, true, false, false, false, false, false, false, false, false, false, false, false] rfl rfl (any_of HT_.out (by kernel_rfl)) (fun _ _ _ h => h) (Or.inl ⟨by rfl, ?_⟩) ?_ ?_
          rotate_left
          · intro w'
            go_simp
            with_reducible rfl
          rotate_left
          · simp only [Act.put, List.setIfInBounds_toArray, List.set_cons_zero, List.set_cons_succ, i64_w, i32_w]
            rfl
          refine pure_ (i := 2) (N := (some 91)) (v := ?_) (a' := ?_) #[true, true, true, false, false, false, false, false, false, false, false, false, false] rfl rfl (any_of HT_.out (by kernel_rfl)) (fun _ _ _ h => h) (Or.inl ⟨by rfl, ?_⟩) ?_ ?_
          rotate_left
          · intro w'
            go_simp
            with_reducible rfl
          rotate_left
          · simp only [Act.put, List.setIfInBounds_toArray, List.set_cons_zero, List.set_cons_succ, i64_w, i32_w]
            rfl
          refine pure_ (i := 3) (N := (some 92)) (v := ?_) (a' := ?_) #[true, true, true, true, false, false, false, false, false, false, false, false, false] rfl rfl (any_of HT_.out (by kernel_rfl)) (fun _ _ _ h => h) (Or.inl ⟨by rfl, ?_⟩) ?_ ?_
          rotate_left
          · intro w'
            go_simp
            with_reducible rfl
          rotate_left
          · simp only [Act.put, List.setIfInBounds_toArray, List.set_cons_zero, List.set_cons_succ, i64_w, i32_w]
            rfl
          refine take_ (i := 4) (N := (some 93)) (v := ?_) (a' := ?_) #[true, true, true, true, true, false, false, false, false, false, false, false, false] rfl rfl (take_ofW HT_.out HW_.out (by kernel_rfl)) (fun _ _ _ h => h) (Or.inl ⟨by rfl, ?_⟩) hHeld ?_ ?_
          rotate_left
          · intro w' hS
            have hc := (hS.cell (World.block_lt_of_cell? w9 _ HCX.out)).trans HCX.out
            go_simp
            with_reducible rfl
          rotate_left
          · simp only [Act.put, List.setIfInBounds_toArray, List.set_cons_zero, List.set_cons_succ, i64_w, i32_w]
            rfl
          refine pure_ (i := 5) (N := (some 94)) (v := ?_) (a' := ?_) #[true, true, true, true, true, true, false, false, false, false, false, false, false] rfl rfl (any_of HT_.out (by kernel_rfl)) (fun _ _ _ h => h) (Or.inl ⟨by rfl, ?_⟩) ?_ ?_
          rotate_left
          · intro w'
            go_simp
            with_reducible rfl
          rotate_left
          · simp only [Act.put, List.setIfInBounds_toArray, List.set_cons_zero, List.set_cons_succ, i64_w, i32_w]
            rfl
          refine take_ (i := 6) (N := (some 95)) (v := ?_) (a' := ?_) #[true, true, true, true, true, true, true, false, false, false, false, false, false] rfl rfl (take_ofW HT_.out HW_.out (by kernel_rfl)) (fun _ _ _ h => h) (Or.inl ⟨by rfl, ?_⟩) hHeld ?_ ?_
          rotate_left
          · intro w' hS
            have hb := (blk_cell (blk_below HBK9.out hS) 13).trans rfl
            go_simp
            with_reducible rfl
          rotate_left
          · simp only [Act.put, List.setIfInBounds_toArray, List.set_cons_zero, List.set_cons_succ, i64_w, i32_w]
            rfl
          refine pure_ (i := 7) (N := (some 96)) (v := ?_) (a' := ?_) #[true, true, true, true, true, true, true, true, false, false, false, false, false] rfl rfl (any_of HT_.out (by kernel_rfl)) (fun _ _ _ h => h) (Or.inl ⟨by rfl, ?_⟩) ?_ ?_
          rotate_left
          · intro w'
            go_simp
            with_reducible rfl
          rotate_left
          · simp only [Act.put, List.setIfInBounds_toArray, List.set_cons_zero, List.set_cons_succ, i64_w, i32_w]
            rfl
          refine one_ (i := 8) (N := (some 97)) #[true, true, true, true, true, true, true, true, true, false, false, false, false] rfl rfl (one_of HT_.out (by kernel_rfl)) (by decide) (fun K hK => ?_)
          go_simp
          (try simp only [HSZ.out])
          refine hK.out _ _ (below_alloc hHeld _) (fun hHeld => ?_)
          clear hK K
          (try simp only [HSZ.out] at hHeld ⊢)
          have hCl : Kd.C (Kd.int .u16) (wa.alloc (.cells #[.int .u16 41, .int .u16 ((m.sz % 65536))] 24)) (some ⟨wa.heap.size, 0, none⟩) ([41, (m.sz % 65536)] : List Int).length [41, (m.sz % 65536)] := C_two wa .u16 24 _ _
          obtain ⟨gl, hgl⟩ : ∃ gl, wa.heap.size = gl := ⟨_, rfl⟩
          obtain ⟨wb, hwb⟩ : ∃ wb, wa.alloc (.cells #[.int .u16 41, .int .u16 ((m.sz % 65536))] 24) = wb := ⟨_, rfl⟩
          rw [hgl, hwb] at hCl
          rw [hwb] at hHeld ⊢
          rw [hgl]
          have HCL := Lib.hid hCl
          clear hCl hgl hwb
          refine one_ (i := 9) (N := (some 98)) #[true, true, true, true, true, true, true, true, true, true, false, false, false] rfl rfl (one_of HT_.out (by kernel_rfl)) (by decide) (fun K hK => ?_)
          refine goes_ Tryd.func33 (by kernel_rfl) rfl #[.slice Ax b3.length cx, .slice (some ⟨gl, 0, none⟩) 2 2] (by rfl) rfl rfl (by (try simp only [List.map_toArray, List.map_cons, List.map_nil]); rfl) ?_
          refine (put16_ Ax cx b3 _ 2 [41, (m.sz % 65536)] _ (Kd.C_below HKX.out hHeld) HLX.out HCL.out (Nat.le_refl _) (by have := HL3.out; simp only [List.length_cons, List.length_nil]; omega)).mono ?_
          rintro e wc ⟨vc, rfl, hoc, hbc⟩
          have hoc2 := own_lower hoc hHeld.size
          obtain ⟨bn, hbn⟩ : ∃ bn, b3 ++ all16 [41, (m.sz % 65536)] = bn := ⟨_, rfl⟩
          have hbnl : bn.length = b3.length + 4 := by rw [← hbn, List.length_append, all16_len]; rfl
          rw [hbn] at hoc2
          obtain ⟨Av, cv, hv⟩ := own_slice hoc2
          subst hv
          have HBN := Lib.hid hbn
          have HBNL := Lib.hid hbnl
          clear hbn hbnl
          refine ⟨_, rfl, ?_⟩
          refine hK.out _ _ (hHeld.trans (hbc.mono hHeld.size)) (fun hHeld => ?_)
          clear hbc hoc
          clear hK K
          refine norm_ (a' := ?_) ?_ ?_
          rotate_left
          · show Act.put _ (some 98) _ = _
            simp only [Act.put, List.setIfInBounds_toArray, List.set_cons_zero, List.set_cons_succ, i64_w, i32_w]
            rfl
          refine pure_ (i := 10) (N := (some 99)) (v := ?_) (a' := ?_) #[true, true, true, true, true, true, true, true, true, true, true, false, false] rfl rfl (any_of HT_.out (by kernel_rfl)) (fun _ _ _ h => h) (Or.inl ⟨by rfl, ?_⟩) ?_ ?_
          rotate_left
          · intro w'
            go_simp
            with_reducible rfl
          rotate_left
          · simp only [Act.put, List.setIfInBounds_toArray, List.set_cons_zero, List.set_cons_succ, i64_w, i32_w]
            rfl
          refine pure_ (i := 11) (N := (some 100)) (v := ?_) (a' := ?_) #[true, true, true, true, true, true, true, true, true, true, true, true, false] rfl rfl (any_of HT_.out (by kernel_rfl)) (fun _ _ _ h => h) (Or.inl ⟨by rfl, ?_⟩) ?_ ?_
          rotate_left
          · intro w'
            go_simp
            with_reducible rfl
          rotate_left
          · simp only [Act.put, List.setIfInBounds_toArray, List.set_cons_zero, List.set_cons_succ, i64_w, i32_w]
            rfl
          have hcf := (HG8.out.below hHeld).cell
          obtain ⟨Ay, cy, hcy, hfy, -, -, -⟩ := hcf
          have HGN := Lib.hid (HG8.out.put hHeld hoc2 (by have := HBNL.out; omega) (by have := HBNL.out; omega))
          refine last_ (i := 12) (N := none) #[true, true, true, true, true, true, true, true, true, true, true, true, true] rfl rfl (one_of HT_.out (by kernel_rfl)) (by decide) (fun K hK => ?_)
          go_simp
          refine hK.out _ _ ?_
          clear hK K
          refine done_ (done_of HT_.out (by kernel_rfl)) ?_
          obtain ⟨w10, hw10⟩ : ∃ wx, wc.setCell ⟨g, 0, none⟩ (.slice Av bn.length cv) = wx := ⟨_, rfl⟩
          rw [hw10] at HGN ⊢
          clear hw10 hcy hfy HCX HKX HLX HCL hoc2 hHeld
          have hHL : bn.length ≤ 500000005 := by have := HL3.out; have := HBNL.out; omega
          obtain ⟨b4, hb4⟩ : ∃ b4, bn = b4 := ⟨_, rfl⟩
          rw [hb4] at HGN HBN hHL
          have HG10 := Lib.hid HGN.out
          have HL4 := Lib.hid hHL
          have HB4' := Lib.hid HBN.out
          (try rw [hb4])
          clear hb4 hHL HGN HBN HBNL HBK9 HG8
          obtain ⟨Ax, cx, hcx, hfx, -, hCx, hlx⟩ := HG10.out.cell
          have HCX := Lib.hid hCx
          clear hCx
          go_wp2_with fail
          clear hcx hfx
          have hC1 := C_one w10 .u32 68 0
          refine (put32_ Ax cx b4 _ 1 [0] _ (Kd.C_alloc HCX.out _) hlx hC1 (by simp) (by have := HL4.out; simp; omega)).mono ?_
          rintro e wc ⟨vc, rfl, hoc, hbc⟩
          have hbb : Below w10.heap.size w10 wc := (below_alloc (Below.refl _ _) _).trans (hbc.mono (by simp))
          have hoc2 := own_lower hoc (base' := w10.heap.size) (by simp)
          obtain ⟨bn, hbn⟩ : ∃ bn, b4 ++ all32 [0] = bn := ⟨_, rfl⟩
          have hbnl : bn.length = b4.length + 4 := by rw [← hbn, List.length_append, all32_len]; rfl
          rw [hbn] at hoc2
          obtain ⟨Av, cv, hv⟩ := own_slice hoc2
          subst hv
          obtain ⟨Ay, cy, hcy, hfy, -, -, -⟩ := (HG10.out.below hbb).cell
          have HGN := Lib.hid (HG10.out.put hbb hoc2 (by omega) (by omega))
          have HBN := Lib.hid hbn
          have HBNL := Lib.hid hbnl
          clear hbb hbc hoc hoc2 hbn hbnl hC1 HCX hlx
          go_upto_region 20 with fail
          clear hcy hfy
          obtain ⟨w11, hw11⟩ : ∃ wx, wc.setCell ⟨g, 0, none⟩ (.slice Av bn.length cv) = wx := ⟨_, rfl⟩
          rw [hw11] at HGN ⊢
          clear hw11
          have hHL : bn.length ≤ 500000009 := by have := HL4.out; have := HBNL.out; omega
          obtain ⟨b5, hb5⟩ : ∃ b5, bn = b5 := ⟨_, rfl⟩
          rw [hb5] at HGN HBN hHL
          have HG11 := Lib.hid HGN.out
          have HL5 := Lib.hid hHL
          have HB5' := Lib.hid HBN.out
          (try rw [hb5])
          clear hb5 hHL HGN HBN HBNL HG10
          obtain ⟨Ax, cx, hcx, hfx, -, hCx, hlx⟩ := HG11.out.cell
          have HCX := Lib.hid hCx
          clear hCx
          go_wp2_with fail
          clear hcx hfx
          have hC1 := C_one w11 .u16 24 0
          refine (put16_ Ax cx b5 _ 1 [0] _ (Kd.C_alloc HCX.out _) hlx hC1 (by simp) (by have := HL5.out; simp; omega)).mono ?_
          rintro e wc ⟨vc, rfl, hoc, hbc⟩
          have hbb : Below w11.heap.size w11 wc := (below_alloc (Below.refl _ _) _).trans (hbc.mono (by simp))
          have hoc2 := own_lower hoc (base' := w11.heap.size) (by simp)
          obtain ⟨bn, hbn⟩ : ∃ bn, b5 ++ all16 [0] = bn := ⟨_, rfl⟩
          have hbnl : bn.length = b5.length + 2 := by rw [← hbn, List.length_append, all16_len]; rfl
          rw [hbn] at hoc2
          obtain ⟨Av, cv, hv⟩ := own_slice hoc2
          subst hv
          obtain ⟨Ay, cy, hcy, hfy, -, -, -⟩ := (HG11.out.below hbb).cell
          have HGN := Lib.hid (HG11.out.put hbb hoc2 (by omega) (by omega))
          have HBN := Lib.hid hbn
          have HBNL := Lib.hid hbnl
          clear hbb hbc hoc hoc2 hbn hbnl hC1 HCX hlx
          go_upto_region 21 with fail
          clear hcy hfy
          obtain ⟨w12, hw12⟩ : ∃ wx, wc.setCell ⟨g, 0, none⟩ (.slice Av bn.length cv) = wx := ⟨_, rfl⟩
          rw [hw12] at HGN ⊢
          clear hw12
          obtain ⟨Ar, cr, hcr, hfr, hor, -, -⟩ := HGN.out.cell
          have HOR := Lib.hid hor
          clear hor
          go_wp2
          go_ret
          have hw : wholeL m = bn := by
            unfold wholeL
            rw [if_pos hs, HPW.out]
            simp only
            rw [HB3.out, HB4'.out, HB5'.out, HBN.out]
          rw [hw]
          exact ⟨_, rfl, own_lower HOR.out HBX.out.size, HBX.out.trans ((HB7.out.trans (goes_below HW7.out HGN.out)).mono HBX.out.size)⟩
        · have d1 : decide (m.sz > 0) = false := decide_eq_false hs
          have d2 : decide (0 < m.sz) = false := decide_eq_false hs
          obtain ⟨Ar, cr, hcr, hfr, hor, -, -⟩ := HGj.out.cell
          have HOR := Lib.hid hor
          clear hor
          go_wp2
          go_ret
          have hw : wholeL m = z := by unfold wholeL; rw [if_neg (by omega), HPW.out]
          rw [hw]
          exact ⟨_, rfl, own_lower HOR.out HBX.out.size, HBW.out⟩
end Go.Proofs.YtnikfeaggppmpaaDoor.Wr
