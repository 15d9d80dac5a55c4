/- part of a proof; what it has no use for was struck out -/
import Derived.Test.YtnikfeaggppmpaaEnc
import Derived.Test.YtnikfeaggppmpaaPMx5
namespace Go.Proofs.Ytnikfeaggppmpaa.Wr
open Go.RowKit Go.Proofs.Ytnikfeaggppmpaa.PM Go.Proofs.YtnikfeaggppmpaaW Go.Proofs.YtnikfeaggppmpaaW.PrintWords Go.Proofs.YtnikfeaggppmpaaW.PrintLast Go.Proofs.YtnikfeaggppmpaaW.PrintMore Go.Proofs.Ytnikfeaggppmpaa.Base Go.Proofs.Ytnikfeaggppmpaa.Nam Go.Proofs.Ytnikfeaggppmpaa.Trn Go.Proofs.Ytnikfeaggppmpaa.MapS Go.Proofs.Ytnikfeaggppmpaa.QM
set_option linter.unusedVariables false
set_option linter.unusedSimpArgs false
set_option maxRecDepth 100000
theorem add_block (ad : Addr) (n : Nat) : (ad.add n).block = ad.block := by
  unfold Addr.add
  split <;> rfl
theorem grow_below {w0 w w1 : World} {r : Option Nat} (h : w0.grownBy w r) (hb : Below w.heap.size w w1) : w0.grownBy w1 r :=
  ⟨hb.os.trans h.os, hb.tape.trans h.tape, hb.output.trans h.output, Nat.le_trans h.size hb.size, fun k hk hn => (hb.block k (Nat.lt_of_lt_of_le hk h.size)).trans (h.block k hk hn)⟩
theorem grow_join {w0 w w1 : World} {r r2 : Option Nat} (h : w0.grownBy w r) (hg : w.grownBy w1 r2) (hr : ∀ k, r2 = some k → w0.heap.size ≤ k) : w0.grownBy w1 r :=
  ⟨hg.os.trans h.os, hg.tape.trans h.tape, hg.output.trans h.output, Nat.le_trans h.size hg.size, fun k hk hn => (hg.block k (Nat.lt_of_lt_of_le hk h.size) (fun e => absurd (Nat.lt_of_lt_of_le hk (hr k e.symm)) (Nat.lt_irrefl _))).trans (h.block k hk hn)⟩
theorem cell_grown {w w1 : World} {p : Addr} {v : Value} {r : Option Nat} (h : w.cell? p = some v) (hg : w.grownBy w1 r) (hn : some p.block ≠ r) : w1.cell? p = some v := by
  have hb := hg.block p.block (World.block_lt_of_cell? w p h) hn
  simpa [World.cell?, hb] using h
theorem cell_alloc {w : World} {p : Addr} {v : Value} (h : w.cell? p = some v) (o : Obj) : (w.alloc o).cell? p = some v :=
  ((below_alloc (Below.refl w.heap.size w) o).cell (World.block_lt_of_cell? w p h)).trans h
theorem own_ne_blk {w : World} {base : Nat} {e : TypeId} {size n : Nat} {v : Value} {xs : List Value} {g t : Nat} {cells : Array Value} (h : w.ownsRow base e size v n xs) (hb : w.heap[g]? = some (.cells cells t (0, 0))) (ht : e ≠ t) : v.ownBlock ≠ some g := fun e1 => own_ne h hb ht e1.symm
theorem C_blk {w : World} {g : Nat} {k : IntKind} {e : TypeId} {ns : List Int} {cells : Array Value} (h : w.heap[g]? = some (.cells cells e (0, 0))) (hc : cells = (ns.map (Value.int k)).toArray := by rfl) (hl : ns.length ≤ 1000 := by simp) : Kd.C (Kd.int k) w (some ⟨g, 0, none⟩) ns.length ns := by
  subst hc
  refine ⟨rfl, by omega, fun _ => ⟨_, rfl, fun j p hj => ⟨[.int k p], rfl, rfl, fun i u hu => ?_⟩⟩⟩
  rcases i with _ | i
  · simp only [List.getElem?_cons_zero, Option.some.injEq] at hu
    subst hu
    show w.cell? ((⟨g, 0, none⟩ : Addr).add (j * 1 + 0)) = _
    rw [show j * 1 + 0 = j by omega, add_z, blk_cell h]
    simp [hj]
  · simp at hu
theorem at_join {w0 w : World} {s n : Nat} {e : TypeId} {size : Nat} {v v1 : Value} {xs : List Value} (h : w.ownsRow s e size v n xs) (hn : 0 < n) (hat : v1.ownBlock = v.ownBlock ∨ ∃ b, v1.ownBlock = some b ∧ w.heap.size ≤ b) (hlo : w0.heap.size ≤ s) (hs : w0.heap.size ≤ w.heap.size) : ∃ b, v1.ownBlock = some b ∧ w0.heap.size ≤ b := by
  rcases hat with e1 | ⟨b, e1, e2⟩
  · obtain ⟨b, e2, e3⟩ := own_at h hn
    exact ⟨b, e1.trans e2, Nat.le_trans hlo e3⟩
  · exact ⟨b, e1, Nat.le_trans hs e2⟩
theorem bit_15 (b : Bool) : bolterlaw05_bit.f b 15 = some (bit1 b * 32768) := by cases b <;> kernel_rfl
theorem bit_10 (b : Bool) : bolterlaw05_bit.f b 10 = some (bit1 b * 1024) := by cases b <;> kernel_rfl
theorem bit_9 (b : Bool) : bolterlaw05_bit.f b 9 = some (bit1 b * 512) := by cases b <;> kernel_rfl
theorem bit_8 (b : Bool) : bolterlaw05_bit.f b 8 = some (bit1 b * 256) := by cases b <;> kernel_rfl
theorem bit_7 (b : Bool) : bolterlaw05_bit.f b 7 = some (bit1 b * 128) := by cases b <;> kernel_rfl
theorem bit1_rng (b : Bool) : 0 ≤ bit1 b ∧ bit1 b ≤ 1 := by cases b <;> decide
theorem or_sum (i : Nat) (hi : i ≤ 15) (x y : Int) (hx : 0 ≤ x ∧ x < 65536) (hm : x % 2 ^ i = 0) (hy : 0 ≤ y ∧ y < 2 ^ i) : Go.bits .or .u16 x y = x + y := by
  have h2 : (2 : Int) ^ i ≤ 2 ^ 15 := by exact_mod_cast Nat.pow_le_pow_right (show 0 < 2 by decide) hi
  have h3 : (2 : Int) ^ 15 = 32768 := by decide
  have h4 : (2 : Int) ^ 16 = 65536 := by decide
  exact bits_join .u16 16 (by decide) wraps_u16 i x y hx.1 hm (by omega) hy.1 hy.2 (by omega)
theorem wr16 {x : Int} (h0 : 0 ≤ x) (h1 : x < 65536) : IntKind.u16.wrap x = x := by rw [IntKind.wrap_u16]; omega
theorem flags_sum (m : Msg) (ho : 0 ≤ m.op ∧ m.op < 16) (hc : 0 ≤ m.co ∧ m.co < 16) : flagsV m = bit1 m.rp * 32768 + m.op * 2048 + bit1 m.au * 1024 + bit1 m.tr * 512 + bit1 m.de * 256 + bit1 m.av * 128 + m.co := by
  have h1 := bit1_rng m.rp
  have h2 := bit1_rng m.au
  have h3 := bit1_rng m.tr
  have h4 := bit1_rng m.de
  have h5 := bit1_rng m.av
  unfold flagsV
  rw [wr16 (x := bit1 m.rp * 32768) (by omega) (by omega), wr16 (x := m.op) (by omega) (by omega), wr16 (x := m.op * 2048) (by omega) (by omega), wr16 (x := (bit1 m.au * 8 + bit1 m.tr * 4 + bit1 m.de * 2 + bit1 m.av) * 128) (by omega) (by omega), wr16 (x := m.co) (by omega) (by omega)]
  rw [or_sum 15 (by decide) (bit1 m.rp * 32768) (m.op * 2048) (by omega) (by show _ % 32768 = (0 : Int); omega) (by show _ ∧ _ < (32768 : Int); omega)]
  rw [or_sum 11 (by decide) (bit1 m.rp * 32768 + m.op * 2048) _ (by omega) (by show _ % 2048 = (0 : Int); omega) (by show _ ∧ _ < (2048 : Int); omega)]
  rw [or_sum 7 (by decide) _ m.co (by omega) (by show _ % 128 = (0 : Int); omega) (by show _ ∧ _ < (128 : Int); omega)]
  omega
theorem law_flags (m : Msg) (ho : 0 ≤ m.op ∧ m.op < 16) (hc : 0 ≤ m.co ∧ m.co < 16) :
    IntKind.u16.wrap (IntKind.u16.wrap (IntKind.u16.wrap (IntKind.u16.wrap (IntKind.u16.wrap (IntKind.u16.wrap (bit1 m.rp * 32768 + IntKind.u16.wrap (IntKind.u16.wrap m.op * 2048)) + bit1 m.au * 1024) + bit1 m.tr * 512) + bit1 m.de * 256) + bit1 m.av * 128) + IntKind.u16.wrap m.co) = flagsV m := by
  have h1 := bit1_rng m.rp
  have h2 := bit1_rng m.au
  have h3 := bit1_rng m.tr
  have h4 := bit1_rng m.de
  have h5 := bit1_rng m.av
  rw [flags_sum m ho hc, wr16 (x := m.op) (by omega) (by omega), wr16 (x := m.op * 2048) (by omega) (by omega), wr16 (x := m.co) (by omega) (by omega)]
  rw [wr16 (x := bit1 m.rp * 32768 + m.op * 2048) (by omega) (by omega)]
  rw [wr16 (x := bit1 m.rp * 32768 + m.op * 2048 + bit1 m.au * 1024) (by omega) (by omega)]
  rw [wr16 (x := bit1 m.rp * 32768 + m.op * 2048 + bit1 m.au * 1024 + bit1 m.tr * 512) (by omega) (by omega)]
  rw [wr16 (x := bit1 m.rp * 32768 + m.op * 2048 + bit1 m.au * 1024 + bit1 m.tr * 512 + bit1 m.de * 256) (by omega) (by omega)]
  rw [wr16 (x := bit1 m.rp * 32768 + m.op * 2048 + bit1 m.au * 1024 + bit1 m.tr * 512 + bit1 m.de * 256 + bit1 m.av * 128) (by omega) (by omega)]
  rw [wr16 (by omega) (by omega)]
def lwh_T2 : Bool × List (List Nat × List Nat) := (true, [([], []), ([0], [0]), ([1], [1]), ([], []), ([3], [3]), ([4], [4]), ([5], [5]), ([2, 6], [2, 6]), ([], []), ([8], [8]), ([9, 2], [9]), ([7, 10], [7, 10]), ([], []), ([12], [12]), ([13, 10], [13]), ([11, 14], [11, 14]), ([], []), ([16], [16]), ([17, 14], [17]), ([15, 18], [15, 18]), ([], []), ([20], [20]), ([21, 18], [21]), ([19, 22], [19, 22]), ([], []), ([24], [24]), ([25], [25]), ([23, 26], [23, 26]), ([27, 22, 0, 1, 2, 3, 4, 5, 6, 7, 8, 9, 10, 11, 12, 13, 14, 15, 16, 17, 18, 19, 20, 21, 22, 23, 24, 25, 26, 27], [27])])
def lwh_B2 : List Nat := [0, 1, 3, 0, 8, 24, 56, 127, 0, 256, 775, 2047, 0, 4096, 14087, 32767, 0, 65536, 227079, 524287, 0, 1048576, 3634951, 8388607, 0, 16777216, 50331648, 134217727, 268435455]
theorem lwh_tab2 : rtab .any (opsOf Try.f13 2) = lwh_T2 := by kernel_rfl
theorem lwh_bits2 : waitsOk lwh_T2.2 lwh_B2 = true := by kernel_rfl
def lwh_T8 : Bool × List (List Nat × List Nat) := (true, [([], []), ([], []), ([1], [1]), ([2], [2]), ([3], [3]), ([], []), ([5], [5]), ([6], [6]), ([7], [7]), ([4, 8], [4, 8]), ([0, 0, 1, 2, 3, 4, 5, 6, 7, 8, 9], [0]), ([10, 0, 1, 2, 3, 4, 5, 6, 7, 8, 9], [10]), ([11, 9, 9, 0, 1, 2, 3, 4, 5, 6, 7, 8, 9], [9, 11])])
def lwh_B8 : List Nat := [0, 0, 2, 6, 14, 0, 32, 96, 224, 510, 1023, 2047, 4095]
theorem lwh_tab8 : rtab .any (opsOf Try.f13 8) = lwh_T8 := by kernel_rfl
theorem lwh_bits8 : waitsOk lwh_T8.2 lwh_B8 = true := by kernel_rfl
def lwh_T9 : Bool × List (List Nat × List Nat) := (true, [([], []), ([0], [0]), ([1], [1]), ([], []), ([3], [3]), ([2, 4, 2], [2, 4]), ([], []), ([6], [6]), ([5, 7, 5], [5, 7]), ([8], [8]), ([], [])])
def lwh_B9 : List Nat := [0, 1, 3, 0, 8, 31, 0, 64, 255, 511, 0]
theorem lwh_tab9 : rtab .any (opsOf Try.f13 9) = lwh_T9 := by kernel_rfl
theorem lwh_bits9 : waitsOk lwh_T9.2 lwh_B9 = true := by kernel_rfl
def lwh_T13 : Bool × List (List Nat × List Nat) := (true, [([], []), ([], []), ([1], [1]), ([2], [2]), ([3], [3]), ([], []), ([5], [5]), ([6], [6]), ([4, 7], [4, 7]), ([0, 0, 1, 2, 3, 4, 5, 6, 7, 8], [0]), ([9, 0, 1, 2, 3, 4, 5, 6, 7, 8], [9]), ([10, 8, 8, 0, 1, 2, 3, 4, 5, 6, 7, 8], [8, 10])])
def lwh_B13 : List Nat := [0, 0, 2, 6, 14, 0, 32, 96, 254, 511, 1023, 2047]
theorem lwh_tab13 : rtab .any (opsOf Try.f13 13) = lwh_T13 := by kernel_rfl
theorem lwh_bits13 : waitsOk lwh_T13.2 lwh_B13 = true := by kernel_rfl
def lwh_T14 : Bool × List (List Nat × List Nat) := (true, [([], []), ([], []), ([1], [1]), ([2], [2]), ([3], [3]), ([], []), ([5], [5]), ([6], [6]), ([4, 7], [4, 7]), ([0, 0, 1, 2, 3, 4, 5, 6, 7, 8], [0]), ([9, 0, 1, 2, 3, 4, 5, 6, 7, 8], [9]), ([10, 8, 8, 0, 1, 2, 3, 4, 5, 6, 7, 8], [8, 10])])
def lwh_B14 : List Nat := [0, 0, 2, 6, 14, 0, 32, 96, 254, 511, 1023, 2047]
theorem lwh_tab14 : rtab .any (opsOf Try.f13 14) = lwh_T14 := by kernel_rfl
theorem lwh_bits14 : waitsOk lwh_T14.2 lwh_B14 = true := by kernel_rfl
def lwh_T18 : Bool × List (List Nat × List Nat) := (true, [([], []), ([], []), ([1], [1]), ([2], [2]), ([3], [3]), ([], []), ([4, 5], [4, 5]), ([], []), ([7], [7]), ([8], [8]), ([9], [9]), ([6, 10, 6], [6, 10]), ([], []), ([11, 12, 11], [11, 12]), ([0, 0, 1, 2, 3, 4, 5, 6, 7, 8, 9, 10, 11, 12, 13], [0]), ([14, 0, 1, 2, 3, 4, 5, 6, 7, 8, 9, 10, 11, 12, 13], [14]), ([15, 13, 13, 0, 1, 2, 3, 4, 5, 6, 7, 8, 9, 10, 11, 12, 13], [13, 15])])
def lwh_B18 : List Nat := [0, 0, 2, 6, 14, 0, 62, 0, 128, 384, 896, 2046, 0, 8190, 16383, 32767, 65535]
theorem lwh_tab18 : rtab .any (opsOf Try.f13 18) = lwh_T18 := by kernel_rfl
theorem lwh_bits18 : waitsOk lwh_T18.2 lwh_B18 = true := by kernel_rfl
set_option maxHeartbeats 8000000 in
theorem lwhole_ (m : Msg) (hm : WfM m) (ho : 0 ≤ m.op ∧ m.op < 16) (hc : 0 ≤ m.co ∧ m.co < 16) (Aa An Ae : Option Addr) (ca cn ce : Nat) (w : World) (hCa : Kd.C k37 w Aa m.an.length m.an) (hca : m.an.length ≤ ca) (hCn : Kd.C k37 w An m.ns.length m.ns) (hcn : m.ns.length ≤ cn) (hCe : Kd.C k37 w Ae m.ex.length m.ex) (hce : m.ex.length ≤ ce) :
    Calls Try.prog 13 #[.agg #[.int .u16 m.id, .bool m.rp, .int .i64 m.op, .bool m.au, .bool m.tr, .bool m.de, .bool m.av, .int .i64 m.co, .string m.qn, .int .u16 m.qt, .slice Aa m.an.length ca, .slice An m.ns.length cn, .slice Ae m.ex.length ce, .int .i64 m.sz]] w fun e w' => e = .returned (.string (strOfNums (wholeL m))) ∧ Below w.heap.size w w' := by
  obtain ⟨gM, hgM⟩ : ∃ gM, w.heap.size = gM := ⟨_, rfl⟩
  have hbX := below_alloc (Below.refl w.heap.size w) (Obj.cells #[.int .u16 m.id, .bool m.rp, .int .i64 m.op, .bool m.au, .bool m.tr, .bool m.de, .bool m.av, .int .i64 m.co, .string m.qn, .int .u16 m.qt, .slice Aa m.an.length ca, .slice An m.ns.length cn, .slice Ae m.ex.length ce, .int .i64 m.sz] 31)
  have hBK : (w.alloc (Obj.cells #[.int .u16 m.id, .bool m.rp, .int .i64 m.op, .bool m.au, .bool m.tr, .bool m.de, .bool m.av, .int .i64 m.co, .string m.qn, .int .u16 m.qt, .slice Aa m.an.length ca, .slice An m.ns.length cn, .slice Ae m.ex.length ce, .int .i64 m.sz] 31)).heap[gM]? = some (Obj.cells #[.int .u16 m.id, .bool m.rp, .int .i64 m.op, .bool m.au, .bool m.tr, .bool m.de, .bool m.av, .int .i64 m.co, .string m.qn, .int .u16 m.qt, .slice Aa m.an.length ca, .slice An m.ns.length cn, .slice Ae m.ex.length ce, .int .i64 m.sz] 31 (0, 0)) := by rw [← hgM]; exact blk_new w _
  obtain ⟨w1, hw1⟩ : ∃ w1, w.alloc (Obj.cells #[.int .u16 m.id, .bool m.rp, .int .i64 m.op, .bool m.au, .bool m.tr, .bool m.de, .bool m.av, .int .i64 m.co, .string m.qn, .int .u16 m.qt, .slice Aa m.an.length ca, .slice An m.ns.length cn, .slice Ae m.ex.length ce, .int .i64 m.sz] 31) = w1 := ⟨_, rfl⟩
  have HCA := Lib.hid hCa
  have HCN := Lib.hid hCn
  have HCE := Lib.hid hCe
  have HM := Lib.hid hm
  have HFL := Lib.hid (law_flags m ho hc)
  clear hCa hCn hCe ho hc
  go_enter Try.func13, Try.ntmps13
  go_upto_region 1 with fail
  rw [hw1] at hbX hBK
  (try rw [hw1])
  (try rw [hgM])
  have HBX := Lib.hid hbX
  have HBK1 := Lib.hid hBK
  clear hbX hBK hw1 hgM
  have p0 := (blk_cell HBK1.out 0).trans rfl
  have p1 := (blk_cell HBK1.out 1).trans rfl
  have p2 := (blk_cell HBK1.out 2).trans rfl
  have p3 := (blk_cell HBK1.out 3).trans rfl
  have p4 := (blk_cell HBK1.out 4).trans rfl
  have p5 := (blk_cell HBK1.out 5).trans rfl
  have p6 := (blk_cell HBK1.out 6).trans rfl
  have p7 := (blk_cell HBK1.out 7).trans rfl
  go_upto_region 2 with fail
  clear p0 p1 p2 p3 p4 p5 p6 p7
  obtain ⟨gH, hgH⟩ : ∃ gH, w1.heap.size = gH := ⟨_, rfl⟩
  obtain ⟨w2, hw2⟩ : ∃ w2, w1.alloc (Obj.cells #[.int .u16 m.id, .bool m.rp, .int .i64 m.op, .bool m.au, .bool m.tr, .bool m.de, .bool m.av, .int .i64 m.co] 24) = w2 := ⟨_, rfl⟩
  have hb2 : Below w1.heap.size w1 w2 := by rw [← hw2]; exact below_alloc (Below.refl _ _) _
  have hBH : w2.heap[gH]? = some (Obj.cells #[.int .u16 m.id, .bool m.rp, .int .i64 m.op, .bool m.au, .bool m.tr, .bool m.de, .bool m.av, .int .i64 m.co] 24 (0, 0)) := by rw [← hw2, ← hgH]; exact blk_new w1 _
  (try rw [hw2])
  (try rw [hgH])
  have HB2 := Lib.hid (HBX.out.trans (hb2.mono HBX.out.size))
  have HBK2 := Lib.hid (blk_below HBK1.out hb2)
  have HBH := Lib.hid hBH
  clear hb2 hBH hw2 hgH HBX HBK1
  refine start_ (n := 29) (ds := ([] : List Nat)) (S := fun W => Below w2.heap.size w2 W) #[false, false, false, false, false, false, false, false, false, false, false, false, false, false, false, false, false, false, false, false, false, false, false, false, false, false, false, false, false] (by kernel_rfl) rfl rfl (below_drew1 (Below.refl w2.heap.size w2)) (fun hHeld => ?_)
  refine with_tabW lwh_tab2 lwh_bits2 (fun HT_ HW_ => ?_)
  refine pure_ (i := 0) (N := (some 11)) (v := ?_) (a' := ?_) #[true, false, false, false, false, false, false, false, false, false, false, false, false, false, false, false, false, false, false, false, false, false, false, false, false, false, false, false, false] rfl rfl (any_of HT_.out (by kernel_rfl)) (fun _ _ _ h => h) (Or.inl ⟨by rfl, ?_⟩) ?_ ?_
  rotate_left
  · intro w'
    go_simp
    with_reducible rfl
  rotate_left
  · simp only [Act.put, List.setIfInBounds_toArray, List.set_cons_zero, List.set_cons_succ, i64_w, i32_w]
    rfl
  refine take_ (i := 1) (N := (some 12)) (v := ?_) (a' := ?_) #[true, true, false, false, false, false, false, false, false, false, false, false, false, false, false, false, false, false, false, false, false, false, false, false, false, false, false, false, false] rfl rfl (take_ofW HT_.out HW_.out (by kernel_rfl)) (fun _ _ _ h => h) (Or.inl ⟨by rfl, ?_⟩) hHeld ?_ ?_
  rotate_left
  · intro w' hS
    have f1 := (blk_cell (blk_below HBH.out hS) 1).trans rfl
    go_simp
    with_reducible rfl
  rotate_left
  · simp only [Act.put, List.setIfInBounds_toArray, List.set_cons_zero, List.set_cons_succ, i64_w, i32_w]
    rfl
  refine pure_ (i := 3) (N := (some 14)) (v := ?_) (a' := ?_) #[true, true, false, true, false, false, false, false, false, false, false, false, false, false, false, false, false, false, false, false, false, false, false, false, false, false, false, false, false] rfl rfl (any_of HT_.out (by kernel_rfl)) (fun _ _ _ h => h) (Or.inl ⟨by rfl, ?_⟩) ?_ ?_
  rotate_left
  · intro w'
    go_simp
    with_reducible rfl
  rotate_left
  · simp only [Act.put, List.setIfInBounds_toArray, List.set_cons_zero, List.set_cons_succ, i64_w, i32_w]
    rfl
  refine take_ (i := 4) (N := (some 15)) (v := ?_) (a' := ?_) #[true, true, false, true, true, false, false, false, false, false, false, false, false, false, false, false, false, false, false, false, false, false, false, false, false, false, false, false, false] rfl rfl (take_ofW HT_.out HW_.out (by kernel_rfl)) (fun _ _ _ h => h) (Or.inl ⟨by rfl, ?_⟩) hHeld ?_ ?_
  rotate_left
  · intro w' hS
    have f2 := (blk_cell (blk_below HBH.out hS) 2).trans rfl
    go_simp
    with_reducible rfl
  rotate_left
  · simp only [Act.put, List.setIfInBounds_toArray, List.set_cons_zero, List.set_cons_succ, i64_w, i32_w]
    rfl
  refine pure_ (i := 5) (N := (some 16)) (v := ?_) (a' := ?_) #[true, true, false, true, true, true, false, false, false, false, false, false, false, false, false, false, false, false, false, false, false, false, false, false, false, false, false, false, false] rfl rfl (any_of HT_.out (by kernel_rfl)) (fun _ _ _ h => h) (Or.inl ⟨by rfl, ?_⟩) ?_ ?_
  rotate_left
  · intro w'
    go_simp
    with_reducible rfl
  rotate_left
  · simp only [Act.put, List.setIfInBounds_toArray, List.set_cons_zero, List.set_cons_succ, i64_w, i32_w]
    rfl
  refine pure_ (i := 6) (N := (some 17)) (v := ?_) (a' := ?_) #[true, true, false, true, true, true, true, false, false, false, false, false, false, false, false, false, false, false, false, false, false, false, false, false, false, false, false, false, false] rfl rfl (any_of HT_.out (by kernel_rfl)) (fun _ _ _ h => h) (Or.inl ⟨by rfl, ?_⟩) ?_ ?_
  rotate_left
  · intro w'
    go_simp
    with_reducible rfl
  rotate_left
  · simp only [Act.put, List.setIfInBounds_toArray, List.set_cons_zero, List.set_cons_succ, i64_w, i32_w]
    rfl
  refine pure_ (i := 8) (N := (some 19)) (v := ?_) (a' := ?_) #[true, true, false, true, true, true, true, false, true, false, false, false, false, false, false, false, false, false, false, false, false, false, false, false, false, false, false, false, false] rfl rfl (any_of HT_.out (by kernel_rfl)) (fun _ _ _ h => h) (Or.inl ⟨by rfl, ?_⟩) ?_ ?_
  rotate_left
  · intro w'
    go_simp
    with_reducible rfl
  rotate_left
  · simp only [Act.put, List.setIfInBounds_toArray, List.set_cons_zero, List.set_cons_succ, i64_w, i32_w]
    rfl
  refine take_ (i := 9) (N := (some 20)) (v := ?_) (a' := ?_) #[true, true, false, true, true, true, true, false, true, true, false, false, false, false, false, false, false, false, false, false, false, false, false, false, false, false, false, false, false] rfl rfl (take_ofW HT_.out HW_.out (by kernel_rfl)) (fun _ _ _ h => h) (Or.inl ⟨by rfl, ?_⟩) hHeld ?_ ?_
  rotate_left
  · intro w' hS
    have f3 := (blk_cell (blk_below HBH.out hS) 3).trans rfl
    go_simp
    with_reducible rfl
  rotate_left
  · simp only [Act.put, List.setIfInBounds_toArray, List.set_cons_zero, List.set_cons_succ, i64_w, i32_w]
    rfl
  refine pure_ (i := 12) (N := (some 23)) (v := ?_) (a' := ?_) #[true, true, false, true, true, true, true, false, true, true, false, false, true, false, false, false, false, false, false, false, false, false, false, false, false, false, false, false, false] rfl rfl (any_of HT_.out (by kernel_rfl)) (fun _ _ _ h => h) (Or.inl ⟨by rfl, ?_⟩) ?_ ?_
  rotate_left
  · intro w'
    go_simp
    with_reducible rfl
  rotate_left
  · simp only [Act.put, List.setIfInBounds_toArray, List.set_cons_zero, List.set_cons_succ, i64_w, i32_w]
    rfl
  refine take_ (i := 13) (N := (some 24)) (v := ?_) (a' := ?_) #[true, true, false, true, true, true, true, false, true, true, false, false, true, true, false, false, false, false, false, false, false, false, false, false, false, false, false, false, false] rfl rfl (take_ofW HT_.out HW_.out (by kernel_rfl)) (fun _ _ _ h => h) (Or.inl ⟨by rfl, ?_⟩) hHeld ?_ ?_
  rotate_left
  · intro w' hS
    have f4 := (blk_cell (blk_below HBH.out hS) 4).trans rfl
    go_simp
    with_reducible rfl
  rotate_left
  · simp only [Act.put, List.setIfInBounds_toArray, List.set_cons_zero, List.set_cons_succ, i64_w, i32_w]
    rfl
  refine pure_ (i := 16) (N := (some 27)) (v := ?_) (a' := ?_) #[true, true, false, true, true, true, true, false, true, true, false, false, true, true, false, false, true, false, false, false, false, false, false, false, false, false, false, false, false] rfl rfl (any_of HT_.out (by kernel_rfl)) (fun _ _ _ h => h) (Or.inl ⟨by rfl, ?_⟩) ?_ ?_
  rotate_left
  · intro w'
    go_simp
    with_reducible rfl
  rotate_left
  · simp only [Act.put, List.setIfInBounds_toArray, List.set_cons_zero, List.set_cons_succ, i64_w, i32_w]
    rfl
  refine take_ (i := 17) (N := (some 28)) (v := ?_) (a' := ?_) #[true, true, false, true, true, true, true, false, true, true, false, false, true, true, false, false, true, true, false, false, false, false, false, false, false, false, false, false, false] rfl rfl (take_ofW HT_.out HW_.out (by kernel_rfl)) (fun _ _ _ h => h) (Or.inl ⟨by rfl, ?_⟩) hHeld ?_ ?_
  rotate_left
  · intro w' hS
    have f5 := (blk_cell (blk_below HBH.out hS) 5).trans rfl
    go_simp
    with_reducible rfl
  rotate_left
  · simp only [Act.put, List.setIfInBounds_toArray, List.set_cons_zero, List.set_cons_succ, i64_w, i32_w]
    rfl
  refine pure_ (i := 20) (N := (some 31)) (v := ?_) (a' := ?_) #[true, true, false, true, true, true, true, false, true, true, false, false, true, true, false, false, true, true, false, false, true, false, false, false, false, false, false, false, false] rfl rfl (any_of HT_.out (by kernel_rfl)) (fun _ _ _ h => h) (Or.inl ⟨by rfl, ?_⟩) ?_ ?_
  rotate_left
  · intro w'
    go_simp
    with_reducible rfl
  rotate_left
  · simp only [Act.put, List.setIfInBounds_toArray, List.set_cons_zero, List.set_cons_succ, i64_w, i32_w]
    rfl
  refine take_ (i := 21) (N := (some 32)) (v := ?_) (a' := ?_) #[true, true, false, true, true, true, true, false, true, true, false, false, true, true, false, false, true, true, false, false, true, true, false, false, false, false, false, false, false] rfl rfl (take_ofW HT_.out HW_.out (by kernel_rfl)) (fun _ _ _ h => h) (Or.inl ⟨by rfl, ?_⟩) hHeld ?_ ?_
  rotate_left
  · intro w' hS
    have f6 := (blk_cell (blk_below HBH.out hS) 6).trans rfl
    go_simp
    with_reducible rfl
  rotate_left
  · simp only [Act.put, List.setIfInBounds_toArray, List.set_cons_zero, List.set_cons_succ, i64_w, i32_w]
    rfl
  refine pure_ (i := 24) (N := (some 35)) (v := ?_) (a' := ?_) #[true, true, false, true, true, true, true, false, true, true, false, false, true, true, false, false, true, true, false, false, true, true, false, false, true, false, false, false, false] rfl rfl (any_of HT_.out (by kernel_rfl)) (fun _ _ _ h => h) (Or.inl ⟨by rfl, ?_⟩) ?_ ?_
  rotate_left
  · intro w'
    go_simp
    with_reducible rfl
  rotate_left
  · simp only [Act.put, List.setIfInBounds_toArray, List.set_cons_zero, List.set_cons_succ, i64_w, i32_w]
    rfl
  refine take_ (i := 25) (N := (some 36)) (v := ?_) (a' := ?_) #[true, true, false, true, true, true, true, false, true, true, false, false, true, true, false, false, true, true, false, false, true, true, false, false, true, true, false, false, false] rfl rfl (take_ofW HT_.out HW_.out (by kernel_rfl)) (fun _ _ _ h => h) (Or.inl ⟨by rfl, ?_⟩) hHeld ?_ ?_
  rotate_left
  · intro w' hS
    have f7 := (blk_cell (blk_below HBH.out hS) 7).trans rfl
    go_simp
    with_reducible rfl
  rotate_left
  · simp only [Act.put, List.setIfInBounds_toArray, List.set_cons_zero, List.set_cons_succ, i64_w, i32_w]
    rfl
  refine pure_ (i := 26) (N := (some 37)) (v := ?_) (a' := ?_) #[true, true, false, true, true, true, true, false, true, true, false, false, true, true, false, false, true, true, false, false, true, true, false, false, true, true, true, false, false] rfl rfl (any_of HT_.out (by kernel_rfl)) (fun _ _ _ h => h) (Or.inl ⟨by rfl, ?_⟩) ?_ ?_
  rotate_left
  · intro w'
    go_simp
    with_reducible rfl
  rotate_left
  · simp only [Act.put, List.setIfInBounds_toArray, List.set_cons_zero, List.set_cons_succ, i64_w, i32_w]
    rfl
  refine one_ (i := 2) (N := (some 13)) #[true, true, true, true, true, true, true, false, true, true, false, false, true, true, false, false, true, true, false, false, true, true, false, false, true, true, true, false, false] rfl rfl (one_of HT_.out (by kernel_rfl)) (by decide) (fun K hK => ?_)
  refine goes_ Try.func22 (by kernel_rfl) rfl #[.bool m.rp, .int .i64 15] (by rfl) rfl rfl (by (try simp only [List.map_toArray, List.map_cons, List.map_nil]); rfl) ?_
  refine (bolterlaw05_bit.calls m.rp 15 (bit1 m.rp * 32768) _ (bit_15 m.rp)).mono ?_
  rintro e wq ⟨rfl, hb⟩
  refine ⟨_, rfl, ?_⟩
  refine hK.out _ _ (hHeld.trans (hb.below.mono hHeld.size)) (fun hHeld => ?_)
  clear hb
  clear hK K
  refine norm_ (a' := ?_) ?_ ?_
  rotate_left
  · show Act.put _ (some 13) _ = _
    simp only [Act.put, List.setIfInBounds_toArray, List.set_cons_zero, List.set_cons_succ, i64_w, i32_w]
    rfl
  refine pure_ (i := 7) (N := (some 18)) (v := ?_) (a' := ?_) #[true, true, true, true, true, true, true, true, true, true, false, false, true, true, false, false, true, true, false, false, true, true, false, false, true, true, true, false, false] rfl rfl (any_of HT_.out (by kernel_rfl)) (fun _ _ _ h => h) (Or.inl ⟨by rfl, ?_⟩) ?_ ?_
  rotate_left
  · intro w'
    go_simp
    with_reducible rfl
  rotate_left
  · simp only [Act.put, List.setIfInBounds_toArray, List.set_cons_zero, List.set_cons_succ, i64_w, i32_w]
    rfl
  refine one_ (i := 10) (N := (some 21)) #[true, true, true, true, true, true, true, true, true, true, true, false, true, true, false, false, true, true, false, false, true, true, false, false, true, true, true, false, false] rfl rfl (one_of HT_.out (by kernel_rfl)) (by decide) (fun K hK => ?_)
  refine goes_ Try.func22 (by kernel_rfl) rfl #[.bool m.au, .int .i64 10] (by rfl) rfl rfl (by (try simp only [List.map_toArray, List.map_cons, List.map_nil]); rfl) ?_
  refine (bolterlaw05_bit.calls m.au 10 (bit1 m.au * 1024) _ (bit_10 m.au)).mono ?_
  rintro e wq ⟨rfl, hb⟩
  refine ⟨_, rfl, ?_⟩
  refine hK.out _ _ (hHeld.trans (hb.below.mono hHeld.size)) (fun hHeld => ?_)
  clear hb
  clear hK K
  refine norm_ (a' := ?_) ?_ ?_
  rotate_left
  · show Act.put _ (some 21) _ = _
    simp only [Act.put, List.setIfInBounds_toArray, List.set_cons_zero, List.set_cons_succ, i64_w, i32_w]
    rfl
  refine pure_ (i := 11) (N := (some 22)) (v := ?_) (a' := ?_) #[true, true, true, true, true, true, true, true, true, true, true, true, true, true, false, false, true, true, false, false, true, true, false, false, true, true, true, false, false] rfl rfl (any_of HT_.out (by kernel_rfl)) (fun _ _ _ h => h) (Or.inl ⟨by rfl, ?_⟩) ?_ ?_
  rotate_left
  · intro w'
    go_simp
    with_reducible rfl
  rotate_left
  · simp only [Act.put, List.setIfInBounds_toArray, List.set_cons_zero, List.set_cons_succ, i64_w, i32_w]
    rfl
  refine one_ (i := 14) (N := (some 25)) #[true, true, true, true, true, true, true, true, true, true, true, true, true, true, true, false, true, true, false, false, true, true, false, false, true, true, true, false, false] rfl rfl (one_of HT_.out (by kernel_rfl)) (by decide) (fun K hK => ?_)
  refine goes_ Try.func22 (by kernel_rfl) rfl #[.bool m.tr, .int .i64 9] (by rfl) rfl rfl (by (try simp only [List.map_toArray, List.map_cons, List.map_nil]); rfl) ?_
  refine (bolterlaw05_bit.calls m.tr 9 (bit1 m.tr * 512) _ (bit_9 m.tr)).mono ?_
  rintro e wq ⟨rfl, hb⟩
  refine ⟨_, rfl, ?_⟩
  refine hK.out _ _ (hHeld.trans (hb.below.mono hHeld.size)) (fun hHeld => ?_)
  clear hb
  clear hK K
  refine norm_ (a' := ?_) ?_ ?_
  rotate_left
  · show Act.put _ (some 25) _ = _
    simp only [Act.put, List.setIfInBounds_toArray, List.set_cons_zero, List.set_cons_succ, i64_w, i32_w]
    rfl
  refine pure_ (i := 15) (N := (some 26)) (v := ?_) (a' := ?_) #[true, true, true, true, true, true, true, true, true, true, true, true, true, true, true, true, true, true, false, false, true, true, false, false, true, true, true, false, false] rfl rfl (any_of HT_.out (by kernel_rfl)) (fun _ _ _ h => h) (Or.inl ⟨by rfl, ?_⟩) ?_ ?_
  rotate_left
  · intro w'
    go_simp
    with_reducible rfl
  rotate_left
  · simp only [Act.put, List.setIfInBounds_toArray, List.set_cons_zero, List.set_cons_succ, i64_w, i32_w]
    rfl
  refine one_ (i := 18) (N := (some 29)) #[true, true, true, true, true, true, true, true, true, true, true, true, true, true, true, true, true, true, true, false, true, true, false, false, true, true, true, false, false] rfl rfl (one_of HT_.out (by kernel_rfl)) (by decide) (fun K hK => ?_)
  refine goes_ Try.func22 (by kernel_rfl) rfl #[.bool m.de, .int .i64 8] (by rfl) rfl rfl (by (try simp only [List.map_toArray, List.map_cons, List.map_nil]); rfl) ?_
  refine (bolterlaw05_bit.calls m.de 8 (bit1 m.de * 256) _ (bit_8 m.de)).mono ?_
  rintro e wq ⟨rfl, hb⟩
  refine ⟨_, rfl, ?_⟩
  refine hK.out _ _ (hHeld.trans (hb.below.mono hHeld.size)) (fun hHeld => ?_)
  clear hb
  clear hK K
  refine norm_ (a' := ?_) ?_ ?_
  rotate_left
  · show Act.put _ (some 29) _ = _
    simp only [Act.put, List.setIfInBounds_toArray, List.set_cons_zero, List.set_cons_succ, i64_w, i32_w]
    rfl
  refine pure_ (i := 19) (N := (some 30)) (v := ?_) (a' := ?_) #[true, true, true, true, true, true, true, true, true, true, true, true, true, true, true, true, true, true, true, true, true, true, false, false, true, true, true, false, false] rfl rfl (any_of HT_.out (by kernel_rfl)) (fun _ _ _ h => h) (Or.inl ⟨by rfl, ?_⟩) ?_ ?_
  rotate_left
  · intro w'
    go_simp
    with_reducible rfl
  rotate_left
  · simp only [Act.put, List.setIfInBounds_toArray, List.set_cons_zero, List.set_cons_succ, i64_w, i32_w]
    rfl
  refine one_ (i := 22) (N := (some 33)) #[true, true, true, true, true, true, true, true, true, true, true, true, true, true, true, true, true, true, true, true, true, true, true, false, true, true, true, false, false] rfl rfl (one_of HT_.out (by kernel_rfl)) (by decide) (fun K hK => ?_)
  refine goes_ Try.func22 (by kernel_rfl) rfl #[.bool m.av, .int .i64 7] (by rfl) rfl rfl (by (try simp only [List.map_toArray, List.map_cons, List.map_nil]); rfl) ?_
  refine (bolterlaw05_bit.calls m.av 7 (bit1 m.av * 128) _ (bit_7 m.av)).mono ?_
  rintro e wq ⟨rfl, hb⟩
  refine ⟨_, rfl, ?_⟩
  refine hK.out _ _ (hHeld.trans (hb.below.mono hHeld.size)) (fun hHeld => ?_)
  clear hb
  clear hK K
  refine norm_ (a' := ?_) ?_ ?_
  rotate_left
  · show Act.put _ (some 33) _ = _
    simp only [Act.put, List.setIfInBounds_toArray, List.set_cons_zero, List.set_cons_succ, i64_w, i32_w]
    rfl
  refine pure_ (i := 23) (N := (some 34)) (v := ?_) (a' := ?_) #[true, true, true, true, true, true, true, true, true, true, true, true, true, true, true, true, true, true, true, true, true, true, true, true, true, true, true, false, false] rfl rfl (any_of HT_.out (by kernel_rfl)) (fun _ _ _ h => h) (Or.inl ⟨by rfl, ?_⟩) ?_ ?_
  rotate_left
  · intro w'
    go_simp
    with_reducible rfl
  rotate_left
  · simp only [Act.put, List.setIfInBounds_toArray, List.set_cons_zero, List.set_cons_succ, i64_w, i32_w]
    rfl
  refine pure_ (i := 27) (N := (some 38)) (v := ?_) (a' := ?_) #[true, true, true, true, true, true, true, true, true, true, true, true, true, true, true, true, true, true, true, true, true, true, true, true, true, true, true, true, false] rfl rfl (any_of HT_.out (by kernel_rfl)) (fun _ _ _ h => h) (Or.inl ⟨by rfl, ?_⟩) ?_ ?_
  rotate_left
  · intro w'
    go_simp
    with_reducible rfl
  rotate_left
  · simp only [Act.put, List.setIfInBounds_toArray, List.set_cons_zero, List.set_cons_succ, i64_w, i32_w]
    rfl
  refine pure_ (i := 28) (N := (some 4)) (v := ?_) (a' := ?_) #[true, true, true, true, true, true, true, true, true, true, true, true, true, true, true, true, true, true, true, true, true, true, true, true, true, true, true, true, true] rfl rfl (any_of HT_.out (by kernel_rfl)) (fun _ _ _ h => h) (Or.inl ⟨by rfl, ?_⟩) ?_ ?_
  rotate_left
  · intro w'
    go_simp
    with_reducible rfl
  rotate_left
  · simp only [Act.put, List.setIfInBounds_toArray, List.set_cons_zero, List.set_cons_succ, i64_w, i32_w]
    rfl
  refine done_ (done_of HT_.out (by kernel_rfl)) ?_
  rw [HFL.out]
  obtain ⟨w3, hw3⟩ : ∃ w3, wq = w3 := ⟨_, rfl⟩
  rw [hw3] at hHeld ⊢
  have HB3 := Lib.hid (HB2.out.trans (hHeld.mono HB2.out.size))
  have HBK3 := Lib.hid (blk_below HBK2.out hHeld)
  have HBH3 := Lib.hid (blk_below HBH.out hHeld)
  clear hw3 hHeld HB2 HBK2 HBH HFL
  have p12 := (blk_cell HBK3.out 12).trans rfl
  have p13 := (blk_cell HBK3.out 13).trans rfl
  obtain ⟨la, hla⟩ : ∃ x, (m.an.length : Int) % 65536 = x := ⟨_, rfl⟩
  obtain ⟨ln, hln⟩ : ∃ x, (m.ns.length : Int) % 65536 = x := ⟨_, rfl⟩
  have hLA : IntKind.u16.wrap (m.an.length : Int) = la := by rw [IntKind.wrap_u16]; exact hla
  have hLN : IntKind.u16.wrap (m.ns.length : Int) = ln := by rw [IntKind.wrap_u16]; exact hln
  have HLA := Lib.hid hLA
  have HLN := Lib.hid hLN
  have HLA2 := Lib.hid hla
  have HLN2 := Lib.hid hln
  clear hla hln hLA hLN
  obtain ⟨ke, hke⟩ : ∃ ke : Nat, m.ex.length + (if 0 < m.sz then 1 else 0) = ke := ⟨_, rfl⟩
  obtain ⟨le, hle⟩ : ∃ x, (ke : Int) % 65536 = x := ⟨_, rfl⟩
  have HLE : Hid (IntKind.u16.wrap (ke : Int) = le) := Lib.hid (by rw [IntKind.wrap_u16]; exact hle)
  have HLE2 := Lib.hid (And.intro hle hke)
  clear hle
  have HHM := Lib.hid hm.2.2.1
  have HKE := Lib.hid hke
  clear hke
  go_upto_if 44 with fail
  go_cut [5] from 44 to 46 (fun v wx => v = .int .i64 (ke : Int) ∧ wx = w3)
  case first =>
    by_cases hs : 0 < m.sz
    · have d1 : decide (m.sz > 0) = true := decide_eq_true hs
      have d2 : decide (0 < m.sz) = true := decide_eq_true hs
      have HW1 : Hid (wrap64 ((m.ex.length : Int) + 1) = (ke : Int)) := Lib.hid (by have h := HHM.out; have h2 := HKE.out; rw [if_pos hs] at h2; unfold wrap64; omega)
      go_wp2
      go_meet
      case rel => exact ⟨by rw [HW1.out], rfl⟩
    · have d1 : decide (m.sz > 0) = false := decide_eq_false hs
      have d2 : decide (0 < m.sz) = false := decide_eq_false hs
      have HW1 : Hid (m.ex.length = ke) := Lib.hid (by have h2 := HKE.out; rw [if_neg hs] at h2; exact h2)
      go_wp2
      go_meet
      case rel => exact ⟨by rw [HW1.out], rfl⟩
  case rest =>
    obtain ⟨rfl, hwc⟩ := hcut
    rw [hwc]
    clear hwc
    have h0 := (blk_cell HBH3.out 0).trans rfl
    have p10 := (blk_cell HBK3.out 10).trans rfl
    have p11 := (blk_cell HBK3.out 11).trans rfl
    have hLA := HLA.out
    have hLN := HLN.out
    have hLE := HLE.out
    go_wp2_with fail
    clear p12 p13 h0 p10 p11 hLA hLN hLE
    (try simp only [HLA.out, HLN.out, HLE.out])
    refine (put16_ none 0 [] _ 6 [m.id, flagsV m, 1, la, ln, le] _ (Kd.C_nil _ _) (Nat.zero_le _) (C_six w3 .u16 22 m.id (flagsV m) 1 la ln le) (Nat.le_refl _) (by simp)).mono ?_
    rintro e wd ⟨vc, rfl, hoc, hbc⟩
    have hbd : Below w3.heap.size w3 wd := (below_alloc (Below.refl _ _) _).trans (hbc.mono (by simp))
    have hoc2 := own_lower hoc (base' := w3.heap.size) (by simp)
    obtain ⟨b0, hb0⟩ : ∃ b0, [] ++ all16 [m.id, flagsV m, 1, la, ln, le] = b0 := ⟨_, rfl⟩
    have hb0l : b0.length = 12 := by rw [← hb0]; rfl
    rw [hb0] at hoc2
    obtain ⟨Av, cv, hv⟩ := own_slice hoc2
    subst hv
    have HB0 := Lib.hid hb0
    have HB0L := Lib.hid hb0l
    obtain ⟨F0, hW0, hF0⟩ := Wr.freshOf wd (base := w3.heap.size) hbd.size hoc2
    have hbd4 := hbd.trans ((below_alloc (Below.refl wd.heap.size wd) (.cells #[.slice Av b0.length cv, .map none] 70)).mono hbd.size)
    clear hb0 hb0l hoc hbc hF0
    go_upto_region 7 with fail
    obtain ⟨g, hg⟩ : ∃ g, wd.heap.size = g := ⟨_, rfl⟩
    obtain ⟨w4, hw4⟩ : ∃ w4, wd.alloc (.cells #[.slice Av b0.length cv, .map none] 70) = w4 := ⟨_, rfl⟩
    rw [hg, hw4] at hW0
    rw [hw4] at hbd4
    (try rw [hw4])
    (try rw [hg])
    have HW4 := Lib.hid hW0
    have HB4 := Lib.hid hbd4
    have HBK4 := Lib.hid (blk_below HBK3.out hbd4)
    clear hW0 hbd hbd4 hw4 hg hoc2
    have p8 := (blk_cell HBK4.out 8).trans rfl
    go_wp2_with fail
    clear p8
    have key := name_ HW4.out (bytesOf m.qn) (of_b8 m.qn) (by rw [of_size]; exact HM.out.2.1) (by have := HB0L.out; omega)
    rw [str_of] at key
    refine key.mono ?_
    clear key
    rintro e w5 ⟨rfl, hg5⟩
    have hn1 := namW_len (bytesOf m.qn) (b0, fun _ => none)
    obtain ⟨⟨b1, f1⟩, hz⟩ : ∃ s, namW (bytesOf m.qn) (b0, fun _ => none) = s := ⟨_, rfl⟩
    rw [hz] at hg5 hn1
    have HZ1 := Lib.hid hz
    have HL1 : Hid (b1.length ≤ 268) := Lib.hid (by have := HB0L.out; have := hn1.2; simp only at this; omega)
    have HB5 := Lib.hid (HB4.out.trans (goes_below HW4.out hg5))
    have HBK5 := Lib.hid (blk_below HBK3.out HB5.out)
    have HG5 := Lib.hid hg5
    clear hg5 hz hn1 HBK4
    go_upto_region 8 with fail
    refine start_ (n := 13) (ds := [12]) (S := fun W => Below w5.heap.size w5 W) #[false, false, false, false, false, false, false, false, false, false, false, false, false] (by kernel_rfl) rfl rfl (below_drew1 (Below.refl w5.heap.size w5)) (fun hHeld => ?_)
    refine with_tabW lwh_tab8 lwh_bits8 (fun HT_ HW_ => ?_)
    obtain ⟨wa, hwa⟩ : ∃ wa, w5.drew = wa := ⟨_, rfl⟩
    rw [hwa] at hHeld ⊢
    clear hwa
    obtain ⟨Ax, cx, hcx, hfx, hox, hCx, hlx⟩ := HG5.out.cell
    have HCX := Lib.hid hcx
    have HKX := Lib.hid hCx
    have HLX := Lib.hid hlx
    clear hcx hfx hox hCx hlx
    refine pure_ (i := 0) (N := (some 69)) (v := ?_) (a' := ?_) #[true, false, false, false, false, false, false, false, false, false, false, false, false] rfl rfl (any_of HT_.out (by kernel_rfl)) (fun _ _ _ h => h) (Or.inl ⟨by rfl, ?_⟩) ?_ ?_
    rotate_left
    · intro w'
      go_simp
      with_reducible rfl
    rotate_left
    · simp only [Act.put, List.setIfInBounds_toArray, List.set_cons_zero, List.set_cons_succ, i64_w, i32_w]
      rfl
    refine pure_ (i := 1) (N := (some 70)) (v := ?_) (a' := ?_) #[true, true, false, false, false, false, false, false, false, false, false, false, false] rfl rfl (any_of HT_.out (by kernel_rfl)) (fun _ _ _ h => h) (Or.inl ⟨by rfl, ?_⟩) ?_ ?_
    rotate_left
    · intro w'
      go_simp
      with_reducible rfl
    rotate_left
    · simp only [Act.put, List.setIfInBounds_toArray, List.set_cons_zero, List.set_cons_succ, i64_w, i32_w]
      rfl
    refine pure_ (i := 2) (N := (some 71)) (v := ?_) (a' := ?_) #[true, true, true, false, false, false, false, false, false, false, false, false, false] rfl rfl (any_of HT_.out (by kernel_rfl)) (fun _ _ _ h => h) (Or.inl ⟨by rfl, ?_⟩) ?_ ?_
    rotate_left
    · intro w'
      go_simp
      with_reducible rfl
    rotate_left
    · simp only [Act.put, List.setIfInBounds_toArray, List.set_cons_zero, List.set_cons_succ, i64_w, i32_w]
      rfl
    refine pure_ (i := 3) (N := (some 72)) (v := ?_) (a' := ?_) #[true, true, true, true, false, false, false, false, false, false, false, false, false] rfl rfl (any_of HT_.out (by kernel_rfl)) (fun _ _ _ h => h) (Or.inl ⟨by rfl, ?_⟩) ?_ ?_
    rotate_left
    · intro w'
      go_simp
      with_reducible rfl
    rotate_left
    · simp only [Act.put, List.setIfInBounds_toArray, List.set_cons_zero, List.set_cons_succ, i64_w, i32_w]
      rfl
    refine take_ (i := 4) (N := (some 73)) (v := ?_) (a' := ?_) #[true, true, true, true, true, false, false, false, false, false, false, false, false] rfl rfl (take_ofW HT_.out HW_.out (by kernel_rfl)) (fun _ _ _ h => h) (Or.inl ⟨by rfl, ?_⟩) hHeld ?_ ?_
    rotate_left
    · intro w' hS
      have hc := (hS.cell (World.block_lt_of_cell? w5 _ HCX.out)).trans HCX.out
      go_simp
      with_reducible rfl
    rotate_left
    · simp only [Act.put, List.setIfInBounds_toArray, List.set_cons_zero, List.set_cons_succ, i64_w, i32_w]
      rfl
    refine pure_ (i := 5) (N := (some 74)) (v := ?_) (a' := ?_) #[true, true, true, true, true, true, false, false, false, false, false, false, false] rfl rfl (any_of HT_.out (by kernel_rfl)) (fun _ _ _ h => h) (Or.inl ⟨by rfl, ?_⟩) ?_ ?_
    rotate_left
    · intro w'
      go_simp
      with_reducible rfl
    rotate_left
    · simp only [Act.put, List.setIfInBounds_toArray, List.set_cons_zero, List.set_cons_succ, i64_w, i32_w]
      rfl
    refine pure_ (i := 6) (N := (some 75)) (v := ?_) (a' := ?_) #[true, true, true, true, true, true, true, false, false, false, false, false, false] rfl rfl (any_of HT_.out (by kernel_rfl)) (fun _ _ _ h => h) (Or.inl ⟨by rfl, ?_⟩) ?_ ?_
    rotate_left
    · intro w'
      go_simp
      with_reducible rfl
    rotate_left
    · simp only [Act.put, List.setIfInBounds_toArray, List.set_cons_zero, List.set_cons_succ, i64_w, i32_w]
      rfl
    refine take_ (i := 7) (N := (some 76)) (v := ?_) (a' := ?_) #[true, true, true, true, true, true, true, true, false, false, false, false, false] rfl rfl (take_ofW HT_.out HW_.out (by kernel_rfl)) (fun _ _ _ h => h) (Or.inl ⟨by rfl, ?_⟩) hHeld ?_ ?_
    rotate_left
    · intro w' hS
      have hb := (blk_cell (blk_below HBK5.out hS) 9).trans rfl
      go_simp
      with_reducible rfl
    rotate_left
    · simp only [Act.put, List.setIfInBounds_toArray, List.set_cons_zero, List.set_cons_succ, i64_w, i32_w]
      rfl
    refine one_ (i := 8) (N := (some 77)) #[true, true, true, true, true, true, true, true, true, false, false, false, false] rfl rfl (one_of HT_.out (by kernel_rfl)) (by decide) (fun K hK => ?_)
    go_simp
    refine hK.out _ _ (below_alloc hHeld _) (fun hHeld => ?_)
    clear hK K
    have hCl : Kd.C (Kd.int .u16) (wa.alloc (.cells #[.int .u16 (m.qt), .int .u16 1] 22)) (some ⟨wa.heap.size, 0, none⟩) ([m.qt, 1] : List Int).length [m.qt, 1] := C_two wa .u16 22 _ _
    obtain ⟨gl, hgl⟩ : ∃ gl, wa.heap.size = gl := ⟨_, rfl⟩
    obtain ⟨wb, hwb⟩ : ∃ wb, wa.alloc (.cells #[.int .u16 (m.qt), .int .u16 1] 22) = wb := ⟨_, rfl⟩
    rw [hgl, hwb] at hCl
    rw [hwb] at hHeld ⊢
    rw [hgl]
    have HCL := Lib.hid hCl
    clear hCl hgl hwb
    refine one_ (i := 9) (N := (some 78)) #[true, true, true, true, true, true, true, true, true, true, false, false, false] rfl rfl (one_of HT_.out (by kernel_rfl)) (by decide) (fun K hK => ?_)
    refine goes_ Try.func23 (by kernel_rfl) rfl #[.slice Ax b1.length cx, .slice (some ⟨gl, 0, none⟩) 2 2] (by rfl) rfl rfl (by (try simp only [List.map_toArray, List.map_cons, List.map_nil]); rfl) ?_
    refine (put16_ Ax cx b1 _ 2 [m.qt, 1] _ (Kd.C_below HKX.out hHeld) HLX.out HCL.out (Nat.le_refl _) (by have := HL1.out; simp only [List.length_cons, List.length_nil]; omega)).mono ?_
    rintro e wc ⟨vc, rfl, hoc, hbc⟩
    have hoc2 := own_lower hoc hHeld.size
    obtain ⟨bn, hbn⟩ : ∃ bn, b1 ++ all16 [m.qt, 1] = bn := ⟨_, rfl⟩
    have hbnl : bn.length = b1.length + 4 := by rw [← hbn, List.length_append, all16_len]; rfl
    rw [hbn] at hoc2
    obtain ⟨Av, cv, hv⟩ := own_slice hoc2
    subst hv
    have HBN := Lib.hid hbn
    have HBNL := Lib.hid hbnl
    clear hbn hbnl
    refine ⟨_, rfl, ?_⟩
    refine hK.out _ _ (hHeld.trans (hbc.mono hHeld.size)) (fun hHeld => ?_)
    clear hbc hoc
    clear hK K
    refine norm_ (a' := ?_) ?_ ?_
    rotate_left
    · show Act.put _ (some 78) _ = _
      simp only [Act.put, List.setIfInBounds_toArray, List.set_cons_zero, List.set_cons_succ, i64_w, i32_w]
      rfl
    refine pure_ (i := 10) (N := (some 79)) (v := ?_) (a' := ?_) #[true, true, true, true, true, true, true, true, true, true, true, false, false] rfl rfl (any_of HT_.out (by kernel_rfl)) (fun _ _ _ h => h) (Or.inl ⟨by rfl, ?_⟩) ?_ ?_
    rotate_left
    · intro w'
      go_simp
      with_reducible rfl
    rotate_left
    · simp only [Act.put, List.setIfInBounds_toArray, List.set_cons_zero, List.set_cons_succ, i64_w, i32_w]
      rfl
    refine pure_ (i := 11) (N := (some 80)) (v := ?_) (a' := ?_) #[true, true, true, true, true, true, true, true, true, true, true, true, false] rfl rfl (any_of HT_.out (by kernel_rfl)) (fun _ _ _ h => h) (Or.inl ⟨by rfl, ?_⟩) ?_ ?_
    rotate_left
    · intro w'
      go_simp
      with_reducible rfl
    rotate_left
    · simp only [Act.put, List.setIfInBounds_toArray, List.set_cons_zero, List.set_cons_succ, i64_w, i32_w]
      rfl
    have hcf := (HG5.out.below hHeld).cell
    obtain ⟨Ay, cy, hcy, hfy, -, -, -⟩ := hcf
    have HGN := Lib.hid (HG5.out.put hHeld hoc2 (by have := HBNL.out; omega) (by have := HBNL.out; omega))
    refine last_ (i := 12) (N := none) #[true, true, true, true, true, true, true, true, true, true, true, true, true] rfl rfl (one_of HT_.out (by kernel_rfl)) (by decide) (fun K hK => ?_)
    go_simp
    refine hK.out _ _ ?_
    clear hK K
    refine done_ (done_of HT_.out (by kernel_rfl)) ?_
    obtain ⟨w6, hw6⟩ : ∃ wx, wc.setCell ⟨g, 0, none⟩ (.slice Av bn.length cv) = wx := ⟨_, rfl⟩
    rw [hw6] at HGN ⊢
    clear hw6 hcy hfy HCX HKX HLX HCL hoc2 hHeld
    have HB6 := Lib.hid (HB4.out.trans (goes_below HW4.out HGN.out))
    have HBK6 := Lib.hid (blk_below HBK3.out HB6.out)
    have HB6w := Lib.hid (HB3.out.trans (HB6.out.mono HB3.out.size))
    obtain ⟨F6, hW6, hs6, hT6⟩ := HGN.out
    obtain ⟨bb, hb2⟩ : ∃ bb, bn = bb := ⟨_, rfl⟩
    rw [hb2] at HBN HBNL hW6
    have HLb : Hid (bb.length ≤ 272) := Lib.hid (by have := HL1.out; have := HBNL.out; omega)
    have HBb := Lib.hid HBN.out
    have HW6 := Lib.hid hW6
    clear hb2 HBN HBNL hW6 hs6 hT6 HGN HG5 HBK5
    go_upto_region 9 with fail
    refine start_ (n := 11) (ds := ([] : List Nat)) (S := fun W => Below w6.heap.size w6 W) #[false, false, false, false, false, false, false, false, false, false, false] (by kernel_rfl) rfl rfl (below_drew1 (Below.refl w6.heap.size w6)) (fun hHeld => ?_)
    refine with_tabW lwh_tab9 lwh_bits9 (fun HT_ HW_ => ?_)
    refine pure_ (i := 10) (N := (some 91)) (v := ?_) (a' := ?_) #[false, false, false, false, false, false, false, false, false, false, true] rfl rfl (any_of HT_.out (by kernel_rfl)) (fun _ _ _ h => h) (Or.inl ⟨by rfl, ?_⟩) ?_ ?_
    rotate_left
    · intro w'
      go_simp
      with_reducible rfl
    rotate_left
    · simp only [Act.put, List.setIfInBounds_toArray, List.set_cons_zero, List.set_cons_succ, i64_w, i32_w]
      rfl
    refine pure_ (i := 0) (N := (some 81)) (v := ?_) (a' := ?_) #[true, false, false, false, false, false, false, false, false, false, true] rfl rfl (any_of HT_.out (by kernel_rfl)) (fun _ _ _ h => h) (Or.inl ⟨by rfl, ?_⟩) ?_ ?_
    rotate_left
    · intro w'
      go_simp
      with_reducible rfl
    rotate_left
    · simp only [Act.put, List.setIfInBounds_toArray, List.set_cons_zero, List.set_cons_succ, i64_w, i32_w]
      rfl
    refine take_ (i := 1) (N := (some 82)) (v := ?_) (a' := ?_) #[true, true, false, false, false, false, false, false, false, false, true] rfl rfl (take_ofW HT_.out HW_.out (by kernel_rfl)) (fun _ _ _ h => h) (Or.inl ⟨by rfl, ?_⟩) hHeld ?_ ?_
    rotate_left
    · intro w' hS
      have hb := (blk_cell (blk_below HBK6.out hS) 10).trans rfl
      go_simp
      with_reducible rfl
    rotate_left
    · simp only [Act.put, List.setIfInBounds_toArray, List.set_cons_zero, List.set_cons_succ, i64_w, i32_w]
      rfl
    refine pure_ (i := 3) (N := (some 84)) (v := ?_) (a' := ?_) #[true, true, false, true, false, false, false, false, false, false, true] rfl rfl (any_of HT_.out (by kernel_rfl)) (fun _ _ _ h => h) (Or.inl ⟨by rfl, ?_⟩) ?_ ?_
    rotate_left
    · intro w'
      go_simp
      with_reducible rfl
    rotate_left
    · simp only [Act.put, List.setIfInBounds_toArray, List.set_cons_zero, List.set_cons_succ, i64_w, i32_w]
      rfl
    refine take_ (i := 4) (N := (some 85)) (v := ?_) (a' := ?_) #[true, true, false, true, true, false, false, false, false, false, true] rfl rfl (take_ofW HT_.out HW_.out (by kernel_rfl)) (fun _ _ _ h => h) (Or.inl ⟨by rfl, ?_⟩) hHeld ?_ ?_
    rotate_left
    · intro w' hS
      have hb := (blk_cell (blk_below HBK6.out hS) 11).trans rfl
      go_simp
      with_reducible rfl
    rotate_left
    · simp only [Act.put, List.setIfInBounds_toArray, List.set_cons_zero, List.set_cons_succ, i64_w, i32_w]
      rfl
    refine pure_ (i := 6) (N := (some 87)) (v := ?_) (a' := ?_) #[true, true, false, true, true, false, true, false, false, false, true] rfl rfl (any_of HT_.out (by kernel_rfl)) (fun _ _ _ h => h) (Or.inl ⟨by rfl, ?_⟩) ?_ ?_
    rotate_left
    · intro w'
      go_simp
      with_reducible rfl
    rotate_left
    · simp only [Act.put, List.setIfInBounds_toArray, List.set_cons_zero, List.set_cons_succ, i64_w, i32_w]
      rfl
    refine take_ (i := 7) (N := (some 88)) (v := ?_) (a' := ?_) #[true, true, false, true, true, false, true, true, false, false, true] rfl rfl (take_ofW HT_.out HW_.out (by kernel_rfl)) (fun _ _ _ h => h) (Or.inl ⟨by rfl, ?_⟩) hHeld ?_ ?_
    rotate_left
    · intro w' hS
      have hb := (blk_cell (blk_below HBK6.out hS) 12).trans rfl
      go_simp
      with_reducible rfl
    rotate_left
    · simp only [Act.put, List.setIfInBounds_toArray, List.set_cons_zero, List.set_cons_succ, i64_w, i32_w]
      rfl
    refine one_ (i := 2) (N := (some 83)) #[true, true, true, true, true, false, true, true, false, false, true] rfl rfl (one_of HT_.out (by kernel_rfl)) (by decide) (fun K hK => ?_)
    refine Kd.R_append_rows_step k37 (w0 := w6) w6.heap.size (by rfl) (.const (.slice none 0 0)) (.tmp 82) 29 37 (.agg #[(.string ⟨#[]⟩), (.int .u16 0), (.int .u32 0), (.string ⟨#[]⟩)]) 40 rfl Try.underlying29 info37 rfl (by decide) (by omega) (.slice none 0 0) [] m.an _ _ _ (fun _ => True) (fun _ => False) rfl rfl (Kd.R_nil _ _ _ _ _) (Kd.C_below HCA.out (HB6w.out.trans (hHeld.mono HB6w.out.size))) (fun _ _ h => h) (fun _ h => h.elim) (fun k hk => trivial) hHeld hHeld.size (by have hm := HM.out; exact Nat.le_trans (Nat.mul_le_mul_right 40 (show _ ≤ 400000 by simp only [List.length_append, List.length_nil]; have h1 := hm.2.2.1; have h2 := hm.2.2.2.1; have h3 := hm.2.2.2.2.1; omega)) (by decide)) ?_
    intro v83 wr83 hR hB hg hat
    have HO83 := Lib.hid hR
    refine hK.out _ _ hB (fun hHeld => ?_)
    clear hR hB hg hat
    clear hK K
    refine norm_ (a' := ?_) ?_ ?_
    rotate_left
    · show Act.put _ (some 83) _ = _
      simp only [Act.put, List.setIfInBounds_toArray, List.set_cons_zero, List.set_cons_succ, i64_w, i32_w]
      rfl
    refine one_ (i := 5) (N := (some 86)) #[true, true, true, true, true, true, true, true, false, false, true] rfl rfl (one_of HT_.out (by kernel_rfl)) (by decide) (fun K hK => ?_)
    refine Kd.R_append_rows_step k37 (w0 := w6) w6.heap.size (by rfl) (.tmp 83) (.tmp 85) 29 37 (.agg #[(.string ⟨#[]⟩), (.int .u16 0), (.int .u32 0), (.string ⟨#[]⟩)]) 40 rfl Try.underlying29 info37 rfl (by decide) (by omega) v83 _ m.ns _ _ _ (fun _ => True) (fun _ => False) rfl rfl HO83.out (Kd.C_below HCN.out (HB6w.out.trans (hHeld.mono HB6w.out.size))) (fun _ _ h => h) (fun _ h => h.elim) (fun k hk => trivial) hHeld hHeld.size (by have hm := HM.out; exact Nat.le_trans (Nat.mul_le_mul_right 40 (show _ ≤ 400000 by simp only [List.length_append, List.length_nil]; have h1 := hm.2.2.1; have h2 := hm.2.2.2.1; have h3 := hm.2.2.2.2.1; omega)) (by decide)) ?_
    intro v86 wr86 hR hB hg hat
    have HO86 := Lib.hid hR
    refine hK.out _ _ hB (fun hHeld => ?_)
    clear hR hB hg hat
    clear hK K
    refine norm_ (a' := ?_) ?_ ?_
    rotate_left
    · show Act.put _ (some 86) _ = _
      simp only [Act.put, List.setIfInBounds_toArray, List.set_cons_zero, List.set_cons_succ, i64_w, i32_w]
      rfl
    refine one_ (i := 8) (N := (some 89)) #[true, true, true, true, true, true, true, true, true, false, true] rfl rfl (one_of HT_.out (by kernel_rfl)) (by decide) (fun K hK => ?_)
    refine Kd.R_append_rows_step k37 (w0 := w6) w6.heap.size (by rfl) (.tmp 86) (.tmp 88) 29 37 (.agg #[(.string ⟨#[]⟩), (.int .u16 0), (.int .u32 0), (.string ⟨#[]⟩)]) 40 rfl Try.underlying29 info37 rfl (by decide) (by omega) v86 _ m.ex _ _ _ (fun _ => True) (fun _ => False) rfl rfl HO86.out (Kd.C_below HCE.out (HB6w.out.trans (hHeld.mono HB6w.out.size))) (fun _ _ h => h) (fun _ h => h.elim) (fun k hk => trivial) hHeld hHeld.size (by have hm := HM.out; exact Nat.le_trans (Nat.mul_le_mul_right 40 (show _ ≤ 400000 by simp only [List.length_append, List.length_nil]; have h1 := hm.2.2.1; have h2 := hm.2.2.2.1; have h3 := hm.2.2.2.2.1; omega)) (by decide)) ?_
    intro v89 wr89 hR hB hg hat
    have HO89 := Lib.hid hR
    refine hK.out _ _ hB (fun hHeld => ?_)
    clear hR hB hg hat
    clear hK K
    refine norm_ (a' := ?_) ?_ ?_
    rotate_left
    · show Act.put _ (some 89) _ = _
      simp only [Act.put, List.setIfInBounds_toArray, List.set_cons_zero, List.set_cons_succ, i64_w, i32_w]
      rfl
    obtain ⟨rs, hrs⟩ : ∃ rs : List R, [] ++ m.an ++ m.ns ++ m.ex = rs := ⟨_, rfl⟩
    have hO := HO89.out
    rw [hrs] at hO
    obtain ⟨A9, c9, hv9, hc9, hC9⟩ := Kd.R_reads hO
    obtain ⟨inner, hown⟩ := Kd.R_own hO
    have hbl : ∀ ad, A9 = some ad → w6.heap.size ≤ ad.block := fun ad e => own_base hown ad.block (by rw [hv9, e]; first | rfl | simp [Value.ownBlock])
    subst hv9
    have HRS := Lib.hid hrs
    have HBL := Lib.hid hbl
    have HC9 := Lib.hid hC9
    clear hO hown hbl hC9 HO83 HO86 HO89 hrs
    refine pure_ (i := 9) (N := (some 90)) (v := ?_) (a' := ?_) #[true, true, true, true, true, true, true, true, true, true, true] rfl rfl (any_of HT_.out (by kernel_rfl)) (fun _ _ _ h => h) (Or.inl ⟨by rfl, ?_⟩) ?_ ?_
    rotate_left
    · intro w'
      go_simp
      with_reducible rfl
    rotate_left
    · simp only [Act.put, List.setIfInBounds_toArray, List.set_cons_zero, List.set_cons_succ, i64_w, i32_w]
      rfl
    refine done_ (done_of HT_.out (by kernel_rfl)) ?_
    obtain ⟨w9, hw9⟩ : ∃ w9, wr89 = w9 := ⟨_, rfl⟩
    rw [hw9] at hHeld HC9 ⊢
    have HW9 := Lib.hid (HW6.out.below hHeld)
    have HB9 := Lib.hid (HB6.out.trans (hHeld.mono HB6.out.size))
    have HF9 : Hid (∀ ad, A9 = some ad → ad.block ∉ F6) := Lib.hid (fun ad e hk => by have h1 := (HW6.out.foot _ hk).2; have h2 := HBL.out ad e; omega)
    have HWR : Hid (∀ r ∈ rs, WfR r) := Lib.hid (fun r hr => by
      rw [← HRS.out] at hr
      have hm := HM.out
      simp only [List.nil_append, List.mem_append] at hr
      rcases hr with (hr | hr) | hr
      · exact hm.1.1 r hr
      · exact hm.1.2.1 r hr
      · exact hm.1.2.2 r hr)
    have HLR : Hid (rs.length ≤ 300000) := Lib.hid (by
      rw [← HRS.out]
      have hm := HM.out
      simp only [List.nil_append, List.length_append]
      have h1 := hm.2.2.1
      have h2 := hm.2.2.2.1
      have h3 := hm.2.2.2.2.1
      omega)
    clear hw9 hHeld HBK6 HBL hc9
    go_wp2_with fail
    go_loopw [91] (fun i wx => ∃ q : Nat, q ≤ rs.length ∧ i = .int .i64 q ∧ Aside0 (Goes w9 wx w3.heap.size g F6 (recsW (rs.take q) (bb, f1)).1 (recsW (rs.take q) (bb, f1)).2))
      (fun i _ => rs.length - (intOf i).toNat)
    case atStart => exact ⟨0, Nat.zero_le _, rfl, ⟨Goes.refl HW9.out⟩⟩
    case round =>
      obtain ⟨q, hq, rfl, HG⟩ := hrel
      have HGq := Lib.hid HG.out
      clear HG
      by_cases hql : q < rs.length
      · obtain ⟨r, hr⟩ : ∃ r, rs[q]? = some r := ⟨_, List.getElem?_eq_getElem hql⟩
        have hrd := rd_Rm hr
        have hq3 : q < 300000 := by have := HLR.out; omega
        obtain ⟨ad, hA, q0, q1, q2, q3⟩ := at_T37 HC9.out (q : Int) (by omega) (by omega)
        simp only [Int.toNat_natCast, hrd] at q0 q1 q2 q3
        have hnf := HF9.out ad hA
        have hT := HGq.out.turn
        replace q0 := hT.cell q0 (by rw [add_block]; exact hnf)
        replace q1 := hT.cell q1 (by rw [add_block]; exact hnf)
        replace q2 := hT.cell q2 (by rw [add_block]; exact hnf)
        replace q3 := hT.cell q3 (by rw [add_block]; exact hnf)
        subst hA
        have HR := Lib.hid hr
        have HD := Lib.hid (HWR.out r (List.mem_of_getElem? hr))
        have hlen := recsW_len (rs.take q) (bb, f1)
        obtain ⟨⟨zq, fq⟩, hzq⟩ : ∃ s, recsW (rs.take q) (bb, f1) = s := ⟨_, rfl⟩
        rw [hzq] at HGq hlen
        have hzl : zq.length ≤ 600000000 := by
          have h1 : zq.length ≤ bb.length + 1500 * (rs.take q).length := hlen.2
          have h2 := HLb.out
          have h3 := HLR.out
          have h4 : (rs.take q).length ≤ rs.length := by rw [List.length_take]; omega
          omega
        have HZQ := Lib.hid hzq
        clear hr hrd hnf hT hlen hzq
        go_upto_region 12 with fail
        clear q0 q1 q2 q3
        obtain ⟨gR, hgR⟩ : ∃ gR, wr.heap.size = gR := ⟨_, rfl⟩
        obtain ⟨Fy, hWr, hsy, hTr⟩ := HGq.out
        have hby := below_alloc (Below.refl wr.heap.size wr) (Obj.cells #[.string r.f0, .int .u16 r.f1, .int .u32 r.f2, .string r.f3] 37)
        have hgF : ∀ k ∈ Fy, k ≠ gR := fun k hk e => by have := (hWr.foot k hk).2; omega
        have hWy := hWr.below hby
        have hTy := hTr.trans (Turned.of_below hby Fy) (fun b hb => hsy b hb)
        clear hby hWr hTr
        obtain ⟨wy, hwy⟩ : ∃ wy, wr.alloc (Obj.cells #[.string r.f0, .int .u16 r.f1, .int .u32 r.f2, .string r.f3] 37) = wy := ⟨_, rfl⟩
        have hX : wy.heap[gR]? = some (Obj.cells #[.string r.f0, .int .u16 r.f1, .int .u32 r.f2, .string r.f3] 37 (0, 0)) := by rw [← hwy, ← hgR]; exact blk_new wr _
        rw [hwy] at hWy hTy
        (try rw [hwy])
        (try rw [hgR])
        have HW1 := Lib.hid hWy
        have HWy := Lib.hid hWy
        have HSy := Lib.hid hsy
        have HTy := Lib.hid hTy
        have HBK1 := Lib.hid hX
        have HGF := Lib.hid hgF
        clear hWy hsy hTy hX hwy hgR hgF
        have p0 := (blk_cell HBK1.out 0).trans rfl
        go_wp2_with fail
        clear p0
        have key := name_ HW1.out (bytesOf r.f0) (of_b8 r.f0) (by rw [of_size]; exact HD.out.2.2.1) (by omega)
        rw [str_of] at key
        refine key.mono ?_
        clear key
        rintro e w2 ⟨rfl, hg⟩
        have hn1 := namW_len (bytesOf r.f0) (zq, fq)
        obtain ⟨⟨b2, f2⟩, hz⟩ : ∃ s, namW (bytesOf r.f0) (zq, fq) = s := ⟨_, rfl⟩
        rw [hz] at hg hn1
        have HZ := Lib.hid hz
        have HL2 : Hid (b2.length ≤ zq.length + 256) := Lib.hid hn1.2
        have HBK2 := Lib.hid (hg.turn.blk HBK1.out (fun hk => HGF.out gR hk rfl))
        have HG2 := Lib.hid hg
        clear hg hz hn1
        go_upto_region 13 with fail
        refine start_ (n := 12) (ds := [11]) (S := fun W => Below w2.heap.size w2 W) #[false, false, false, false, false, false, false, false, false, false, false, false] (by kernel_rfl) rfl rfl (below_drew1 (Below.refl w2.heap.size w2)) (fun hHeld => ?_)
        refine with_tabW lwh_tab13 lwh_bits13 (fun HT_ HW_ => ?_)
        obtain ⟨wa, hwa⟩ : ∃ wa, w2.drew = wa := ⟨_, rfl⟩
        rw [hwa] at hHeld ⊢
        clear hwa
        obtain ⟨Ax, cx, hcx, hfx, hox, hCx, hlx⟩ := HG2.out.cell
        have HCX := Lib.hid hcx
        have HKX := Lib.hid hCx
        have HLX := Lib.hid hlx
        clear hcx hfx hox hCx hlx
        refine pure_ (i := 0) (N := (some 99)) (v := ?_) (a' := ?_) #[true, false, false, false, false, false, false, false, false, false, false, false] rfl rfl (any_of HT_.out (by kernel_rfl)) (fun _ _ _ h => h) (Or.inl ⟨by rfl, ?_⟩) ?_ ?_
        rotate_left
        · intro w'
          go_simp
          with_reducible rfl
        rotate_left
        · simp only [Act.put, List.setIfInBounds_toArray, List.set_cons_zero, List.set_cons_succ, i64_w, i32_w]
          rfl
        refine pure_ (i := 1) (N := (some 100)) (v := ?_) (a' := ?_) #[true, true, false, false, false, false, false, false, false, false, false, false] rfl rfl (any_of HT_.out (by kernel_rfl)) (fun _ _ _ h => h) (Or.inl ⟨by rfl, ?_⟩) ?_ ?_
        rotate_left
        · intro w'
          go_simp
          with_reducible rfl
        rotate_left
        · simp only [Act.put, List.setIfInBounds_toArray, List.set_cons_zero, List.set_cons_succ, i64_w, i32_w]
          rfl
        refine pure_ (i := 2) (N := (some 101)) (v := ?_) (a' := ?_) #[true, true, true, false, false, false, false, false, false, false, false, false] rfl rfl (any_of HT_.out (by kernel_rfl)) (fun _ _ _ h => h) (Or.inl ⟨by rfl, ?_⟩) ?_ ?_
        rotate_left
        · intro w'
          go_simp
          with_reducible rfl
        rotate_left
        · simp only [Act.put, List.setIfInBounds_toArray, List.set_cons_zero, List.set_cons_succ, i64_w, i32_w]
          rfl
        refine pure_ (i := 3) (N := (some 102)) (v := ?_) (a' := ?_) #[true, true, true, true, false, false, false, false, false, false, false, false] rfl rfl (any_of HT_.out (by kernel_rfl)) (fun _ _ _ h => h) (Or.inl ⟨by rfl, ?_⟩) ?_ ?_
        rotate_left
        · intro w'
          go_simp
          with_reducible rfl
        rotate_left
        · simp only [Act.put, List.setIfInBounds_toArray, List.set_cons_zero, List.set_cons_succ, i64_w, i32_w]
          rfl
        refine take_ (i := 4) (N := (some 103)) (v := ?_) (a' := ?_) #[true, true, true, true, true, false, false, false, false, false, false, false] rfl rfl (take_ofW HT_.out HW_.out (by kernel_rfl)) (fun _ _ _ h => h) (Or.inl ⟨by rfl, ?_⟩) hHeld ?_ ?_
        rotate_left
        · intro w' hS
          have hc := (hS.cell (World.block_lt_of_cell? w2 _ HCX.out)).trans HCX.out
          go_simp
          with_reducible rfl
        rotate_left
        · simp only [Act.put, List.setIfInBounds_toArray, List.set_cons_zero, List.set_cons_succ, i64_w, i32_w]
          rfl
        refine pure_ (i := 5) (N := (some 104)) (v := ?_) (a' := ?_) #[true, true, true, true, true, true, false, false, false, false, false, false] rfl rfl (any_of HT_.out (by kernel_rfl)) (fun _ _ _ h => h) (Or.inl ⟨by rfl, ?_⟩) ?_ ?_
        rotate_left
        · intro w'
          go_simp
          with_reducible rfl
        rotate_left
        · simp only [Act.put, List.setIfInBounds_toArray, List.set_cons_zero, List.set_cons_succ, i64_w, i32_w]
          rfl
        refine take_ (i := 6) (N := (some 105)) (v := ?_) (a' := ?_) #[true, true, true, true, true, true, true, false, false, false, false, false] rfl rfl (take_ofW HT_.out HW_.out (by kernel_rfl)) (fun _ _ _ h => h) (Or.inl ⟨by rfl, ?_⟩) hHeld ?_ ?_
        rotate_left
        · intro w' hS
          have hb := (blk_cell (blk_below HBK2.out hS) 1).trans rfl
          go_simp
          with_reducible rfl
        rotate_left
        · simp only [Act.put, List.setIfInBounds_toArray, List.set_cons_zero, List.set_cons_succ, i64_w, i32_w]
          rfl
        refine one_ (i := 7) (N := (some 106)) #[true, true, true, true, true, true, true, true, false, false, false, false] rfl rfl (one_of HT_.out (by kernel_rfl)) (by decide) (fun K hK => ?_)
        go_simp
        refine hK.out _ _ (below_alloc hHeld _) (fun hHeld => ?_)
        clear hK K
        have hCl : Kd.C (Kd.int .u16) (wa.alloc (.cells #[.int .u16 (r.f1), .int .u16 1] 22)) (some ⟨wa.heap.size, 0, none⟩) ([r.f1, 1] : List Int).length [r.f1, 1] := C_two wa .u16 22 _ _
        obtain ⟨gl, hgl⟩ : ∃ gl, wa.heap.size = gl := ⟨_, rfl⟩
        obtain ⟨wb, hwb⟩ : ∃ wb, wa.alloc (.cells #[.int .u16 (r.f1), .int .u16 1] 22) = wb := ⟨_, rfl⟩
        rw [hgl, hwb] at hCl
        rw [hwb] at hHeld ⊢
        rw [hgl]
        have HCL := Lib.hid hCl
        clear hCl hgl hwb
        refine one_ (i := 8) (N := (some 107)) #[true, true, true, true, true, true, true, true, true, false, false, false] rfl rfl (one_of HT_.out (by kernel_rfl)) (by decide) (fun K hK => ?_)
        refine goes_ Try.func23 (by kernel_rfl) rfl #[.slice Ax b2.length cx, .slice (some ⟨gl, 0, none⟩) 2 2] (by rfl) rfl rfl (by (try simp only [List.map_toArray, List.map_cons, List.map_nil]); rfl) ?_
        refine (put16_ Ax cx b2 _ 2 [r.f1, 1] _ (Kd.C_below HKX.out hHeld) HLX.out HCL.out (Nat.le_refl _) (by have := HL2.out; simp only [List.length_cons, List.length_nil]; omega)).mono ?_
        rintro e wc ⟨vc, rfl, hoc, hbc⟩
        have hoc2 := own_lower hoc hHeld.size
        obtain ⟨bn, hbn⟩ : ∃ bn, b2 ++ all16 [r.f1, 1] = bn := ⟨_, rfl⟩
        have hbnl : bn.length = b2.length + 4 := by rw [← hbn, List.length_append, all16_len]; rfl
        rw [hbn] at hoc2
        obtain ⟨Av, cv, hv⟩ := own_slice hoc2
        subst hv
        have HBN := Lib.hid hbn
        have HBNL := Lib.hid hbnl
        clear hbn hbnl
        refine ⟨_, rfl, ?_⟩
        refine hK.out _ _ (hHeld.trans (hbc.mono hHeld.size)) (fun hHeld => ?_)
        clear hbc hoc
        clear hK K
        refine norm_ (a' := ?_) ?_ ?_
        rotate_left
        · show Act.put _ (some 107) _ = _
          simp only [Act.put, List.setIfInBounds_toArray, List.set_cons_zero, List.set_cons_succ, i64_w, i32_w]
          rfl
        refine pure_ (i := 9) (N := (some 108)) (v := ?_) (a' := ?_) #[true, true, true, true, true, true, true, true, true, true, false, false] rfl rfl (any_of HT_.out (by kernel_rfl)) (fun _ _ _ h => h) (Or.inl ⟨by rfl, ?_⟩) ?_ ?_
        rotate_left
        · intro w'
          go_simp
          with_reducible rfl
        rotate_left
        · simp only [Act.put, List.setIfInBounds_toArray, List.set_cons_zero, List.set_cons_succ, i64_w, i32_w]
          rfl
        refine pure_ (i := 10) (N := (some 109)) (v := ?_) (a' := ?_) #[true, true, true, true, true, true, true, true, true, true, true, false] rfl rfl (any_of HT_.out (by kernel_rfl)) (fun _ _ _ h => h) (Or.inl ⟨by rfl, ?_⟩) ?_ ?_
        rotate_left
        · intro w'
          go_simp
          with_reducible rfl
        rotate_left
        · simp only [Act.put, List.setIfInBounds_toArray, List.set_cons_zero, List.set_cons_succ, i64_w, i32_w]
          rfl
        have hcf := (HG2.out.below hHeld).cell
        obtain ⟨Ay, cy, hcy, hfy, -, -, -⟩ := hcf
        have HGN := Lib.hid (HG2.out.put hHeld hoc2 (by have := HBNL.out; omega) (by have := HBNL.out; omega))
        refine last_ (i := 11) (N := none) #[true, true, true, true, true, true, true, true, true, true, true, true] rfl rfl (one_of HT_.out (by kernel_rfl)) (by decide) (fun K hK => ?_)
        go_simp
        refine hK.out _ _ ?_
        clear hK K
        refine done_ (done_of HT_.out (by kernel_rfl)) ?_
        obtain ⟨w3, hw3⟩ : ∃ wx, wc.setCell ⟨g, 0, none⟩ (.slice Av bn.length cv) = wx := ⟨_, rfl⟩
        rw [hw3] at HGN ⊢
        clear hw3 hcy hfy HCX HKX HLX HCL hoc2 hHeld
        have hHT : Turned Fy wy w3 := HGN.out.turn
        have HBK3 := Lib.hid (hHT.blk HBK1.out (fun hk => HGF.out gR hk rfl))
        have hHL : bn.length ≤ zq.length + 260 := by have := HL2.out; have := HBNL.out; omega
        have HG3 := Lib.hid HGN.out
        have HL3 := Lib.hid hHL
        have HB3 := Lib.hid HBN.out
        clear hHT HGN HG2 HBK2 hHL HBN HBNL
        obtain ⟨b3, hb3⟩ : ∃ b3, bn = b3 := ⟨_, rfl⟩
        rw [hb3] at HG3 HL3 HB3 ⊢
        clear hb3
        go_upto_region 14 with fail
        refine start_ (n := 12) (ds := [11]) (S := fun W => Below w3.heap.size w3 W) #[false, false, false, false, false, false, false, false, false, false, false, false] (by kernel_rfl) rfl rfl (below_drew1 (Below.refl w3.heap.size w3)) (fun hHeld => ?_)
        refine with_tabW lwh_tab14 lwh_bits14 (fun HT_ HW_ => ?_)
        obtain ⟨wa, hwa⟩ : ∃ wa, w3.drew = wa := ⟨_, rfl⟩
        rw [hwa] at hHeld ⊢
        clear hwa
        obtain ⟨Ax, cx, hcx, hfx, hox, hCx, hlx⟩ := HG3.out.cell
        have HCX := Lib.hid hcx
        have HKX := Lib.hid hCx
        have HLX := Lib.hid hlx
        clear hcx hfx hox hCx hlx
        refine pure_ (i := 0) (N := (some 110)) (v := ?_) (a' := ?_) #[true, false, false, false, false, false, false, false, false, false, false, false] rfl rfl (any_of HT_.out (by kernel_rfl)) (fun _ _ _ h => h) (Or.inl ⟨by rfl, ?_⟩) ?_ ?_
        rotate_left
        · intro w'
          go_simp
          with_reducible rfl
        rotate_left
        · simp only [Act.put, List.setIfInBounds_toArray, List.set_cons_zero, List.set_cons_succ, i64_w, i32_w]
          rfl
        refine pure_ (i := 1) (N := (some 111)) (v := ?_) (a' := ?_) #[true, true, false, false, false, false, false, false, false, false, false, false] rfl rfl (any_of HT_.out (by kernel_rfl)) (fun _ _ _ h => h) (Or.inl ⟨by rfl, ?_⟩) ?_ ?_
        rotate_left
        · intro w'
          go_simp
          with_reducible rfl
        rotate_left
        · simp only [Act.put, List.setIfInBounds_toArray, List.set_cons_zero, List.set_cons_succ, i64_w, i32_w]
          rfl
        refine pure_ (i := 2) (N := (some 112)) (v := ?_) (a' := ?_) #[true, true, true, false, false, false, false, false, false, false, false, false] rfl rfl (any_of HT_.out (by kernel_rfl)) (fun _ _ _ h => h) (Or.inl ⟨by rfl, ?_⟩) ?_ ?_
        rotate_left
        · intro w'
          go_simp
          with_reducible rfl
        rotate_left
        · simp only [Act.put, List.setIfInBounds_toArray, List.set_cons_zero, List.set_cons_succ, i64_w, i32_w]
          rfl
        refine pure_ (i := 3) (N := (some 113)) (v := ?_) (a' := ?_) #[true, true, true, true, false, false, false, false, false, false, false, false] rfl rfl (any_of HT_.out (by kernel_rfl)) (fun _ _ _ h => h) (Or.inl ⟨by rfl, ?_⟩) ?_ ?_
        rotate_left
        · intro w'
          go_simp
          with_reducible rfl
        rotate_left
        · simp only [Act.put, List.setIfInBounds_toArray, List.set_cons_zero, List.set_cons_succ, i64_w, i32_w]
          rfl
        refine take_ (i := 4) (N := (some 114)) (v := ?_) (a' := ?_) #[true, true, true, true, true, false, false, false, false, false, false, false] rfl rfl (take_ofW HT_.out HW_.out (by kernel_rfl)) (fun _ _ _ h => h) (Or.inl ⟨by rfl, ?_⟩) hHeld ?_ ?_
        rotate_left
        · intro w' hS
          have hc := (hS.cell (World.block_lt_of_cell? w3 _ HCX.out)).trans HCX.out
          go_simp
          with_reducible rfl
        rotate_left
        · simp only [Act.put, List.setIfInBounds_toArray, List.set_cons_zero, List.set_cons_succ, i64_w, i32_w]
          rfl
        refine pure_ (i := 5) (N := (some 115)) (v := ?_) (a' := ?_) #[true, true, true, true, true, true, false, false, false, false, false, false] rfl rfl (any_of HT_.out (by kernel_rfl)) (fun _ _ _ h => h) (Or.inl ⟨by rfl, ?_⟩) ?_ ?_
        rotate_left
        · intro w'
          go_simp
          with_reducible rfl
        rotate_left
        · simp only [Act.put, List.setIfInBounds_toArray, List.set_cons_zero, List.set_cons_succ, i64_w, i32_w]
          rfl
        refine take_ (i := 6) (N := (some 116)) (v := ?_) (a' := ?_) #[true, true, true, true, true, true, true, false, false, false, false, false] rfl rfl (take_ofW HT_.out HW_.out (by kernel_rfl)) (fun _ _ _ h => h) (Or.inl ⟨by rfl, ?_⟩) hHeld ?_ ?_
        rotate_left
        · intro w' hS
          have hb := (blk_cell (blk_below HBK3.out hS) 2).trans rfl
          go_simp
          with_reducible rfl
        rotate_left
        · simp only [Act.put, List.setIfInBounds_toArray, List.set_cons_zero, List.set_cons_succ, i64_w, i32_w]
          rfl
        refine one_ (i := 7) (N := (some 117)) #[true, true, true, true, true, true, true, true, false, false, false, false] rfl rfl (one_of HT_.out (by kernel_rfl)) (by decide) (fun K hK => ?_)
        go_simp
        refine hK.out _ _ (below_alloc hHeld _) (fun hHeld => ?_)
        clear hK K
        have hCl : Kd.C (Kd.int .u32) (wa.alloc (.cells #[.int .u32 (r.f2)] 35)) (some ⟨wa.heap.size, 0, none⟩) ([r.f2] : List Int).length [r.f2] := C_one wa .u32 35 _
        obtain ⟨gl, hgl⟩ : ∃ gl, wa.heap.size = gl := ⟨_, rfl⟩
        obtain ⟨wb, hwb⟩ : ∃ wb, wa.alloc (.cells #[.int .u32 (r.f2)] 35) = wb := ⟨_, rfl⟩
        rw [hgl, hwb] at hCl
        rw [hwb] at hHeld ⊢
        rw [hgl]
        have HCL := Lib.hid hCl
        clear hCl hgl hwb
        refine one_ (i := 8) (N := (some 118)) #[true, true, true, true, true, true, true, true, true, false, false, false] rfl rfl (one_of HT_.out (by kernel_rfl)) (by decide) (fun K hK => ?_)
        refine goes_ Try.func25 (by kernel_rfl) rfl #[.slice Ax b3.length cx, .slice (some ⟨gl, 0, none⟩) 1 1] (by rfl) rfl rfl (by (try simp only [List.map_toArray, List.map_cons, List.map_nil]); rfl) ?_
        refine (put32_ Ax cx b3 _ 1 [r.f2] _ (Kd.C_below HKX.out hHeld) HLX.out HCL.out (Nat.le_refl _) (by have := HL3.out; simp only [List.length_cons, List.length_nil]; omega)).mono ?_
        rintro e wc ⟨vc, rfl, hoc, hbc⟩
        have hoc2 := own_lower hoc hHeld.size
        obtain ⟨bn, hbn⟩ : ∃ bn, b3 ++ all32 [r.f2] = bn := ⟨_, rfl⟩
        have hbnl : bn.length = b3.length + 4 := by rw [← hbn, List.length_append, all32_len]; rfl
        rw [hbn] at hoc2
        obtain ⟨Av, cv, hv⟩ := own_slice hoc2
        subst hv
        have HBN := Lib.hid hbn
        have HBNL := Lib.hid hbnl
        clear hbn hbnl
        refine ⟨_, rfl, ?_⟩
        refine hK.out _ _ (hHeld.trans (hbc.mono hHeld.size)) (fun hHeld => ?_)
        clear hbc hoc
        clear hK K
        refine norm_ (a' := ?_) ?_ ?_
        rotate_left
        · show Act.put _ (some 118) _ = _
          simp only [Act.put, List.setIfInBounds_toArray, List.set_cons_zero, List.set_cons_succ, i64_w, i32_w]
          rfl
        refine pure_ (i := 9) (N := (some 119)) (v := ?_) (a' := ?_) #[true, true, true, true, true, true, true, true, true, true, false, false] rfl rfl (any_of HT_.out (by kernel_rfl)) (fun _ _ _ h => h) (Or.inl ⟨by rfl, ?_⟩) ?_ ?_
        rotate_left
        · intro w'
          go_simp
          with_reducible rfl
        rotate_left
        · simp only [Act.put, List.setIfInBounds_toArray, List.set_cons_zero, List.set_cons_succ, i64_w, i32_w]
          rfl
        refine pure_ (i := 10) (N := (some 120)) (v := ?_) (a' := ?_) #[true, true, true, true, true, true, true, true, true, true, true, false] rfl rfl (any_of HT_.out (by kernel_rfl)) (fun _ _ _ h => h) (Or.inl ⟨by rfl, ?_⟩) ?_ ?_
        rotate_left
        · intro w'
          go_simp
          with_reducible rfl
        rotate_left
        · simp only [Act.put, List.setIfInBounds_toArray, List.set_cons_zero, List.set_cons_succ, i64_w, i32_w]
          rfl
        have hcf := (HG3.out.below hHeld).cell
        obtain ⟨Ay, cy, hcy, hfy, -, -, -⟩ := hcf
        have HGN := Lib.hid (HG3.out.put hHeld hoc2 (by have := HBNL.out; omega) (by have := HBNL.out; omega))
        refine last_ (i := 11) (N := none) #[true, true, true, true, true, true, true, true, true, true, true, true] rfl rfl (one_of HT_.out (by kernel_rfl)) (by decide) (fun K hK => ?_)
        go_simp
        refine hK.out _ _ ?_
        clear hK K
        refine done_ (done_of HT_.out (by kernel_rfl)) ?_
        obtain ⟨w4, hw4⟩ : ∃ wx, wc.setCell ⟨g, 0, none⟩ (.slice Av bn.length cv) = wx := ⟨_, rfl⟩
        rw [hw4] at HGN ⊢
        clear hw4 hcy hfy HCX HKX HLX HCL hoc2 hHeld
        have hHT : Turned Fy wy w4 := HGN.out.turn
        have HBK4 := Lib.hid (hHT.blk HBK1.out (fun hk => HGF.out gR hk rfl))
        have hHL : bn.length ≤ zq.length + 300 := by have := HL3.out; have := HBNL.out; omega
        have HL4 := Lib.hid hHL
        have HB4 := Lib.hid HBN.out
        obtain ⟨b4, hb4⟩ : ∃ b4, bn = b4 := ⟨_, rfl⟩
        rw [hb4] at HGN HL4 HB4 ⊢
        clear HBN HBNL hHL
        clear hb4
        obtain ⟨F4, hW4, hs4, hT4⟩ := HGN.out
        have HW4 := Lib.hid hW4
        have HS4 := Lib.hid hs4
        have HT4 := Lib.hid hT4
        clear hHT HGN HG3 HBK3 hW4 hs4 hT4
        have p1 := (blk_cell HBK4.out 1).trans rfl
        have p3 := (blk_cell HBK4.out 3).trans rfl
        go_wp2_with fail
        clear p1 p3
        have key := write_ HW4.out r.f1 HD.out.1 (bytesOf r.f3) (of_b8 r.f3) (by rw [of_size]; exact HD.out.2.2.2) (by have := HL4.out; omega)
        rw [str_of] at key
        refine key.mono ?_
        clear key
        rintro e w5 ⟨rfl, hg⟩
        have hr : recW r (zq, fq) = wrD r.f1 r.f3 (b4, f2) := by
          unfold recW
          rw [HZ.out]
          simp only [HB3.out, HB4.out]
        have hst : recsW (rs.take (q + 1)) (bb, f1) = wrD r.f1 r.f3 (b4, f2) := by rw [recsW_take HR.out, HZQ.out, hr]
        have HGn : Hid (Goes w9 w5 _ g F6 (recsW (rs.take (q + 1)) (bb, f1)).1 (recsW (rs.take (q + 1)) (bb, f1)).2) := Lib.hid (by rw [hst]; exact Goes.step HWy.out HSy.out HTy.out (Goes.step HW4.out HS4.out HT4.out hg))
        clear hg hr hst
        go_wp2
        go_roundw
        case rel => exact ⟨q + 1, by omega, by go_num, ⟨HGn.out⟩⟩
        case measure => simp [intOf]; omega
      · obtain rfl : q = rs.length := by omega
        have hlen := recsW_len rs (bb, f1)
        have hG := HGq.out
        rw [List.take_length] at hG
        have hh : headW m = b0 := by
          rw [← HB0.out]
          unfold headW
          rw [HLA2.out, HLN2.out, HLE2.out.2, HLE2.out.1]
          rfl
        have hpw : partsW m = recsW rs (bb, f1) := by
          unfold partsW
          rw [hh, HZ1.out]
          simp only
          rw [HBb.out, ← HRS.out]
          unfold recsW
          simp [List.foldl_append]
        obtain ⟨⟨z, fz⟩, hz⟩ : ∃ s, recsW rs (bb, f1) = s := ⟨_, rfl⟩
        rw [hz] at hG hpw hlen
        have HLZ : Hid (z.length ≤ 600000000) := Lib.hid (by have h1 : z.length ≤ bb.length + 1500 * rs.length := hlen.2; have h2 := HLb.out; have h3 := HLR.out; omega)
        have HPW := Lib.hid hpw
        have HGz := Lib.hid hG
        have HB9x := Lib.hid (HB9.out.trans (goes_below HW9.out HGz.out))
        have HBKX := Lib.hid (blk_below HBK3.out HB9x.out)
        have HBW : Hid (Below w.heap.size w wr) := Lib.hid (HB3.out.trans (HB9x.out.mono HB3.out.size))
        clear hlen hG hh hpw hz HGq
        have p13 := (blk_cell HBKX.out 13).trans rfl
        obtain ⟨Ar, cr, hcr, hfr, hor, -, -⟩ := HGz.out.cell
        have HOR := Lib.hid hor
        clear hor
        by_cases hs : 0 < m.sz
        · have d1 : decide (m.sz > 0) = true := decide_eq_true hs
          have d2 : decide (0 < m.sz) = true := decide_eq_true hs
          go_upto_region 18 with fail
          clear d1 d2
          have HS := Lib.hid hs
          have HSZM : Hid (IntKind.u16.wrap m.sz = m.sz % 65536) := Lib.hid (by rw [IntKind.wrap_u16])
          have HVM : Hid ((Value.slice Ar z.length cr).ownBlock ≠ some gM) := Lib.hid (own_ne_blk HOR.out HBKX.out (by decide))
          clear hs hfr
          refine start_ (n := 17) (ds := [16]) (S := fun W => W.cell? ⟨g, 0, none⟩ = some (Value.slice Ar z.length cr) ∧ W.cell? ⟨gM, 13, none⟩ = some (.int .i64 m.sz)) #[false, false, false, false, false, false, false, false, false, false, false, false, false, false, false, false, false] (by kernel_rfl) rfl rfl ⟨hcr, p13⟩ (fun hHeld => ?_)
          refine with_tabW lwh_tab18 lwh_bits18 (fun HT_ HW_ => ?_)
          obtain ⟨wa, hwa⟩ : ∃ x, wr.drew = x := ⟨_, rfl⟩
          have hbd := below_drew1 (Below.refl wr.heap.size wr)
          rw [hwa] at hHeld hbd ⊢
          have HGc := Lib.hid (HGz.out.below hbd)
          have HBc := Lib.hid (HB9x.out.trans (hbd.mono HB9x.out.size))
          have HSZ : Hid (wa.heap.size ≤ wa.heap.size) := Lib.hid (Nat.le_refl _)
          have HVb : Hid (∀ k, (Value.slice Ar z.length cr).ownBlock = some k → k < wa.heap.size) := Lib.hid (fun k e => Nat.lt_of_lt_of_le (own_lt HOR.out k e) hbd.size)
          have HGL : Hid (gM < wa.heap.size) := Lib.hid (World.block_lt_of_cell? _ _ hHeld.2)
          clear hwa hbd
          refine pure_ (i := 0) (N := (some 131)) (v := ?_) (a' := ?_) #[true, false, false, false, false, false, false, false, false, false, false, false, false, false, false, false, false] rfl rfl (any_of HT_.out (by kernel_rfl)) (fun _ _ _ h => h) (Or.inl ⟨by rfl, ?_⟩) ?_ ?_
          rotate_left
          · intro w'
            go_simp
            with_reducible rfl
          rotate_left
          · simp only [Act.put, List.setIfInBounds_toArray, List.set_cons_zero, List.set_cons_succ, i64_w, i32_w]
            rfl
          refine pure_ (i := 1) (N := (some 132)) (v := ?_) (a' := ?_) #[true, true, false, false, false, false, false, false, false, false, false, false, false, false, false, false, false] rfl rfl (any_of HT_.out (by kernel_rfl)) (fun _ _ _ h => h) (Or.inl ⟨by rfl, ?_⟩) ?_ ?_
          rotate_left
          · intro w'
            go_simp
            with_reducible rfl
          rotate_left
          · simp only [Act.put, List.setIfInBounds_toArray, List.set_cons_zero, List.set_cons_succ, i64_w, i32_w]
            rfl
          refine pure_ (i := 2) (N := (some 133)) (v := ?_) (a' := ?_) #[true, true, true, false, false, false, false, false, false, false, false, false, false, false, false, false, false] rfl rfl (any_of HT_.out (by kernel_rfl)) (fun _ _ _ h => h) (Or.inl ⟨by rfl, ?_⟩) ?_ ?_
          rotate_left
          · intro w'
            go_simp
            with_reducible rfl
          rotate_left
          · simp only [Act.put, List.setIfInBounds_toArray, List.set_cons_zero, List.set_cons_succ, i64_w, i32_w]
            rfl
          refine pure_ (i := 3) (N := (some 134)) (v := ?_) (a' := ?_) #[true, true, true, true, false, false, false, false, false, false, false, false, false, false, false, false, false] rfl rfl (any_of HT_.out (by kernel_rfl)) (fun _ _ _ h => h) (Or.inl ⟨by rfl, ?_⟩) ?_ ?_
          rotate_left
          · intro w'
            go_simp
            with_reducible rfl
          rotate_left
          · simp only [Act.put, List.setIfInBounds_toArray, List.set_cons_zero, List.set_cons_succ, i64_w, i32_w]
            rfl
          refine take_ (i := 4) (N := (some 135)) (v := ?_) (a' := ?_) #[true, true, true, true, true, false, false, false, false, false, false, false, false, false, false, false, false] rfl rfl (take_ofW HT_.out HW_.out (by kernel_rfl)) (fun _ _ _ h => h) (Or.inl ⟨by rfl, ?_⟩) hHeld ?_ ?_
          rotate_left
          · intro w' hS
            have hc := hS.1
            go_simp
            with_reducible rfl
          rotate_left
          · simp only [Act.put, List.setIfInBounds_toArray, List.set_cons_zero, List.set_cons_succ, i64_w, i32_w]
            rfl
          refine pure_ (i := 7) (N := (some 138)) (v := ?_) (a' := ?_) #[true, true, true, true, true, false, false, true, false, false, false, false, false, false, false, false, false] rfl rfl (any_of HT_.out (by kernel_rfl)) (fun _ _ _ h => h) (Or.inl ⟨by rfl, ?_⟩) ?_ ?_
          rotate_left
          · intro w'
            go_simp
            with_reducible rfl
          rotate_left
          · simp only [Act.put, List.setIfInBounds_toArray, List.set_cons_zero, List.set_cons_succ, i64_w, i32_w]
            rfl
          refine take_ (i := 8) (N := (some 139)) (v := ?_) (a' := ?_) #[true, true, true, true, true, false, false, true, true, false, false, false, false, false, false, false, false] rfl rfl (take_ofW HT_.out HW_.out (by kernel_rfl)) (fun _ _ _ h => h) (Or.inl ⟨by rfl, ?_⟩) hHeld ?_ ?_
          rotate_left
          · intro w' hS
            have hc := hS.2
            go_simp
            with_reducible rfl
          rotate_left
          · simp only [Act.put, List.setIfInBounds_toArray, List.set_cons_zero, List.set_cons_succ, i64_w, i32_w]
            rfl
          refine pure_ (i := 9) (N := (some 140)) (v := ?_) (a' := ?_) #[true, true, true, true, true, false, false, true, true, true, false, false, false, false, false, false, false] rfl rfl (any_of HT_.out (by kernel_rfl)) (fun _ _ _ h => h) (Or.inl ⟨by rfl, ?_⟩) ?_ ?_
          rotate_left
          · intro w'
            go_simp
            try simp only [HSZM.out]
            with_reducible rfl
          rotate_left
          · simp only [Act.put, List.setIfInBounds_toArray, List.set_cons_zero, List.set_cons_succ, i64_w, i32_w]
            rfl
          refine three_ (i := 5) (j := 10) (k := 12) (Ni := (some 136)) (Nj := (some 141)) (Nk := (some 143)) #[true, true, true, true, true, true, false, true, true, true, false, false, false, false, false, false, false] #[true, true, true, true, true, false, false, true, true, true, true, false, false, false, false, false, false] #[true, true, true, true, true, false, false, true, true, true, false, false, true, false, false, false, false] rfl rfl rfl rfl rfl rfl (three_of HT_.out (by kernel_rfl)) (by decide) (by decide) (by decide) (fun K hK => ?_) (fun K hK => ?_) (fun K hK => ?_)
          focus
            go_simp
            refine hK.out _ _ ⟨cell_alloc hHeld.1 _, cell_alloc hHeld.2 _⟩ (fun hHeld => ?_)
            clear hK K
            have hba := below_alloc (Below.refl wa.heap.size wa) (Obj.cells #[.int .u8 0] 5)
            have hxn := blk_new wa (Obj.cells #[.int .u8 0] 5 (0, 0))
            obtain ⟨g5, hg5⟩ : ∃ x, wa.heap.size = x := ⟨_, rfl⟩
            obtain ⟨wn1, hwn⟩ : ∃ x, wa.alloc (Obj.cells #[.int .u8 0] 5) = x := ⟨_, rfl⟩
            have HGE5 : Hid (wa.heap.size ≤ g5) := Lib.hid (by have := HSZ.out; omega)
            rw [hwn] at hba hxn hHeld
            rw [hg5] at hxn
            (try rw [hwn])
            (try rw [hg5])
            have HX5 := Lib.hid hxn
            replace HSZ := Lib.hid (Nat.le_trans HSZ.out hba.size)
            replace HBc := Lib.hid (HBc.out.trans (hba.mono HBc.out.size))
            replace HGc := Lib.hid (HGc.out.below hba)
            clear hba hxn hwn hg5
            refine three_ (i := 6) (j := 10) (k := 12) (Ni := (some 137)) (Nj := (some 141)) (Nk := (some 143)) #[true, true, true, true, true, true, true, true, true, true, false, false, false, false, false, false, false] #[true, true, true, true, true, true, false, true, true, true, true, false, false, false, false, false, false] #[true, true, true, true, true, true, false, true, true, true, false, false, true, false, false, false, false] rfl rfl rfl rfl rfl rfl (three_of HT_.out (by kernel_rfl)) (by decide) (by decide) (by decide) (fun K hK => ?_) (fun K hK => ?_) (fun K hK => ?_)
            focus
              have HG5 := HGc
              have HC5 : Hid (wn1.cell? ⟨g, 0, none⟩ = some (Value.slice Ar z.length cr)) := Lib.hid hHeld.1
              obtain ⟨Aq, cq, hcq, -, hoq, -, -⟩ := HGc.out.cell
              have heq : Value.slice Aq z.length cq = (Value.slice Ar z.length cr) := Option.some.inj (hcq.symm.trans hHeld.1)
              rw [heq] at hoq
              clear hcq heq
              refine Kd.R_append_rows_step (Kd.int .u8) (w0 := w3) w3.heap.size (by rfl) (.tmp 135) (.tmp 136) 40 5 (.int .u8 0) 1 rfl Try.underlying40 infoB rfl (by decide) (by omega) (Value.slice Ar z.length cr) z [0] _ _ _ (fun _ => True) (fun _ => False) rfl rfl (Kd.R_of_own (enc := Value.int .u8) (h1 := fun _ => rfl) (ok := fun _ => True) (by exact hoq) (fun _ _ => trivial)) (C_blk HX5.out) (fun _ _ h => h) (fun _ h => h.elim) (fun k hk => trivial) HBc.out HBc.out.size (by have h1 := HLZ.out; exact Nat.le_trans (Nat.mul_le_mul_right 1 (show _ ≤ 700000000 by (try simp only [List.length_append, all16_len, List.length_cons, List.length_nil]); omega)) (by decide)) ?_
              intro v6 wn2 hR hB hg hat
              have ho6 := Kd.own_of_R hR
              have hcg := HGc.out.grown hHeld.1 hg
              refine hK.out _ _ ⟨hcg.1, (cell_grown hHeld.2 hg (fun e => by have h1 := HVM.out e.symm; exact h1))⟩ (fun hHeld => ?_)
              clear hK K
              refine norm_ (a' := ?_) ?_ ?_
              rotate_left
              · show Act.put _ (some 137) _ = _
                simp only [Act.put, List.setIfInBounds_toArray, List.set_cons_zero, List.set_cons_succ, i64_w, i32_w]
                rfl
              have HO6 := Lib.hid ho6
              have HGr := Lib.hid hg
              have HAT := Lib.hid hat
              have HS5 : Hid (wa.heap.size ≤ wn1.heap.size) := HSZ
              replace HSZ := Lib.hid (Nat.le_trans HSZ.out hg.size)
              replace HBc := Lib.hid hB
              obtain ⟨W5, hW5⟩ : ∃ x, wn1 = x := ⟨_, rfl⟩
              rw [hW5] at HG5 HC5 HGr HAT HS5
              clear hR hB hg hat ho6 hcg HGc HX5 hW5 hoq
              refine two_ (i := 10) (j := 12) (Ni := (some 141)) (Nj := (some 143)) #[true, true, true, true, true, true, true, true, true, true, true, false, false, false, false, false, false] #[true, true, true, true, true, true, true, true, true, true, false, false, true, false, false, false, false] rfl rfl rfl rfl (two_of HT_.out (by kernel_rfl)) (by decide) (by decide) (fun K hK => ?_) (fun K hK => ?_)
              focus
                go_simp
                (try simp only [HSZM.out])
                refine hK.out _ _ ⟨cell_alloc hHeld.1 _, cell_alloc hHeld.2 _⟩ (fun hHeld => ?_)
                clear hK K
                (try simp only [HSZM.out] at hHeld ⊢)
                have hba := below_alloc (Below.refl wn2.heap.size wn2) (Obj.cells #[.int .u16 41, .int .u16 (m.sz % 65536)] 22)
                have hxn := blk_new wn2 (Obj.cells #[.int .u16 41, .int .u16 (m.sz % 65536)] 22 (0, 0))
                obtain ⟨g10, hg10⟩ : ∃ x, wn2.heap.size = x := ⟨_, rfl⟩
                obtain ⟨wn3, hwn⟩ : ∃ x, wn2.alloc (Obj.cells #[.int .u16 41, .int .u16 (m.sz % 65536)] 22) = x := ⟨_, rfl⟩
                have HGE10 : Hid (wa.heap.size ≤ g10) := Lib.hid (by have := HSZ.out; omega)
                rw [hwn] at hba hxn hHeld
                rw [hg10] at hxn
                (try rw [hwn])
                (try rw [hg10])
                have HX10 := Lib.hid hxn
                replace HSZ := Lib.hid (Nat.le_trans HSZ.out hba.size)
                replace HBc := Lib.hid (HBc.out.trans (hba.mono HBc.out.size))
                replace HGr := Lib.hid (grow_below HGr.out hba)
                replace HO6 := Lib.hid (pw_own_below HO6.out hba)
                clear hba hxn hwn hg10
                refine two_ (i := 11) (j := 12) (Ni := (some 142)) (Nj := (some 143)) #[true, true, true, true, true, true, true, true, true, true, true, true, false, false, false, false, false] #[true, true, true, true, true, true, true, true, true, true, true, false, true, false, false, false, false] rfl rfl rfl rfl (two_of HT_.out (by kernel_rfl)) (by decide) (by decide) (fun K hK => ?_) (fun K hK => ?_)
                focus
                  obtain ⟨A6, c6, hv6⟩ := own_slice HO6.out
                  subst hv6
                  have hC6 := own_C (b := z ++ [0]) HO6.out
                  refine goes_ Try.func23 (by kernel_rfl) rfl #[.slice A6 (z ++ [0]).length c6, .slice (some ⟨g10, 0, none⟩) 2 2] (by rfl) rfl rfl (by (try simp only [List.map_toArray, List.map_cons, List.map_nil]); rfl) ?_
                  refine (put16_ A6 c6 (z ++ [0]) _ 2 [41, (m.sz % 65536)] _ hC6.1 hC6.2 (C_blk HX10.out) (Nat.le_refl _) (by have h1 := HLZ.out; simp only [List.length_append, List.length_cons, List.length_nil]; omega)).mono ?_
                  rintro e wn4 ⟨v11, rfl, ho11, hb⟩
                  refine ⟨_, rfl, ?_⟩
                  refine hK.out _ _ ⟨(hb.cell (World.block_lt_of_cell? _ _ hHeld.1)).trans hHeld.1, (hb.cell (World.block_lt_of_cell? _ _ hHeld.2)).trans hHeld.2⟩ (fun hHeld => ?_)
                  clear hK K
                  refine norm_ (a' := ?_) ?_ ?_
                  rotate_left
                  · show Act.put _ (some 142) _ = _
                    simp only [Act.put, List.setIfInBounds_toArray, List.set_cons_zero, List.set_cons_succ, i64_w, i32_w]
                    rfl
                  have HO11 := Lib.hid ho11
                  have HLO : Hid (W5.heap.size ≤ wn3.heap.size) := Lib.hid HGr.out.size
                  obtain ⟨s11, hs11⟩ : ∃ x, wn3.heap.size = x := ⟨_, rfl⟩
                  rw [hs11] at HO11 HLO
                  replace HGr := Lib.hid (grow_below HGr.out hb)
                  replace HSZ := Lib.hid (Nat.le_trans HSZ.out hb.size)
                  replace HBc := Lib.hid (HBc.out.trans (hb.mono HBc.out.size))
                  clear ho11 hb hC6 HX10 hs11
                  refine one_ (i := 12) (N := (some 143)) #[true, true, true, true, true, true, true, true, true, true, true, true, true, false, false, false, false] rfl rfl (one_of HT_.out (by kernel_rfl)) (by decide) (fun K hK => ?_)
                  go_simp
                  refine hK.out _ _ ⟨cell_alloc hHeld.1 _, cell_alloc hHeld.2 _⟩ (fun hHeld => ?_)
                  clear hK K
                  have hba := below_alloc (Below.refl wn4.heap.size wn4) (Obj.cells #[.int .u8 0, .int .u8 0, .int .u8 0, .int .u8 0, .int .u8 0, .int .u8 0] 5)
                  have hxn := blk_new wn4 (Obj.cells #[.int .u8 0, .int .u8 0, .int .u8 0, .int .u8 0, .int .u8 0, .int .u8 0] 5 (0, 0))
                  obtain ⟨g12, hg12⟩ : ∃ x, wn4.heap.size = x := ⟨_, rfl⟩
                  obtain ⟨wn5, hwn⟩ : ∃ x, wn4.alloc (Obj.cells #[.int .u8 0, .int .u8 0, .int .u8 0, .int .u8 0, .int .u8 0, .int .u8 0] 5) = x := ⟨_, rfl⟩
                  have HGE12 : Hid (wa.heap.size ≤ g12) := Lib.hid (by have := HSZ.out; omega)
                  rw [hwn] at hba hxn hHeld
                  rw [hg12] at hxn
                  (try rw [hwn])
                  (try rw [hg12])
                  have HX12 := Lib.hid hxn
                  replace HSZ := Lib.hid (Nat.le_trans HSZ.out hba.size)
                  replace HBc := Lib.hid (HBc.out.trans (hba.mono HBc.out.size))
                  replace HGr := Lib.hid (grow_below HGr.out hba)
                  replace HO11 := Lib.hid (pw_own_below HO11.out hba)
                  clear hba hxn hwn hg12
                  refine one_ (i := 13) (N := (some 144)) #[true, true, true, true, true, true, true, true, true, true, true, true, true, true, false, false, false] rfl rfl (one_of HT_.out (by kernel_rfl)) (by decide) (fun K hK => ?_)
                  have hlo : w3.heap.size ≤ s11 := by have h1 := HLO.out; have h2 := HG5.out.low; omega
                  have hva : ∀ k, (v11 : Value).ownBlock = some k → W5.heap.size ≤ k := fun k e => by have h1 := own_base HO11.out k e; have h2 := HLO.out; omega
                  refine Kd.R_append_rows_step (Kd.int .u8) (w0 := w3) w3.heap.size (by rfl) (.tmp 142) (.tmp 143) 40 5 (.int .u8 0) 1 rfl Try.underlying40 infoB rfl (by decide) (by omega) v11 (z ++ [0] ++ all16 [41, (m.sz % 65536)]) [0, 0, 0, 0, 0, 0] _ _ _ (fun _ => True) (fun _ => False) rfl rfl (Kd.R_of_own (enc := Value.int .u8) (h1 := fun _ => rfl) (ok := fun _ => True) (by exact (own_lower HO11.out hlo)) (fun _ _ => trivial)) (C_blk HX12.out) (fun _ _ h => h) (fun _ h => h.elim) (fun k hk => trivial) HBc.out HBc.out.size (by have h1 := HLZ.out; exact Nat.le_trans (Nat.mul_le_mul_right 1 (show _ ≤ 700000000 by (try simp only [List.length_append, all16_len, List.length_cons, List.length_nil]); omega)) (by decide)) ?_
                  intro v13 wn6 hR hB hg hat
                  have ho13 := Kd.own_of_R hR
                  have hgj := grow_join HGr.out hg hva
                  refine hK.out _ _ ⟨?_, ?_⟩ (fun hHeld => ?_)
                  · exact cell_grown hHeld.1 hg (fun e => by have h1 := hva _ e.symm; have h2 := World.block_lt_of_cell? _ _ HC5.out; exact absurd (Nat.lt_of_lt_of_le h2 h1) (Nat.lt_irrefl _))
                  · exact cell_grown hHeld.2 hg (fun e => by have h1 := hva _ e.symm; have h2 := HGL.out; have h3 := HS5.out; exact absurd (Nat.lt_of_lt_of_le (Nat.lt_of_lt_of_le h2 h3) h1) (Nat.lt_irrefl _))
                  clear hK K
                  refine norm_ (a' := ?_) ?_ ?_
                  rotate_left
                  · show Act.put _ (some 144) _ = _
                    simp only [Act.put, List.setIfInBounds_toArray, List.set_cons_zero, List.set_cons_succ, i64_w, i32_w]
                    rfl
                  have HO13 := Lib.hid ho13
                  have HGJ := Lib.hid hgj
                  have HA13 : Hid (v13.ownBlock = (Value.slice Ar z.length cr).ownBlock ∨ ∃ b, v13.ownBlock = some b ∧ W5.heap.size ≤ b) := Lib.hid (.inr (at_join HO11.out (by simp; omega) hat HLO.out HGr.out.size))
                  replace HBc := Lib.hid hB
                  clear hR hB hg hat ho13 hgj hva hlo HX12 HGr HO11 HO6 HLO
                  refine pure_ (i := 14) (N := (some 145)) (v := ?_) (a' := ?_) #[true, true, true, true, true, true, true, true, true, true, true, true, true, true, true, false, false] rfl rfl (any_of HT_.out (by kernel_rfl)) (fun _ _ _ h => h) (Or.inl ⟨by rfl, ?_⟩) ?_ ?_
                  rotate_left
                  · intro w'
                    go_simp
                    with_reducible rfl
                  rotate_left
                  · simp only [Act.put, List.setIfInBounds_toArray, List.set_cons_zero, List.set_cons_succ, i64_w, i32_w]
                    rfl
                  refine pure_ (i := 15) (N := (some 146)) (v := ?_) (a' := ?_) #[true, true, true, true, true, true, true, true, true, true, true, true, true, true, true, true, false] rfl rfl (any_of HT_.out (by kernel_rfl)) (fun _ _ _ h => h) (Or.inl ⟨by rfl, ?_⟩) ?_ ?_
                  rotate_left
                  · intro w'
                    go_simp
                    with_reducible rfl
                  rotate_left
                  · simp only [Act.put, List.setIfInBounds_toArray, List.set_cons_zero, List.set_cons_succ, i64_w, i32_w]
                    rfl
                  obtain ⟨wz, hwz⟩ : ∃ x, wn6 = x := ⟨_, rfl⟩
                  rw [hwz] at HO13 HGJ HBc hHeld ⊢
                  clear hwz
                rotate_left 1
                focus
                  go_simp
                  refine hK.out _ _ ⟨cell_alloc hHeld.1 _, cell_alloc hHeld.2 _⟩ (fun hHeld => ?_)
                  clear hK K
                  have hba := below_alloc (Below.refl wn3.heap.size wn3) (Obj.cells #[.int .u8 0, .int .u8 0, .int .u8 0, .int .u8 0, .int .u8 0, .int .u8 0] 5)
                  have hxn := blk_new wn3 (Obj.cells #[.int .u8 0, .int .u8 0, .int .u8 0, .int .u8 0, .int .u8 0, .int .u8 0] 5 (0, 0))
                  obtain ⟨g12, hg12⟩ : ∃ x, wn3.heap.size = x := ⟨_, rfl⟩
                  obtain ⟨wn7, hwn⟩ : ∃ x, wn3.alloc (Obj.cells #[.int .u8 0, .int .u8 0, .int .u8 0, .int .u8 0, .int .u8 0, .int .u8 0] 5) = x := ⟨_, rfl⟩
                  have HGE12 : Hid (wa.heap.size ≤ g12) := Lib.hid (by have := HSZ.out; omega)
                  rw [hwn] at hba hxn hHeld
                  rw [hg12] at hxn
                  (try rw [hwn])
                  (try rw [hg12])
                  have HX12 := Lib.hid hxn
                  replace HSZ := Lib.hid (Nat.le_trans HSZ.out hba.size)
                  replace HBc := Lib.hid (HBc.out.trans (hba.mono HBc.out.size))
                  replace HX10 := Lib.hid (blk_below HX10.out hba)
                  replace HGr := Lib.hid (grow_below HGr.out hba)
                  replace HO6 := Lib.hid (pw_own_below HO6.out hba)
                  clear hba hxn hwn hg12
                  refine one_ (i := 11) (N := (some 142)) #[true, true, true, true, true, true, true, true, true, true, true, true, true, false, false, false, false] rfl rfl (one_of HT_.out (by kernel_rfl)) (by decide) (fun K hK => ?_)
                  obtain ⟨A6, c6, hv6⟩ := own_slice HO6.out
                  subst hv6
                  have hC6 := own_C (b := z ++ [0]) HO6.out
                  refine goes_ Try.func23 (by kernel_rfl) rfl #[.slice A6 (z ++ [0]).length c6, .slice (some ⟨g10, 0, none⟩) 2 2] (by rfl) rfl rfl (by (try simp only [List.map_toArray, List.map_cons, List.map_nil]); rfl) ?_
                  refine (put16_ A6 c6 (z ++ [0]) _ 2 [41, (m.sz % 65536)] _ hC6.1 hC6.2 (C_blk HX10.out) (Nat.le_refl _) (by have h1 := HLZ.out; simp only [List.length_append, List.length_cons, List.length_nil]; omega)).mono ?_
                  rintro e wn8 ⟨v11, rfl, ho11, hb⟩
                  refine ⟨_, rfl, ?_⟩
                  replace HX12 := Lib.hid (blk_below HX12.out hb)
                  refine hK.out _ _ ⟨(hb.cell (World.block_lt_of_cell? _ _ hHeld.1)).trans hHeld.1, (hb.cell (World.block_lt_of_cell? _ _ hHeld.2)).trans hHeld.2⟩ (fun hHeld => ?_)
                  clear hK K
                  refine norm_ (a' := ?_) ?_ ?_
                  rotate_left
                  · show Act.put _ (some 142) _ = _
                    simp only [Act.put, List.setIfInBounds_toArray, List.set_cons_zero, List.set_cons_succ, i64_w, i32_w]
                    rfl
                  have HO11 := Lib.hid ho11
                  have HLO : Hid (W5.heap.size ≤ wn7.heap.size) := Lib.hid HGr.out.size
                  obtain ⟨s11, hs11⟩ : ∃ x, wn7.heap.size = x := ⟨_, rfl⟩
                  rw [hs11] at HO11 HLO
                  replace HGr := Lib.hid (grow_below HGr.out hb)
                  replace HSZ := Lib.hid (Nat.le_trans HSZ.out hb.size)
                  replace HBc := Lib.hid (HBc.out.trans (hb.mono HBc.out.size))
                  clear ho11 hb hC6 HX10 hs11
                  refine one_ (i := 13) (N := (some 144)) #[true, true, true, true, true, true, true, true, true, true, true, true, true, true, false, false, false] rfl rfl (one_of HT_.out (by kernel_rfl)) (by decide) (fun K hK => ?_)
                  have hlo : w3.heap.size ≤ s11 := by have h1 := HLO.out; have h2 := HG5.out.low; omega
                  have hva : ∀ k, (v11 : Value).ownBlock = some k → W5.heap.size ≤ k := fun k e => by have h1 := own_base HO11.out k e; have h2 := HLO.out; omega
                  refine Kd.R_append_rows_step (Kd.int .u8) (w0 := w3) w3.heap.size (by rfl) (.tmp 142) (.tmp 143) 40 5 (.int .u8 0) 1 rfl Try.underlying40 infoB rfl (by decide) (by omega) v11 (z ++ [0] ++ all16 [41, (m.sz % 65536)]) [0, 0, 0, 0, 0, 0] _ _ _ (fun _ => True) (fun _ => False) rfl rfl (Kd.R_of_own (enc := Value.int .u8) (h1 := fun _ => rfl) (ok := fun _ => True) (by exact (own_lower HO11.out hlo)) (fun _ _ => trivial)) (C_blk HX12.out) (fun _ _ h => h) (fun _ h => h.elim) (fun k hk => trivial) HBc.out HBc.out.size (by have h1 := HLZ.out; exact Nat.le_trans (Nat.mul_le_mul_right 1 (show _ ≤ 700000000 by (try simp only [List.length_append, all16_len, List.length_cons, List.length_nil]); omega)) (by decide)) ?_
                  intro v13 wn9 hR hB hg hat
                  have ho13 := Kd.own_of_R hR
                  have hgj := grow_join HGr.out hg hva
                  refine hK.out _ _ ⟨?_, ?_⟩ (fun hHeld => ?_)
                  · exact cell_grown hHeld.1 hg (fun e => by have h1 := hva _ e.symm; have h2 := World.block_lt_of_cell? _ _ HC5.out; exact absurd (Nat.lt_of_lt_of_le h2 h1) (Nat.lt_irrefl _))
                  · exact cell_grown hHeld.2 hg (fun e => by have h1 := hva _ e.symm; have h2 := HGL.out; have h3 := HS5.out; exact absurd (Nat.lt_of_lt_of_le (Nat.lt_of_lt_of_le h2 h3) h1) (Nat.lt_irrefl _))
                  clear hK K
                  refine norm_ (a' := ?_) ?_ ?_
                  rotate_left
                  · show Act.put _ (some 144) _ = _
                    simp only [Act.put, List.setIfInBounds_toArray, List.set_cons_zero, List.set_cons_succ, i64_w, i32_w]
                    rfl
                  have HO13 := Lib.hid ho13
                  have HGJ := Lib.hid hgj
                  have HA13 : Hid (v13.ownBlock = (Value.slice Ar z.length cr).ownBlock ∨ ∃ b, v13.ownBlock = some b ∧ W5.heap.size ≤ b) := Lib.hid (.inr (at_join HO11.out (by simp; omega) hat HLO.out HGr.out.size))
                  replace HBc := Lib.hid hB
                  clear hR hB hg hat ho13 hgj hva hlo HX12 HGr HO11 HO6 HLO
                  refine pure_ (i := 14) (N := (some 145)) (v := ?_) (a' := ?_) #[true, true, true, true, true, true, true, true, true, true, true, true, true, true, true, false, false] rfl rfl (any_of HT_.out (by kernel_rfl)) (fun _ _ _ h => h) (Or.inl ⟨by rfl, ?_⟩) ?_ ?_
                  rotate_left
                  · intro w'
                    go_simp
                    with_reducible rfl
                  rotate_left
                  · simp only [Act.put, List.setIfInBounds_toArray, List.set_cons_zero, List.set_cons_succ, i64_w, i32_w]
                    rfl
                  refine pure_ (i := 15) (N := (some 146)) (v := ?_) (a' := ?_) #[true, true, true, true, true, true, true, true, true, true, true, true, true, true, true, true, false] rfl rfl (any_of HT_.out (by kernel_rfl)) (fun _ _ _ h => h) (Or.inl ⟨by rfl, ?_⟩) ?_ ?_
                  rotate_left
                  · intro w'
                    go_simp
                    with_reducible rfl
                  rotate_left
                  · simp only [Act.put, List.setIfInBounds_toArray, List.set_cons_zero, List.set_cons_succ, i64_w, i32_w]
                    rfl
                  obtain ⟨wz, hwz⟩ : ∃ x, wn9 = x := ⟨_, rfl⟩
                  rw [hwz] at HO13 HGJ HBc hHeld ⊢
                  clear hwz
              rotate_left 2
              focus
                go_simp
                refine hK.out _ _ ⟨cell_alloc hHeld.1 _, cell_alloc hHeld.2 _⟩ (fun hHeld => ?_)
                clear hK K
                have hba := below_alloc (Below.refl wn2.heap.size wn2) (Obj.cells #[.int .u8 0, .int .u8 0, .int .u8 0, .int .u8 0, .int .u8 0, .int .u8 0] 5)
                have hxn := blk_new wn2 (Obj.cells #[.int .u8 0, .int .u8 0, .int .u8 0, .int .u8 0, .int .u8 0, .int .u8 0] 5 (0, 0))
                obtain ⟨g12, hg12⟩ : ∃ x, wn2.heap.size = x := ⟨_, rfl⟩
                obtain ⟨wn10, hwn⟩ : ∃ x, wn2.alloc (Obj.cells #[.int .u8 0, .int .u8 0, .int .u8 0, .int .u8 0, .int .u8 0, .int .u8 0] 5) = x := ⟨_, rfl⟩
                have HGE12 : Hid (wa.heap.size ≤ g12) := Lib.hid (by have := HSZ.out; omega)
                rw [hwn] at hba hxn hHeld
                rw [hg12] at hxn
                (try rw [hwn])
                (try rw [hg12])
                have HX12 := Lib.hid hxn
                replace HSZ := Lib.hid (Nat.le_trans HSZ.out hba.size)
                replace HBc := Lib.hid (HBc.out.trans (hba.mono HBc.out.size))
                replace HGr := Lib.hid (grow_below HGr.out hba)
                replace HO6 := Lib.hid (pw_own_below HO6.out hba)
                clear hba hxn hwn hg12
                refine one_ (i := 10) (N := (some 141)) #[true, true, true, true, true, true, true, true, true, true, true, false, true, false, false, false, false] rfl rfl (one_of HT_.out (by kernel_rfl)) (by decide) (fun K hK => ?_)
                go_simp
                (try simp only [HSZM.out])
                refine hK.out _ _ ⟨cell_alloc hHeld.1 _, cell_alloc hHeld.2 _⟩ (fun hHeld => ?_)
                clear hK K
                (try simp only [HSZM.out] at hHeld ⊢)
                have hba := below_alloc (Below.refl wn10.heap.size wn10) (Obj.cells #[.int .u16 41, .int .u16 (m.sz % 65536)] 22)
                have hxn := blk_new wn10 (Obj.cells #[.int .u16 41, .int .u16 (m.sz % 65536)] 22 (0, 0))
                obtain ⟨g10, hg10⟩ : ∃ x, wn10.heap.size = x := ⟨_, rfl⟩
                obtain ⟨wn11, hwn⟩ : ∃ x, wn10.alloc (Obj.cells #[.int .u16 41, .int .u16 (m.sz % 65536)] 22) = x := ⟨_, rfl⟩
                have HGE10 : Hid (wa.heap.size ≤ g10) := Lib.hid (by have := HSZ.out; omega)
                rw [hwn] at hba hxn hHeld
                rw [hg10] at hxn
                (try rw [hwn])
                (try rw [hg10])
                have HX10 := Lib.hid hxn
                replace HSZ := Lib.hid (Nat.le_trans HSZ.out hba.size)
                replace HBc := Lib.hid (HBc.out.trans (hba.mono HBc.out.size))
                replace HX12 := Lib.hid (blk_below HX12.out hba)
                replace HGr := Lib.hid (grow_below HGr.out hba)
                replace HO6 := Lib.hid (pw_own_below HO6.out hba)
                clear hba hxn hwn hg10
                refine one_ (i := 11) (N := (some 142)) #[true, true, true, true, true, true, true, true, true, true, true, true, true, false, false, false, false] rfl rfl (one_of HT_.out (by kernel_rfl)) (by decide) (fun K hK => ?_)
                obtain ⟨A6, c6, hv6⟩ := own_slice HO6.out
                subst hv6
                have hC6 := own_C (b := z ++ [0]) HO6.out
                refine goes_ Try.func23 (by kernel_rfl) rfl #[.slice A6 (z ++ [0]).length c6, .slice (some ⟨g10, 0, none⟩) 2 2] (by rfl) rfl rfl (by (try simp only [List.map_toArray, List.map_cons, List.map_nil]); rfl) ?_
                refine (put16_ A6 c6 (z ++ [0]) _ 2 [41, (m.sz % 65536)] _ hC6.1 hC6.2 (C_blk HX10.out) (Nat.le_refl _) (by have h1 := HLZ.out; simp only [List.length_append, List.length_cons, List.length_nil]; omega)).mono ?_
                rintro e wn12 ⟨v11, rfl, ho11, hb⟩
                refine ⟨_, rfl, ?_⟩
                replace HX12 := Lib.hid (blk_below HX12.out hb)
                refine hK.out _ _ ⟨(hb.cell (World.block_lt_of_cell? _ _ hHeld.1)).trans hHeld.1, (hb.cell (World.block_lt_of_cell? _ _ hHeld.2)).trans hHeld.2⟩ (fun hHeld => ?_)
                clear hK K
                refine norm_ (a' := ?_) ?_ ?_
                rotate_left
                · show Act.put _ (some 142) _ = _
                  simp only [Act.put, List.setIfInBounds_toArray, List.set_cons_zero, List.set_cons_succ, i64_w, i32_w]
                  rfl
                have HO11 := Lib.hid ho11
                have HLO : Hid (W5.heap.size ≤ wn11.heap.size) := Lib.hid HGr.out.size
                obtain ⟨s11, hs11⟩ : ∃ x, wn11.heap.size = x := ⟨_, rfl⟩
                rw [hs11] at HO11 HLO
                replace HGr := Lib.hid (grow_below HGr.out hb)
                replace HSZ := Lib.hid (Nat.le_trans HSZ.out hb.size)
                replace HBc := Lib.hid (HBc.out.trans (hb.mono HBc.out.size))
                clear ho11 hb hC6 HX10 hs11
                refine one_ (i := 13) (N := (some 144)) #[true, true, true, true, true, true, true, true, true, true, true, true, true, true, false, false, false] rfl rfl (one_of HT_.out (by kernel_rfl)) (by decide) (fun K hK => ?_)
                have hlo : w3.heap.size ≤ s11 := by have h1 := HLO.out; have h2 := HG5.out.low; omega
                have hva : ∀ k, (v11 : Value).ownBlock = some k → W5.heap.size ≤ k := fun k e => by have h1 := own_base HO11.out k e; have h2 := HLO.out; omega
                refine Kd.R_append_rows_step (Kd.int .u8) (w0 := w3) w3.heap.size (by rfl) (.tmp 142) (.tmp 143) 40 5 (.int .u8 0) 1 rfl Try.underlying40 infoB rfl (by decide) (by omega) v11 (z ++ [0] ++ all16 [41, (m.sz % 65536)]) [0, 0, 0, 0, 0, 0] _ _ _ (fun _ => True) (fun _ => False) rfl rfl (Kd.R_of_own (enc := Value.int .u8) (h1 := fun _ => rfl) (ok := fun _ => True) (by exact (own_lower HO11.out hlo)) (fun _ _ => trivial)) (C_blk HX12.out) (fun _ _ h => h) (fun _ h => h.elim) (fun k hk => trivial) HBc.out HBc.out.size (by have h1 := HLZ.out; exact Nat.le_trans (Nat.mul_le_mul_right 1 (show _ ≤ 700000000 by (try simp only [List.length_append, all16_len, List.length_cons, List.length_nil]); omega)) (by decide)) ?_
                intro v13 wn13 hR hB hg hat
                have ho13 := Kd.own_of_R hR
                have hgj := grow_join HGr.out hg hva
                refine hK.out _ _ ⟨?_, ?_⟩ (fun hHeld => ?_)
                · exact cell_grown hHeld.1 hg (fun e => by have h1 := hva _ e.symm; have h2 := World.block_lt_of_cell? _ _ HC5.out; exact absurd (Nat.lt_of_lt_of_le h2 h1) (Nat.lt_irrefl _))
                · exact cell_grown hHeld.2 hg (fun e => by have h1 := hva _ e.symm; have h2 := HGL.out; have h3 := HS5.out; exact absurd (Nat.lt_of_lt_of_le (Nat.lt_of_lt_of_le h2 h3) h1) (Nat.lt_irrefl _))
                clear hK K
                refine norm_ (a' := ?_) ?_ ?_
                rotate_left
                · show Act.put _ (some 144) _ = _
                  simp only [Act.put, List.setIfInBounds_toArray, List.set_cons_zero, List.set_cons_succ, i64_w, i32_w]
                  rfl
                have HO13 := Lib.hid ho13
                have HGJ := Lib.hid hgj
                have HA13 : Hid (v13.ownBlock = (Value.slice Ar z.length cr).ownBlock ∨ ∃ b, v13.ownBlock = some b ∧ W5.heap.size ≤ b) := Lib.hid (.inr (at_join HO11.out (by simp; omega) hat HLO.out HGr.out.size))
                replace HBc := Lib.hid hB
                clear hR hB hg hat ho13 hgj hva hlo HX12 HGr HO11 HO6 HLO
                refine pure_ (i := 14) (N := (some 145)) (v := ?_) (a' := ?_) #[true, true, true, true, true, true, true, true, true, true, true, true, true, true, true, false, false] rfl rfl (any_of HT_.out (by kernel_rfl)) (fun _ _ _ h => h) (Or.inl ⟨by rfl, ?_⟩) ?_ ?_
                rotate_left
                · intro w'
                  go_simp
                  with_reducible rfl
                rotate_left
                · simp only [Act.put, List.setIfInBounds_toArray, List.set_cons_zero, List.set_cons_succ, i64_w, i32_w]
                  rfl
                refine pure_ (i := 15) (N := (some 146)) (v := ?_) (a' := ?_) #[true, true, true, true, true, true, true, true, true, true, true, true, true, true, true, true, false] rfl rfl (any_of HT_.out (by kernel_rfl)) (fun _ _ _ h => h) (Or.inl ⟨by rfl, ?_⟩) ?_ ?_
                rotate_left
                · intro w'
                  go_simp
                  with_reducible rfl
                rotate_left
                · simp only [Act.put, List.setIfInBounds_toArray, List.set_cons_zero, List.set_cons_succ, i64_w, i32_w]
                  rfl
                obtain ⟨wz, hwz⟩ : ∃ x, wn13 = x := ⟨_, rfl⟩
                rw [hwz] at HO13 HGJ HBc hHeld ⊢
                clear hwz
            rotate_left 3
            focus
              go_simp
              (try simp only [HSZM.out])
              refine hK.out _ _ ⟨cell_alloc hHeld.1 _, cell_alloc hHeld.2 _⟩ (fun hHeld => ?_)
              clear hK K
              (try simp only [HSZM.out] at hHeld ⊢)
              have hba := below_alloc (Below.refl wn1.heap.size wn1) (Obj.cells #[.int .u16 41, .int .u16 (m.sz % 65536)] 22)
              have hxn := blk_new wn1 (Obj.cells #[.int .u16 41, .int .u16 (m.sz % 65536)] 22 (0, 0))
              obtain ⟨g10, hg10⟩ : ∃ x, wn1.heap.size = x := ⟨_, rfl⟩
              obtain ⟨wn14, hwn⟩ : ∃ x, wn1.alloc (Obj.cells #[.int .u16 41, .int .u16 (m.sz % 65536)] 22) = x := ⟨_, rfl⟩
              have HGE10 : Hid (wa.heap.size ≤ g10) := Lib.hid (by have := HSZ.out; omega)
              rw [hwn] at hba hxn hHeld
              rw [hg10] at hxn
              (try rw [hwn])
              (try rw [hg10])
              have HX10 := Lib.hid hxn
              replace HSZ := Lib.hid (Nat.le_trans HSZ.out hba.size)
              replace HBc := Lib.hid (HBc.out.trans (hba.mono HBc.out.size))
              replace HX5 := Lib.hid (blk_below HX5.out hba)
              replace HGc := Lib.hid (HGc.out.below hba)
              clear hba hxn hwn hg10
              refine two_ (i := 6) (j := 12) (Ni := (some 137)) (Nj := (some 143)) #[true, true, true, true, true, true, true, true, true, true, true, false, false, false, false, false, false] #[true, true, true, true, true, true, false, true, true, true, true, false, true, false, false, false, false] rfl rfl rfl rfl (two_of HT_.out (by kernel_rfl)) (by decide) (by decide) (fun K hK => ?_) (fun K hK => ?_)
              focus
                have HG5 := HGc
                have HC5 : Hid (wn14.cell? ⟨g, 0, none⟩ = some (Value.slice Ar z.length cr)) := Lib.hid hHeld.1
                obtain ⟨Aq, cq, hcq, -, hoq, -, -⟩ := HGc.out.cell
                have heq : Value.slice Aq z.length cq = (Value.slice Ar z.length cr) := Option.some.inj (hcq.symm.trans hHeld.1)
                rw [heq] at hoq
                clear hcq heq
                refine Kd.R_append_rows_step (Kd.int .u8) (w0 := w3) w3.heap.size (by rfl) (.tmp 135) (.tmp 136) 40 5 (.int .u8 0) 1 rfl Try.underlying40 infoB rfl (by decide) (by omega) (Value.slice Ar z.length cr) z [0] _ _ _ (fun _ => True) (fun _ => False) rfl rfl (Kd.R_of_own (enc := Value.int .u8) (h1 := fun _ => rfl) (ok := fun _ => True) (by exact hoq) (fun _ _ => trivial)) (C_blk HX5.out) (fun _ _ h => h) (fun _ h => h.elim) (fun k hk => trivial) HBc.out HBc.out.size (by have h1 := HLZ.out; exact Nat.le_trans (Nat.mul_le_mul_right 1 (show _ ≤ 700000000 by (try simp only [List.length_append, all16_len, List.length_cons, List.length_nil]); omega)) (by decide)) ?_
                intro v6 wn15 hR hB hg hat
                have ho6 := Kd.own_of_R hR
                have hcg := HGc.out.grown hHeld.1 hg
                replace HX10 := Lib.hid (blk_grown HX10.out hg (fun e => by have h1 := HVb.out g10 e.symm; have h2 := HGE10.out; omega))
                refine hK.out _ _ ⟨hcg.1, (cell_grown hHeld.2 hg (fun e => by have h1 := HVM.out e.symm; exact h1))⟩ (fun hHeld => ?_)
                clear hK K
                refine norm_ (a' := ?_) ?_ ?_
                rotate_left
                · show Act.put _ (some 137) _ = _
                  simp only [Act.put, List.setIfInBounds_toArray, List.set_cons_zero, List.set_cons_succ, i64_w, i32_w]
                  rfl
                have HO6 := Lib.hid ho6
                have HGr := Lib.hid hg
                have HAT := Lib.hid hat
                have HS5 : Hid (wa.heap.size ≤ wn14.heap.size) := HSZ
                replace HSZ := Lib.hid (Nat.le_trans HSZ.out hg.size)
                replace HBc := Lib.hid hB
                obtain ⟨W5, hW5⟩ : ∃ x, wn14 = x := ⟨_, rfl⟩
                rw [hW5] at HG5 HC5 HGr HAT HS5
                clear hR hB hg hat ho6 hcg HGc HX5 hW5 hoq
                refine two_ (i := 11) (j := 12) (Ni := (some 142)) (Nj := (some 143)) #[true, true, true, true, true, true, true, true, true, true, true, true, false, false, false, false, false] #[true, true, true, true, true, true, true, true, true, true, true, false, true, false, false, false, false] rfl rfl rfl rfl (two_of HT_.out (by kernel_rfl)) (by decide) (by decide) (fun K hK => ?_) (fun K hK => ?_)
                focus
                  obtain ⟨A6, c6, hv6⟩ := own_slice HO6.out
                  subst hv6
                  have hC6 := own_C (b := z ++ [0]) HO6.out
                  refine goes_ Try.func23 (by kernel_rfl) rfl #[.slice A6 (z ++ [0]).length c6, .slice (some ⟨g10, 0, none⟩) 2 2] (by rfl) rfl rfl (by (try simp only [List.map_toArray, List.map_cons, List.map_nil]); rfl) ?_
                  refine (put16_ A6 c6 (z ++ [0]) _ 2 [41, (m.sz % 65536)] _ hC6.1 hC6.2 (C_blk HX10.out) (Nat.le_refl _) (by have h1 := HLZ.out; simp only [List.length_append, List.length_cons, List.length_nil]; omega)).mono ?_
                  rintro e wn16 ⟨v11, rfl, ho11, hb⟩
                  refine ⟨_, rfl, ?_⟩
                  refine hK.out _ _ ⟨(hb.cell (World.block_lt_of_cell? _ _ hHeld.1)).trans hHeld.1, (hb.cell (World.block_lt_of_cell? _ _ hHeld.2)).trans hHeld.2⟩ (fun hHeld => ?_)
                  clear hK K
                  refine norm_ (a' := ?_) ?_ ?_
                  rotate_left
                  · show Act.put _ (some 142) _ = _
                    simp only [Act.put, List.setIfInBounds_toArray, List.set_cons_zero, List.set_cons_succ, i64_w, i32_w]
                    rfl
                  have HO11 := Lib.hid ho11
                  have HLO : Hid (W5.heap.size ≤ wn15.heap.size) := Lib.hid HGr.out.size
                  obtain ⟨s11, hs11⟩ : ∃ x, wn15.heap.size = x := ⟨_, rfl⟩
                  rw [hs11] at HO11 HLO
                  replace HGr := Lib.hid (grow_below HGr.out hb)
                  replace HSZ := Lib.hid (Nat.le_trans HSZ.out hb.size)
                  replace HBc := Lib.hid (HBc.out.trans (hb.mono HBc.out.size))
                  clear ho11 hb hC6 HX10 hs11
                  refine one_ (i := 12) (N := (some 143)) #[true, true, true, true, true, true, true, true, true, true, true, true, true, false, false, false, false] rfl rfl (one_of HT_.out (by kernel_rfl)) (by decide) (fun K hK => ?_)
                  go_simp
                  refine hK.out _ _ ⟨cell_alloc hHeld.1 _, cell_alloc hHeld.2 _⟩ (fun hHeld => ?_)
                  clear hK K
                  have hba := below_alloc (Below.refl wn16.heap.size wn16) (Obj.cells #[.int .u8 0, .int .u8 0, .int .u8 0, .int .u8 0, .int .u8 0, .int .u8 0] 5)
                  have hxn := blk_new wn16 (Obj.cells #[.int .u8 0, .int .u8 0, .int .u8 0, .int .u8 0, .int .u8 0, .int .u8 0] 5 (0, 0))
                  obtain ⟨g12, hg12⟩ : ∃ x, wn16.heap.size = x := ⟨_, rfl⟩
                  obtain ⟨wn17, hwn⟩ : ∃ x, wn16.alloc (Obj.cells #[.int .u8 0, .int .u8 0, .int .u8 0, .int .u8 0, .int .u8 0, .int .u8 0] 5) = x := ⟨_, rfl⟩
                  have HGE12 : Hid (wa.heap.size ≤ g12) := Lib.hid (by have := HSZ.out; omega)
                  rw [hwn] at hba hxn hHeld
                  rw [hg12] at hxn
                  (try rw [hwn])
                  (try rw [hg12])
                  have HX12 := Lib.hid hxn
                  replace HSZ := Lib.hid (Nat.le_trans HSZ.out hba.size)
                  replace HBc := Lib.hid (HBc.out.trans (hba.mono HBc.out.size))
                  replace HGr := Lib.hid (grow_below HGr.out hba)
                  replace HO11 := Lib.hid (pw_own_below HO11.out hba)
                  clear hba hxn hwn hg12
                  refine one_ (i := 13) (N := (some 144)) #[true, true, true, true, true, true, true, true, true, true, true, true, true, true, false, false, false] rfl rfl (one_of HT_.out (by kernel_rfl)) (by decide) (fun K hK => ?_)
                  have hlo : w3.heap.size ≤ s11 := by have h1 := HLO.out; have h2 := HG5.out.low; omega
                  have hva : ∀ k, (v11 : Value).ownBlock = some k → W5.heap.size ≤ k := fun k e => by have h1 := own_base HO11.out k e; have h2 := HLO.out; omega
                  refine Kd.R_append_rows_step (Kd.int .u8) (w0 := w3) w3.heap.size (by rfl) (.tmp 142) (.tmp 143) 40 5 (.int .u8 0) 1 rfl Try.underlying40 infoB rfl (by decide) (by omega) v11 (z ++ [0] ++ all16 [41, (m.sz % 65536)]) [0, 0, 0, 0, 0, 0] _ _ _ (fun _ => True) (fun _ => False) rfl rfl (Kd.R_of_own (enc := Value.int .u8) (h1 := fun _ => rfl) (ok := fun _ => True) (by exact (own_lower HO11.out hlo)) (fun _ _ => trivial)) (C_blk HX12.out) (fun _ _ h => h) (fun _ h => h.elim) (fun k hk => trivial) HBc.out HBc.out.size (by have h1 := HLZ.out; exact Nat.le_trans (Nat.mul_le_mul_right 1 (show _ ≤ 700000000 by (try simp only [List.length_append, all16_len, List.length_cons, List.length_nil]); omega)) (by decide)) ?_
                  intro v13 wn18 hR hB hg hat
                  have ho13 := Kd.own_of_R hR
                  have hgj := grow_join HGr.out hg hva
                  refine hK.out _ _ ⟨?_, ?_⟩ (fun hHeld => ?_)
                  · exact cell_grown hHeld.1 hg (fun e => by have h1 := hva _ e.symm; have h2 := World.block_lt_of_cell? _ _ HC5.out; exact absurd (Nat.lt_of_lt_of_le h2 h1) (Nat.lt_irrefl _))
                  · exact cell_grown hHeld.2 hg (fun e => by have h1 := hva _ e.symm; have h2 := HGL.out; have h3 := HS5.out; exact absurd (Nat.lt_of_lt_of_le (Nat.lt_of_lt_of_le h2 h3) h1) (Nat.lt_irrefl _))
                  clear hK K
                  refine norm_ (a' := ?_) ?_ ?_
                  rotate_left
                  · show Act.put _ (some 144) _ = _
                    simp only [Act.put, List.setIfInBounds_toArray, List.set_cons_zero, List.set_cons_succ, i64_w, i32_w]
                    rfl
                  have HO13 := Lib.hid ho13
                  have HGJ := Lib.hid hgj
                  have HA13 : Hid (v13.ownBlock = (Value.slice Ar z.length cr).ownBlock ∨ ∃ b, v13.ownBlock = some b ∧ W5.heap.size ≤ b) := Lib.hid (.inr (at_join HO11.out (by simp; omega) hat HLO.out HGr.out.size))
                  replace HBc := Lib.hid hB
                  clear hR hB hg hat ho13 hgj hva hlo HX12 HGr HO11 HO6 HLO
                  refine pure_ (i := 14) (N := (some 145)) (v := ?_) (a' := ?_) #[true, true, true, true, true, true, true, true, true, true, true, true, true, true, true, false, false] rfl rfl (any_of HT_.out (by kernel_rfl)) (fun _ _ _ h => h) (Or.inl ⟨by rfl, ?_⟩) ?_ ?_
                  rotate_left
                  · intro w'
                    go_simp
                    with_reducible rfl
                  rotate_left
                  · simp only [Act.put, List.setIfInBounds_toArray, List.set_cons_zero, List.set_cons_succ, i64_w, i32_w]
                    rfl
                  refine pure_ (i := 15) (N := (some 146)) (v := ?_) (a' := ?_) #[true, true, true, true, true, true, true, true, true, true, true, true, true, true, true, true, false] rfl rfl (any_of HT_.out (by kernel_rfl)) (fun _ _ _ h => h) (Or.inl ⟨by rfl, ?_⟩) ?_ ?_
                  rotate_left
                  · intro w'
                    go_simp
                    with_reducible rfl
                  rotate_left
                  · simp only [Act.put, List.setIfInBounds_toArray, List.set_cons_zero, List.set_cons_succ, i64_w, i32_w]
                    rfl
                  obtain ⟨wz, hwz⟩ : ∃ x, wn18 = x := ⟨_, rfl⟩
                  rw [hwz] at HO13 HGJ HBc hHeld ⊢
                  clear hwz
                rotate_left 1
                focus
                  go_simp
                  refine hK.out _ _ ⟨cell_alloc hHeld.1 _, cell_alloc hHeld.2 _⟩ (fun hHeld => ?_)
                  clear hK K
                  have hba := below_alloc (Below.refl wn15.heap.size wn15) (Obj.cells #[.int .u8 0, .int .u8 0, .int .u8 0, .int .u8 0, .int .u8 0, .int .u8 0] 5)
                  have hxn := blk_new wn15 (Obj.cells #[.int .u8 0, .int .u8 0, .int .u8 0, .int .u8 0, .int .u8 0, .int .u8 0] 5 (0, 0))
                  obtain ⟨g12, hg12⟩ : ∃ x, wn15.heap.size = x := ⟨_, rfl⟩
                  obtain ⟨wn19, hwn⟩ : ∃ x, wn15.alloc (Obj.cells #[.int .u8 0, .int .u8 0, .int .u8 0, .int .u8 0, .int .u8 0, .int .u8 0] 5) = x := ⟨_, rfl⟩
                  have HGE12 : Hid (wa.heap.size ≤ g12) := Lib.hid (by have := HSZ.out; omega)
                  rw [hwn] at hba hxn hHeld
                  rw [hg12] at hxn
                  (try rw [hwn])
                  (try rw [hg12])
                  have HX12 := Lib.hid hxn
                  replace HSZ := Lib.hid (Nat.le_trans HSZ.out hba.size)
                  replace HBc := Lib.hid (HBc.out.trans (hba.mono HBc.out.size))
                  replace HX10 := Lib.hid (blk_below HX10.out hba)
                  replace HGr := Lib.hid (grow_below HGr.out hba)
                  replace HO6 := Lib.hid (pw_own_below HO6.out hba)
                  clear hba hxn hwn hg12
                  refine one_ (i := 11) (N := (some 142)) #[true, true, true, true, true, true, true, true, true, true, true, true, true, false, false, false, false] rfl rfl (one_of HT_.out (by kernel_rfl)) (by decide) (fun K hK => ?_)
                  obtain ⟨A6, c6, hv6⟩ := own_slice HO6.out
                  subst hv6
                  have hC6 := own_C (b := z ++ [0]) HO6.out
                  refine goes_ Try.func23 (by kernel_rfl) rfl #[.slice A6 (z ++ [0]).length c6, .slice (some ⟨g10, 0, none⟩) 2 2] (by rfl) rfl rfl (by (try simp only [List.map_toArray, List.map_cons, List.map_nil]); rfl) ?_
                  refine (put16_ A6 c6 (z ++ [0]) _ 2 [41, (m.sz % 65536)] _ hC6.1 hC6.2 (C_blk HX10.out) (Nat.le_refl _) (by have h1 := HLZ.out; simp only [List.length_append, List.length_cons, List.length_nil]; omega)).mono ?_
                  rintro e wn20 ⟨v11, rfl, ho11, hb⟩
                  refine ⟨_, rfl, ?_⟩
                  replace HX12 := Lib.hid (blk_below HX12.out hb)
                  refine hK.out _ _ ⟨(hb.cell (World.block_lt_of_cell? _ _ hHeld.1)).trans hHeld.1, (hb.cell (World.block_lt_of_cell? _ _ hHeld.2)).trans hHeld.2⟩ (fun hHeld => ?_)
                  clear hK K
                  refine norm_ (a' := ?_) ?_ ?_
                  rotate_left
                  · show Act.put _ (some 142) _ = _
                    simp only [Act.put, List.setIfInBounds_toArray, List.set_cons_zero, List.set_cons_succ, i64_w, i32_w]
                    rfl
                  have HO11 := Lib.hid ho11
                  have HLO : Hid (W5.heap.size ≤ wn19.heap.size) := Lib.hid HGr.out.size
                  obtain ⟨s11, hs11⟩ : ∃ x, wn19.heap.size = x := ⟨_, rfl⟩
                  rw [hs11] at HO11 HLO
                  replace HGr := Lib.hid (grow_below HGr.out hb)
                  replace HSZ := Lib.hid (Nat.le_trans HSZ.out hb.size)
                  replace HBc := Lib.hid (HBc.out.trans (hb.mono HBc.out.size))
                  clear ho11 hb hC6 HX10 hs11
                  refine one_ (i := 13) (N := (some 144)) #[true, true, true, true, true, true, true, true, true, true, true, true, true, true, false, false, false] rfl rfl (one_of HT_.out (by kernel_rfl)) (by decide) (fun K hK => ?_)
                  have hlo : w3.heap.size ≤ s11 := by have h1 := HLO.out; have h2 := HG5.out.low; omega
                  have hva : ∀ k, (v11 : Value).ownBlock = some k → W5.heap.size ≤ k := fun k e => by have h1 := own_base HO11.out k e; have h2 := HLO.out; omega
                  refine Kd.R_append_rows_step (Kd.int .u8) (w0 := w3) w3.heap.size (by rfl) (.tmp 142) (.tmp 143) 40 5 (.int .u8 0) 1 rfl Try.underlying40 infoB rfl (by decide) (by omega) v11 (z ++ [0] ++ all16 [41, (m.sz % 65536)]) [0, 0, 0, 0, 0, 0] _ _ _ (fun _ => True) (fun _ => False) rfl rfl (Kd.R_of_own (enc := Value.int .u8) (h1 := fun _ => rfl) (ok := fun _ => True) (by exact (own_lower HO11.out hlo)) (fun _ _ => trivial)) (C_blk HX12.out) (fun _ _ h => h) (fun _ h => h.elim) (fun k hk => trivial) HBc.out HBc.out.size (by have h1 := HLZ.out; exact Nat.le_trans (Nat.mul_le_mul_right 1 (show _ ≤ 700000000 by (try simp only [List.length_append, all16_len, List.length_cons, List.length_nil]); omega)) (by decide)) ?_
                  intro v13 wn21 hR hB hg hat
                  have ho13 := Kd.own_of_R hR
                  have hgj := grow_join HGr.out hg hva
                  refine hK.out _ _ ⟨?_, ?_⟩ (fun hHeld => ?_)
                  · exact cell_grown hHeld.1 hg (fun e => by have h1 := hva _ e.symm; have h2 := World.block_lt_of_cell? _ _ HC5.out; exact absurd (Nat.lt_of_lt_of_le h2 h1) (Nat.lt_irrefl _))
                  · exact cell_grown hHeld.2 hg (fun e => by have h1 := hva _ e.symm; have h2 := HGL.out; have h3 := HS5.out; exact absurd (Nat.lt_of_lt_of_le (Nat.lt_of_lt_of_le h2 h3) h1) (Nat.lt_irrefl _))
                  clear hK K
                  refine norm_ (a' := ?_) ?_ ?_
                  rotate_left
                  · show Act.put _ (some 144) _ = _
                    simp only [Act.put, List.setIfInBounds_toArray, List.set_cons_zero, List.set_cons_succ, i64_w, i32_w]
                    rfl
                  have HO13 := Lib.hid ho13
                  have HGJ := Lib.hid hgj
                  have HA13 : Hid (v13.ownBlock = (Value.slice Ar z.length cr).ownBlock ∨ ∃ b, v13.ownBlock = some b ∧ W5.heap.size ≤ b) := Lib.hid (.inr (at_join HO11.out (by simp; omega) hat HLO.out HGr.out.size))
                  replace HBc := Lib.hid hB
                  clear hR hB hg hat ho13 hgj hva hlo HX12 HGr HO11 HO6 HLO
                  refine pure_ (i := 14) (N := (some 145)) (v := ?_) (a' := ?_) #[true, true, true, true, true, true, true, true, true, true, true, true, true, true, true, false, false] rfl rfl (any_of HT_.out (by kernel_rfl)) (fun _ _ _ h => h) (Or.inl ⟨by rfl, ?_⟩) ?_ ?_
                  rotate_left
                  · intro w'
                    go_simp
                    with_reducible rfl
                  rotate_left
                  · simp only [Act.put, List.setIfInBounds_toArray, List.set_cons_zero, List.set_cons_succ, i64_w, i32_w]
                    rfl
                  refine pure_ (i := 15) (N := (some 146)) (v := ?_) (a' := ?_) #[true, true, true, true, true, true, true, true, true, true, true, true, true, true, true, true, false] rfl rfl (any_of HT_.out (by kernel_rfl)) (fun _ _ _ h => h) (Or.inl ⟨by rfl, ?_⟩) ?_ ?_
                  rotate_left
                  · intro w'
                    go_simp
                    with_reducible rfl
                  rotate_left
                  · simp only [Act.put, List.setIfInBounds_toArray, List.set_cons_zero, List.set_cons_succ, i64_w, i32_w]
                    rfl
                  obtain ⟨wz, hwz⟩ : ∃ x, wn21 = x := ⟨_, rfl⟩
                  rw [hwz] at HO13 HGJ HBc hHeld ⊢
                  clear hwz
              rotate_left 2
              focus
                go_simp
                refine hK.out _ _ ⟨cell_alloc hHeld.1 _, cell_alloc hHeld.2 _⟩ (fun hHeld => ?_)
                clear hK K
                have hba := below_alloc (Below.refl wn14.heap.size wn14) (Obj.cells #[.int .u8 0, .int .u8 0, .int .u8 0, .int .u8 0, .int .u8 0, .int .u8 0] 5)
                have hxn := blk_new wn14 (Obj.cells #[.int .u8 0, .int .u8 0, .int .u8 0, .int .u8 0, .int .u8 0, .int .u8 0] 5 (0, 0))
                obtain ⟨g12, hg12⟩ : ∃ x, wn14.heap.size = x := ⟨_, rfl⟩
                obtain ⟨wn22, hwn⟩ : ∃ x, wn14.alloc (Obj.cells #[.int .u8 0, .int .u8 0, .int .u8 0, .int .u8 0, .int .u8 0, .int .u8 0] 5) = x := ⟨_, rfl⟩
                have HGE12 : Hid (wa.heap.size ≤ g12) := Lib.hid (by have := HSZ.out; omega)
                rw [hwn] at hba hxn hHeld
                rw [hg12] at hxn
                (try rw [hwn])
                (try rw [hg12])
                have HX12 := Lib.hid hxn
                replace HSZ := Lib.hid (Nat.le_trans HSZ.out hba.size)
                replace HBc := Lib.hid (HBc.out.trans (hba.mono HBc.out.size))
                replace HX5 := Lib.hid (blk_below HX5.out hba)
                replace HX10 := Lib.hid (blk_below HX10.out hba)
                replace HGc := Lib.hid (HGc.out.below hba)
                clear hba hxn hwn hg12
                refine one_ (i := 6) (N := (some 137)) #[true, true, true, true, true, true, true, true, true, true, true, false, true, false, false, false, false] rfl rfl (one_of HT_.out (by kernel_rfl)) (by decide) (fun K hK => ?_)
                have HG5 := HGc
                have HC5 : Hid (wn22.cell? ⟨g, 0, none⟩ = some (Value.slice Ar z.length cr)) := Lib.hid hHeld.1
                obtain ⟨Aq, cq, hcq, -, hoq, -, -⟩ := HGc.out.cell
                have heq : Value.slice Aq z.length cq = (Value.slice Ar z.length cr) := Option.some.inj (hcq.symm.trans hHeld.1)
                rw [heq] at hoq
                clear hcq heq
                refine Kd.R_append_rows_step (Kd.int .u8) (w0 := w3) w3.heap.size (by rfl) (.tmp 135) (.tmp 136) 40 5 (.int .u8 0) 1 rfl Try.underlying40 infoB rfl (by decide) (by omega) (Value.slice Ar z.length cr) z [0] _ _ _ (fun _ => True) (fun _ => False) rfl rfl (Kd.R_of_own (enc := Value.int .u8) (h1 := fun _ => rfl) (ok := fun _ => True) (by exact hoq) (fun _ _ => trivial)) (C_blk HX5.out) (fun _ _ h => h) (fun _ h => h.elim) (fun k hk => trivial) HBc.out HBc.out.size (by have h1 := HLZ.out; exact Nat.le_trans (Nat.mul_le_mul_right 1 (show _ ≤ 700000000 by (try simp only [List.length_append, all16_len, List.length_cons, List.length_nil]); omega)) (by decide)) ?_
                intro v6 wn23 hR hB hg hat
                have ho6 := Kd.own_of_R hR
                have hcg := HGc.out.grown hHeld.1 hg
                replace HX10 := Lib.hid (blk_grown HX10.out hg (fun e => by have h1 := HVb.out g10 e.symm; have h2 := HGE10.out; omega))
                replace HX12 := Lib.hid (blk_grown HX12.out hg (fun e => by have h1 := HVb.out g12 e.symm; have h2 := HGE12.out; omega))
                refine hK.out _ _ ⟨hcg.1, (cell_grown hHeld.2 hg (fun e => by have h1 := HVM.out e.symm; exact h1))⟩ (fun hHeld => ?_)
                clear hK K
                refine norm_ (a' := ?_) ?_ ?_
                rotate_left
                · show Act.put _ (some 137) _ = _
                  simp only [Act.put, List.setIfInBounds_toArray, List.set_cons_zero, List.set_cons_succ, i64_w, i32_w]
                  rfl
                have HO6 := Lib.hid ho6
                have HGr := Lib.hid hg
                have HAT := Lib.hid hat
                have HS5 : Hid (wa.heap.size ≤ wn22.heap.size) := HSZ
                replace HSZ := Lib.hid (Nat.le_trans HSZ.out hg.size)
                replace HBc := Lib.hid hB
                obtain ⟨W5, hW5⟩ : ∃ x, wn22 = x := ⟨_, rfl⟩
                rw [hW5] at HG5 HC5 HGr HAT HS5
                clear hR hB hg hat ho6 hcg HGc HX5 hW5 hoq
                refine one_ (i := 11) (N := (some 142)) #[true, true, true, true, true, true, true, true, true, true, true, true, true, false, false, false, false] rfl rfl (one_of HT_.out (by kernel_rfl)) (by decide) (fun K hK => ?_)
                obtain ⟨A6, c6, hv6⟩ := own_slice HO6.out
                subst hv6
                have hC6 := own_C (b := z ++ [0]) HO6.out
                refine goes_ Try.func23 (by kernel_rfl) rfl #[.slice A6 (z ++ [0]).length c6, .slice (some ⟨g10, 0, none⟩) 2 2] (by rfl) rfl rfl (by (try simp only [List.map_toArray, List.map_cons, List.map_nil]); rfl) ?_
                refine (put16_ A6 c6 (z ++ [0]) _ 2 [41, (m.sz % 65536)] _ hC6.1 hC6.2 (C_blk HX10.out) (Nat.le_refl _) (by have h1 := HLZ.out; simp only [List.length_append, List.length_cons, List.length_nil]; omega)).mono ?_
                rintro e wn24 ⟨v11, rfl, ho11, hb⟩
                refine ⟨_, rfl, ?_⟩
                replace HX12 := Lib.hid (blk_below HX12.out hb)
                refine hK.out _ _ ⟨(hb.cell (World.block_lt_of_cell? _ _ hHeld.1)).trans hHeld.1, (hb.cell (World.block_lt_of_cell? _ _ hHeld.2)).trans hHeld.2⟩ (fun hHeld => ?_)
                clear hK K
                refine norm_ (a' := ?_) ?_ ?_
                rotate_left
                · show Act.put _ (some 142) _ = _
                  simp only [Act.put, List.setIfInBounds_toArray, List.set_cons_zero, List.set_cons_succ, i64_w, i32_w]
                  rfl
                have HO11 := Lib.hid ho11
                have HLO : Hid (W5.heap.size ≤ wn23.heap.size) := Lib.hid HGr.out.size
                obtain ⟨s11, hs11⟩ : ∃ x, wn23.heap.size = x := ⟨_, rfl⟩
                rw [hs11] at HO11 HLO
                replace HGr := Lib.hid (grow_below HGr.out hb)
                replace HSZ := Lib.hid (Nat.le_trans HSZ.out hb.size)
                replace HBc := Lib.hid (HBc.out.trans (hb.mono HBc.out.size))
                clear ho11 hb hC6 HX10 hs11
                refine one_ (i := 13) (N := (some 144)) #[true, true, true, true, true, true, true, true, true, true, true, true, true, true, false, false, false] rfl rfl (one_of HT_.out (by kernel_rfl)) (by decide) (fun K hK => ?_)
                have hlo : w3.heap.size ≤ s11 := by have h1 := HLO.out; have h2 := HG5.out.low; omega
                have hva : ∀ k, (v11 : Value).ownBlock = some k → W5.heap.size ≤ k := fun k e => by have h1 := own_base HO11.out k e; have h2 := HLO.out; omega
                refine Kd.R_append_rows_step (Kd.int .u8) (w0 := w3) w3.heap.size (by rfl) (.tmp 142) (.tmp 143) 40 5 (.int .u8 0) 1 rfl Try.underlying40 infoB rfl (by decide) (by omega) v11 (z ++ [0] ++ all16 [41, (m.sz % 65536)]) [0, 0, 0, 0, 0, 0] _ _ _ (fun _ => True) (fun _ => False) rfl rfl (Kd.R_of_own (enc := Value.int .u8) (h1 := fun _ => rfl) (ok := fun _ => True) (by exact (own_lower HO11.out hlo)) (fun _ _ => trivial)) (C_blk HX12.out) (fun _ _ h => h) (fun _ h => h.elim) (fun k hk => trivial) HBc.out HBc.out.size (by have h1 := HLZ.out; exact Nat.le_trans (Nat.mul_le_mul_right 1 (show _ ≤ 700000000 by (try simp only [List.length_append, all16_len, List.length_cons, List.length_nil]); omega)) (by decide)) ?_
                intro v13 wn25 hR hB hg hat
                have ho13 := Kd.own_of_R hR
                have hgj := grow_join HGr.out hg hva
                refine hK.out _ _ ⟨?_, ?_⟩ (fun hHeld => ?_)
                · exact cell_grown hHeld.1 hg (fun e => by have h1 := hva _ e.symm; have h2 := World.block_lt_of_cell? _ _ HC5.out; exact absurd (Nat.lt_of_lt_of_le h2 h1) (Nat.lt_irrefl _))
                · exact cell_grown hHeld.2 hg (fun e => by have h1 := hva _ e.symm; have h2 := HGL.out; have h3 := HS5.out; exact absurd (Nat.lt_of_lt_of_le (Nat.lt_of_lt_of_le h2 h3) h1) (Nat.lt_irrefl _))
                clear hK K
                refine norm_ (a' := ?_) ?_ ?_
                rotate_left
                · show Act.put _ (some 144) _ = _
                  simp only [Act.put, List.setIfInBounds_toArray, List.set_cons_zero, List.set_cons_succ, i64_w, i32_w]
                  rfl
                have HO13 := Lib.hid ho13
                have HGJ := Lib.hid hgj
                have HA13 : Hid (v13.ownBlock = (Value.slice Ar z.length cr).ownBlock ∨ ∃ b, v13.ownBlock = some b ∧ W5.heap.size ≤ b) := Lib.hid (.inr (at_join HO11.out (by simp; omega) hat HLO.out HGr.out.size))
                replace HBc := Lib.hid hB
                clear hR hB hg hat ho13 hgj hva hlo HX12 HGr HO11 HO6 HLO
                refine pure_ (i := 14) (N := (some 145)) (v := ?_) (a' := ?_) #[true, true, true, true, true, true, true, true, true, true, true, true, true, true, true, false, false] rfl rfl (any_of HT_.out (by kernel_rfl)) (fun _ _ _ h => h) (Or.inl ⟨by rfl, ?_⟩) ?_ ?_
                rotate_left
                · intro w'
                  go_simp
                  with_reducible rfl
                rotate_left
                · simp only [Act.put, List.setIfInBounds_toArray, List.set_cons_zero, List.set_cons_succ, i64_w, i32_w]
                  rfl
                refine pure_ (i := 15) (N := (some 146)) (v := ?_) (a' := ?_) #[true, true, true, true, true, true, true, true, true, true, true, true, true, true, true, true, false] rfl rfl (any_of HT_.out (by kernel_rfl)) (fun _ _ _ h => h) (Or.inl ⟨by rfl, ?_⟩) ?_ ?_
                rotate_left
                · intro w'
                  go_simp
                  with_reducible rfl
                rotate_left
                · simp only [Act.put, List.setIfInBounds_toArray, List.set_cons_zero, List.set_cons_succ, i64_w, i32_w]
                  rfl
                obtain ⟨wz, hwz⟩ : ∃ x, wn25 = x := ⟨_, rfl⟩
                rw [hwz] at HO13 HGJ HBc hHeld ⊢
                clear hwz
            rotate_left 3
            focus
              go_simp
              refine hK.out _ _ ⟨cell_alloc hHeld.1 _, cell_alloc hHeld.2 _⟩ (fun hHeld => ?_)
              clear hK K
              have hba := below_alloc (Below.refl wn1.heap.size wn1) (Obj.cells #[.int .u8 0, .int .u8 0, .int .u8 0, .int .u8 0, .int .u8 0, .int .u8 0] 5)
              have hxn := blk_new wn1 (Obj.cells #[.int .u8 0, .int .u8 0, .int .u8 0, .int .u8 0, .int .u8 0, .int .u8 0] 5 (0, 0))
              obtain ⟨g12, hg12⟩ : ∃ x, wn1.heap.size = x := ⟨_, rfl⟩
              obtain ⟨wn26, hwn⟩ : ∃ x, wn1.alloc (Obj.cells #[.int .u8 0, .int .u8 0, .int .u8 0, .int .u8 0, .int .u8 0, .int .u8 0] 5) = x := ⟨_, rfl⟩
              have HGE12 : Hid (wa.heap.size ≤ g12) := Lib.hid (by have := HSZ.out; omega)
              rw [hwn] at hba hxn hHeld
              rw [hg12] at hxn
              (try rw [hwn])
              (try rw [hg12])
              have HX12 := Lib.hid hxn
              replace HSZ := Lib.hid (Nat.le_trans HSZ.out hba.size)
              replace HBc := Lib.hid (HBc.out.trans (hba.mono HBc.out.size))
              replace HX5 := Lib.hid (blk_below HX5.out hba)
              replace HGc := Lib.hid (HGc.out.below hba)
              clear hba hxn hwn hg12
              refine two_ (i := 6) (j := 10) (Ni := (some 137)) (Nj := (some 141)) #[true, true, true, true, true, true, true, true, true, true, false, false, true, false, false, false, false] #[true, true, true, true, true, true, false, true, true, true, true, false, true, false, false, false, false] rfl rfl rfl rfl (two_of HT_.out (by kernel_rfl)) (by decide) (by decide) (fun K hK => ?_) (fun K hK => ?_)
              focus
                have HG5 := HGc
                have HC5 : Hid (wn26.cell? ⟨g, 0, none⟩ = some (Value.slice Ar z.length cr)) := Lib.hid hHeld.1
                obtain ⟨Aq, cq, hcq, -, hoq, -, -⟩ := HGc.out.cell
                have heq : Value.slice Aq z.length cq = (Value.slice Ar z.length cr) := Option.some.inj (hcq.symm.trans hHeld.1)
                rw [heq] at hoq
                clear hcq heq
                refine Kd.R_append_rows_step (Kd.int .u8) (w0 := w3) w3.heap.size (by rfl) (.tmp 135) (.tmp 136) 40 5 (.int .u8 0) 1 rfl Try.underlying40 infoB rfl (by decide) (by omega) (Value.slice Ar z.length cr) z [0] _ _ _ (fun _ => True) (fun _ => False) rfl rfl (Kd.R_of_own (enc := Value.int .u8) (h1 := fun _ => rfl) (ok := fun _ => True) (by exact hoq) (fun _ _ => trivial)) (C_blk HX5.out) (fun _ _ h => h) (fun _ h => h.elim) (fun k hk => trivial) HBc.out HBc.out.size (by have h1 := HLZ.out; exact Nat.le_trans (Nat.mul_le_mul_right 1 (show _ ≤ 700000000 by (try simp only [List.length_append, all16_len, List.length_cons, List.length_nil]); omega)) (by decide)) ?_
                intro v6 wn27 hR hB hg hat
                have ho6 := Kd.own_of_R hR
                have hcg := HGc.out.grown hHeld.1 hg
                replace HX12 := Lib.hid (blk_grown HX12.out hg (fun e => by have h1 := HVb.out g12 e.symm; have h2 := HGE12.out; omega))
                refine hK.out _ _ ⟨hcg.1, (cell_grown hHeld.2 hg (fun e => by have h1 := HVM.out e.symm; exact h1))⟩ (fun hHeld => ?_)
                clear hK K
                refine norm_ (a' := ?_) ?_ ?_
                rotate_left
                · show Act.put _ (some 137) _ = _
                  simp only [Act.put, List.setIfInBounds_toArray, List.set_cons_zero, List.set_cons_succ, i64_w, i32_w]
                  rfl
                have HO6 := Lib.hid ho6
                have HGr := Lib.hid hg
                have HAT := Lib.hid hat
                have HS5 : Hid (wa.heap.size ≤ wn26.heap.size) := HSZ
                replace HSZ := Lib.hid (Nat.le_trans HSZ.out hg.size)
                replace HBc := Lib.hid hB
                obtain ⟨W5, hW5⟩ : ∃ x, wn26 = x := ⟨_, rfl⟩
                rw [hW5] at HG5 HC5 HGr HAT HS5
                clear hR hB hg hat ho6 hcg HGc HX5 hW5 hoq
                refine one_ (i := 10) (N := (some 141)) #[true, true, true, true, true, true, true, true, true, true, true, false, true, false, false, false, false] rfl rfl (one_of HT_.out (by kernel_rfl)) (by decide) (fun K hK => ?_)
                go_simp
                (try simp only [HSZM.out])
                refine hK.out _ _ ⟨cell_alloc hHeld.1 _, cell_alloc hHeld.2 _⟩ (fun hHeld => ?_)
                clear hK K
                (try simp only [HSZM.out] at hHeld ⊢)
                have hba := below_alloc (Below.refl wn27.heap.size wn27) (Obj.cells #[.int .u16 41, .int .u16 (m.sz % 65536)] 22)
                have hxn := blk_new wn27 (Obj.cells #[.int .u16 41, .int .u16 (m.sz % 65536)] 22 (0, 0))
                obtain ⟨g10, hg10⟩ : ∃ x, wn27.heap.size = x := ⟨_, rfl⟩
                obtain ⟨wn28, hwn⟩ : ∃ x, wn27.alloc (Obj.cells #[.int .u16 41, .int .u16 (m.sz % 65536)] 22) = x := ⟨_, rfl⟩
                have HGE10 : Hid (wa.heap.size ≤ g10) := Lib.hid (by have := HSZ.out; omega)
                rw [hwn] at hba hxn hHeld
                rw [hg10] at hxn
                (try rw [hwn])
                (try rw [hg10])
                have HX10 := Lib.hid hxn
                replace HSZ := Lib.hid (Nat.le_trans HSZ.out hba.size)
                replace HBc := Lib.hid (HBc.out.trans (hba.mono HBc.out.size))
                replace HX12 := Lib.hid (blk_below HX12.out hba)
                replace HGr := Lib.hid (grow_below HGr.out hba)
                replace HO6 := Lib.hid (pw_own_below HO6.out hba)
                clear hba hxn hwn hg10
                refine one_ (i := 11) (N := (some 142)) #[true, true, true, true, true, true, true, true, true, true, true, true, true, false, false, false, false] rfl rfl (one_of HT_.out (by kernel_rfl)) (by decide) (fun K hK => ?_)
                obtain ⟨A6, c6, hv6⟩ := own_slice HO6.out
                subst hv6
                have hC6 := own_C (b := z ++ [0]) HO6.out
                refine goes_ Try.func23 (by kernel_rfl) rfl #[.slice A6 (z ++ [0]).length c6, .slice (some ⟨g10, 0, none⟩) 2 2] (by rfl) rfl rfl (by (try simp only [List.map_toArray, List.map_cons, List.map_nil]); rfl) ?_
                refine (put16_ A6 c6 (z ++ [0]) _ 2 [41, (m.sz % 65536)] _ hC6.1 hC6.2 (C_blk HX10.out) (Nat.le_refl _) (by have h1 := HLZ.out; simp only [List.length_append, List.length_cons, List.length_nil]; omega)).mono ?_
                rintro e wn29 ⟨v11, rfl, ho11, hb⟩
                refine ⟨_, rfl, ?_⟩
                replace HX12 := Lib.hid (blk_below HX12.out hb)
                refine hK.out _ _ ⟨(hb.cell (World.block_lt_of_cell? _ _ hHeld.1)).trans hHeld.1, (hb.cell (World.block_lt_of_cell? _ _ hHeld.2)).trans hHeld.2⟩ (fun hHeld => ?_)
                clear hK K
                refine norm_ (a' := ?_) ?_ ?_
                rotate_left
                · show Act.put _ (some 142) _ = _
                  simp only [Act.put, List.setIfInBounds_toArray, List.set_cons_zero, List.set_cons_succ, i64_w, i32_w]
                  rfl
                have HO11 := Lib.hid ho11
                have HLO : Hid (W5.heap.size ≤ wn28.heap.size) := Lib.hid HGr.out.size
                obtain ⟨s11, hs11⟩ : ∃ x, wn28.heap.size = x := ⟨_, rfl⟩
                rw [hs11] at HO11 HLO
                replace HGr := Lib.hid (grow_below HGr.out hb)
                replace HSZ := Lib.hid (Nat.le_trans HSZ.out hb.size)
                replace HBc := Lib.hid (HBc.out.trans (hb.mono HBc.out.size))
                clear ho11 hb hC6 HX10 hs11
                refine one_ (i := 13) (N := (some 144)) #[true, true, true, true, true, true, true, true, true, true, true, true, true, true, false, false, false] rfl rfl (one_of HT_.out (by kernel_rfl)) (by decide) (fun K hK => ?_)
                have hlo : w3.heap.size ≤ s11 := by have h1 := HLO.out; have h2 := HG5.out.low; omega
                have hva : ∀ k, (v11 : Value).ownBlock = some k → W5.heap.size ≤ k := fun k e => by have h1 := own_base HO11.out k e; have h2 := HLO.out; omega
                refine Kd.R_append_rows_step (Kd.int .u8) (w0 := w3) w3.heap.size (by rfl) (.tmp 142) (.tmp 143) 40 5 (.int .u8 0) 1 rfl Try.underlying40 infoB rfl (by decide) (by omega) v11 (z ++ [0] ++ all16 [41, (m.sz % 65536)]) [0, 0, 0, 0, 0, 0] _ _ _ (fun _ => True) (fun _ => False) rfl rfl (Kd.R_of_own (enc := Value.int .u8) (h1 := fun _ => rfl) (ok := fun _ => True) (by exact (own_lower HO11.out hlo)) (fun _ _ => trivial)) (C_blk HX12.out) (fun _ _ h => h) (fun _ h => h.elim) (fun k hk => trivial) HBc.out HBc.out.size (by have h1 := HLZ.out; exact Nat.le_trans (Nat.mul_le_mul_right 1 (show _ ≤ 700000000 by (try simp only [List.length_append, all16_len, List.length_cons, List.length_nil]); omega)) (by decide)) ?_
                intro v13 wn30 hR hB hg hat
                have ho13 := Kd.own_of_R hR
                have hgj := grow_join HGr.out hg hva
                refine hK.out _ _ ⟨?_, ?_⟩ (fun hHeld => ?_)
                · exact cell_grown hHeld.1 hg (fun e => by have h1 := hva _ e.symm; have h2 := World.block_lt_of_cell? _ _ HC5.out; exact absurd (Nat.lt_of_lt_of_le h2 h1) (Nat.lt_irrefl _))
                · exact cell_grown hHeld.2 hg (fun e => by have h1 := hva _ e.symm; have h2 := HGL.out; have h3 := HS5.out; exact absurd (Nat.lt_of_lt_of_le (Nat.lt_of_lt_of_le h2 h3) h1) (Nat.lt_irrefl _))
                clear hK K
                refine norm_ (a' := ?_) ?_ ?_
                rotate_left
                · show Act.put _ (some 144) _ = _
                  simp only [Act.put, List.setIfInBounds_toArray, List.set_cons_zero, List.set_cons_succ, i64_w, i32_w]
                  rfl
                have HO13 := Lib.hid ho13
                have HGJ := Lib.hid hgj
                have HA13 : Hid (v13.ownBlock = (Value.slice Ar z.length cr).ownBlock ∨ ∃ b, v13.ownBlock = some b ∧ W5.heap.size ≤ b) := Lib.hid (.inr (at_join HO11.out (by simp; omega) hat HLO.out HGr.out.size))
                replace HBc := Lib.hid hB
                clear hR hB hg hat ho13 hgj hva hlo HX12 HGr HO11 HO6 HLO
                refine pure_ (i := 14) (N := (some 145)) (v := ?_) (a' := ?_) #[true, true, true, true, true, true, true, true, true, true, true, true, true, true, true, false, false] rfl rfl (any_of HT_.out (by kernel_rfl)) (fun _ _ _ h => h) (Or.inl ⟨by rfl, ?_⟩) ?_ ?_
                rotate_left
                · intro w'
                  go_simp
                  with_reducible rfl
                rotate_left
                · simp only [Act.put, List.setIfInBounds_toArray, List.set_cons_zero, List.set_cons_succ, i64_w, i32_w]
                  rfl
                refine pure_ (i := 15) (N := (some 146)) (v := ?_) (a' := ?_) #[true, true, true, true, true, true, true, true, true, true, true, true, true, true, true, true, false] rfl rfl (any_of HT_.out (by kernel_rfl)) (fun _ _ _ h => h) (Or.inl ⟨by rfl, ?_⟩) ?_ ?_
                rotate_left
                · intro w'
                  go_simp
                  with_reducible rfl
                rotate_left
                · simp only [Act.put, List.setIfInBounds_toArray, List.set_cons_zero, List.set_cons_succ, i64_w, i32_w]
                  rfl
                obtain ⟨wz, hwz⟩ : ∃ x, wn30 = x := ⟨_, rfl⟩
                rw [hwz] at HO13 HGJ HBc hHeld ⊢
                clear hwz
              rotate_left 1
              focus
                go_simp
                (try simp only [HSZM.out])
                refine hK.out _ _ ⟨cell_alloc hHeld.1 _, cell_alloc hHeld.2 _⟩ (fun hHeld => ?_)
                clear hK K
                (try simp only [HSZM.out] at hHeld ⊢)
                have hba := below_alloc (Below.refl wn26.heap.size wn26) (Obj.cells #[.int .u16 41, .int .u16 (m.sz % 65536)] 22)
                have hxn := blk_new wn26 (Obj.cells #[.int .u16 41, .int .u16 (m.sz % 65536)] 22 (0, 0))
                obtain ⟨g10, hg10⟩ : ∃ x, wn26.heap.size = x := ⟨_, rfl⟩
                obtain ⟨wn31, hwn⟩ : ∃ x, wn26.alloc (Obj.cells #[.int .u16 41, .int .u16 (m.sz % 65536)] 22) = x := ⟨_, rfl⟩
                have HGE10 : Hid (wa.heap.size ≤ g10) := Lib.hid (by have := HSZ.out; omega)
                rw [hwn] at hba hxn hHeld
                rw [hg10] at hxn
                (try rw [hwn])
                (try rw [hg10])
                have HX10 := Lib.hid hxn
                replace HSZ := Lib.hid (Nat.le_trans HSZ.out hba.size)
                replace HBc := Lib.hid (HBc.out.trans (hba.mono HBc.out.size))
                replace HX5 := Lib.hid (blk_below HX5.out hba)
                replace HX12 := Lib.hid (blk_below HX12.out hba)
                replace HGc := Lib.hid (HGc.out.below hba)
                clear hba hxn hwn hg10
                refine one_ (i := 6) (N := (some 137)) #[true, true, true, true, true, true, true, true, true, true, true, false, true, false, false, false, false] rfl rfl (one_of HT_.out (by kernel_rfl)) (by decide) (fun K hK => ?_)
                have HG5 := HGc
                have HC5 : Hid (wn31.cell? ⟨g, 0, none⟩ = some (Value.slice Ar z.length cr)) := Lib.hid hHeld.1
                obtain ⟨Aq, cq, hcq, -, hoq, -, -⟩ := HGc.out.cell
                have heq : Value.slice Aq z.length cq = (Value.slice Ar z.length cr) := Option.some.inj (hcq.symm.trans hHeld.1)
                rw [heq] at hoq
                clear hcq heq
                refine Kd.R_append_rows_step (Kd.int .u8) (w0 := w3) w3.heap.size (by rfl) (.tmp 135) (.tmp 136) 40 5 (.int .u8 0) 1 rfl Try.underlying40 infoB rfl (by decide) (by omega) (Value.slice Ar z.length cr) z [0] _ _ _ (fun _ => True) (fun _ => False) rfl rfl (Kd.R_of_own (enc := Value.int .u8) (h1 := fun _ => rfl) (ok := fun _ => True) (by exact hoq) (fun _ _ => trivial)) (C_blk HX5.out) (fun _ _ h => h) (fun _ h => h.elim) (fun k hk => trivial) HBc.out HBc.out.size (by have h1 := HLZ.out; exact Nat.le_trans (Nat.mul_le_mul_right 1 (show _ ≤ 700000000 by (try simp only [List.length_append, all16_len, List.length_cons, List.length_nil]); omega)) (by decide)) ?_
                intro v6 wn32 hR hB hg hat
                have ho6 := Kd.own_of_R hR
                have hcg := HGc.out.grown hHeld.1 hg
                replace HX10 := Lib.hid (blk_grown HX10.out hg (fun e => by have h1 := HVb.out g10 e.symm; have h2 := HGE10.out; omega))
                replace HX12 := Lib.hid (blk_grown HX12.out hg (fun e => by have h1 := HVb.out g12 e.symm; have h2 := HGE12.out; omega))
                refine hK.out _ _ ⟨hcg.1, (cell_grown hHeld.2 hg (fun e => by have h1 := HVM.out e.symm; exact h1))⟩ (fun hHeld => ?_)
                clear hK K
                refine norm_ (a' := ?_) ?_ ?_
                rotate_left
                · show Act.put _ (some 137) _ = _
                  simp only [Act.put, List.setIfInBounds_toArray, List.set_cons_zero, List.set_cons_succ, i64_w, i32_w]
                  rfl
                have HO6 := Lib.hid ho6
                have HGr := Lib.hid hg
                have HAT := Lib.hid hat
                have HS5 : Hid (wa.heap.size ≤ wn31.heap.size) := HSZ
                replace HSZ := Lib.hid (Nat.le_trans HSZ.out hg.size)
                replace HBc := Lib.hid hB
                obtain ⟨W5, hW5⟩ : ∃ x, wn31 = x := ⟨_, rfl⟩
                rw [hW5] at HG5 HC5 HGr HAT HS5
                clear hR hB hg hat ho6 hcg HGc HX5 hW5 hoq
                refine one_ (i := 11) (N := (some 142)) #[true, true, true, true, true, true, true, true, true, true, true, true, true, false, false, false, false] rfl rfl (one_of HT_.out (by kernel_rfl)) (by decide) (fun K hK => ?_)
                obtain ⟨A6, c6, hv6⟩ := own_slice HO6.out
                subst hv6
                have hC6 := own_C (b := z ++ [0]) HO6.out
                refine goes_ Try.func23 (by kernel_rfl) rfl #[.slice A6 (z ++ [0]).length c6, .slice (some ⟨g10, 0, none⟩) 2 2] (by rfl) rfl rfl (by (try simp only [List.map_toArray, List.map_cons, List.map_nil]); rfl) ?_
                refine (put16_ A6 c6 (z ++ [0]) _ 2 [41, (m.sz % 65536)] _ hC6.1 hC6.2 (C_blk HX10.out) (Nat.le_refl _) (by have h1 := HLZ.out; simp only [List.length_append, List.length_cons, List.length_nil]; omega)).mono ?_
                rintro e wn33 ⟨v11, rfl, ho11, hb⟩
                refine ⟨_, rfl, ?_⟩
                replace HX12 := Lib.hid (blk_below HX12.out hb)
                refine hK.out _ _ ⟨(hb.cell (World.block_lt_of_cell? _ _ hHeld.1)).trans hHeld.1, (hb.cell (World.block_lt_of_cell? _ _ hHeld.2)).trans hHeld.2⟩ (fun hHeld => ?_)
                clear hK K
                refine norm_ (a' := ?_) ?_ ?_
                rotate_left
                · show Act.put _ (some 142) _ = _
                  simp only [Act.put, List.setIfInBounds_toArray, List.set_cons_zero, List.set_cons_succ, i64_w, i32_w]
                  rfl
                have HO11 := Lib.hid ho11
                have HLO : Hid (W5.heap.size ≤ wn32.heap.size) := Lib.hid HGr.out.size
                obtain ⟨s11, hs11⟩ : ∃ x, wn32.heap.size = x := ⟨_, rfl⟩
                rw [hs11] at HO11 HLO
                replace HGr := Lib.hid (grow_below HGr.out hb)
                replace HSZ := Lib.hid (Nat.le_trans HSZ.out hb.size)
                replace HBc := Lib.hid (HBc.out.trans (hb.mono HBc.out.size))
                clear ho11 hb hC6 HX10 hs11
                refine one_ (i := 13) (N := (some 144)) #[true, true, true, true, true, true, true, true, true, true, true, true, true, true, false, false, false] rfl rfl (one_of HT_.out (by kernel_rfl)) (by decide) (fun K hK => ?_)
                have hlo : w3.heap.size ≤ s11 := by have h1 := HLO.out; have h2 := HG5.out.low; omega
                have hva : ∀ k, (v11 : Value).ownBlock = some k → W5.heap.size ≤ k := fun k e => by have h1 := own_base HO11.out k e; have h2 := HLO.out; omega
                refine Kd.R_append_rows_step (Kd.int .u8) (w0 := w3) w3.heap.size (by rfl) (.tmp 142) (.tmp 143) 40 5 (.int .u8 0) 1 rfl Try.underlying40 infoB rfl (by decide) (by omega) v11 (z ++ [0] ++ all16 [41, (m.sz % 65536)]) [0, 0, 0, 0, 0, 0] _ _ _ (fun _ => True) (fun _ => False) rfl rfl (Kd.R_of_own (enc := Value.int .u8) (h1 := fun _ => rfl) (ok := fun _ => True) (by exact (own_lower HO11.out hlo)) (fun _ _ => trivial)) (C_blk HX12.out) (fun _ _ h => h) (fun _ h => h.elim) (fun k hk => trivial) HBc.out HBc.out.size (by have h1 := HLZ.out; exact Nat.le_trans (Nat.mul_le_mul_right 1 (show _ ≤ 700000000 by (try simp only [List.length_append, all16_len, List.length_cons, List.length_nil]); omega)) (by decide)) ?_
                intro v13 wn34 hR hB hg hat
                have ho13 := Kd.own_of_R hR
                have hgj := grow_join HGr.out hg hva
                refine hK.out _ _ ⟨?_, ?_⟩ (fun hHeld => ?_)
                · exact cell_grown hHeld.1 hg (fun e => by have h1 := hva _ e.symm; have h2 := World.block_lt_of_cell? _ _ HC5.out; exact absurd (Nat.lt_of_lt_of_le h2 h1) (Nat.lt_irrefl _))
                · exact cell_grown hHeld.2 hg (fun e => by have h1 := hva _ e.symm; have h2 := HGL.out; have h3 := HS5.out; exact absurd (Nat.lt_of_lt_of_le (Nat.lt_of_lt_of_le h2 h3) h1) (Nat.lt_irrefl _))
                clear hK K
                refine norm_ (a' := ?_) ?_ ?_
                rotate_left
                · show Act.put _ (some 144) _ = _
                  simp only [Act.put, List.setIfInBounds_toArray, List.set_cons_zero, List.set_cons_succ, i64_w, i32_w]
                  rfl
                have HO13 := Lib.hid ho13
                have HGJ := Lib.hid hgj
                have HA13 : Hid (v13.ownBlock = (Value.slice Ar z.length cr).ownBlock ∨ ∃ b, v13.ownBlock = some b ∧ W5.heap.size ≤ b) := Lib.hid (.inr (at_join HO11.out (by simp; omega) hat HLO.out HGr.out.size))
                replace HBc := Lib.hid hB
                clear hR hB hg hat ho13 hgj hva hlo HX12 HGr HO11 HO6 HLO
                refine pure_ (i := 14) (N := (some 145)) (v := ?_) (a' := ?_) #[true, true, true, true, true, true, true, true, true, true, true, true, true, true, true, false, false] rfl rfl (any_of HT_.out (by kernel_rfl)) (fun _ _ _ h => h) (Or.inl ⟨by rfl, ?_⟩) ?_ ?_
                rotate_left
                · intro w'
                  go_simp
                  with_reducible rfl
                rotate_left
                · simp only [Act.put, List.setIfInBounds_toArray, List.set_cons_zero, List.set_cons_succ, i64_w, i32_w]
                  rfl
                refine pure_ (i := 15) (N := (some 146)) (v := ?_) (a' := ?_) #[true, true, true, true, true, true, true, true, true, true, true, true, true, true, true, true, false] rfl rfl (any_of HT_.out (by kernel_rfl)) (fun _ _ _ h => h) (Or.inl ⟨by rfl, ?_⟩) ?_ ?_
                rotate_left
                · intro w'
                  go_simp
                  with_reducible rfl
                rotate_left
                · simp only [Act.put, List.setIfInBounds_toArray, List.set_cons_zero, List.set_cons_succ, i64_w, i32_w]
                  rfl
                obtain ⟨wz, hwz⟩ : ∃ x, wn34 = x := ⟨_, rfl⟩
                rw [hwz] at HO13 HGJ HBc hHeld ⊢
                clear hwz
          rotate_left 8
          focus
            go_simp
            (try simp only [HSZM.out])
            refine hK.out _ _ ⟨cell_alloc hHeld.1 _, cell_alloc hHeld.2 _⟩ (fun hHeld => ?_)
            clear hK K
            (try simp only [HSZM.out] at hHeld ⊢)
            have hba := below_alloc (Below.refl wa.heap.size wa) (Obj.cells #[.int .u16 41, .int .u16 (m.sz % 65536)] 22)
            have hxn := blk_new wa (Obj.cells #[.int .u16 41, .int .u16 (m.sz % 65536)] 22 (0, 0))
            obtain ⟨g10, hg10⟩ : ∃ x, wa.heap.size = x := ⟨_, rfl⟩
            obtain ⟨wn35, hwn⟩ : ∃ x, wa.alloc (Obj.cells #[.int .u16 41, .int .u16 (m.sz % 65536)] 22) = x := ⟨_, rfl⟩
            have HGE10 : Hid (wa.heap.size ≤ g10) := Lib.hid (by have := HSZ.out; omega)
            rw [hwn] at hba hxn hHeld
            rw [hg10] at hxn
            (try rw [hwn])
            (try rw [hg10])
            have HX10 := Lib.hid hxn
            replace HSZ := Lib.hid (Nat.le_trans HSZ.out hba.size)
            replace HBc := Lib.hid (HBc.out.trans (hba.mono HBc.out.size))
            replace HGc := Lib.hid (HGc.out.below hba)
            clear hba hxn hwn hg10
            refine two_ (i := 5) (j := 12) (Ni := (some 136)) (Nj := (some 143)) #[true, true, true, true, true, true, false, true, true, true, true, false, false, false, false, false, false] #[true, true, true, true, true, false, false, true, true, true, true, false, true, false, false, false, false] rfl rfl rfl rfl (two_of HT_.out (by kernel_rfl)) (by decide) (by decide) (fun K hK => ?_) (fun K hK => ?_)
            focus
              go_simp
              refine hK.out _ _ ⟨cell_alloc hHeld.1 _, cell_alloc hHeld.2 _⟩ (fun hHeld => ?_)
              clear hK K
              have hba := below_alloc (Below.refl wn35.heap.size wn35) (Obj.cells #[.int .u8 0] 5)
              have hxn := blk_new wn35 (Obj.cells #[.int .u8 0] 5 (0, 0))
              obtain ⟨g5, hg5⟩ : ∃ x, wn35.heap.size = x := ⟨_, rfl⟩
              obtain ⟨wn36, hwn⟩ : ∃ x, wn35.alloc (Obj.cells #[.int .u8 0] 5) = x := ⟨_, rfl⟩
              have HGE5 : Hid (wa.heap.size ≤ g5) := Lib.hid (by have := HSZ.out; omega)
              rw [hwn] at hba hxn hHeld
              rw [hg5] at hxn
              (try rw [hwn])
              (try rw [hg5])
              have HX5 := Lib.hid hxn
              replace HSZ := Lib.hid (Nat.le_trans HSZ.out hba.size)
              replace HBc := Lib.hid (HBc.out.trans (hba.mono HBc.out.size))
              replace HX10 := Lib.hid (blk_below HX10.out hba)
              replace HGc := Lib.hid (HGc.out.below hba)
              clear hba hxn hwn hg5
              refine two_ (i := 6) (j := 12) (Ni := (some 137)) (Nj := (some 143)) #[true, true, true, true, true, true, true, true, true, true, true, false, false, false, false, false, false] #[true, true, true, true, true, true, false, true, true, true, true, false, true, false, false, false, false] rfl rfl rfl rfl (two_of HT_.out (by kernel_rfl)) (by decide) (by decide) (fun K hK => ?_) (fun K hK => ?_)
              focus
                have HG5 := HGc
                have HC5 : Hid (wn36.cell? ⟨g, 0, none⟩ = some (Value.slice Ar z.length cr)) := Lib.hid hHeld.1
                obtain ⟨Aq, cq, hcq, -, hoq, -, -⟩ := HGc.out.cell
                have heq : Value.slice Aq z.length cq = (Value.slice Ar z.length cr) := Option.some.inj (hcq.symm.trans hHeld.1)
                rw [heq] at hoq
                clear hcq heq
                refine Kd.R_append_rows_step (Kd.int .u8) (w0 := w3) w3.heap.size (by rfl) (.tmp 135) (.tmp 136) 40 5 (.int .u8 0) 1 rfl Try.underlying40 infoB rfl (by decide) (by omega) (Value.slice Ar z.length cr) z [0] _ _ _ (fun _ => True) (fun _ => False) rfl rfl (Kd.R_of_own (enc := Value.int .u8) (h1 := fun _ => rfl) (ok := fun _ => True) (by exact hoq) (fun _ _ => trivial)) (C_blk HX5.out) (fun _ _ h => h) (fun _ h => h.elim) (fun k hk => trivial) HBc.out HBc.out.size (by have h1 := HLZ.out; exact Nat.le_trans (Nat.mul_le_mul_right 1 (show _ ≤ 700000000 by (try simp only [List.length_append, all16_len, List.length_cons, List.length_nil]); omega)) (by decide)) ?_
                intro v6 wn37 hR hB hg hat
                have ho6 := Kd.own_of_R hR
                have hcg := HGc.out.grown hHeld.1 hg
                replace HX10 := Lib.hid (blk_grown HX10.out hg (fun e => by have h1 := HVb.out g10 e.symm; have h2 := HGE10.out; omega))
                refine hK.out _ _ ⟨hcg.1, (cell_grown hHeld.2 hg (fun e => by have h1 := HVM.out e.symm; exact h1))⟩ (fun hHeld => ?_)
                clear hK K
                refine norm_ (a' := ?_) ?_ ?_
                rotate_left
                · show Act.put _ (some 137) _ = _
                  simp only [Act.put, List.setIfInBounds_toArray, List.set_cons_zero, List.set_cons_succ, i64_w, i32_w]
                  rfl
                have HO6 := Lib.hid ho6
                have HGr := Lib.hid hg
                have HAT := Lib.hid hat
                have HS5 : Hid (wa.heap.size ≤ wn36.heap.size) := HSZ
                replace HSZ := Lib.hid (Nat.le_trans HSZ.out hg.size)
                replace HBc := Lib.hid hB
                obtain ⟨W5, hW5⟩ : ∃ x, wn36 = x := ⟨_, rfl⟩
                rw [hW5] at HG5 HC5 HGr HAT HS5
                clear hR hB hg hat ho6 hcg HGc HX5 hW5 hoq
                refine two_ (i := 11) (j := 12) (Ni := (some 142)) (Nj := (some 143)) #[true, true, true, true, true, true, true, true, true, true, true, true, false, false, false, false, false] #[true, true, true, true, true, true, true, true, true, true, true, false, true, false, false, false, false] rfl rfl rfl rfl (two_of HT_.out (by kernel_rfl)) (by decide) (by decide) (fun K hK => ?_) (fun K hK => ?_)
                focus
                  obtain ⟨A6, c6, hv6⟩ := own_slice HO6.out
                  subst hv6
                  have hC6 := own_C (b := z ++ [0]) HO6.out
                  refine goes_ Try.func23 (by kernel_rfl) rfl #[.slice A6 (z ++ [0]).length c6, .slice (some ⟨g10, 0, none⟩) 2 2] (by rfl) rfl rfl (by (try simp only [List.map_toArray, List.map_cons, List.map_nil]); rfl) ?_
                  refine (put16_ A6 c6 (z ++ [0]) _ 2 [41, (m.sz % 65536)] _ hC6.1 hC6.2 (C_blk HX10.out) (Nat.le_refl _) (by have h1 := HLZ.out; simp only [List.length_append, List.length_cons, List.length_nil]; omega)).mono ?_
                  rintro e wn38 ⟨v11, rfl, ho11, hb⟩
                  refine ⟨_, rfl, ?_⟩
                  refine hK.out _ _ ⟨(hb.cell (World.block_lt_of_cell? _ _ hHeld.1)).trans hHeld.1, (hb.cell (World.block_lt_of_cell? _ _ hHeld.2)).trans hHeld.2⟩ (fun hHeld => ?_)
                  clear hK K
                  refine norm_ (a' := ?_) ?_ ?_
                  rotate_left
                  · show Act.put _ (some 142) _ = _
                    simp only [Act.put, List.setIfInBounds_toArray, List.set_cons_zero, List.set_cons_succ, i64_w, i32_w]
                    rfl
                  have HO11 := Lib.hid ho11
                  have HLO : Hid (W5.heap.size ≤ wn37.heap.size) := Lib.hid HGr.out.size
                  obtain ⟨s11, hs11⟩ : ∃ x, wn37.heap.size = x := ⟨_, rfl⟩
                  rw [hs11] at HO11 HLO
                  replace HGr := Lib.hid (grow_below HGr.out hb)
                  replace HSZ := Lib.hid (Nat.le_trans HSZ.out hb.size)
                  replace HBc := Lib.hid (HBc.out.trans (hb.mono HBc.out.size))
                  clear ho11 hb hC6 HX10 hs11
                  refine one_ (i := 12) (N := (some 143)) #[true, true, true, true, true, true, true, true, true, true, true, true, true, false, false, false, false] rfl rfl (one_of HT_.out (by kernel_rfl)) (by decide) (fun K hK => ?_)
                  go_simp
                  refine hK.out _ _ ⟨cell_alloc hHeld.1 _, cell_alloc hHeld.2 _⟩ (fun hHeld => ?_)
                  clear hK K
                  have hba := below_alloc (Below.refl wn38.heap.size wn38) (Obj.cells #[.int .u8 0, .int .u8 0, .int .u8 0, .int .u8 0, .int .u8 0, .int .u8 0] 5)
                  have hxn := blk_new wn38 (Obj.cells #[.int .u8 0, .int .u8 0, .int .u8 0, .int .u8 0, .int .u8 0, .int .u8 0] 5 (0, 0))
                  obtain ⟨g12, hg12⟩ : ∃ x, wn38.heap.size = x := ⟨_, rfl⟩
                  obtain ⟨wn39, hwn⟩ : ∃ x, wn38.alloc (Obj.cells #[.int .u8 0, .int .u8 0, .int .u8 0, .int .u8 0, .int .u8 0, .int .u8 0] 5) = x := ⟨_, rfl⟩
                  have HGE12 : Hid (wa.heap.size ≤ g12) := Lib.hid (by have := HSZ.out; omega)
                  rw [hwn] at hba hxn hHeld
                  rw [hg12] at hxn
                  (try rw [hwn])
                  (try rw [hg12])
                  have HX12 := Lib.hid hxn
                  replace HSZ := Lib.hid (Nat.le_trans HSZ.out hba.size)
                  replace HBc := Lib.hid (HBc.out.trans (hba.mono HBc.out.size))
                  replace HGr := Lib.hid (grow_below HGr.out hba)
                  replace HO11 := Lib.hid (pw_own_below HO11.out hba)
                  clear hba hxn hwn hg12
                  refine one_ (i := 13) (N := (some 144)) #[true, true, true, true, true, true, true, true, true, true, true, true, true, true, false, false, false] rfl rfl (one_of HT_.out (by kernel_rfl)) (by decide) (fun K hK => ?_)
                  have hlo : w3.heap.size ≤ s11 := by have h1 := HLO.out; have h2 := HG5.out.low; omega
                  have hva : ∀ k, (v11 : Value).ownBlock = some k → W5.heap.size ≤ k := fun k e => by have h1 := own_base HO11.out k e; have h2 := HLO.out; omega
                  refine Kd.R_append_rows_step (Kd.int .u8) (w0 := w3) w3.heap.size (by rfl) (.tmp 142) (.tmp 143) 40 5 (.int .u8 0) 1 rfl Try.underlying40 infoB rfl (by decide) (by omega) v11 (z ++ [0] ++ all16 [41, (m.sz % 65536)]) [0, 0, 0, 0, 0, 0] _ _ _ (fun _ => True) (fun _ => False) rfl rfl (Kd.R_of_own (enc := Value.int .u8) (h1 := fun _ => rfl) (ok := fun _ => True) (by exact (own_lower HO11.out hlo)) (fun _ _ => trivial)) (C_blk HX12.out) (fun _ _ h => h) (fun _ h => h.elim) (fun k hk => trivial) HBc.out HBc.out.size (by have h1 := HLZ.out; exact Nat.le_trans (Nat.mul_le_mul_right 1 (show _ ≤ 700000000 by (try simp only [List.length_append, all16_len, List.length_cons, List.length_nil]); omega)) (by decide)) ?_
                  intro v13 wn40 hR hB hg hat
                  have ho13 := Kd.own_of_R hR
                  have hgj := grow_join HGr.out hg hva
                  refine hK.out _ _ ⟨?_, ?_⟩ (fun hHeld => ?_)
                  · exact cell_grown hHeld.1 hg (fun e => by have h1 := hva _ e.symm; have h2 := World.block_lt_of_cell? _ _ HC5.out; exact absurd (Nat.lt_of_lt_of_le h2 h1) (Nat.lt_irrefl _))
                  · exact cell_grown hHeld.2 hg (fun e => by have h1 := hva _ e.symm; have h2 := HGL.out; have h3 := HS5.out; exact absurd (Nat.lt_of_lt_of_le (Nat.lt_of_lt_of_le h2 h3) h1) (Nat.lt_irrefl _))
                  clear hK K
                  refine norm_ (a' := ?_) ?_ ?_
                  rotate_left
                  · show Act.put _ (some 144) _ = _
                    simp only [Act.put, List.setIfInBounds_toArray, List.set_cons_zero, List.set_cons_succ, i64_w, i32_w]
                    rfl
                  have HO13 := Lib.hid ho13
                  have HGJ := Lib.hid hgj
                  have HA13 : Hid (v13.ownBlock = (Value.slice Ar z.length cr).ownBlock ∨ ∃ b, v13.ownBlock = some b ∧ W5.heap.size ≤ b) := Lib.hid (.inr (at_join HO11.out (by simp; omega) hat HLO.out HGr.out.size))
                  replace HBc := Lib.hid hB
                  clear hR hB hg hat ho13 hgj hva hlo HX12 HGr HO11 HO6 HLO
                  refine pure_ (i := 14) (N := (some 145)) (v := ?_) (a' := ?_) #[true, true, true, true, true, true, true, true, true, true, true, true, true, true, true, false, false] rfl rfl (any_of HT_.out (by kernel_rfl)) (fun _ _ _ h => h) (Or.inl ⟨by rfl, ?_⟩) ?_ ?_
                  rotate_left
                  · intro w'
                    go_simp
                    with_reducible rfl
                  rotate_left
                  · simp only [Act.put, List.setIfInBounds_toArray, List.set_cons_zero, List.set_cons_succ, i64_w, i32_w]
                    rfl
                  refine pure_ (i := 15) (N := (some 146)) (v := ?_) (a' := ?_) #[true, true, true, true, true, true, true, true, true, true, true, true, true, true, true, true, false] rfl rfl (any_of HT_.out (by kernel_rfl)) (fun _ _ _ h => h) (Or.inl ⟨by rfl, ?_⟩) ?_ ?_
                  rotate_left
                  · intro w'
                    go_simp
                    with_reducible rfl
                  rotate_left
                  · simp only [Act.put, List.setIfInBounds_toArray, List.set_cons_zero, List.set_cons_succ, i64_w, i32_w]
                    rfl
                  obtain ⟨wz, hwz⟩ : ∃ x, wn40 = x := ⟨_, rfl⟩
                  rw [hwz] at HO13 HGJ HBc hHeld ⊢
                  clear hwz
                rotate_left 1
                focus
                  go_simp
                  refine hK.out _ _ ⟨cell_alloc hHeld.1 _, cell_alloc hHeld.2 _⟩ (fun hHeld => ?_)
                  clear hK K
                  have hba := below_alloc (Below.refl wn37.heap.size wn37) (Obj.cells #[.int .u8 0, .int .u8 0, .int .u8 0, .int .u8 0, .int .u8 0, .int .u8 0] 5)
                  have hxn := blk_new wn37 (Obj.cells #[.int .u8 0, .int .u8 0, .int .u8 0, .int .u8 0, .int .u8 0, .int .u8 0] 5 (0, 0))
                  obtain ⟨g12, hg12⟩ : ∃ x, wn37.heap.size = x := ⟨_, rfl⟩
                  obtain ⟨wn41, hwn⟩ : ∃ x, wn37.alloc (Obj.cells #[.int .u8 0, .int .u8 0, .int .u8 0, .int .u8 0, .int .u8 0, .int .u8 0] 5) = x := ⟨_, rfl⟩
                  have HGE12 : Hid (wa.heap.size ≤ g12) := Lib.hid (by have := HSZ.out; omega)
                  rw [hwn] at hba hxn hHeld
                  rw [hg12] at hxn
                  (try rw [hwn])
                  (try rw [hg12])
                  have HX12 := Lib.hid hxn
                  replace HSZ := Lib.hid (Nat.le_trans HSZ.out hba.size)
                  replace HBc := Lib.hid (HBc.out.trans (hba.mono HBc.out.size))
                  replace HX10 := Lib.hid (blk_below HX10.out hba)
                  replace HGr := Lib.hid (grow_below HGr.out hba)
                  replace HO6 := Lib.hid (pw_own_below HO6.out hba)
                  clear hba hxn hwn hg12
                  refine one_ (i := 11) (N := (some 142)) #[true, true, true, true, true, true, true, true, true, true, true, true, true, false, false, false, false] rfl rfl (one_of HT_.out (by kernel_rfl)) (by decide) (fun K hK => ?_)
                  obtain ⟨A6, c6, hv6⟩ := own_slice HO6.out
                  subst hv6
                  have hC6 := own_C (b := z ++ [0]) HO6.out
                  refine goes_ Try.func23 (by kernel_rfl) rfl #[.slice A6 (z ++ [0]).length c6, .slice (some ⟨g10, 0, none⟩) 2 2] (by rfl) rfl rfl (by (try simp only [List.map_toArray, List.map_cons, List.map_nil]); rfl) ?_
                  refine (put16_ A6 c6 (z ++ [0]) _ 2 [41, (m.sz % 65536)] _ hC6.1 hC6.2 (C_blk HX10.out) (Nat.le_refl _) (by have h1 := HLZ.out; simp only [List.length_append, List.length_cons, List.length_nil]; omega)).mono ?_
                  rintro e wn42 ⟨v11, rfl, ho11, hb⟩
                  refine ⟨_, rfl, ?_⟩
                  replace HX12 := Lib.hid (blk_below HX12.out hb)
                  refine hK.out _ _ ⟨(hb.cell (World.block_lt_of_cell? _ _ hHeld.1)).trans hHeld.1, (hb.cell (World.block_lt_of_cell? _ _ hHeld.2)).trans hHeld.2⟩ (fun hHeld => ?_)
                  clear hK K
                  refine norm_ (a' := ?_) ?_ ?_
                  rotate_left
                  · show Act.put _ (some 142) _ = _
                    simp only [Act.put, List.setIfInBounds_toArray, List.set_cons_zero, List.set_cons_succ, i64_w, i32_w]
                    rfl
                  have HO11 := Lib.hid ho11
                  have HLO : Hid (W5.heap.size ≤ wn41.heap.size) := Lib.hid HGr.out.size
                  obtain ⟨s11, hs11⟩ : ∃ x, wn41.heap.size = x := ⟨_, rfl⟩
                  rw [hs11] at HO11 HLO
                  replace HGr := Lib.hid (grow_below HGr.out hb)
                  replace HSZ := Lib.hid (Nat.le_trans HSZ.out hb.size)
                  replace HBc := Lib.hid (HBc.out.trans (hb.mono HBc.out.size))
                  clear ho11 hb hC6 HX10 hs11
                  refine one_ (i := 13) (N := (some 144)) #[true, true, true, true, true, true, true, true, true, true, true, true, true, true, false, false, false] rfl rfl (one_of HT_.out (by kernel_rfl)) (by decide) (fun K hK => ?_)
                  have hlo : w3.heap.size ≤ s11 := by have h1 := HLO.out; have h2 := HG5.out.low; omega
                  have hva : ∀ k, (v11 : Value).ownBlock = some k → W5.heap.size ≤ k := fun k e => by have h1 := own_base HO11.out k e; have h2 := HLO.out; omega
                  refine Kd.R_append_rows_step (Kd.int .u8) (w0 := w3) w3.heap.size (by rfl) (.tmp 142) (.tmp 143) 40 5 (.int .u8 0) 1 rfl Try.underlying40 infoB rfl (by decide) (by omega) v11 (z ++ [0] ++ all16 [41, (m.sz % 65536)]) [0, 0, 0, 0, 0, 0] _ _ _ (fun _ => True) (fun _ => False) rfl rfl (Kd.R_of_own (enc := Value.int .u8) (h1 := fun _ => rfl) (ok := fun _ => True) (by exact (own_lower HO11.out hlo)) (fun _ _ => trivial)) (C_blk HX12.out) (fun _ _ h => h) (fun _ h => h.elim) (fun k hk => trivial) HBc.out HBc.out.size (by have h1 := HLZ.out; exact Nat.le_trans (Nat.mul_le_mul_right 1 (show _ ≤ 700000000 by (try simp only [List.length_append, all16_len, List.length_cons, List.length_nil]); omega)) (by decide)) ?_
                  intro v13 wn43 hR hB hg hat
                  have ho13 := Kd.own_of_R hR
                  have hgj := grow_join HGr.out hg hva
                  refine hK.out _ _ ⟨?_, ?_⟩ (fun hHeld => ?_)
                  · exact cell_grown hHeld.1 hg (fun e => by have h1 := hva _ e.symm; have h2 := World.block_lt_of_cell? _ _ HC5.out; exact absurd (Nat.lt_of_lt_of_le h2 h1) (Nat.lt_irrefl _))
                  · exact cell_grown hHeld.2 hg (fun e => by have h1 := hva _ e.symm; have h2 := HGL.out; have h3 := HS5.out; exact absurd (Nat.lt_of_lt_of_le (Nat.lt_of_lt_of_le h2 h3) h1) (Nat.lt_irrefl _))
                  clear hK K
                  refine norm_ (a' := ?_) ?_ ?_
                  rotate_left
                  · show Act.put _ (some 144) _ = _
                    simp only [Act.put, List.setIfInBounds_toArray, List.set_cons_zero, List.set_cons_succ, i64_w, i32_w]
                    rfl
                  have HO13 := Lib.hid ho13
                  have HGJ := Lib.hid hgj
                  have HA13 : Hid (v13.ownBlock = (Value.slice Ar z.length cr).ownBlock ∨ ∃ b, v13.ownBlock = some b ∧ W5.heap.size ≤ b) := Lib.hid (.inr (at_join HO11.out (by simp; omega) hat HLO.out HGr.out.size))
                  replace HBc := Lib.hid hB
                  clear hR hB hg hat ho13 hgj hva hlo HX12 HGr HO11 HO6 HLO
                  refine pure_ (i := 14) (N := (some 145)) (v := ?_) (a' := ?_) #[true, true, true, true, true, true, true, true, true, true, true, true, true, true, true, false, false] rfl rfl (any_of HT_.out (by kernel_rfl)) (fun _ _ _ h => h) (Or.inl ⟨by rfl, ?_⟩) ?_ ?_
                  rotate_left
                  · intro w'
                    go_simp
                    with_reducible rfl
                  rotate_left
                  · simp only [Act.put, List.setIfInBounds_toArray, List.set_cons_zero, List.set_cons_succ, i64_w, i32_w]
                    rfl
                  refine pure_ (i := 15) (N := (some 146)) (v := ?_) (a' := ?_) #[true, true, true, true, true, true, true, true, true, true, true, true, true, true, true, true, false] rfl rfl (any_of HT_.out (by kernel_rfl)) (fun _ _ _ h => h) (Or.inl ⟨by rfl, ?_⟩) ?_ ?_
                  rotate_left
                  · intro w'
                    go_simp
                    with_reducible rfl
                  rotate_left
                  · simp only [Act.put, List.setIfInBounds_toArray, List.set_cons_zero, List.set_cons_succ, i64_w, i32_w]
                    rfl
                  obtain ⟨wz, hwz⟩ : ∃ x, wn43 = x := ⟨_, rfl⟩
                  rw [hwz] at HO13 HGJ HBc hHeld ⊢
                  clear hwz
              rotate_left 2
              focus
                go_simp
                refine hK.out _ _ ⟨cell_alloc hHeld.1 _, cell_alloc hHeld.2 _⟩ (fun hHeld => ?_)
                clear hK K
                have hba := below_alloc (Below.refl wn36.heap.size wn36) (Obj.cells #[.int .u8 0, .int .u8 0, .int .u8 0, .int .u8 0, .int .u8 0, .int .u8 0] 5)
                have hxn := blk_new wn36 (Obj.cells #[.int .u8 0, .int .u8 0, .int .u8 0, .int .u8 0, .int .u8 0, .int .u8 0] 5 (0, 0))
                obtain ⟨g12, hg12⟩ : ∃ x, wn36.heap.size = x := ⟨_, rfl⟩
                obtain ⟨wn44, hwn⟩ : ∃ x, wn36.alloc (Obj.cells #[.int .u8 0, .int .u8 0, .int .u8 0, .int .u8 0, .int .u8 0, .int .u8 0] 5) = x := ⟨_, rfl⟩
                have HGE12 : Hid (wa.heap.size ≤ g12) := Lib.hid (by have := HSZ.out; omega)
                rw [hwn] at hba hxn hHeld
                rw [hg12] at hxn
                (try rw [hwn])
                (try rw [hg12])
                have HX12 := Lib.hid hxn
                replace HSZ := Lib.hid (Nat.le_trans HSZ.out hba.size)
                replace HBc := Lib.hid (HBc.out.trans (hba.mono HBc.out.size))
                replace HX5 := Lib.hid (blk_below HX5.out hba)
                replace HX10 := Lib.hid (blk_below HX10.out hba)
                replace HGc := Lib.hid (HGc.out.below hba)
                clear hba hxn hwn hg12
                refine one_ (i := 6) (N := (some 137)) #[true, true, true, true, true, true, true, true, true, true, true, false, true, false, false, false, false] rfl rfl (one_of HT_.out (by kernel_rfl)) (by decide) (fun K hK => ?_)
                have HG5 := HGc
                have HC5 : Hid (wn44.cell? ⟨g, 0, none⟩ = some (Value.slice Ar z.length cr)) := Lib.hid hHeld.1
                obtain ⟨Aq, cq, hcq, -, hoq, -, -⟩ := HGc.out.cell
                have heq : Value.slice Aq z.length cq = (Value.slice Ar z.length cr) := Option.some.inj (hcq.symm.trans hHeld.1)
                rw [heq] at hoq
                clear hcq heq
                refine Kd.R_append_rows_step (Kd.int .u8) (w0 := w3) w3.heap.size (by rfl) (.tmp 135) (.tmp 136) 40 5 (.int .u8 0) 1 rfl Try.underlying40 infoB rfl (by decide) (by omega) (Value.slice Ar z.length cr) z [0] _ _ _ (fun _ => True) (fun _ => False) rfl rfl (Kd.R_of_own (enc := Value.int .u8) (h1 := fun _ => rfl) (ok := fun _ => True) (by exact hoq) (fun _ _ => trivial)) (C_blk HX5.out) (fun _ _ h => h) (fun _ h => h.elim) (fun k hk => trivial) HBc.out HBc.out.size (by have h1 := HLZ.out; exact Nat.le_trans (Nat.mul_le_mul_right 1 (show _ ≤ 700000000 by (try simp only [List.length_append, all16_len, List.length_cons, List.length_nil]); omega)) (by decide)) ?_
                intro v6 wn45 hR hB hg hat
                have ho6 := Kd.own_of_R hR
                have hcg := HGc.out.grown hHeld.1 hg
                replace HX10 := Lib.hid (blk_grown HX10.out hg (fun e => by have h1 := HVb.out g10 e.symm; have h2 := HGE10.out; omega))
                replace HX12 := Lib.hid (blk_grown HX12.out hg (fun e => by have h1 := HVb.out g12 e.symm; have h2 := HGE12.out; omega))
                refine hK.out _ _ ⟨hcg.1, (cell_grown hHeld.2 hg (fun e => by have h1 := HVM.out e.symm; exact h1))⟩ (fun hHeld => ?_)
                clear hK K
                refine norm_ (a' := ?_) ?_ ?_
                rotate_left
                · show Act.put _ (some 137) _ = _
                  simp only [Act.put, List.setIfInBounds_toArray, List.set_cons_zero, List.set_cons_succ, i64_w, i32_w]
                  rfl
                have HO6 := Lib.hid ho6
                have HGr := Lib.hid hg
                have HAT := Lib.hid hat
                have HS5 : Hid (wa.heap.size ≤ wn44.heap.size) := HSZ
                replace HSZ := Lib.hid (Nat.le_trans HSZ.out hg.size)
                replace HBc := Lib.hid hB
                obtain ⟨W5, hW5⟩ : ∃ x, wn44 = x := ⟨_, rfl⟩
                rw [hW5] at HG5 HC5 HGr HAT HS5
                clear hR hB hg hat ho6 hcg HGc HX5 hW5 hoq
                refine one_ (i := 11) (N := (some 142)) #[true, true, true, true, true, true, true, true, true, true, true, true, true, false, false, false, false] rfl rfl (one_of HT_.out (by kernel_rfl)) (by decide) (fun K hK => ?_)
                obtain ⟨A6, c6, hv6⟩ := own_slice HO6.out
                subst hv6
                have hC6 := own_C (b := z ++ [0]) HO6.out
                refine goes_ Try.func23 (by kernel_rfl) rfl #[.slice A6 (z ++ [0]).length c6, .slice (some ⟨g10, 0, none⟩) 2 2] (by rfl) rfl rfl (by (try simp only [List.map_toArray, List.map_cons, List.map_nil]); rfl) ?_
                refine (put16_ A6 c6 (z ++ [0]) _ 2 [41, (m.sz % 65536)] _ hC6.1 hC6.2 (C_blk HX10.out) (Nat.le_refl _) (by have h1 := HLZ.out; simp only [List.length_append, List.length_cons, List.length_nil]; omega)).mono ?_
                rintro e wn46 ⟨v11, rfl, ho11, hb⟩
                refine ⟨_, rfl, ?_⟩
                replace HX12 := Lib.hid (blk_below HX12.out hb)
                refine hK.out _ _ ⟨(hb.cell (World.block_lt_of_cell? _ _ hHeld.1)).trans hHeld.1, (hb.cell (World.block_lt_of_cell? _ _ hHeld.2)).trans hHeld.2⟩ (fun hHeld => ?_)
                clear hK K
                refine norm_ (a' := ?_) ?_ ?_
                rotate_left
                · show Act.put _ (some 142) _ = _
                  simp only [Act.put, List.setIfInBounds_toArray, List.set_cons_zero, List.set_cons_succ, i64_w, i32_w]
                  rfl
                have HO11 := Lib.hid ho11
                have HLO : Hid (W5.heap.size ≤ wn45.heap.size) := Lib.hid HGr.out.size
                obtain ⟨s11, hs11⟩ : ∃ x, wn45.heap.size = x := ⟨_, rfl⟩
                rw [hs11] at HO11 HLO
                replace HGr := Lib.hid (grow_below HGr.out hb)
                replace HSZ := Lib.hid (Nat.le_trans HSZ.out hb.size)
                replace HBc := Lib.hid (HBc.out.trans (hb.mono HBc.out.size))
                clear ho11 hb hC6 HX10 hs11
                refine one_ (i := 13) (N := (some 144)) #[true, true, true, true, true, true, true, true, true, true, true, true, true, true, false, false, false] rfl rfl (one_of HT_.out (by kernel_rfl)) (by decide) (fun K hK => ?_)
                have hlo : w3.heap.size ≤ s11 := by have h1 := HLO.out; have h2 := HG5.out.low; omega
                have hva : ∀ k, (v11 : Value).ownBlock = some k → W5.heap.size ≤ k := fun k e => by have h1 := own_base HO11.out k e; have h2 := HLO.out; omega
                refine Kd.R_append_rows_step (Kd.int .u8) (w0 := w3) w3.heap.size (by rfl) (.tmp 142) (.tmp 143) 40 5 (.int .u8 0) 1 rfl Try.underlying40 infoB rfl (by decide) (by omega) v11 (z ++ [0] ++ all16 [41, (m.sz % 65536)]) [0, 0, 0, 0, 0, 0] _ _ _ (fun _ => True) (fun _ => False) rfl rfl (Kd.R_of_own (enc := Value.int .u8) (h1 := fun _ => rfl) (ok := fun _ => True) (by exact (own_lower HO11.out hlo)) (fun _ _ => trivial)) (C_blk HX12.out) (fun _ _ h => h) (fun _ h => h.elim) (fun k hk => trivial) HBc.out HBc.out.size (by have h1 := HLZ.out; exact Nat.le_trans (Nat.mul_le_mul_right 1 (show _ ≤ 700000000 by (try simp only [List.length_append, all16_len, List.length_cons, List.length_nil]); omega)) (by decide)) ?_
                intro v13 wn47 hR hB hg hat
                have ho13 := Kd.own_of_R hR
                have hgj := grow_join HGr.out hg hva
                refine hK.out _ _ ⟨?_, ?_⟩ (fun hHeld => ?_)
                · exact cell_grown hHeld.1 hg (fun e => by have h1 := hva _ e.symm; have h2 := World.block_lt_of_cell? _ _ HC5.out; exact absurd (Nat.lt_of_lt_of_le h2 h1) (Nat.lt_irrefl _))
                · exact cell_grown hHeld.2 hg (fun e => by have h1 := hva _ e.symm; have h2 := HGL.out; have h3 := HS5.out; exact absurd (Nat.lt_of_lt_of_le (Nat.lt_of_lt_of_le h2 h3) h1) (Nat.lt_irrefl _))
                clear hK K
                refine norm_ (a' := ?_) ?_ ?_
                rotate_left
                · show Act.put _ (some 144) _ = _
                  simp only [Act.put, List.setIfInBounds_toArray, List.set_cons_zero, List.set_cons_succ, i64_w, i32_w]
                  rfl
                have HO13 := Lib.hid ho13
                have HGJ := Lib.hid hgj
                have HA13 : Hid (v13.ownBlock = (Value.slice Ar z.length cr).ownBlock ∨ ∃ b, v13.ownBlock = some b ∧ W5.heap.size ≤ b) := Lib.hid (.inr (at_join HO11.out (by simp; omega) hat HLO.out HGr.out.size))
                replace HBc := Lib.hid hB
                clear hR hB hg hat ho13 hgj hva hlo HX12 HGr HO11 HO6 HLO
                refine pure_ (i := 14) (N := (some 145)) (v := ?_) (a' := ?_) #[true, true, true, true, true, true, true, true, true, true, true, true, true, true, true, false, false] rfl rfl (any_of HT_.out (by kernel_rfl)) (fun _ _ _ h => h) (Or.inl ⟨by rfl, ?_⟩) ?_ ?_
                rotate_left
                · intro w'
                  go_simp
                  with_reducible rfl
                rotate_left
                · simp only [Act.put, List.setIfInBounds_toArray, List.set_cons_zero, List.set_cons_succ, i64_w, i32_w]
                  rfl
                refine pure_ (i := 15) (N := (some 146)) (v := ?_) (a' := ?_) #[true, true, true, true, true, true, true, true, true, true, true, true, true, true, true, true, false] rfl rfl (any_of HT_.out (by kernel_rfl)) (fun _ _ _ h => h) (Or.inl ⟨by rfl, ?_⟩) ?_ ?_
                rotate_left
                · intro w'
                  go_simp
                  with_reducible rfl
                rotate_left
                · simp only [Act.put, List.setIfInBounds_toArray, List.set_cons_zero, List.set_cons_succ, i64_w, i32_w]
                  rfl
                obtain ⟨wz, hwz⟩ : ∃ x, wn47 = x := ⟨_, rfl⟩
                rw [hwz] at HO13 HGJ HBc hHeld ⊢
                clear hwz
            rotate_left 3
            focus
              go_simp
              refine hK.out _ _ ⟨cell_alloc hHeld.1 _, cell_alloc hHeld.2 _⟩ (fun hHeld => ?_)
              clear hK K
              have hba := below_alloc (Below.refl wn35.heap.size wn35) (Obj.cells #[.int .u8 0, .int .u8 0, .int .u8 0, .int .u8 0, .int .u8 0, .int .u8 0] 5)
              have hxn := blk_new wn35 (Obj.cells #[.int .u8 0, .int .u8 0, .int .u8 0, .int .u8 0, .int .u8 0, .int .u8 0] 5 (0, 0))
              obtain ⟨g12, hg12⟩ : ∃ x, wn35.heap.size = x := ⟨_, rfl⟩
              obtain ⟨wn48, hwn⟩ : ∃ x, wn35.alloc (Obj.cells #[.int .u8 0, .int .u8 0, .int .u8 0, .int .u8 0, .int .u8 0, .int .u8 0] 5) = x := ⟨_, rfl⟩
              have HGE12 : Hid (wa.heap.size ≤ g12) := Lib.hid (by have := HSZ.out; omega)
              rw [hwn] at hba hxn hHeld
              rw [hg12] at hxn
              (try rw [hwn])
              (try rw [hg12])
              have HX12 := Lib.hid hxn
              replace HSZ := Lib.hid (Nat.le_trans HSZ.out hba.size)
              replace HBc := Lib.hid (HBc.out.trans (hba.mono HBc.out.size))
              replace HX10 := Lib.hid (blk_below HX10.out hba)
              replace HGc := Lib.hid (HGc.out.below hba)
              clear hba hxn hwn hg12
              refine one_ (i := 5) (N := (some 136)) #[true, true, true, true, true, true, false, true, true, true, true, false, true, false, false, false, false] rfl rfl (one_of HT_.out (by kernel_rfl)) (by decide) (fun K hK => ?_)
              go_simp
              refine hK.out _ _ ⟨cell_alloc hHeld.1 _, cell_alloc hHeld.2 _⟩ (fun hHeld => ?_)
              clear hK K
              have hba := below_alloc (Below.refl wn48.heap.size wn48) (Obj.cells #[.int .u8 0] 5)
              have hxn := blk_new wn48 (Obj.cells #[.int .u8 0] 5 (0, 0))
              obtain ⟨g5, hg5⟩ : ∃ x, wn48.heap.size = x := ⟨_, rfl⟩
              obtain ⟨wn49, hwn⟩ : ∃ x, wn48.alloc (Obj.cells #[.int .u8 0] 5) = x := ⟨_, rfl⟩
              have HGE5 : Hid (wa.heap.size ≤ g5) := Lib.hid (by have := HSZ.out; omega)
              rw [hwn] at hba hxn hHeld
              rw [hg5] at hxn
              (try rw [hwn])
              (try rw [hg5])
              have HX5 := Lib.hid hxn
              replace HSZ := Lib.hid (Nat.le_trans HSZ.out hba.size)
              replace HBc := Lib.hid (HBc.out.trans (hba.mono HBc.out.size))
              replace HX10 := Lib.hid (blk_below HX10.out hba)
              replace HX12 := Lib.hid (blk_below HX12.out hba)
              replace HGc := Lib.hid (HGc.out.below hba)
              clear hba hxn hwn hg5
              refine one_ (i := 6) (N := (some 137)) #[true, true, true, true, true, true, true, true, true, true, true, false, true, false, false, false, false] rfl rfl (one_of HT_.out (by kernel_rfl)) (by decide) (fun K hK => ?_)
              have HG5 := HGc
              have HC5 : Hid (wn49.cell? ⟨g, 0, none⟩ = some (Value.slice Ar z.length cr)) := Lib.hid hHeld.1
              obtain ⟨Aq, cq, hcq, -, hoq, -, -⟩ := HGc.out.cell
              have heq : Value.slice Aq z.length cq = (Value.slice Ar z.length cr) := Option.some.inj (hcq.symm.trans hHeld.1)
              rw [heq] at hoq
              clear hcq heq
              refine Kd.R_append_rows_step (Kd.int .u8) (w0 := w3) w3.heap.size (by rfl) (.tmp 135) (.tmp 136) 40 5 (.int .u8 0) 1 rfl Try.underlying40 infoB rfl (by decide) (by omega) (Value.slice Ar z.length cr) z [0] _ _ _ (fun _ => True) (fun _ => False) rfl rfl (Kd.R_of_own (enc := Value.int .u8) (h1 := fun _ => rfl) (ok := fun _ => True) (by exact hoq) (fun _ _ => trivial)) (C_blk HX5.out) (fun _ _ h => h) (fun _ h => h.elim) (fun k hk => trivial) HBc.out HBc.out.size (by have h1 := HLZ.out; exact Nat.le_trans (Nat.mul_le_mul_right 1 (show _ ≤ 700000000 by (try simp only [List.length_append, all16_len, List.length_cons, List.length_nil]); omega)) (by decide)) ?_
              intro v6 wn50 hR hB hg hat
              have ho6 := Kd.own_of_R hR
              have hcg := HGc.out.grown hHeld.1 hg
              replace HX10 := Lib.hid (blk_grown HX10.out hg (fun e => by have h1 := HVb.out g10 e.symm; have h2 := HGE10.out; omega))
              replace HX12 := Lib.hid (blk_grown HX12.out hg (fun e => by have h1 := HVb.out g12 e.symm; have h2 := HGE12.out; omega))
              refine hK.out _ _ ⟨hcg.1, (cell_grown hHeld.2 hg (fun e => by have h1 := HVM.out e.symm; exact h1))⟩ (fun hHeld => ?_)
              clear hK K
              refine norm_ (a' := ?_) ?_ ?_
              rotate_left
              · show Act.put _ (some 137) _ = _
                simp only [Act.put, List.setIfInBounds_toArray, List.set_cons_zero, List.set_cons_succ, i64_w, i32_w]
                rfl
              have HO6 := Lib.hid ho6
              have HGr := Lib.hid hg
              have HAT := Lib.hid hat
              have HS5 : Hid (wa.heap.size ≤ wn49.heap.size) := HSZ
              replace HSZ := Lib.hid (Nat.le_trans HSZ.out hg.size)
              replace HBc := Lib.hid hB
              obtain ⟨W5, hW5⟩ : ∃ x, wn49 = x := ⟨_, rfl⟩
              rw [hW5] at HG5 HC5 HGr HAT HS5
              clear hR hB hg hat ho6 hcg HGc HX5 hW5 hoq
              refine one_ (i := 11) (N := (some 142)) #[true, true, true, true, true, true, true, true, true, true, true, true, true, false, false, false, false] rfl rfl (one_of HT_.out (by kernel_rfl)) (by decide) (fun K hK => ?_)
              obtain ⟨A6, c6, hv6⟩ := own_slice HO6.out
              subst hv6
              have hC6 := own_C (b := z ++ [0]) HO6.out
              refine goes_ Try.func23 (by kernel_rfl) rfl #[.slice A6 (z ++ [0]).length c6, .slice (some ⟨g10, 0, none⟩) 2 2] (by rfl) rfl rfl (by (try simp only [List.map_toArray, List.map_cons, List.map_nil]); rfl) ?_
              refine (put16_ A6 c6 (z ++ [0]) _ 2 [41, (m.sz % 65536)] _ hC6.1 hC6.2 (C_blk HX10.out) (Nat.le_refl _) (by have h1 := HLZ.out; simp only [List.length_append, List.length_cons, List.length_nil]; omega)).mono ?_
              rintro e wn51 ⟨v11, rfl, ho11, hb⟩
              refine ⟨_, rfl, ?_⟩
              replace HX12 := Lib.hid (blk_below HX12.out hb)
              refine hK.out _ _ ⟨(hb.cell (World.block_lt_of_cell? _ _ hHeld.1)).trans hHeld.1, (hb.cell (World.block_lt_of_cell? _ _ hHeld.2)).trans hHeld.2⟩ (fun hHeld => ?_)
              clear hK K
              refine norm_ (a' := ?_) ?_ ?_
              rotate_left
              · show Act.put _ (some 142) _ = _
                simp only [Act.put, List.setIfInBounds_toArray, List.set_cons_zero, List.set_cons_succ, i64_w, i32_w]
                rfl
              have HO11 := Lib.hid ho11
              have HLO : Hid (W5.heap.size ≤ wn50.heap.size) := Lib.hid HGr.out.size
              obtain ⟨s11, hs11⟩ : ∃ x, wn50.heap.size = x := ⟨_, rfl⟩
              rw [hs11] at HO11 HLO
              replace HGr := Lib.hid (grow_below HGr.out hb)
              replace HSZ := Lib.hid (Nat.le_trans HSZ.out hb.size)
              replace HBc := Lib.hid (HBc.out.trans (hb.mono HBc.out.size))
              clear ho11 hb hC6 HX10 hs11
              refine one_ (i := 13) (N := (some 144)) #[true, true, true, true, true, true, true, true, true, true, true, true, true, true, false, false, false] rfl rfl (one_of HT_.out (by kernel_rfl)) (by decide) (fun K hK => ?_)
              have hlo : w3.heap.size ≤ s11 := by have h1 := HLO.out; have h2 := HG5.out.low; omega
              have hva : ∀ k, (v11 : Value).ownBlock = some k → W5.heap.size ≤ k := fun k e => by have h1 := own_base HO11.out k e; have h2 := HLO.out; omega
              refine Kd.R_append_rows_step (Kd.int .u8) (w0 := w3) w3.heap.size (by rfl) (.tmp 142) (.tmp 143) 40 5 (.int .u8 0) 1 rfl Try.underlying40 infoB rfl (by decide) (by omega) v11 (z ++ [0] ++ all16 [41, (m.sz % 65536)]) [0, 0, 0, 0, 0, 0] _ _ _ (fun _ => True) (fun _ => False) rfl rfl (Kd.R_of_own (enc := Value.int .u8) (h1 := fun _ => rfl) (ok := fun _ => True) (by exact (own_lower HO11.out hlo)) (fun _ _ => trivial)) (C_blk HX12.out) (fun _ _ h => h) (fun _ h => h.elim) (fun k hk => trivial) HBc.out HBc.out.size (by have h1 := HLZ.out; exact Nat.le_trans (Nat.mul_le_mul_right 1 (show _ ≤ 700000000 by (try simp only [List.length_append, all16_len, List.length_cons, List.length_nil]); omega)) (by decide)) ?_
              intro v13 wn52 hR hB hg hat
              have ho13 := Kd.own_of_R hR
              have hgj := grow_join HGr.out hg hva
              refine hK.out _ _ ⟨?_, ?_⟩ (fun hHeld => ?_)
              · exact cell_grown hHeld.1 hg (fun e => by have h1 := hva _ e.symm; have h2 := World.block_lt_of_cell? _ _ HC5.out; exact absurd (Nat.lt_of_lt_of_le h2 h1) (Nat.lt_irrefl _))
              · exact cell_grown hHeld.2 hg (fun e => by have h1 := hva _ e.symm; have h2 := HGL.out; have h3 := HS5.out; exact absurd (Nat.lt_of_lt_of_le (Nat.lt_of_lt_of_le h2 h3) h1) (Nat.lt_irrefl _))
              clear hK K
              refine norm_ (a' := ?_) ?_ ?_
              rotate_left
              · show Act.put _ (some 144) _ = _
                simp only [Act.put, List.setIfInBounds_toArray, List.set_cons_zero, List.set_cons_succ, i64_w, i32_w]
                rfl
              have HO13 := Lib.hid ho13
              have HGJ := Lib.hid hgj
              have HA13 : Hid (v13.ownBlock = (Value.slice Ar z.length cr).ownBlock ∨ ∃ b, v13.ownBlock = some b ∧ W5.heap.size ≤ b) := Lib.hid (.inr (at_join HO11.out (by simp; omega) hat HLO.out HGr.out.size))
              replace HBc := Lib.hid hB
              clear hR hB hg hat ho13 hgj hva hlo HX12 HGr HO11 HO6 HLO
              refine pure_ (i := 14) (N := (some 145)) (v := ?_) (a' := ?_) #[true, true, true, true, true, true, true, true, true, true, true, true, true, true, true, false, false] rfl rfl (any_of HT_.out (by kernel_rfl)) (fun _ _ _ h => h) (Or.inl ⟨by rfl, ?_⟩) ?_ ?_
              rotate_left
              · intro w'
                go_simp
                with_reducible rfl
              rotate_left
              · simp only [Act.put, List.setIfInBounds_toArray, List.set_cons_zero, List.set_cons_succ, i64_w, i32_w]
                rfl
              refine pure_ (i := 15) (N := (some 146)) (v := ?_) (a' := ?_) #[true, true, true, true, true, true, true, true, true, true, true, true, true, true, true, true, false] rfl rfl (any_of HT_.out (by kernel_rfl)) (fun _ _ _ h => h) (Or.inl ⟨by rfl, ?_⟩) ?_ ?_
              rotate_left
              · intro w'
                go_simp
                with_reducible rfl
              rotate_left
              · simp only [Act.put, List.setIfInBounds_toArray, List.set_cons_zero, List.set_cons_succ, i64_w, i32_w]
                rfl
              obtain ⟨wz, hwz⟩ : ∃ x, wn52 = x := ⟨_, rfl⟩
              rw [hwz] at HO13 HGJ HBc hHeld ⊢
              clear hwz
          rotate_left 4
          focus
            go_simp
            refine hK.out _ _ ⟨cell_alloc hHeld.1 _, cell_alloc hHeld.2 _⟩ (fun hHeld => ?_)
            clear hK K
            have hba := below_alloc (Below.refl wa.heap.size wa) (Obj.cells #[.int .u8 0, .int .u8 0, .int .u8 0, .int .u8 0, .int .u8 0, .int .u8 0] 5)
            have hxn := blk_new wa (Obj.cells #[.int .u8 0, .int .u8 0, .int .u8 0, .int .u8 0, .int .u8 0, .int .u8 0] 5 (0, 0))
            obtain ⟨g12, hg12⟩ : ∃ x, wa.heap.size = x := ⟨_, rfl⟩
            obtain ⟨wn53, hwn⟩ : ∃ x, wa.alloc (Obj.cells #[.int .u8 0, .int .u8 0, .int .u8 0, .int .u8 0, .int .u8 0, .int .u8 0] 5) = x := ⟨_, rfl⟩
            have HGE12 : Hid (wa.heap.size ≤ g12) := Lib.hid (by have := HSZ.out; omega)
            rw [hwn] at hba hxn hHeld
            rw [hg12] at hxn
            (try rw [hwn])
            (try rw [hg12])
            have HX12 := Lib.hid hxn
            replace HSZ := Lib.hid (Nat.le_trans HSZ.out hba.size)
            replace HBc := Lib.hid (HBc.out.trans (hba.mono HBc.out.size))
            replace HGc := Lib.hid (HGc.out.below hba)
            clear hba hxn hwn hg12
            refine two_ (i := 5) (j := 10) (Ni := (some 136)) (Nj := (some 141)) #[true, true, true, true, true, true, false, true, true, true, false, false, true, false, false, false, false] #[true, true, true, true, true, false, false, true, true, true, true, false, true, false, false, false, false] rfl rfl rfl rfl (two_of HT_.out (by kernel_rfl)) (by decide) (by decide) (fun K hK => ?_) (fun K hK => ?_)
            focus
              go_simp
              refine hK.out _ _ ⟨cell_alloc hHeld.1 _, cell_alloc hHeld.2 _⟩ (fun hHeld => ?_)
              clear hK K
              have hba := below_alloc (Below.refl wn53.heap.size wn53) (Obj.cells #[.int .u8 0] 5)
              have hxn := blk_new wn53 (Obj.cells #[.int .u8 0] 5 (0, 0))
              obtain ⟨g5, hg5⟩ : ∃ x, wn53.heap.size = x := ⟨_, rfl⟩
              obtain ⟨wn54, hwn⟩ : ∃ x, wn53.alloc (Obj.cells #[.int .u8 0] 5) = x := ⟨_, rfl⟩
              have HGE5 : Hid (wa.heap.size ≤ g5) := Lib.hid (by have := HSZ.out; omega)
              rw [hwn] at hba hxn hHeld
              rw [hg5] at hxn
              (try rw [hwn])
              (try rw [hg5])
              have HX5 := Lib.hid hxn
              replace HSZ := Lib.hid (Nat.le_trans HSZ.out hba.size)
              replace HBc := Lib.hid (HBc.out.trans (hba.mono HBc.out.size))
              replace HX12 := Lib.hid (blk_below HX12.out hba)
              replace HGc := Lib.hid (HGc.out.below hba)
              clear hba hxn hwn hg5
              refine two_ (i := 6) (j := 10) (Ni := (some 137)) (Nj := (some 141)) #[true, true, true, true, true, true, true, true, true, true, false, false, true, false, false, false, false] #[true, true, true, true, true, true, false, true, true, true, true, false, true, false, false, false, false] rfl rfl rfl rfl (two_of HT_.out (by kernel_rfl)) (by decide) (by decide) (fun K hK => ?_) (fun K hK => ?_)
              focus
                have HG5 := HGc
                have HC5 : Hid (wn54.cell? ⟨g, 0, none⟩ = some (Value.slice Ar z.length cr)) := Lib.hid hHeld.1
                obtain ⟨Aq, cq, hcq, -, hoq, -, -⟩ := HGc.out.cell
                have heq : Value.slice Aq z.length cq = (Value.slice Ar z.length cr) := Option.some.inj (hcq.symm.trans hHeld.1)
                rw [heq] at hoq
                clear hcq heq
                refine Kd.R_append_rows_step (Kd.int .u8) (w0 := w3) w3.heap.size (by rfl) (.tmp 135) (.tmp 136) 40 5 (.int .u8 0) 1 rfl Try.underlying40 infoB rfl (by decide) (by omega) (Value.slice Ar z.length cr) z [0] _ _ _ (fun _ => True) (fun _ => False) rfl rfl (Kd.R_of_own (enc := Value.int .u8) (h1 := fun _ => rfl) (ok := fun _ => True) (by exact hoq) (fun _ _ => trivial)) (C_blk HX5.out) (fun _ _ h => h) (fun _ h => h.elim) (fun k hk => trivial) HBc.out HBc.out.size (by have h1 := HLZ.out; exact Nat.le_trans (Nat.mul_le_mul_right 1 (show _ ≤ 700000000 by (try simp only [List.length_append, all16_len, List.length_cons, List.length_nil]); omega)) (by decide)) ?_
                intro v6 wn55 hR hB hg hat
                have ho6 := Kd.own_of_R hR
                have hcg := HGc.out.grown hHeld.1 hg
                replace HX12 := Lib.hid (blk_grown HX12.out hg (fun e => by have h1 := HVb.out g12 e.symm; have h2 := HGE12.out; omega))
                refine hK.out _ _ ⟨hcg.1, (cell_grown hHeld.2 hg (fun e => by have h1 := HVM.out e.symm; exact h1))⟩ (fun hHeld => ?_)
                clear hK K
                refine norm_ (a' := ?_) ?_ ?_
                rotate_left
                · show Act.put _ (some 137) _ = _
                  simp only [Act.put, List.setIfInBounds_toArray, List.set_cons_zero, List.set_cons_succ, i64_w, i32_w]
                  rfl
                have HO6 := Lib.hid ho6
                have HGr := Lib.hid hg
                have HAT := Lib.hid hat
                have HS5 : Hid (wa.heap.size ≤ wn54.heap.size) := HSZ
                replace HSZ := Lib.hid (Nat.le_trans HSZ.out hg.size)
                replace HBc := Lib.hid hB
                obtain ⟨W5, hW5⟩ : ∃ x, wn54 = x := ⟨_, rfl⟩
                rw [hW5] at HG5 HC5 HGr HAT HS5
                clear hR hB hg hat ho6 hcg HGc HX5 hW5 hoq
                refine one_ (i := 10) (N := (some 141)) #[true, true, true, true, true, true, true, true, true, true, true, false, true, false, false, false, false] rfl rfl (one_of HT_.out (by kernel_rfl)) (by decide) (fun K hK => ?_)
                go_simp
                (try simp only [HSZM.out])
                refine hK.out _ _ ⟨cell_alloc hHeld.1 _, cell_alloc hHeld.2 _⟩ (fun hHeld => ?_)
                clear hK K
                (try simp only [HSZM.out] at hHeld ⊢)
                have hba := below_alloc (Below.refl wn55.heap.size wn55) (Obj.cells #[.int .u16 41, .int .u16 (m.sz % 65536)] 22)
                have hxn := blk_new wn55 (Obj.cells #[.int .u16 41, .int .u16 (m.sz % 65536)] 22 (0, 0))
                obtain ⟨g10, hg10⟩ : ∃ x, wn55.heap.size = x := ⟨_, rfl⟩
                obtain ⟨wn56, hwn⟩ : ∃ x, wn55.alloc (Obj.cells #[.int .u16 41, .int .u16 (m.sz % 65536)] 22) = x := ⟨_, rfl⟩
                have HGE10 : Hid (wa.heap.size ≤ g10) := Lib.hid (by have := HSZ.out; omega)
                rw [hwn] at hba hxn hHeld
                rw [hg10] at hxn
                (try rw [hwn])
                (try rw [hg10])
                have HX10 := Lib.hid hxn
                replace HSZ := Lib.hid (Nat.le_trans HSZ.out hba.size)
                replace HBc := Lib.hid (HBc.out.trans (hba.mono HBc.out.size))
                replace HX12 := Lib.hid (blk_below HX12.out hba)
                replace HGr := Lib.hid (grow_below HGr.out hba)
                replace HO6 := Lib.hid (pw_own_below HO6.out hba)
                clear hba hxn hwn hg10
                refine one_ (i := 11) (N := (some 142)) #[true, true, true, true, true, true, true, true, true, true, true, true, true, false, false, false, false] rfl rfl (one_of HT_.out (by kernel_rfl)) (by decide) (fun K hK => ?_)
                obtain ⟨A6, c6, hv6⟩ := own_slice HO6.out
                subst hv6
                have hC6 := own_C (b := z ++ [0]) HO6.out
                refine goes_ Try.func23 (by kernel_rfl) rfl #[.slice A6 (z ++ [0]).length c6, .slice (some ⟨g10, 0, none⟩) 2 2] (by rfl) rfl rfl (by (try simp only [List.map_toArray, List.map_cons, List.map_nil]); rfl) ?_
                refine (put16_ A6 c6 (z ++ [0]) _ 2 [41, (m.sz % 65536)] _ hC6.1 hC6.2 (C_blk HX10.out) (Nat.le_refl _) (by have h1 := HLZ.out; simp only [List.length_append, List.length_cons, List.length_nil]; omega)).mono ?_
                rintro e wn57 ⟨v11, rfl, ho11, hb⟩
                refine ⟨_, rfl, ?_⟩
                replace HX12 := Lib.hid (blk_below HX12.out hb)
                refine hK.out _ _ ⟨(hb.cell (World.block_lt_of_cell? _ _ hHeld.1)).trans hHeld.1, (hb.cell (World.block_lt_of_cell? _ _ hHeld.2)).trans hHeld.2⟩ (fun hHeld => ?_)
                clear hK K
                refine norm_ (a' := ?_) ?_ ?_
                rotate_left
                · show Act.put _ (some 142) _ = _
                  simp only [Act.put, List.setIfInBounds_toArray, List.set_cons_zero, List.set_cons_succ, i64_w, i32_w]
                  rfl
                have HO11 := Lib.hid ho11
                have HLO : Hid (W5.heap.size ≤ wn56.heap.size) := Lib.hid HGr.out.size
                obtain ⟨s11, hs11⟩ : ∃ x, wn56.heap.size = x := ⟨_, rfl⟩
                rw [hs11] at HO11 HLO
                replace HGr := Lib.hid (grow_below HGr.out hb)
                replace HSZ := Lib.hid (Nat.le_trans HSZ.out hb.size)
                replace HBc := Lib.hid (HBc.out.trans (hb.mono HBc.out.size))
                clear ho11 hb hC6 HX10 hs11
                refine one_ (i := 13) (N := (some 144)) #[true, true, true, true, true, true, true, true, true, true, true, true, true, true, false, false, false] rfl rfl (one_of HT_.out (by kernel_rfl)) (by decide) (fun K hK => ?_)
                have hlo : w3.heap.size ≤ s11 := by have h1 := HLO.out; have h2 := HG5.out.low; omega
                have hva : ∀ k, (v11 : Value).ownBlock = some k → W5.heap.size ≤ k := fun k e => by have h1 := own_base HO11.out k e; have h2 := HLO.out; omega
                refine Kd.R_append_rows_step (Kd.int .u8) (w0 := w3) w3.heap.size (by rfl) (.tmp 142) (.tmp 143) 40 5 (.int .u8 0) 1 rfl Try.underlying40 infoB rfl (by decide) (by omega) v11 (z ++ [0] ++ all16 [41, (m.sz % 65536)]) [0, 0, 0, 0, 0, 0] _ _ _ (fun _ => True) (fun _ => False) rfl rfl (Kd.R_of_own (enc := Value.int .u8) (h1 := fun _ => rfl) (ok := fun _ => True) (by exact (own_lower HO11.out hlo)) (fun _ _ => trivial)) (C_blk HX12.out) (fun _ _ h => h) (fun _ h => h.elim) (fun k hk => trivial) HBc.out HBc.out.size (by have h1 := HLZ.out; exact Nat.le_trans (Nat.mul_le_mul_right 1 (show _ ≤ 700000000 by (try simp only [List.length_append, all16_len, List.length_cons, List.length_nil]); omega)) (by decide)) ?_
                intro v13 wn58 hR hB hg hat
                have ho13 := Kd.own_of_R hR
                have hgj := grow_join HGr.out hg hva
                refine hK.out _ _ ⟨?_, ?_⟩ (fun hHeld => ?_)
                · exact cell_grown hHeld.1 hg (fun e => by have h1 := hva _ e.symm; have h2 := World.block_lt_of_cell? _ _ HC5.out; exact absurd (Nat.lt_of_lt_of_le h2 h1) (Nat.lt_irrefl _))
                · exact cell_grown hHeld.2 hg (fun e => by have h1 := hva _ e.symm; have h2 := HGL.out; have h3 := HS5.out; exact absurd (Nat.lt_of_lt_of_le (Nat.lt_of_lt_of_le h2 h3) h1) (Nat.lt_irrefl _))
                clear hK K
                refine norm_ (a' := ?_) ?_ ?_
                rotate_left
                · show Act.put _ (some 144) _ = _
                  simp only [Act.put, List.setIfInBounds_toArray, List.set_cons_zero, List.set_cons_succ, i64_w, i32_w]
                  rfl
                have HO13 := Lib.hid ho13
                have HGJ := Lib.hid hgj
                have HA13 : Hid (v13.ownBlock = (Value.slice Ar z.length cr).ownBlock ∨ ∃ b, v13.ownBlock = some b ∧ W5.heap.size ≤ b) := Lib.hid (.inr (at_join HO11.out (by simp; omega) hat HLO.out HGr.out.size))
                replace HBc := Lib.hid hB
                clear hR hB hg hat ho13 hgj hva hlo HX12 HGr HO11 HO6 HLO
                refine pure_ (i := 14) (N := (some 145)) (v := ?_) (a' := ?_) #[true, true, true, true, true, true, true, true, true, true, true, true, true, true, true, false, false] rfl rfl (any_of HT_.out (by kernel_rfl)) (fun _ _ _ h => h) (Or.inl ⟨by rfl, ?_⟩) ?_ ?_
                rotate_left
                · intro w'
                  go_simp
                  with_reducible rfl
                rotate_left
                · simp only [Act.put, List.setIfInBounds_toArray, List.set_cons_zero, List.set_cons_succ, i64_w, i32_w]
                  rfl
                refine pure_ (i := 15) (N := (some 146)) (v := ?_) (a' := ?_) #[true, true, true, true, true, true, true, true, true, true, true, true, true, true, true, true, false] rfl rfl (any_of HT_.out (by kernel_rfl)) (fun _ _ _ h => h) (Or.inl ⟨by rfl, ?_⟩) ?_ ?_
                rotate_left
                · intro w'
                  go_simp
                  with_reducible rfl
                rotate_left
                · simp only [Act.put, List.setIfInBounds_toArray, List.set_cons_zero, List.set_cons_succ, i64_w, i32_w]
                  rfl
                obtain ⟨wz, hwz⟩ : ∃ x, wn58 = x := ⟨_, rfl⟩
                rw [hwz] at HO13 HGJ HBc hHeld ⊢
                clear hwz
              rotate_left 1
              focus
                go_simp
                (try simp only [HSZM.out])
                refine hK.out _ _ ⟨cell_alloc hHeld.1 _, cell_alloc hHeld.2 _⟩ (fun hHeld => ?_)
                clear hK K
                (try simp only [HSZM.out] at hHeld ⊢)
                have hba := below_alloc (Below.refl wn54.heap.size wn54) (Obj.cells #[.int .u16 41, .int .u16 (m.sz % 65536)] 22)
                have hxn := blk_new wn54 (Obj.cells #[.int .u16 41, .int .u16 (m.sz % 65536)] 22 (0, 0))
                obtain ⟨g10, hg10⟩ : ∃ x, wn54.heap.size = x := ⟨_, rfl⟩
                obtain ⟨wn59, hwn⟩ : ∃ x, wn54.alloc (Obj.cells #[.int .u16 41, .int .u16 (m.sz % 65536)] 22) = x := ⟨_, rfl⟩
                have HGE10 : Hid (wa.heap.size ≤ g10) := Lib.hid (by have := HSZ.out; omega)
                rw [hwn] at hba hxn hHeld
                rw [hg10] at hxn
                (try rw [hwn])
                (try rw [hg10])
                have HX10 := Lib.hid hxn
                replace HSZ := Lib.hid (Nat.le_trans HSZ.out hba.size)
                replace HBc := Lib.hid (HBc.out.trans (hba.mono HBc.out.size))
                replace HX5 := Lib.hid (blk_below HX5.out hba)
                replace HX12 := Lib.hid (blk_below HX12.out hba)
                replace HGc := Lib.hid (HGc.out.below hba)
                clear hba hxn hwn hg10
                refine one_ (i := 6) (N := (some 137)) #[true, true, true, true, true, true, true, true, true, true, true, false, true, false, false, false, false] rfl rfl (one_of HT_.out (by kernel_rfl)) (by decide) (fun K hK => ?_)
                have HG5 := HGc
                have HC5 : Hid (wn59.cell? ⟨g, 0, none⟩ = some (Value.slice Ar z.length cr)) := Lib.hid hHeld.1
                obtain ⟨Aq, cq, hcq, -, hoq, -, -⟩ := HGc.out.cell
                have heq : Value.slice Aq z.length cq = (Value.slice Ar z.length cr) := Option.some.inj (hcq.symm.trans hHeld.1)
                rw [heq] at hoq
                clear hcq heq
                refine Kd.R_append_rows_step (Kd.int .u8) (w0 := w3) w3.heap.size (by rfl) (.tmp 135) (.tmp 136) 40 5 (.int .u8 0) 1 rfl Try.underlying40 infoB rfl (by decide) (by omega) (Value.slice Ar z.length cr) z [0] _ _ _ (fun _ => True) (fun _ => False) rfl rfl (Kd.R_of_own (enc := Value.int .u8) (h1 := fun _ => rfl) (ok := fun _ => True) (by exact hoq) (fun _ _ => trivial)) (C_blk HX5.out) (fun _ _ h => h) (fun _ h => h.elim) (fun k hk => trivial) HBc.out HBc.out.size (by have h1 := HLZ.out; exact Nat.le_trans (Nat.mul_le_mul_right 1 (show _ ≤ 700000000 by (try simp only [List.length_append, all16_len, List.length_cons, List.length_nil]); omega)) (by decide)) ?_
                intro v6 wn60 hR hB hg hat
                have ho6 := Kd.own_of_R hR
                have hcg := HGc.out.grown hHeld.1 hg
                replace HX10 := Lib.hid (blk_grown HX10.out hg (fun e => by have h1 := HVb.out g10 e.symm; have h2 := HGE10.out; omega))
                replace HX12 := Lib.hid (blk_grown HX12.out hg (fun e => by have h1 := HVb.out g12 e.symm; have h2 := HGE12.out; omega))
                refine hK.out _ _ ⟨hcg.1, (cell_grown hHeld.2 hg (fun e => by have h1 := HVM.out e.symm; exact h1))⟩ (fun hHeld => ?_)
                clear hK K
                refine norm_ (a' := ?_) ?_ ?_
                rotate_left
                · show Act.put _ (some 137) _ = _
                  simp only [Act.put, List.setIfInBounds_toArray, List.set_cons_zero, List.set_cons_succ, i64_w, i32_w]
                  rfl
                have HO6 := Lib.hid ho6
                have HGr := Lib.hid hg
                have HAT := Lib.hid hat
                have HS5 : Hid (wa.heap.size ≤ wn59.heap.size) := HSZ
                replace HSZ := Lib.hid (Nat.le_trans HSZ.out hg.size)
                replace HBc := Lib.hid hB
                obtain ⟨W5, hW5⟩ : ∃ x, wn59 = x := ⟨_, rfl⟩
                rw [hW5] at HG5 HC5 HGr HAT HS5
                clear hR hB hg hat ho6 hcg HGc HX5 hW5 hoq
                refine one_ (i := 11) (N := (some 142)) #[true, true, true, true, true, true, true, true, true, true, true, true, true, false, false, false, false] rfl rfl (one_of HT_.out (by kernel_rfl)) (by decide) (fun K hK => ?_)
                obtain ⟨A6, c6, hv6⟩ := own_slice HO6.out
                subst hv6
                have hC6 := own_C (b := z ++ [0]) HO6.out
                refine goes_ Try.func23 (by kernel_rfl) rfl #[.slice A6 (z ++ [0]).length c6, .slice (some ⟨g10, 0, none⟩) 2 2] (by rfl) rfl rfl (by (try simp only [List.map_toArray, List.map_cons, List.map_nil]); rfl) ?_
                refine (put16_ A6 c6 (z ++ [0]) _ 2 [41, (m.sz % 65536)] _ hC6.1 hC6.2 (C_blk HX10.out) (Nat.le_refl _) (by have h1 := HLZ.out; simp only [List.length_append, List.length_cons, List.length_nil]; omega)).mono ?_
                rintro e wn61 ⟨v11, rfl, ho11, hb⟩
                refine ⟨_, rfl, ?_⟩
                replace HX12 := Lib.hid (blk_below HX12.out hb)
                refine hK.out _ _ ⟨(hb.cell (World.block_lt_of_cell? _ _ hHeld.1)).trans hHeld.1, (hb.cell (World.block_lt_of_cell? _ _ hHeld.2)).trans hHeld.2⟩ (fun hHeld => ?_)
                clear hK K
                refine norm_ (a' := ?_) ?_ ?_
                rotate_left
                · show Act.put _ (some 142) _ = _
                  simp only [Act.put, List.setIfInBounds_toArray, List.set_cons_zero, List.set_cons_succ, i64_w, i32_w]
                  rfl
                have HO11 := Lib.hid ho11
                have HLO : Hid (W5.heap.size ≤ wn60.heap.size) := Lib.hid HGr.out.size
                obtain ⟨s11, hs11⟩ : ∃ x, wn60.heap.size = x := ⟨_, rfl⟩
                rw [hs11] at HO11 HLO
                replace HGr := Lib.hid (grow_below HGr.out hb)
                replace HSZ := Lib.hid (Nat.le_trans HSZ.out hb.size)
                replace HBc := Lib.hid (HBc.out.trans (hb.mono HBc.out.size))
                clear ho11 hb hC6 HX10 hs11
                refine one_ (i := 13) (N := (some 144)) #[true, true, true, true, true, true, true, true, true, true, true, true, true, true, false, false, false] rfl rfl (one_of HT_.out (by kernel_rfl)) (by decide) (fun K hK => ?_)
                have hlo : w3.heap.size ≤ s11 := by have h1 := HLO.out; have h2 := HG5.out.low; omega
                have hva : ∀ k, (v11 : Value).ownBlock = some k → W5.heap.size ≤ k := fun k e => by have h1 := own_base HO11.out k e; have h2 := HLO.out; omega
                refine Kd.R_append_rows_step (Kd.int .u8) (w0 := w3) w3.heap.size (by rfl) (.tmp 142) (.tmp 143) 40 5 (.int .u8 0) 1 rfl Try.underlying40 infoB rfl (by decide) (by omega) v11 (z ++ [0] ++ all16 [41, (m.sz % 65536)]) [0, 0, 0, 0, 0, 0] _ _ _ (fun _ => True) (fun _ => False) rfl rfl (Kd.R_of_own (enc := Value.int .u8) (h1 := fun _ => rfl) (ok := fun _ => True) (by exact (own_lower HO11.out hlo)) (fun _ _ => trivial)) (C_blk HX12.out) (fun _ _ h => h) (fun _ h => h.elim) (fun k hk => trivial) HBc.out HBc.out.size (by have h1 := HLZ.out; exact Nat.le_trans (Nat.mul_le_mul_right 1 (show _ ≤ 700000000 by (try simp only [List.length_append, all16_len, List.length_cons, List.length_nil]); omega)) (by decide)) ?_
                intro v13 wn62 hR hB hg hat
                have ho13 := Kd.own_of_R hR
                have hgj := grow_join HGr.out hg hva
                refine hK.out _ _ ⟨?_, ?_⟩ (fun hHeld => ?_)
                · exact cell_grown hHeld.1 hg (fun e => by have h1 := hva _ e.symm; have h2 := World.block_lt_of_cell? _ _ HC5.out; exact absurd (Nat.lt_of_lt_of_le h2 h1) (Nat.lt_irrefl _))
                · exact cell_grown hHeld.2 hg (fun e => by have h1 := hva _ e.symm; have h2 := HGL.out; have h3 := HS5.out; exact absurd (Nat.lt_of_lt_of_le (Nat.lt_of_lt_of_le h2 h3) h1) (Nat.lt_irrefl _))
                clear hK K
                refine norm_ (a' := ?_) ?_ ?_
                rotate_left
                · show Act.put _ (some 144) _ = _
                  simp only [Act.put, List.setIfInBounds_toArray, List.set_cons_zero, List.set_cons_succ, i64_w, i32_w]
                  rfl
                have HO13 := Lib.hid ho13
                have HGJ := Lib.hid hgj
                have HA13 : Hid (v13.ownBlock = (Value.slice Ar z.length cr).ownBlock ∨ ∃ b, v13.ownBlock = some b ∧ W5.heap.size ≤ b) := Lib.hid (.inr (at_join HO11.out (by simp; omega) hat HLO.out HGr.out.size))
                replace HBc := Lib.hid hB
                clear hR hB hg hat ho13 hgj hva hlo HX12 HGr HO11 HO6 HLO
                refine pure_ (i := 14) (N := (some 145)) (v := ?_) (a' := ?_) #[true, true, true, true, true, true, true, true, true, true, true, true, true, true, true, false, false] rfl rfl (any_of HT_.out (by kernel_rfl)) (fun _ _ _ h => h) (Or.inl ⟨by rfl, ?_⟩) ?_ ?_
                rotate_left
                · intro w'
                  go_simp
                  with_reducible rfl
                rotate_left
                · simp only [Act.put, List.setIfInBounds_toArray, List.set_cons_zero, List.set_cons_succ, i64_w, i32_w]
                  rfl
                refine pure_ (i := 15) (N := (some 146)) (v := ?_) (a' := ?_) #[true, true, true, true, true, true, true, true, true, true, true, true, true, true, true, true, false] rfl rfl (any_of HT_.out (by kernel_rfl)) (fun _ _ _ h => h) (Or.inl ⟨by rfl, ?_⟩) ?_ ?_
                rotate_left
                · intro w'
                  go_simp
                  with_reducible rfl
                rotate_left
                · simp only [Act.put, List.setIfInBounds_toArray, List.set_cons_zero, List.set_cons_succ, i64_w, i32_w]
                  rfl
                obtain ⟨wz, hwz⟩ : ∃ x, wn62 = x := ⟨_, rfl⟩
                rw [hwz] at HO13 HGJ HBc hHeld ⊢
                clear hwz
            rotate_left 2
            focus
              go_simp
              (try simp only [HSZM.out])
              refine hK.out _ _ ⟨cell_alloc hHeld.1 _, cell_alloc hHeld.2 _⟩ (fun hHeld => ?_)
              clear hK K
              (try simp only [HSZM.out] at hHeld ⊢)
              have hba := below_alloc (Below.refl wn53.heap.size wn53) (Obj.cells #[.int .u16 41, .int .u16 (m.sz % 65536)] 22)
              have hxn := blk_new wn53 (Obj.cells #[.int .u16 41, .int .u16 (m.sz % 65536)] 22 (0, 0))
              obtain ⟨g10, hg10⟩ : ∃ x, wn53.heap.size = x := ⟨_, rfl⟩
              obtain ⟨wn63, hwn⟩ : ∃ x, wn53.alloc (Obj.cells #[.int .u16 41, .int .u16 (m.sz % 65536)] 22) = x := ⟨_, rfl⟩
              have HGE10 : Hid (wa.heap.size ≤ g10) := Lib.hid (by have := HSZ.out; omega)
              rw [hwn] at hba hxn hHeld
              rw [hg10] at hxn
              (try rw [hwn])
              (try rw [hg10])
              have HX10 := Lib.hid hxn
              replace HSZ := Lib.hid (Nat.le_trans HSZ.out hba.size)
              replace HBc := Lib.hid (HBc.out.trans (hba.mono HBc.out.size))
              replace HX12 := Lib.hid (blk_below HX12.out hba)
              replace HGc := Lib.hid (HGc.out.below hba)
              clear hba hxn hwn hg10
              refine one_ (i := 5) (N := (some 136)) #[true, true, true, true, true, true, false, true, true, true, true, false, true, false, false, false, false] rfl rfl (one_of HT_.out (by kernel_rfl)) (by decide) (fun K hK => ?_)
              go_simp
              refine hK.out _ _ ⟨cell_alloc hHeld.1 _, cell_alloc hHeld.2 _⟩ (fun hHeld => ?_)
              clear hK K
              have hba := below_alloc (Below.refl wn63.heap.size wn63) (Obj.cells #[.int .u8 0] 5)
              have hxn := blk_new wn63 (Obj.cells #[.int .u8 0] 5 (0, 0))
              obtain ⟨g5, hg5⟩ : ∃ x, wn63.heap.size = x := ⟨_, rfl⟩
              obtain ⟨wn64, hwn⟩ : ∃ x, wn63.alloc (Obj.cells #[.int .u8 0] 5) = x := ⟨_, rfl⟩
              have HGE5 : Hid (wa.heap.size ≤ g5) := Lib.hid (by have := HSZ.out; omega)
              rw [hwn] at hba hxn hHeld
              rw [hg5] at hxn
              (try rw [hwn])
              (try rw [hg5])
              have HX5 := Lib.hid hxn
              replace HSZ := Lib.hid (Nat.le_trans HSZ.out hba.size)
              replace HBc := Lib.hid (HBc.out.trans (hba.mono HBc.out.size))
              replace HX10 := Lib.hid (blk_below HX10.out hba)
              replace HX12 := Lib.hid (blk_below HX12.out hba)
              replace HGc := Lib.hid (HGc.out.below hba)
              clear hba hxn hwn hg5
              refine one_ (i := 6) (N := (some 137)) #[true, true, true, true, true, true, true, true, true, true, true, false, true, false, false, false, false] rfl rfl (one_of HT_.out (by kernel_rfl)) (by decide) (fun K hK => ?_)
              have HG5 := HGc
              have HC5 : Hid (wn64.cell? ⟨g, 0, none⟩ = some (Value.slice Ar z.length cr)) := Lib.hid hHeld.1
              obtain ⟨Aq, cq, hcq, -, hoq, -, -⟩ := HGc.out.cell
              have heq : Value.slice Aq z.length cq = (Value.slice Ar z.length cr) := Option.some.inj (hcq.symm.trans hHeld.1)
              rw [heq] at hoq
              clear hcq heq
              refine Kd.R_append_rows_step (Kd.int .u8) (w0 := w3) w3.heap.size (by rfl) (.tmp 135) (.tmp 136) 40 5 (.int .u8 0) 1 rfl Try.underlying40 infoB rfl (by decide) (by omega) (Value.slice Ar z.length cr) z [0] _ _ _ (fun _ => True) (fun _ => False) rfl rfl (Kd.R_of_own (enc := Value.int .u8) (h1 := fun _ => rfl) (ok := fun _ => True) (by exact hoq) (fun _ _ => trivial)) (C_blk HX5.out) (fun _ _ h => h) (fun _ h => h.elim) (fun k hk => trivial) HBc.out HBc.out.size (by have h1 := HLZ.out; exact Nat.le_trans (Nat.mul_le_mul_right 1 (show _ ≤ 700000000 by (try simp only [List.length_append, all16_len, List.length_cons, List.length_nil]); omega)) (by decide)) ?_
              intro v6 wn65 hR hB hg hat
              have ho6 := Kd.own_of_R hR
              have hcg := HGc.out.grown hHeld.1 hg
              replace HX10 := Lib.hid (blk_grown HX10.out hg (fun e => by have h1 := HVb.out g10 e.symm; have h2 := HGE10.out; omega))
              replace HX12 := Lib.hid (blk_grown HX12.out hg (fun e => by have h1 := HVb.out g12 e.symm; have h2 := HGE12.out; omega))
              refine hK.out _ _ ⟨hcg.1, (cell_grown hHeld.2 hg (fun e => by have h1 := HVM.out e.symm; exact h1))⟩ (fun hHeld => ?_)
              clear hK K
              refine norm_ (a' := ?_) ?_ ?_
              rotate_left
              · show Act.put _ (some 137) _ = _
                simp only [Act.put, List.setIfInBounds_toArray, List.set_cons_zero, List.set_cons_succ, i64_w, i32_w]
                rfl
              have HO6 := Lib.hid ho6
              have HGr := Lib.hid hg
              have HAT := Lib.hid hat
              have HS5 : Hid (wa.heap.size ≤ wn64.heap.size) := HSZ
              replace HSZ := Lib.hid (Nat.le_trans HSZ.out hg.size)
              replace HBc := Lib.hid hB
              obtain ⟨W5, hW5⟩ : ∃ x, wn64 = x := ⟨_, rfl⟩
              rw [hW5] at HG5 HC5 HGr HAT HS5
              clear hR hB hg hat ho6 hcg HGc HX5 hW5 hoq
              refine one_ (i := 11) (N := (some 142)) #[true, true, true, true, true, true, true, true, true, true, true, true, true, false, false, false, false] rfl rfl (one_of HT_.out (by kernel_rfl)) (by decide) (fun K hK => ?_)
              obtain ⟨A6, c6, hv6⟩ := own_slice HO6.out
              subst hv6
              have hC6 := own_C (b := z ++ [0]) HO6.out
              refine goes_ Try.func23 (by kernel_rfl) rfl #[.slice A6 (z ++ [0]).length c6, .slice (some ⟨g10, 0, none⟩) 2 2] (by rfl) rfl rfl (by (try simp only [List.map_toArray, List.map_cons, List.map_nil]); rfl) ?_
              refine (put16_ A6 c6 (z ++ [0]) _ 2 [41, (m.sz % 65536)] _ hC6.1 hC6.2 (C_blk HX10.out) (Nat.le_refl _) (by have h1 := HLZ.out; simp only [List.length_append, List.length_cons, List.length_nil]; omega)).mono ?_
              rintro e wn66 ⟨v11, rfl, ho11, hb⟩
              refine ⟨_, rfl, ?_⟩
              replace HX12 := Lib.hid (blk_below HX12.out hb)
              refine hK.out _ _ ⟨(hb.cell (World.block_lt_of_cell? _ _ hHeld.1)).trans hHeld.1, (hb.cell (World.block_lt_of_cell? _ _ hHeld.2)).trans hHeld.2⟩ (fun hHeld => ?_)
              clear hK K
              refine norm_ (a' := ?_) ?_ ?_
              rotate_left
              · show Act.put _ (some 142) _ = _
                simp only [Act.put, List.setIfInBounds_toArray, List.set_cons_zero, List.set_cons_succ, i64_w, i32_w]
                rfl
              have HO11 := Lib.hid ho11
              have HLO : Hid (W5.heap.size ≤ wn65.heap.size) := Lib.hid HGr.out.size
              obtain ⟨s11, hs11⟩ : ∃ x, wn65.heap.size = x := ⟨_, rfl⟩
              rw [hs11] at HO11 HLO
              replace HGr := Lib.hid (grow_below HGr.out hb)
              replace HSZ := Lib.hid (Nat.le_trans HSZ.out hb.size)
              replace HBc := Lib.hid (HBc.out.trans (hb.mono HBc.out.size))
              clear ho11 hb hC6 HX10 hs11
              refine one_ (i := 13) (N := (some 144)) #[true, true, true, true, true, true, true, true, true, true, true, true, true, true, false, false, false] rfl rfl (one_of HT_.out (by kernel_rfl)) (by decide) (fun K hK => ?_)
              have hlo : w3.heap.size ≤ s11 := by have h1 := HLO.out; have h2 := HG5.out.low; omega
              have hva : ∀ k, (v11 : Value).ownBlock = some k → W5.heap.size ≤ k := fun k e => by have h1 := own_base HO11.out k e; have h2 := HLO.out; omega
              refine Kd.R_append_rows_step (Kd.int .u8) (w0 := w3) w3.heap.size (by rfl) (.tmp 142) (.tmp 143) 40 5 (.int .u8 0) 1 rfl Try.underlying40 infoB rfl (by decide) (by omega) v11 (z ++ [0] ++ all16 [41, (m.sz % 65536)]) [0, 0, 0, 0, 0, 0] _ _ _ (fun _ => True) (fun _ => False) rfl rfl (Kd.R_of_own (enc := Value.int .u8) (h1 := fun _ => rfl) (ok := fun _ => True) (by exact (own_lower HO11.out hlo)) (fun _ _ => trivial)) (C_blk HX12.out) (fun _ _ h => h) (fun _ h => h.elim) (fun k hk => trivial) HBc.out HBc.out.size (by have h1 := HLZ.out; exact Nat.le_trans (Nat.mul_le_mul_right 1 (show _ ≤ 700000000 by (try simp only [List.length_append, all16_len, List.length_cons, List.length_nil]); omega)) (by decide)) ?_
              intro v13 wn67 hR hB hg hat
              have ho13 := Kd.own_of_R hR
              have hgj := grow_join HGr.out hg hva
              refine hK.out _ _ ⟨?_, ?_⟩ (fun hHeld => ?_)
              · exact cell_grown hHeld.1 hg (fun e => by have h1 := hva _ e.symm; have h2 := World.block_lt_of_cell? _ _ HC5.out; exact absurd (Nat.lt_of_lt_of_le h2 h1) (Nat.lt_irrefl _))
              · exact cell_grown hHeld.2 hg (fun e => by have h1 := hva _ e.symm; have h2 := HGL.out; have h3 := HS5.out; exact absurd (Nat.lt_of_lt_of_le (Nat.lt_of_lt_of_le h2 h3) h1) (Nat.lt_irrefl _))
              clear hK K
              refine norm_ (a' := ?_) ?_ ?_
              rotate_left
              · show Act.put _ (some 144) _ = _
                simp only [Act.put, List.setIfInBounds_toArray, List.set_cons_zero, List.set_cons_succ, i64_w, i32_w]
                rfl
              have HO13 := Lib.hid ho13
              have HGJ := Lib.hid hgj
              have HA13 : Hid (v13.ownBlock = (Value.slice Ar z.length cr).ownBlock ∨ ∃ b, v13.ownBlock = some b ∧ W5.heap.size ≤ b) := Lib.hid (.inr (at_join HO11.out (by simp; omega) hat HLO.out HGr.out.size))
              replace HBc := Lib.hid hB
              clear hR hB hg hat ho13 hgj hva hlo HX12 HGr HO11 HO6 HLO
              refine pure_ (i := 14) (N := (some 145)) (v := ?_) (a' := ?_) #[true, true, true, true, true, true, true, true, true, true, true, true, true, true, true, false, false] rfl rfl (any_of HT_.out (by kernel_rfl)) (fun _ _ _ h => h) (Or.inl ⟨by rfl, ?_⟩) ?_ ?_
              rotate_left
              · intro w'
                go_simp
                with_reducible rfl
              rotate_left
              · simp only [Act.put, List.setIfInBounds_toArray, List.set_cons_zero, List.set_cons_succ, i64_w, i32_w]
                rfl
              refine pure_ (i := 15) (N := (some 146)) (v := ?_) (a' := ?_) #[true, true, true, true, true, true, true, true, true, true, true, true, true, true, true, true, false] rfl rfl (any_of HT_.out (by kernel_rfl)) (fun _ _ _ h => h) (Or.inl ⟨by rfl, ?_⟩) ?_ ?_
              rotate_left
              · intro w'
                go_simp
                with_reducible rfl
              rotate_left
              · simp only [Act.put, List.setIfInBounds_toArray, List.set_cons_zero, List.set_cons_succ, i64_w, i32_w]
                rfl
              obtain ⟨wz, hwz⟩ : ∃ x, wn67 = x := ⟨_, rfl⟩
              rw [hwz] at HO13 HGJ HBc hHeld ⊢
              clear hwz
          all_goals
            have ho13 := HO13.out
            obtain ⟨zz, hzz⟩ : ∃ zz, z ++ [0] ++ all16 [41, m.sz % 65536] ++ [0, 0, 0, 0, 0, 0] = zz := ⟨_, rfl⟩
            rw [hzz] at ho13
            have hzl : z.length ≤ zz.length := by rw [← hzz]; simp only [List.length_append]; omega
            obtain ⟨A13, c13, hv13⟩ := own_slice ho13
            subst hv13
            have HGf := Lib.hid (HG5.out.app HC5.out HGJ.out ho13 HA13.out hzl)
            have hcf := HG5.out.grown HC5.out HGJ.out
            have hc1 := hcf.1
            have hf1 := hcf.2
            have HZZ := Lib.hid hzz
            clear hcf ho13 hzz hzl HO13 HGJ HA13 HG5 HC5 hHeld
            refine last_ (i := 16) (N := none) #[true, true, true, true, true, true, true, true, true, true, true, true, true, true, true, true, true] rfl rfl (one_of HT_.out (by kernel_rfl)) (by decide) (fun K hK => ?_)
            go_simp
            refine hK.out _ _ ?_
            clear hK K
            refine done_ (done_of HT_.out (by kernel_rfl)) ?_
            obtain ⟨wf, hwf⟩ : ∃ wf, wz.setCell ⟨g, 0, none⟩ (.slice A13 zz.length c13) = wf := ⟨_, rfl⟩
            rw [hwf] at HGf ⊢
            clear hwf hc1 hf1
            obtain ⟨As, cs, hcs, -, hos, -, -⟩ := HGf.out.cell
            have hst := own_string (P := Try.prog) Try.underlying40 Try.underlying5 Try.underlying9 hos
            clear hos
            go_wp2
            go_ret
            have hw : wholeL m = zz := by
              unfold wholeL
              rw [if_pos HS.out, HPW.out, ← HZZ.out]
              simp only
              rw [List.append_assoc _ (all32 [0]) (all16 [0])]
              rfl
            rw [hw]
            exact ⟨rfl, HB3.out.trans ((HB9.out.trans (goes_below HW9.out HGf.out)).mono HB3.out.size)⟩
        · have d1 : decide (m.sz > 0) = false := decide_eq_false hs
          have d2 : decide (0 < m.sz) = false := decide_eq_false hs
          have hst := own_string (P := Try.prog) Try.underlying40 Try.underlying5 Try.underlying9 HOR.out
          go_wp2
          go_ret
          have hw : wholeL m = z := by unfold wholeL; rw [if_neg (by omega), HPW.out]
          rw [hw]
          exact ⟨rfl, HBW.out⟩
end Go.Proofs.Ytnikfeaggppmpaa.Wr
