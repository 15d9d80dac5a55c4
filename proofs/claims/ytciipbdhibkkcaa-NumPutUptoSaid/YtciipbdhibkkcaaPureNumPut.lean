/-
  The law NumPut about numbers and lists alone: numbers are laid behind what was, the high bytes first.
-/
import Derived.Test.YtciipbdhibkkcaaPureSaidNumPut
import Derived.Test.YtciipbdhibkkcaaQNNum
namespace Go.Proofs.Ytciipbdhibkkcaa.Pure
open Go.RowKit Go.Proofs.Ytciipbdhibkkcaa.PN Go.Proofs.YtciipbdhibkkcaaW.PrintWords Go.Proofs.YtciipbdhibkkcaaW.PrintLast Go.Proofs.Ytciipbdhibkkcaa.Base Go.Proofs.Ytciipbdhibkkcaa.QN
set_option linter.unusedSimpArgs false
attribute [local irreducible] rd bt strOfNums be16 be32 all16 all32

namespace NumPut_
theorem awake : Ev (fun k => bolterlaw01_awake.f k) true := Ev.of (fun k => bolterlaw01_awake.mono k) (k := 10) (by kernel_rfl)

theorem seg (b ms : List Int) (i : Nat) (h : i < ms.length) : ((b ++ all32 ms).take (b.length + 4 * i + 4)).drop (b.length + 4 * i) = be32 (rd ms i) := by
  have e : b ++ all32 ms = (b ++ all32 (ms.take i)) ++ (be32 (rd ms i) ++ all32 (ms.drop (i + 1))) := by
    conv => lhs; rw [← List.take_append_drop (i + 1) ms]
    rw [all32_append, all32_take ms i h, List.append_assoc, List.append_assoc]
  have hl : (b ++ all32 (ms.take i)).length = b.length + 4 * i := by rw [List.length_append, all32_len, List.length_take]; omega
  have hb := be32_len (rd ms i)
  rw [e, ← hl, show (b ++ all32 (ms.take i)).length + 4 = (b ++ all32 (ms.take i)).length + (be32 (rd ms i)).length by omega, ← List.length_append, ← List.append_assoc, List.take_left, List.drop_left]

theorem loop2 (b ms : List Int) (hb : b.length + 4 * ms.length ≤ 6000000) (M : Lt 4294967296 ms) (i : Nat) (hi : i < ms.length)
    (next : Ev (fun k => bolterlaw01_NumPut.l1 k b (b ++ all32 ms) ms (ms.length : Int) ((i + 1 : Nat) : Int)) true) :
    Ev (fun k => bolterlaw01_NumPut.l2 k b (b ++ all32 ms) (rd ms i) 0 ms (ms.length : Int) (i : Int) (be32 (rd ms i)) ((be32 (rd ms i)).length : Int) 0) true := by
  have hr := M _ (rd_mem (l := ms) (i := (i : Int)) (by omega) (by omega))
  generalize hn : rd ms (i : Int) = n at hr ⊢
  have hl : ((be32 n).length : Int) = 4 := by rw [be32_len]; rfl
  have r0 := be32_0 n
  have r1 := be32_1 n
  have r2 := be32_2 n
  have r3 := be32_3 n
  rw [hl]
  refine Ev.step (f := fun k => bolterlaw01_NumPut.l2 k b (b ++ all32 ms) n (n / 16777216) ms (ms.length : Int) (i : Int) (be32 n) 4 1) (fun k => ?_) ?_
  · simp only [bolterlaw01_NumPut.l2]
    rw [if_pos (by omega), if_pos (by omega), if_pos (by omega), r0]
    congr 1
    · rw [w64 (n := 0 * 256) (by omega) (by omega), w64 (n := n / 16777216 % 256) (by omega) (by omega), w64 (by omega) (by omega)]; omega
    · exact w64 (by omega) (by omega)
  refine Ev.step (f := fun k => bolterlaw01_NumPut.l2 k b (b ++ all32 ms) n (n / 65536) ms (ms.length : Int) (i : Int) (be32 n) 4 2) (fun k => ?_) ?_
  · simp only [bolterlaw01_NumPut.l2]
    rw [if_pos (by omega), if_pos (by omega), if_pos (by omega), r1]
    congr 1
    · rw [w64 (n := n / 16777216 * 256) (by omega) (by omega), w64 (n := n / 65536 % 256) (by omega) (by omega), w64 (by omega) (by omega)]; omega
    · exact w64 (by omega) (by omega)
  refine Ev.step (f := fun k => bolterlaw01_NumPut.l2 k b (b ++ all32 ms) n (n / 256) ms (ms.length : Int) (i : Int) (be32 n) 4 3) (fun k => ?_) ?_
  · simp only [bolterlaw01_NumPut.l2]
    rw [if_pos (by omega), if_pos (by omega), if_pos (by omega), r2]
    congr 1
    · rw [w64 (n := n / 65536 * 256) (by omega) (by omega), w64 (n := n / 256 % 256) (by omega) (by omega), w64 (by omega) (by omega)]; omega
    · exact w64 (by omega) (by omega)
  refine Ev.step (f := fun k => bolterlaw01_NumPut.l2 k b (b ++ all32 ms) n n ms (ms.length : Int) (i : Int) (be32 n) 4 4) (fun k => ?_) ?_
  · simp only [bolterlaw01_NumPut.l2]
    rw [if_pos (by omega), if_pos (by omega), if_pos (by omega), r3]
    congr 1
    · rw [w64 (n := n / 256 * 256) (by omega) (by omega), w64 (n := n % 256) (by omega) (by omega), w64 (by omega) (by omega)]; omega
    · exact w64 (by omega) (by omega)
  refine Ev.step (fun k => ?_) next
  simp only [bolterlaw01_NumPut.l2]
  rw [if_neg (by omega), if_pos (by rw [w64 (by omega) (by omega)]), w64 (n := (i : Int) + 1) (by omega) (by omega)]
  congr 1

theorem loop1 (b ms : List Int) (hb : b.length + 4 * ms.length ≤ 6000000) (M : Lt 4294967296 ms) (d : Nat) : ∀ i : Nat, i + d = ms.length →
    Ev (fun k => bolterlaw01_NumPut.l1 k b (b ++ all32 ms) ms (ms.length : Int) (i : Int)) true := by
  induction d with
  | zero =>
    intro i hi
    refine Ev.step (f := fun _ => some true) (fun k => ?_) (Ev.now _)
    simp only [bolterlaw01_NumPut.l1]
    rw [if_neg (by omega)]
  | succ d ih =>
    intro i hi
    have hlt : i < ms.length := by omega
    refine Ev.step (fun k => ?_) (loop2 b ms hb M i hlt (ih (i + 1) (by omega)))
    have hl : (b ++ all32 ms).length = b.length + 4 * ms.length := by rw [List.length_append, all32_len]
    have e1 : wrap64 ((b.length : Int) + wrap64 (4 * (i : Int))) = ((b.length + 4 * i : Nat) : Int) := by rw [w64 (n := 4 * (i : Int)) (by omega) (by omega), w64 (by omega) (by omega)]; omega
    have e2 : wrap64 (((b.length + 4 * i : Nat) : Int) + 4) = ((b.length + 4 * i + 4 : Nat) : Int) := by rw [w64 (by omega) (by omega)]; omega
    simp only [bolterlaw01_NumPut.l1]
    rw [e1, e2, if_pos (by omega), if_pos (by omega), if_pos (by omega), if_pos (by omega), if_pos (by omega), if_pos (by rw [hl]; omega)]
    simp only [Option.bind_some, Int.toNat_natCast]
    rw [seg b ms i hlt]

theorem loop0 (b ns ms : List Int) (hb : b.length + 2 * ns.length + 4 * ms.length ≤ 6000000) (N : Lt 65536 ns) (M : Lt 4294967296 ms) (d : Nat) : ∀ i : Nat, i + d = ns.length →
    Ev (fun k => bolterlaw01_NumPut.l0 k b ms (b ++ all16 ns) (b ++ all32 ms) ns (ns.length : Int) (i : Int)) true := by
  induction d with
  | zero =>
    intro i hi
    refine Ev.step (fun k => ?_) (loop1 b ms (by omega) M ms.length 0 (by omega))
    simp only [bolterlaw01_NumPut.l0]
    rw [if_neg (by omega)]
    rfl
  | succ d ih =>
    intro i hi
    have hlt : i < ns.length := by omega
    have hr := N _ (rd_mem (l := ns) (i := (i : Int)) (by omega) (by omega))
    refine Ev.step (fun k => ?_) (ih (i + 1) (by omega))
    have hl : (b ++ all16 ns).length = b.length + 2 * ns.length := by rw [List.length_append, all16_len]
    have e1 : wrap64 ((b.length : Int) + wrap64 (2 * (i : Int))) = (b.length : Int) + 2 * i := by rw [w64 (n := 2 * (i : Int)) (by omega) (by omega), w64 (by omega) (by omega)]
    have e2 : wrap64 ((b.length : Int) + 2 * i + 1) = (b.length : Int) + 2 * i + 1 := by rw [w64 (by omega) (by omega)]
    have e3 : wrap64 ((i : Int) + 1) = ((i + 1 : Nat) : Int) := by rw [w64 (by omega) (by omega)]; omega
    simp only [bolterlaw01_NumPut.l0]
    rw [e1, e2, e3, if_pos (by omega), if_pos (by omega), if_pos (by omega), if_pos (by omega), if_pos (by rw [hl]; omega), if_pos (by omega), if_pos (by rw [hl]; omega), if_pos]
    obtain ⟨q0, q1⟩ := rd16 b ns i hlt N
    rw [q0, q1]
    clear q0 q1
    rw [w64 (n := rd ns (i : Int) / 256) (by omega) (by omega), w64 (n := rd ns (i : Int) % 256) (by omega) (by omega), w64 (n := rd ns (i : Int)) (by omega) (by omega), w64 (n := rd ns (i : Int) / 256 * 256) (by omega) (by omega), w64 (by omega) (by omega)]
    omega
end NumPut_

theorem NumPut : PureSaid.NumPut := by
  intro b ns ms hb8 hbm hn hnm hm hmm hbulk
  rw [opn.bs_one, opn.bs_one, opn.bs_one] at hbulk
  have N := Lt.of_wf16 hn
  have M := Lt.of_wf32 hm
  have l16 : (b ++ all16 ns).length = b.length + 2 * ns.length := by rw [List.length_append, all16_len]
  have l32 : (b ++ all32 ms).length = b.length + 4 * ms.length := by rw [List.length_append, all32_len]
  refine Ev.rounds ?_
  unfold bolterlaw01_NumPut.f
  refine Ev.bind NumPut_.awake ?_
  simp only [if_true]
  refine Ev.bind (put16 b ns (by omega)) ?_
  refine Ev.bind (put32 b ms (by omega)) ?_
  have e1 : wrap64 ((b.length : Int) + wrap64 (2 * (ns.length : Int))) = (b.length : Int) + 2 * ns.length := by rw [w64 (n := 2 * (ns.length : Int)) (by omega) (by omega), w64 (by omega) (by omega)]
  have e2 : wrap64 ((b.length : Int) + wrap64 (4 * (ms.length : Int))) = (b.length : Int) + 4 * ms.length := by rw [w64 (n := 4 * (ms.length : Int)) (by omega) (by omega), w64 (by omega) (by omega)]
  refine Ev.congr (f := fun k => bolterlaw01_NumPut.j0 k b ns ms (b ++ all16 ns) (b ++ all32 ms) false) (fun k => ?_) ?_
  · rw [e1, e2, if_pos (by omega), if_pos (by omega), if_pos (by omega), if_pos (by omega), Int.toNat_natCast, List.take_left, List.take_left, if_pos rfl, if_pos (by omega), bne_self_eq_false]
  refine Ev.step (fun k => ?_) (NumPut_.loop0 b ns ms (by omega) N M ns.length 0 (by omega))
  simp only [bolterlaw01_NumPut.j0]
  rw [if_neg (by simp)]
  rfl

end Go.Proofs.Ytciipbdhibkkcaa.Pure
