/-
  The law NumBack about numbers and lists alone: numbers that were laid are read where they were laid.
-/
import Derived.Test.YtciipbdhibkkcaaPureSaidNumBack
import Derived.Test.YtciipbdhibkkcaaQNNum
namespace Go.Proofs.Ytciipbdhibkkcaa.Pure
open Go.RowKit Go.Proofs.Ytciipbdhibkkcaa.PN Go.Proofs.YtciipbdhibkkcaaW.PrintWords Go.Proofs.YtciipbdhibkkcaaW.PrintLast Go.Proofs.Ytciipbdhibkkcaa.Base Go.Proofs.Ytciipbdhibkkcaa.QN
set_option linter.unusedSimpArgs false
attribute [local irreducible] rd bt strOfNums be16 be32 all16 all32

namespace NumBack_
theorem awake : Ev (fun k => bolterlaw01_awake.f k) true := Ev.of (fun k => bolterlaw01_awake.mono k) (k := 10) (by kernel_rfl)

theorem got16 (b ns : List Int) (hb : b.length + 2 * ns.length ≤ 6000000) (B : B8 b) (N : Lt 65536 ns) (i : Nat) (hi : i < ns.length) :
    num_Get16.f (strOfNums (b ++ all16 ns)) ((b.length : Int) + 2 * i) = some (rd ns i, true) := by
  have hr := N _ (rd_mem (l := ns) (i := (i : Int)) (by omega) (by omega))
  have hl : (b ++ all16 ns).length = b.length + 2 * ns.length := by rw [List.length_append, all16_len]
  have hs := str_size (b ++ all16 ns)
  have h8 := B8.append B (all16_b8 ns)
  rw [get16_in _ _ (by omega) (by omega) (by omega), str_bt _ h8 (by omega) (by omega), str_bt _ h8 (by omega) (by omega)]
  obtain ⟨q0, q1⟩ := rd16 b ns i hi N
  rw [q0, q1]
  clear q0 q1
  rw [show rd ns (i : Int) / 256 * 256 + rd ns (i : Int) % 256 = rd ns (i : Int) by omega]

theorem got32 (b ns : List Int) (hb : b.length + 4 * ns.length ≤ 6000000) (B : B8 b) (N : Lt 4294967296 ns) (i : Nat) (hi : i < ns.length) :
    num_Get32.f (strOfNums (b ++ all32 ns)) ((b.length : Int) + 4 * i) = some (rd ns i, true) := by
  have hr := N _ (rd_mem (l := ns) (i := (i : Int)) (by omega) (by omega))
  have hl : (b ++ all32 ns).length = b.length + 4 * ns.length := by rw [List.length_append, all32_len]
  have hs := str_size (b ++ all32 ns)
  have h8 := B8.append B (all32_b8 ns)
  rw [get32_in _ _ (by omega) (by omega) (by omega), str_bt _ h8 (by omega) (by omega), str_bt _ h8 (by omega) (by omega), str_bt _ h8 (by omega) (by omega), str_bt _ h8 (by omega) (by omega)]
  obtain ⟨q0, q1, q2, q3⟩ := rd32 b ns i hi N
  rw [q0, q1, q2, q3]
  clear q0 q1 q2 q3
  rw [show ((rd ns (i : Int) / 16777216 * 256 + rd ns (i : Int) / 65536 % 256) * 256 + rd ns (i : Int) / 256 % 256) * 256 + rd ns (i : Int) % 256 = rd ns (i : Int) by omega]

theorem loop1 (b ns ms : List Int) (hb : b.length + 2 * ns.length + 4 * ms.length ≤ 6000000) (B : B8 b) (M : Lt 4294967296 ms) (d : Nat) : ∀ i : Nat, i + d = ms.length →
    Ev (fun k => bolterlaw01_NumBack.l1 k b (strOfNums (b ++ all16 ns)) (strOfNums (b ++ all32 ms)) ms (ms.length : Int) (i : Int)) true := by
  have hl : (b ++ all16 ns).length = b.length + 2 * ns.length := by rw [List.length_append, all16_len]
  have hs := str_size (b ++ all16 ns)
  induction d with
  | zero =>
    intro i hi
    refine Ev.step (f := fun _ => some true) (fun k => ?_) (Ev.now _)
    simp only [bolterlaw01_NumBack.l1]
    rw [if_neg (by omega), get16_out _ _ (by rw [w64 (by omega) (by omega)]; omega) (by omega)]
    rfl
  | succ d ih =>
    intro i hi
    have hlt : i < ms.length := by omega
    refine Ev.step (fun k => ?_) (ih (i + 1) (by omega))
    have e1 : wrap64 ((b.length : Int) + wrap64 (4 * (i : Int))) = (b.length : Int) + 4 * i := by rw [w64 (n := 4 * (i : Int)) (by omega) (by omega), w64 (by omega) (by omega)]
    have e3 : wrap64 ((i : Int) + 1) = ((i + 1 : Nat) : Int) := by rw [w64 (by omega) (by omega)]; omega
    simp only [bolterlaw01_NumBack.l1]
    rw [e1, e3, got32 b ms (by omega) B M i hlt, if_pos (by omega), if_pos (by omega), if_pos (by omega)]
    simp only [Option.bind_some]
    simp only [if_true]

theorem loop0 (b ns ms : List Int) (hb : b.length + 2 * ns.length + 4 * ms.length ≤ 6000000) (B : B8 b) (N : Lt 65536 ns) (M : Lt 4294967296 ms) (d : Nat) : ∀ i : Nat, i + d = ns.length →
    Ev (fun k => bolterlaw01_NumBack.l0 k ms b (strOfNums (b ++ all16 ns)) (strOfNums (b ++ all32 ms)) ns (ns.length : Int) (i : Int)) true := by
  induction d with
  | zero =>
    intro i hi
    refine Ev.step (fun k => ?_) (loop1 b ns ms hb B M ms.length 0 (by omega))
    simp only [bolterlaw01_NumBack.l0]
    rw [if_neg (by omega)]
    rfl
  | succ d ih =>
    intro i hi
    have hlt : i < ns.length := by omega
    refine Ev.step (fun k => ?_) (ih (i + 1) (by omega))
    have e1 : wrap64 ((b.length : Int) + wrap64 (2 * (i : Int))) = (b.length : Int) + 2 * i := by rw [w64 (n := 2 * (i : Int)) (by omega) (by omega), w64 (by omega) (by omega)]
    have e3 : wrap64 ((i : Int) + 1) = ((i + 1 : Nat) : Int) := by rw [w64 (by omega) (by omega)]; omega
    simp only [bolterlaw01_NumBack.l0]
    rw [e1, e3, got16 b ns (by omega) B N i hlt, if_pos (by omega), if_pos (by omega), if_pos (by omega)]
    simp only [Option.bind_some]
    simp only [if_true]
end NumBack_

theorem NumBack : PureSaid.NumBack := by
  intro ns ms b hn hnm hm hmm hb8 hbm hbulk
  rw [opn.bs_one, opn.bs_one, opn.bs_one] at hbulk
  have N := Lt.of_wf16 hn
  have M := Lt.of_wf32 hm
  have B := B8.of_wf hb8
  refine Ev.rounds ?_
  unfold bolterlaw01_NumBack.f
  refine Ev.bind NumBack_.awake ?_
  simp only [if_true]
  refine Ev.bind (put16 b ns (by omega)) ?_
  refine Ev.bind (put32 b ms (by omega)) ?_
  exact NumBack_.loop0 b ns ms (by omega) B N M ns.length 0 (by omega)

end Go.Proofs.Ytciipbdhibkkcaa.Pure
