import Derived.Test.YtnikfeaggppmpaaProg
import Derived.Below
import Derived.Deep.Draws
import Derived.Deep.AppendLies
import Derived.Maps.AppendAt
import Derived.OwnWalk
import Derived.Laws.BytesArg
import Derived.Laws.MakeOwn
import Derived.Laws.OwnMore
import Derived.Deep.OwnRows
import Derived.Tactics
import Derived.Lib.ConvBytes
import Derived.Laws.Slices
import Derived.WalkKit
import Derived.KernelRfl
import Derived.RowKit3
import Derived.Deep.LoopGhost
import Derived.Deep.QuietTactic
import Derived.BigQuiet
import Derived.WideLaws
import Derived.Deep.DeepCutAuto
import Derived.Deep.CutBlock
import Derived.Deep.RegionHeld3
import Derived.Laws.Rows
import Derived.Lib.AppendStr
import Derived.ArgAppend
import Derived.Laws.IdiomCopy
import Derived.OrdersHeld
import Derived.Laws.BitsLemmas
import Derived.RowKit
import Derived.Lib.SlBytesConst
import Derived.Test.YtnikfeaggppmpaaHandW
import Derived.Test.YtnikfeaggppmpaaBld
import Derived.Test.YtnikfeaggppmpaaHeap
import Derived.Test.YtnikfeaggppmpaaBase
import Derived.Test.YtnikfeaggppmpaaNamP
import Derived.Test.YtnikfeaggppmpaaWAll
namespace Go.Proofs.Ytnikfeaggppmpaa.PM
open Go.RowKit Go.Proofs.YtnikfeaggppmpaaW.PrintWords Go.Proofs.YtnikfeaggppmpaaW.PrintLast Go.Proofs.YtnikfeaggppmpaaW.PrintMore
attribute [local go_sem] max2_int min2_int max_two min_two max_three min_three max_four min_four   -- for this text's walks alone
set_option linter.unusedVariables false
set_option linter.unusedSimpArgs false
def errW : Option Int → Value
  | none => .nilIface
  | some c => .iface 77 (.int .i64 c)
theorem errW_none : errW none = .nilIface := rfl
theorem errW_some (c : Int) : errW (some c) = .iface 77 (.int .i64 c) := rfl
theorem info4 : (Try.prog.info? 4).map (fun i => (i.zero, i.size, i.bytes)) = some (some (.bool false), 1, 1) := by kernel_rfl
theorem info5 : (Try.prog.info? 5).map (fun i => (i.zero, i.size, i.bytes)) = some (some (.int .u8 0), 1, 1) := by kernel_rfl
theorem info9 : (Try.prog.info? 9).map (fun i => (i.zero, i.size, i.bytes)) = some (some (.string ⟨#[]⟩), 1, 16) := by kernel_rfl
theorem info37 : (Try.prog.info? 37).map (fun i => (i.zero, i.size, i.bytes)) = some (some (.agg #[(.string ⟨#[]⟩), (.int .u16 0), (.int .u32 0), (.string ⟨#[]⟩)]), 4, 40) := by kernel_rfl
structure S37 where
  f0 : ByteArray
  f1 : Int
  f2 : Int
  f3 : ByteArray
def z37 : S37 := ⟨(⟨#[]⟩ : ByteArray), (0 : Int), (0 : Int), (⟨#[]⟩ : ByteArray)⟩
def k37 : Kd S37 := Kd.iso (Kd.pair Kd.string (Kd.pair (Kd.int .u16) (Kd.pair (Kd.int .u32) Kd.string))) (fun x : S37 => (x.f0, x.f1, x.f2, x.f3))
theorem k37_open {w : World} {x : S37} {cs : List Value} (h : k37.K w x cs) : cs = [.string x.f0, .int .u16 x.f1, .int .u32 x.f2, .string x.f3] := by
  obtain ⟨_, _, rfl, rfl, ⟨_, _, rfl, rfl, ⟨_, _, rfl, rfl, rfl⟩⟩⟩ := h
  exact rfl
theorem k37_mkM (w : World) (base : Nat) (ok : Nat → Prop) (x : S37)  : k37.M w base ok x [.string x.f0, .int .u16 x.f1, .int .u32 x.f2, .string x.f3] := ⟨[.string x.f0], [.int .u16 x.f1, .int .u32 x.f2, .string x.f3], rfl, rfl, ⟨[.int .u16 x.f1], [.int .u32 x.f2, .string x.f3], rfl, rfl, ⟨[.int .u32 x.f2], [.string x.f3], rfl, rfl, rfl⟩⟩⟩
def rd_T37 (xs : List S37) (i : Int) : S37 := xs.getD i.toNat z37
theorem at_T37 {w : World} {A : Option Addr} {n : Nat} {xs : List S37} (h : Kd.C k37 w A n xs) (i : Int) (h0 : 0 ≤ i) (h1 : i < n) : ∃ ad , A = some ad ∧ w.cell? (ad.add (i.toNat * 4)) = some (.string (rd_T37 xs i).f0) ∧ w.cell? ⟨(ad.add (i.toNat * 4)).block, (ad.add (i.toNat * 4)).off + 1, none⟩ = some (.int .u16 (rd_T37 xs i).f1) ∧ w.cell? ⟨(ad.add (i.toNat * 4)).block, (ad.add (i.toNat * 4)).off + 2, none⟩ = some (.int .u32 (rd_T37 xs i).f2) ∧ w.cell? ⟨(ad.add (i.toNat * 4)).block, (ad.add (i.toNat * 4)).off + 3, none⟩ = some (.string (rd_T37 xs i).f3) := by
  obtain ⟨ad, c, e, _, hK, hc0⟩ := Kd.C_get h z37 i h0 h1
  have hc : ∀ j u, c[j]? = some u → w.cell? (ad.add (i.toNat * 4 + j)) = some u := hc0
  obtain rfl := k37_open hK
  exact ⟨ad, e, hc 0 _ rfl, by rw [← add_field _ _ 1 (by omega)]; exact hc 1 _ rfl, by rw [← add_field _ _ 2 (by omega)]; exact hc 2 _ rfl, by rw [← add_field _ _ 3 (by omega)]; exact hc 3 _ rfl⟩
structure S94 where
  f0 : (List Int)
  f1 : Int
  f2 : Int
  f3 : (List Int)
  f4 : ByteArray
def z94 : S94 := ⟨([] : List Int), (0 : Int), (0 : Int), ([] : List Int), (⟨#[]⟩ : ByteArray)⟩
def k94 : Kd S94 := Kd.iso (Kd.pair (Kd.slice 5 (Kd.int .u8)) (Kd.pair (Kd.int .u8) (Kd.pair (Kd.int .u32) (Kd.pair (Kd.slice 5 (Kd.int .u8)) Kd.string)))) (fun x : S94 => (x.f0, x.f1, x.f2, x.f3, x.f4))
theorem k94_open {w : World} {x : S94} {cs : List Value} (h : k94.K w x cs) : ∃ A0 c0 A3 c3, cs = [.slice A0 x.f0.length c0, .int .u8 x.f1, .int .u32 x.f2, .slice A3 x.f3.length c3, .string x.f4] ∧ x.f0.length ≤ c0 ∧ (Kd.int .u8).C w A0 x.f0.length x.f0 ∧ x.f3.length ≤ c3 ∧ (Kd.int .u8).C w A3 x.f3.length x.f3 := by
  obtain ⟨_, _, rfl, ⟨A0, c0, rfl, l0, g0⟩, ⟨_, _, rfl, rfl, ⟨_, _, rfl, rfl, ⟨_, _, rfl, ⟨A3, c3, rfl, l3, g3⟩, rfl⟩⟩⟩⟩ := h
  exact ⟨A0, c0, A3, c3, rfl, l0, g0, l3, g3⟩
def rd_T94 (xs : List S94) (i : Int) : S94 := xs.getD i.toNat z94
theorem at_T94 {w : World} {A : Option Addr} {n : Nat} {xs : List S94} (h : Kd.C k94 w A n xs) (i : Int) (h0 : 0 ≤ i) (h1 : i < n) : ∃ ad A0 c0 A3 c3, A = some ad ∧ w.cell? (ad.add (i.toNat * 5)) = some (.slice A0 (rd_T94 xs i).f0.length c0) ∧ w.cell? ⟨(ad.add (i.toNat * 5)).block, (ad.add (i.toNat * 5)).off + 1, none⟩ = some (.int .u8 (rd_T94 xs i).f1) ∧ w.cell? ⟨(ad.add (i.toNat * 5)).block, (ad.add (i.toNat * 5)).off + 2, none⟩ = some (.int .u32 (rd_T94 xs i).f2) ∧ w.cell? ⟨(ad.add (i.toNat * 5)).block, (ad.add (i.toNat * 5)).off + 3, none⟩ = some (.slice A3 (rd_T94 xs i).f3.length c3) ∧ w.cell? ⟨(ad.add (i.toNat * 5)).block, (ad.add (i.toNat * 5)).off + 4, none⟩ = some (.string (rd_T94 xs i).f4) ∧ (rd_T94 xs i).f0.length ≤ c0 ∧ (Kd.int .u8).C w A0 (rd_T94 xs i).f0.length (rd_T94 xs i).f0 ∧ (rd_T94 xs i).f3.length ≤ c3 ∧ (Kd.int .u8).C w A3 (rd_T94 xs i).f3.length (rd_T94 xs i).f3 := by
  obtain ⟨ad, c, e, _, hK, hc0⟩ := Kd.C_get h z94 i h0 h1
  have hc : ∀ j u, c[j]? = some u → w.cell? (ad.add (i.toNat * 5 + j)) = some u := hc0
  obtain ⟨A0, c0, A3, c3, rfl, l0, g0, l3, g3⟩ := k94_open hK
  exact ⟨ad, A0, c0, A3, c3, e, hc 0 _ rfl, by rw [← add_field _ _ 1 (by omega)]; exact hc 1 _ rfl, by rw [← add_field _ _ 2 (by omega)]; exact hc 2 _ rfl, by rw [← add_field _ _ 3 (by omega)]; exact hc 3 _ rfl, by rw [← add_field _ _ 4 (by omega)]; exact hc 4 _ rfl, l0, g0, l3, g3⟩
end Go.Proofs.Ytnikfeaggppmpaa.PM
