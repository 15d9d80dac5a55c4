-- written by a program of this session out of the loaded program (its tools: wip/tools)
import Derived.Test.YtecpginkacaebaaDoorProg
import Derived.Below
import Derived.Deep.Draws
import Derived.Deep.AppendLies
import Derived.Maps.AppendAt
import Derived.OwnWalk
import Derived.Laws.BytesArg
import Derived.Laws.MakeOwn
import Derived.Laws.OwnMore
import Derived.Deep.OwnRows
import Derived.Tactics
import Derived.Lib.ConvBytes
import Derived.Laws.Slices
import Derived.WalkKit
import Derived.KernelRfl
import Derived.RowKit3
import Derived.Deep.LoopGhost
import Derived.Deep.QuietTactic
import Derived.BigQuiet
import Derived.WideLaws
import Derived.Deep.DeepCutAuto
import Derived.Deep.CutBlock
import Derived.Deep.RegionHeld3
import Derived.Laws.Rows
import Derived.Lib.AppendStr
import Derived.ArgAppend
import Derived.Laws.IdiomCopy
import Derived.OrdersHeld
import Derived.Laws.BitsLemmas
import Derived.RowKit
import Derived.Lib.SlBytesConst
import Derived.Test.YtecpginkacaebaaDoorHandW
import Derived.Test.YtecpginkacaebaaDoorBld
import Derived.Test.YtecpginkacaebaaDoorHeap
import Derived.Test.YtecpginkacaebaaDoorBase
import Derived.Test.YtecpginkacaebaaDoorNamP
import Derived.Test.YtecpginkacaebaaDoorWWords
import Derived.Test.YtecpginkacaebaaDoorWLast
import Derived.Test.YtecpginkacaebaaDoorWTab
import Derived.Test.YtecpginkacaebaaDoorWFour
import Derived.Test.YtecpginkacaebaaDoorWQPut
import Derived.Test.YtecpginkacaebaaDoorWApart
import Derived.Test.YtecpginkacaebaaDoorWArr
import Derived.Test.YtecpginkacaebaaDoorWZeros
import Derived.Test.YtecpginkacaebaaDoorWFoot
import Derived.Test.YtecpginkacaebaaDoorWKept
import Derived.Test.YtecpginkacaebaaDoorWShare
import Derived.Test.YtecpginkacaebaaDoorWN
import Derived.Test.YtecpginkacaebaaDoorWFootNe
import Derived.Test.YtecpginkacaebaaDoorWAt
import Derived.Test.YtecpginkacaebaaDoorWEqStruct
import Derived.Test.YtecpginkacaebaaDoorWRepsOne
import Derived.Test.YtecpginkacaebaaDoorWInv
import Derived.Test.YtecpginkacaebaaDoorWInvWords
import Derived.Test.YtecpginkacaebaaDoorWGuard
import Derived.Test.YtecpginkacaebaaDoorWNEv
import Derived.Test.YtecpginkacaebaaDoorWMore
namespace Go.Proofs.YtecpginkacaebaaDoor.PQ
open Go.RowKit Go.Proofs.YtecpginkacaebaaDoorW.PrintWords Go.Proofs.YtecpginkacaebaaDoorW.PrintLast Go.Proofs.YtecpginkacaebaaDoorW.PrintMore
attribute [local go_sem] max2_int min2_int max_two min_two max_three min_three max_four min_four   -- for this text's walks alone
set_option linter.unusedVariables false
set_option linter.unusedSimpArgs false



def errW : Option Int → Value
  | none => .nilIface
  | some c => .iface 0 (.int .i64 c)
theorem errW_none : errW none = .nilIface := rfl
theorem errW_some (c : Int) : errW (some c) = .iface 0 (.int .i64 c) := rfl

-- the values' own types
/-! #### struct type 110 -/
structure S110 where
  f0 : ByteArray
  f1 : Int
  f2 : Int
  f3 : ByteArray
def z110 : S110 := ⟨(⟨#[]⟩ : ByteArray), (0 : Int), (0 : Int), (⟨#[]⟩ : ByteArray)⟩
def k110 : Kd S110 := Kd.iso (Kd.pair Kd.string (Kd.pair (Kd.int .u16) (Kd.pair (Kd.int .u32) Kd.string))) (fun x : S110 => (x.f0, x.f1, x.f2, x.f3))
theorem k110_open {w : World} {x : S110} {cs : List Value} (h : k110.K w x cs) : cs = [.string x.f0, .int .u16 x.f1, .int .u32 x.f2, .string x.f3] := by
  obtain ⟨_, _, rfl, rfl, ⟨_, _, rfl, rfl, ⟨_, _, rfl, rfl, rfl⟩⟩⟩ := h
  exact rfl
theorem k110_openM {w : World} {base : Nat} {ok : Nat → Prop} {x : S110} {cs : List Value} (h : k110.M w base ok x cs) : cs = [.string x.f0, .int .u16 x.f1, .int .u32 x.f2, .string x.f3] := by
  obtain ⟨_, _, rfl, rfl, ⟨_, _, rfl, rfl, ⟨_, _, rfl, rfl, rfl⟩⟩⟩ := h
  exact rfl
theorem k110_mk (w : World) (x : S110)  : k110.K w x [.string x.f0, .int .u16 x.f1, .int .u32 x.f2, .string x.f3] := ⟨[.string x.f0], [.int .u16 x.f1, .int .u32 x.f2, .string x.f3], rfl, rfl, ⟨[.int .u16 x.f1], [.int .u32 x.f2, .string x.f3], rfl, rfl, ⟨[.int .u32 x.f2], [.string x.f3], rfl, rfl, rfl⟩⟩⟩
theorem k110_mkM (w : World) (base : Nat) (ok : Nat → Prop) (x : S110)  : k110.M w base ok x [.string x.f0, .int .u16 x.f1, .int .u32 x.f2, .string x.f3] := ⟨[.string x.f0], [.int .u16 x.f1, .int .u32 x.f2, .string x.f3], rfl, rfl, ⟨[.int .u16 x.f1], [.int .u32 x.f2, .string x.f3], rfl, rfl, ⟨[.int .u32 x.f2], [.string x.f3], rfl, rfl, rfl⟩⟩⟩
def rd_T110 (xs : List S110) (i : Int) : S110 := xs.getD i.toNat z110
theorem at_T110 {w : World} {A : Option Addr} {n : Nat} {xs : List S110} (h : Kd.C k110 w A n xs) (i : Int) (h0 : 0 ≤ i) (h1 : i < n) : ∃ ad , A = some ad ∧ w.cell? (ad.add (i.toNat * 4)) = some (.string (rd_T110 xs i).f0) ∧ w.cell? ⟨(ad.add (i.toNat * 4)).block, (ad.add (i.toNat * 4)).off + 1, none⟩ = some (.int .u16 (rd_T110 xs i).f1) ∧ w.cell? ⟨(ad.add (i.toNat * 4)).block, (ad.add (i.toNat * 4)).off + 2, none⟩ = some (.int .u32 (rd_T110 xs i).f2) ∧ w.cell? ⟨(ad.add (i.toNat * 4)).block, (ad.add (i.toNat * 4)).off + 3, none⟩ = some (.string (rd_T110 xs i).f3) := by
  obtain ⟨ad, c, e, _, hK, hc0⟩ := Kd.C_get h z110 i h0 h1
  have hc : ∀ j u, c[j]? = some u → w.cell? (ad.add (i.toNat * 4 + j)) = some u := hc0
  obtain rfl := k110_open hK
  exact ⟨ad, e, hc 0 _ rfl, by rw [← add_field _ _ 1 (by omega)]; exact hc 1 _ rfl, by rw [← add_field _ _ 2 (by omega)]; exact hc 2 _ rfl, by rw [← add_field _ _ 3 (by omega)]; exact hc 3 _ rfl⟩

end Go.Proofs.YtecpginkacaebaaDoor.PQ
