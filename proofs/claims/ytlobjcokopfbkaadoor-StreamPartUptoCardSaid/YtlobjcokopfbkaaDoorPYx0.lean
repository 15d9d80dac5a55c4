import Derived.Test.YtlobjcokopfbkaaDoorProg
import Derived.Below
import Derived.Deep.Draws
import Derived.Deep.AppendLies
import Derived.Maps.AppendAt
import Derived.OwnWalk
import Derived.Laws.BytesArg
import Derived.Laws.MakeOwn
import Derived.Laws.OwnMore
import Derived.Deep.OwnRows
import Derived.Tactics
import Derived.Lib.ConvBytes
import Derived.Laws.Slices
import Derived.WalkKit
import Derived.KernelRfl
import Derived.RowKit3
import Derived.Deep.LoopGhost
import Derived.Deep.QuietTactic
import Derived.BigQuiet
import Derived.WideLaws
import Derived.Deep.DeepCutAuto
import Derived.Deep.CutBlock
import Derived.Deep.RegionHeld3
import Derived.Laws.Rows
import Derived.Lib.AppendStr
import Derived.ArgAppend
import Derived.Laws.IdiomCopy
import Derived.OrdersHeld
import Derived.Laws.BitsLemmas
import Derived.RowKit
import Derived.Lib.SlBytesConst
import Derived.Test.YtlobjcokopfbkaaDoorHandW
import Derived.Test.YtlobjcokopfbkaaDoorBld
import Derived.Test.YtlobjcokopfbkaaDoorHeap
import Derived.Test.YtlobjcokopfbkaaDoorBase
import Derived.Test.YtlobjcokopfbkaaDoorNamP
import Derived.Test.YtlobjcokopfbkaaDoorWAll
namespace Go.Proofs.YtlobjcokopfbkaaDoor.PY
open Go.RowKit Go.Proofs.YtlobjcokopfbkaaDoorW.PrintWords Go.Proofs.YtlobjcokopfbkaaDoorW.PrintLast Go.Proofs.YtlobjcokopfbkaaDoorW.PrintMore
attribute [local go_sem] max2_int min2_int max_two min_two max_three min_three max_four min_four   -- for this text's walks alone
set_option linter.unusedVariables false
set_option linter.unusedSimpArgs false
def errW:Option Int→Value
 | none=>.nilIface
 | some c=>.iface 39 (.int .i64 c)
theorem errW_none:errW none = .nilIface:=rfl
theorem errW_some (c:Int):errW (some c) = .iface 39 (.int .i64 c):=rfl
theorem info5:(Tryd.prog.info? 5).map (fun i=>(i.zero,i.size,i.bytes)) = some (some (.int .u8 0),1,1):=by kernel_rfl
theorem info9:(Tryd.prog.info? 9).map (fun i=>(i.zero,i.size,i.bytes)) = some (some (.string ⟨#[]⟩),1,16):=by kernel_rfl
theorem info32:(Tryd.prog.info? 32).map (fun i=>(i.zero,i.size,i.bytes)) = some (some (.agg #[(.string ⟨#[]⟩),(.int .u16 0),(.int .u32 0),(.string ⟨#[]⟩)]),4,40):=by kernel_rfl
theorem info57:(Tryd.prog.info? 57).map (fun i=>(i.zero,i.size,i.bytes)) = some (some (.agg #[(.string ⟨#[]⟩),(.int .u16 0),(.int .u32 0),(.string ⟨#[]⟩),(.string ⟨#[]⟩),(.int .u16 0),(.int .u32 0),(.string ⟨#[]⟩),(.slice none 0 0),(.slice none 0 0)]),10,128):=by kernel_rfl
structure S32 where
 f0:ByteArray
 f1:Int
 f2:Int
 f3:ByteArray
def z32:S32:=⟨(⟨#[]⟩:ByteArray),(0:Int),(0:Int),(⟨#[]⟩:ByteArray)⟩
def k32:Kd S32:=Kd.iso (Kd.pair Kd.string (Kd.pair (Kd.int .u16) (Kd.pair (Kd.int .u32) Kd.string))) (fun x:S32=>(x.f0,x.f1,x.f2,x.f3))
theorem k32_heap:Kd.Heap k32:=Kd.heap_iso _ (Kd.heap_pair Kd.heap_string (Kd.heap_pair (Kd.heap_int .u16) (Kd.heap_pair (Kd.heap_int .u32) Kd.heap_string)))
theorem k32_open {w:World} {x:S32} {cs:List Value} (h:k32.K w x cs):cs = [.string x.f0,.int .u16 x.f1,.int .u32 x.f2,.string x.f3]:=by
 obtain ⟨_,_,rfl,rfl,⟨_,_,rfl,rfl,⟨_,_,rfl,rfl,rfl⟩⟩⟩:=h
 exact rfl
theorem k32_openM {w:World} {base:Nat} {ok:Nat→Prop} {x:S32} {cs:List Value} (h:k32.M w base ok x cs):cs = [.string x.f0,.int .u16 x.f1,.int .u32 x.f2,.string x.f3]:=by
 obtain ⟨_,_,rfl,rfl,⟨_,_,rfl,rfl,⟨_,_,rfl,rfl,rfl⟩⟩⟩:=h
 exact rfl
theorem k32_mkM (w:World) (base:Nat) (ok:Nat→Prop) (x:S32)  : k32.M w base ok x [.string x.f0,.int .u16 x.f1,.int .u32 x.f2,.string x.f3]:=⟨[.string x.f0],[.int .u16 x.f1,.int .u32 x.f2,.string x.f3],rfl,rfl,⟨[.int .u16 x.f1],[.int .u32 x.f2,.string x.f3],rfl,rfl,⟨[.int .u32 x.f2],[.string x.f3],rfl,rfl,rfl⟩⟩⟩
def rd_T32 (xs:List S32) (i:Int):S32:=xs.getD i.toNat z32
theorem at_T32 {w:World} {A:Option Addr} {n:Nat} {xs:List S32} (h:Kd.C k32 w A n xs) (i:Int) (h0:0≤i) (h1:i < n):∃ ad ,A = some ad∧w.cell? (ad.add (i.toNat * 4)) = some (.string (rd_T32 xs i).f0)∧w.cell? ⟨(ad.add (i.toNat * 4)).block,(ad.add (i.toNat * 4)).off + 1,none⟩ = some (.int .u16 (rd_T32 xs i).f1)∧w.cell? ⟨(ad.add (i.toNat * 4)).block,(ad.add (i.toNat * 4)).off + 2,none⟩ = some (.int .u32 (rd_T32 xs i).f2)∧w.cell? ⟨(ad.add (i.toNat * 4)).block,(ad.add (i.toNat * 4)).off + 3,none⟩ = some (.string (rd_T32 xs i).f3):=by
 obtain ⟨ad,c,e,_,hK,hc0⟩:=Kd.C_get h z32 i h0 h1
 have hc:∀ j u,c[j]? = some u→w.cell? (ad.add (i.toNat * 4 + j)) = some u:=hc0
 obtain rfl:=k32_open hK
 exact ⟨ad,e,hc 0 _ rfl,by rw [← add_field _ _ 1 (by omega)];exact hc 1 _ rfl,by rw [← add_field _ _ 2 (by omega)];exact hc 2 _ rfl,by rw [← add_field _ _ 3 (by omega)];exact hc 3 _ rfl⟩
structure S57 where
 f0:S32
 f1:S32
 f2:(List S32)
 f3:(List S32)
def z57:S57:=⟨z32,z32,([]:List S32),([]:List S32)⟩
def k57:Kd S57:=Kd.iso (Kd.pair k32 (Kd.pair k32 (Kd.pair (Kd.slice 32 k32) (Kd.slice 32 k32)))) (fun x:S57=>(x.f0,x.f1,x.f2,x.f3))
theorem k57_open {w:World} {x:S57} {cs:List Value} (h:k57.K w x cs):∃ A8 c8 A9 c9,cs = [.string x.f0.f0,.int .u16 x.f0.f1,.int .u32 x.f0.f2,.string x.f0.f3,.string x.f1.f0,.int .u16 x.f1.f1,.int .u32 x.f1.f2,.string x.f1.f3,.slice A8 x.f2.length c8,.slice A9 x.f3.length c9]∧x.f2.length≤c8∧k32.C w A8 x.f2.length x.f2∧x.f3.length≤c9∧k32.C w A9 x.f3.length x.f3:=by
 obtain ⟨_,_,rfl,s0,⟨_,_,rfl,s4,⟨_,_,rfl,⟨A8,c8,rfl,l8,g8⟩,⟨A9,c9,rfl,l9,g9⟩⟩⟩⟩:=h
 obtain rfl:=k32_open s0
 obtain rfl:=k32_open s4
 exact ⟨A8,c8,A9,c9,rfl,l8,g8,l9,g9⟩
theorem k57_openM {w:World} {base:Nat} {ok:Nat→Prop} {x:S57} {cs:List Value} (h:k57.M w base ok x cs):∃ v8 v9,cs = [.string x.f0.f0,.int .u16 x.f0.f1,.int .u32 x.f0.f2,.string x.f0.f3,.string x.f1.f0,.int .u16 x.f1.f1,.int .u32 x.f1.f2,.string x.f1.f3,v8,v9]∧k32.R 32 w base ok v8 x.f2∧k32.R 32 w base ok v9 x.f3:=by
 obtain ⟨_,_,rfl,s0,⟨_,_,rfl,s4,⟨_,_,rfl,⟨v8,rfl,g8⟩,⟨v9,rfl,g9⟩⟩⟩⟩:=h
 obtain rfl:=k32_openM s0
 obtain rfl:=k32_openM s4
 exact ⟨v8,v9,rfl,g8,g9⟩
theorem k57_mkM (w:World) (base:Nat) (ok:Nat→Prop) (x:S57) {v8:Value} (g8:k32.R 32 w base ok v8 x.f2) {v9:Value} (g9:k32.R 32 w base ok v9 x.f3):k57.M w base ok x [.string x.f0.f0,.int .u16 x.f0.f1,.int .u32 x.f0.f2,.string x.f0.f3,.string x.f1.f0,.int .u16 x.f1.f1,.int .u32 x.f1.f2,.string x.f1.f3,v8,v9]:=⟨[.string x.f0.f0,.int .u16 x.f0.f1,.int .u32 x.f0.f2,.string x.f0.f3],[.string x.f1.f0,.int .u16 x.f1.f1,.int .u32 x.f1.f2,.string x.f1.f3,v8,v9],rfl,(k32_mkM w base ok x.f0 ),⟨[.string x.f1.f0,.int .u16 x.f1.f1,.int .u32 x.f1.f2,.string x.f1.f3],[v8,v9],rfl,(k32_mkM w base ok x.f1 ),⟨[v8],[v9],rfl,⟨v8,rfl,g8⟩,⟨v9,rfl,g9⟩⟩⟩⟩
def rd_T57 (xs:List S57) (i:Int):S57:=xs.getD i.toNat z57
theorem at_T57 {w:World} {A:Option Addr} {n:Nat} {xs:List S57} (h:Kd.C k57 w A n xs) (i:Int) (h0:0≤i) (h1:i < n):∃ ad A8 c8 A9 c9,A = some ad∧w.cell? (ad.add (i.toNat * 10)) = some (.string (rd_T57 xs i).f0.f0)∧w.cell? ⟨(ad.add (i.toNat * 10)).block,(ad.add (i.toNat * 10)).off + 1,none⟩ = some (.int .u16 (rd_T57 xs i).f0.f1)∧w.cell? ⟨(ad.add (i.toNat * 10)).block,(ad.add (i.toNat * 10)).off + 2,none⟩ = some (.int .u32 (rd_T57 xs i).f0.f2)∧w.cell? ⟨(ad.add (i.toNat * 10)).block,(ad.add (i.toNat * 10)).off + 3,none⟩ = some (.string (rd_T57 xs i).f0.f3)∧w.cell? ⟨(ad.add (i.toNat * 10)).block,(ad.add (i.toNat * 10)).off + 4,none⟩ = some (.string (rd_T57 xs i).f1.f0)∧w.cell? ⟨(ad.add (i.toNat * 10)).block,(ad.add (i.toNat * 10)).off + 5,none⟩ = some (.int .u16 (rd_T57 xs i).f1.f1)∧w.cell? ⟨(ad.add (i.toNat * 10)).block,(ad.add (i.toNat * 10)).off + 6,none⟩ = some (.int .u32 (rd_T57 xs i).f1.f2)∧w.cell? ⟨(ad.add (i.toNat * 10)).block,(ad.add (i.toNat * 10)).off + 7,none⟩ = some (.string (rd_T57 xs i).f1.f3)∧w.cell? ⟨(ad.add (i.toNat * 10)).block,(ad.add (i.toNat * 10)).off + 8,none⟩ = some (.slice A8 (rd_T57 xs i).f2.length c8)∧w.cell? ⟨(ad.add (i.toNat * 10)).block,(ad.add (i.toNat * 10)).off + 9,none⟩ = some (.slice A9 (rd_T57 xs i).f3.length c9)∧(rd_T57 xs i).f2.length≤c8∧k32.C w A8 (rd_T57 xs i).f2.length (rd_T57 xs i).f2∧(rd_T57 xs i).f3.length≤c9∧k32.C w A9 (rd_T57 xs i).f3.length (rd_T57 xs i).f3:=by
 obtain ⟨ad,c,e,_,hK,hc0⟩:=Kd.C_get h z57 i h0 h1
 have hc:∀ j u,c[j]? = some u→w.cell? (ad.add (i.toNat * 10 + j)) = some u:=hc0
 obtain ⟨A8,c8,A9,c9,rfl,l8,g8,l9,g9⟩:=k57_open hK
 exact ⟨ad,A8,c8,A9,c9,e,hc 0 _ rfl,by rw [← add_field _ _ 1 (by omega)];exact hc 1 _ rfl,by rw [← add_field _ _ 2 (by omega)];exact hc 2 _ rfl,by rw [← add_field _ _ 3 (by omega)];exact hc 3 _ rfl,by rw [← add_field _ _ 4 (by omega)];exact hc 4 _ rfl,by rw [← add_field _ _ 5 (by omega)];exact hc 5 _ rfl,by rw [← add_field _ _ 6 (by omega)];exact hc 6 _ rfl,by rw [← add_field _ _ 7 (by omega)];exact hc 7 _ rfl,by rw [← add_field _ _ 8 (by omega)];exact hc 8 _ rfl,by rw [← add_field _ _ 9 (by omega)];exact hc 9 _ rfl,l8,g8,l9,g9⟩
structure S45 where
 f0:(List Int)
 f1:Int
 f2:Int
 f3:(List Int)
 f4:ByteArray
def z45:S45:=⟨([]:List Int),(0:Int),(0:Int),([]:List Int),(⟨#[]⟩:ByteArray)⟩
def k45:Kd S45:=Kd.iso (Kd.pair (Kd.slice 5 (Kd.int .u8)) (Kd.pair (Kd.int .u8) (Kd.pair (Kd.int .u32) (Kd.pair (Kd.slice 5 (Kd.int .u8)) Kd.string)))) (fun x:S45=>(x.f0,x.f1,x.f2,x.f3,x.f4))
theorem k45_open {w:World} {x:S45} {cs:List Value} (h:k45.K w x cs):∃ A0 c0 A3 c3,cs = [.slice A0 x.f0.length c0,.int .u8 x.f1,.int .u32 x.f2,.slice A3 x.f3.length c3,.string x.f4]∧x.f0.length≤c0∧(Kd.int .u8).C w A0 x.f0.length x.f0∧x.f3.length≤c3∧(Kd.int .u8).C w A3 x.f3.length x.f3:=by
 obtain ⟨_,_,rfl,⟨A0,c0,rfl,l0,g0⟩,⟨_,_,rfl,rfl,⟨_,_,rfl,rfl,⟨_,_,rfl,⟨A3,c3,rfl,l3,g3⟩,rfl⟩⟩⟩⟩:=h
 exact ⟨A0,c0,A3,c3,rfl,l0,g0,l3,g3⟩
def rd_T45 (xs:List S45) (i:Int):S45:=xs.getD i.toNat z45
theorem at_T45 {w:World} {A:Option Addr} {n:Nat} {xs:List S45} (h:Kd.C k45 w A n xs) (i:Int) (h0:0≤i) (h1:i < n):∃ ad A0 c0 A3 c3,A = some ad∧w.cell? (ad.add (i.toNat * 5)) = some (.slice A0 (rd_T45 xs i).f0.length c0)∧w.cell? ⟨(ad.add (i.toNat * 5)).block,(ad.add (i.toNat * 5)).off + 1,none⟩ = some (.int .u8 (rd_T45 xs i).f1)∧w.cell? ⟨(ad.add (i.toNat * 5)).block,(ad.add (i.toNat * 5)).off + 2,none⟩ = some (.int .u32 (rd_T45 xs i).f2)∧w.cell? ⟨(ad.add (i.toNat * 5)).block,(ad.add (i.toNat * 5)).off + 3,none⟩ = some (.slice A3 (rd_T45 xs i).f3.length c3)∧w.cell? ⟨(ad.add (i.toNat * 5)).block,(ad.add (i.toNat * 5)).off + 4,none⟩ = some (.string (rd_T45 xs i).f4)∧(rd_T45 xs i).f0.length≤c0∧(Kd.int .u8).C w A0 (rd_T45 xs i).f0.length (rd_T45 xs i).f0∧(rd_T45 xs i).f3.length≤c3∧(Kd.int .u8).C w A3 (rd_T45 xs i).f3.length (rd_T45 xs i).f3:=by
 obtain ⟨ad,c,e,_,hK,hc0⟩:=Kd.C_get h z45 i h0 h1
 have hc:∀ j u,c[j]? = some u→w.cell? (ad.add (i.toNat * 5 + j)) = some u:=hc0
 obtain ⟨A0,c0,A3,c3,rfl,l0,g0,l3,g3⟩:=k45_open hK
 exact ⟨ad,A0,c0,A3,c3,e,hc 0 _ rfl,by rw [← add_field _ _ 1 (by omega)];exact hc 1 _ rfl,by rw [← add_field _ _ 2 (by omega)];exact hc 2 _ rfl,by rw [← add_field _ _ 3 (by omega)];exact hc 3 _ rfl,by rw [← add_field _ _ 4 (by omega)];exact hc 4 _ rfl,l0,g0,l3,g3⟩
end Go.Proofs.YtlobjcokopfbkaaDoor.PY
