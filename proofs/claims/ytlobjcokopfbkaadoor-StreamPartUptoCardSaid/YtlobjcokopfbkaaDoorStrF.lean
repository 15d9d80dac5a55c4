/- part of a proof; what it has no use for was struck out -/
import Derived.Test.YtlobjcokopfbkaaDoorStrT
namespace Go.Proofs.YtlobjcokopfbkaaDoor.Str
open Go.RowKit Go.Proofs.YtlobjcokopfbkaaDoor.PY Go.Proofs.YtlobjcokopfbkaaDoorW.PrintWords Go.Proofs.YtlobjcokopfbkaaDoorW.PrintLast Go.Proofs.YtlobjcokopfbkaaDoor.Base Go.Proofs.YtlobjcokopfbkaaDoor.Nam Go.Proofs.YtlobjcokopfbkaaDoor.Soa Go.Proofs.YtlobjcokopfbkaaDoor.QY
set_option linter.unusedVariables false
set_option linter.unusedSimpArgs false
def no6 (y:List R):Bool:=y.all fun r=>!(r.f1 == 6)
theorem no6_step {y:List R} {i:Nat} {a:R} (h:y[i]? = some a):no6 (y.drop i) = (!(a.f1 == 6) && no6 (y.drop (i + 1))):=by
 have hi:=(List.getElem?_eq_some_iff.1 h).1
 rw [List.drop_eq_getElem_cons hi]
 rw [List.getElem?_eq_getElem hi] at h
 injection h with h
 rw [h]
 rfl
theorem full_loop (y:List R) (hl:y.length≤1000000):∀ (d i:Nat),i + d = y.length→Ev (fun k=>bolterlaw09_full.l0 k y (y.length:Int) (i:Int)) (no6 (y.drop i)):=by
 intro d
 induction d with
 | zero =>
  intro i hi
  refine ⟨1,fun k hk=>?_⟩
  obtain ⟨k,rfl⟩:∃ k',k = k' + 1:=⟨k - 1,by omega⟩
  simp only [bolterlaw09_full.l0]
  rw [if_neg (by omega),List.drop_eq_nil_of_le (by omega)]
  rfl
 | succ d ih =>
  intro i hi
  have hil:i < y.length:=by omega
  obtain ⟨a,ha⟩:∃ a,y[i]? = some a:=⟨_,List.getElem?_eq_getElem hil⟩
  have hra:=rd_R ha
  obtain ⟨K,g⟩:=ih (i + 1) (by omega)
  rw [no6_step ha]
  refine ⟨K + 1,fun k hk=>?_⟩
  obtain ⟨k,rfl⟩:∃ k',k = k' + 1:=⟨k - 1,by omega⟩
  have e:=g k (by omega)
  simp only at e
  simp only [bolterlaw09_full.l0]
  rw [if_pos (by omega),if_pos (by omega),if_pos (by omega),hra,w64n i (by omega),e]
  by_cases h6:a.f1 = 6
  ·rw [if_pos h6,h6]
   rfl
  ·rw [if_neg h6,beq_eq_false_iff_ne.mpr h6]
   rfl
theorem Full_loop (rs y:List R) (m:Nat) (hm:m≤rs.length) (hr:rs.length≤1000000) (hl:y.length≤1000000):∀ (d i:Nat),i + d = y.length→Ev (fun k=>stream_Full.l0 k rs (m:Int) y (y.length:Int) (i:Int)) (if no6 (y.drop i) = true then (rs.take m,none) else ([],some 4)):=by
 intro d
 induction d with
 | zero =>
  intro i hi
  refine ⟨1,fun k hk=>?_⟩
  obtain ⟨k,rfl⟩:∃ k',k = k' + 1:=⟨k - 1,by omega⟩
  simp only [stream_Full.l0]
  rw [if_neg (by omega),List.drop_eq_nil_of_le (by omega),if_pos (by omega),if_pos (by omega),Option.bind_some,show ((m:Int)).toNat = m by omega,if_pos (by rw [List.length_take,List.length_nil];omega)]
  rfl
 | succ d ih =>
  intro i hi
  have hil:i < y.length:=by omega
  obtain ⟨a,ha⟩:∃ a,y[i]? = some a:=⟨_,List.getElem?_eq_getElem hil⟩
  have hra:=rd_R ha
  obtain ⟨K,g⟩:=ih (i + 1) (by omega)
  rw [no6_step ha]
  refine ⟨K + 1,fun k hk=>?_⟩
  obtain ⟨k,rfl⟩:∃ k',k = k' + 1:=⟨k - 1,by omega⟩
  have e:=g k (by omega)
  simp only at e
  simp only [stream_Full.l0]
  rw [if_pos (by omega),if_pos (by omega),if_pos (by omega),hra,w64n i (by omega),e]
  by_cases h6:a.f1 = 6
  ·rw [if_pos h6,h6]
   rfl
  ·rw [if_neg h6,beq_eq_false_iff_ne.mpr h6]
   rfl
def fullB (b:Bool) (rs:List R):Bool:=match rs with
 | []=>false
 | [_]=>false
 | r0 :: tl=>b && (eqR ((r0 :: tl).getD ((r0 :: tl).length - 1) r0) r0 && no6 (((r0 :: tl).take ((r0 :: tl).length - 1)).drop 1))
theorem both_full (x:ByteArray) (rs:List R) (hl:rs.length≤1000000) (b:Bool) (hr:Ev (fun k=>stream_right.f k x rs) b) (hm:Ev (fun k=>bolterlaw09_may.f k x rs) b) :
  Ev (fun k=>stream_Full.f k x rs) (if fullB b rs = true then (rs.take (rs.length - 1),none) else ([],some 4))∧Ev (fun k=>bolterlaw09_full.f k x rs) (fullB b rs):=by
 obtain ⟨K1,g1⟩:=hr
 obtain ⟨K2,g2⟩:=hm
 have hj1:∀ k n,stream_Full.j0 (k + 1) rs n true = some ([],some 4):=fun k n=>by simp only [stream_Full.j0];rfl
 have hj2:∀ k n,bolterlaw09_full.j0 (k + 1) rs n true = some false:=fun k n=>by simp only [bolterlaw09_full.j0];rfl
 cases b with
 | false =>
  have hf:fullB false rs = false:=by
   unfold fullB
   split <;> rfl
  rw [hf]
  refine ⟨⟨K1 + 1,fun k hk=>?_⟩,⟨K2 + 1,fun k hk=>?_⟩⟩
  ·obtain ⟨k,rfl⟩:∃ k',k = k' + 1:=⟨k - 1,by omega⟩
   have e:=g1 (k + 1) (by omega)
   simp only at e
   show stream_Full.f (k + 1) x rs = _
   unfold stream_Full.f
   rw [e,Option.bind_some,if_neg (by decide),hj1]
   rfl
  ·obtain ⟨k,rfl⟩:∃ k',k = k' + 1:=⟨k - 1,by omega⟩
   have e:=g2 (k + 1) (by omega)
   simp only at e
   show bolterlaw09_full.f (k + 1) x rs = _
   unfold bolterlaw09_full.f
   rw [e,Option.bind_some,if_neg (by decide),hj2]
 | true =>
  by_cases h2:rs.length < 2
  ·have hf:fullB true rs = false:=by
    unfold fullB
    split
    ·rfl
    ·rfl
    ·rename_i r0 tl hne
     cases tl with
     | nil=>exact absurd rfl hne
     | cons y t=>exact absurd h2 (by rw [List.length_cons,List.length_cons];omega)
   rw [hf]
   have hw:wrap64 ((rs.length:Int) - 1) = (rs.length:Int) - 1:=w64i (by omega) (by omega)
   refine ⟨⟨K1 + 1,fun k hk=>?_⟩,⟨K2 + 1,fun k hk=>?_⟩⟩
   ·obtain ⟨k,rfl⟩:∃ k',k = k' + 1:=⟨k - 1,by omega⟩
    have e:=g1 (k + 1) (by omega)
    simp only at e
    show stream_Full.f (k + 1) x rs = _
    unfold stream_Full.f
    rw [e,Option.bind_some,if_pos rfl,hw,if_pos (by omega),hj1]
    rfl
   ·obtain ⟨k,rfl⟩:∃ k',k = k' + 1:=⟨k - 1,by omega⟩
    have e:=g2 (k + 1) (by omega)
    simp only at e
    show bolterlaw09_full.f (k + 1) x rs = _
    unfold bolterlaw09_full.f
    rw [e,Option.bind_some,if_pos rfl,if_pos (by omega),hj2]
  ·obtain ⟨m,hmm⟩:∃ m,rs.length = m + 1:=⟨rs.length - 1,by omega⟩
   have hw:wrap64 ((rs.length:Int) - 1) = (m:Int):=by rw [hmm];exact (w64i (by omega) (by omega)).trans (by omega)
   obtain ⟨r0,h0⟩:∃ a,rs[0]? = some a:=⟨_,List.getElem?_eq_getElem (by omega)⟩
   obtain ⟨rm,hrm⟩:∃ a,rs[m]? = some a:=⟨_,List.getElem?_eq_getElem (by omega)⟩
   have e0:rd_T32 rs 0 = r0:=rd_R (i:=0) h0
   have em:=rd_R hrm
   have hf:fullB true rs = (eqR rm r0 && no6 ((rs.take m).drop 1)):=by
    unfold fullB
    split
    ·simp at hmm
    ·simp at h2
    ·rename_i q0 tl hne
     have hq:q0 = r0:=by simpa using h0
     subst hq
     rw [Bool.true_and,show (q0 :: tl).length - 1 = m by omega,List.getD_eq_getElem?_getD,hrm]
     rfl
   rw [hf]
   have hyl:((rs.take m).drop 1).length≤1000000:=by rw [List.length_drop,List.length_take];omega
   obtain ⟨K3,g3⟩:=Full_loop rs ((rs.take m).drop 1) m (by omega) hl hyl ((rs.take m).drop 1).length 0 (by omega)
   obtain ⟨K4,g4⟩:=full_loop ((rs.take m).drop 1) hyl ((rs.take m).drop 1).length 0 (by omega)
   rw [List.drop_zero] at g3 g4
   refine ⟨⟨max K1 K3 + 2,fun k hk=>?_⟩,⟨max K2 K4 + 2,fun k hk=>?_⟩⟩
   ·obtain ⟨k,rfl⟩:∃ k',k = k' + 2:=⟨k - 2,by omega⟩
    have e:=g1 (k + 2) (by omega)
    have e3:=g3 (k + 1) (by omega)
    simp only at e
    have e3':stream_Full.l0 (k + 1) rs (m:Int) ((rs.take m).drop 1) (((rs.take m).drop 1).length:Int) 0 = _:=e3
    show stream_Full.f (k + 2) x rs = _
    unfold stream_Full.f
    rw [e,Option.bind_some,if_pos rfl,hw,if_neg (by omega),if_pos (by omega),if_pos (by omega),if_pos (by omega),em,e0,neR]
    show stream_Full.j0 (k + 1 + 1) rs (m:Int) (!eqR rm r0) = _
    rw [show rs.length - 1 = m by omega]
    cases hq:eqR rm r0 with
    | false =>
     simp only [stream_Full.j0]
     rfl
    | true =>
     rw [stream_Full.j0]
     rw [if_neg (by decide),if_pos (by omega),if_pos (by omega),Option.bind_some,show ((m:Int)).toNat = m by omega,e3',Bool.true_and]
   ·obtain ⟨k,rfl⟩:∃ k',k = k' + 2:=⟨k - 2,by omega⟩
    have e:=g2 (k + 2) (by omega)
    have e3:=g4 (k + 1) (by omega)
    simp only at e
    have e3':bolterlaw09_full.l0 (k + 1) ((rs.take m).drop 1) (((rs.take m).drop 1).length:Int) 0 = _:=e3
    show bolterlaw09_full.f (k + 2) x rs = _
    unfold bolterlaw09_full.f
    rw [e,Option.bind_some,if_pos rfl,if_neg (by omega),hw,if_pos (by omega),if_pos (by omega),if_pos (by omega),em,e0,neR]
    show bolterlaw09_full.j0 (k + 1 + 1) rs (rs.length:Int) (!eqR rm r0) = _
    cases hq:eqR rm r0 with
    | false =>
     simp only [bolterlaw09_full.j0]
     rfl
    | true =>
     rw [bolterlaw09_full.j0]
     rw [if_neg (by decide),hw,if_pos (by omega),if_pos (by omega),Option.bind_some,show ((m:Int)).toNat = m by omega,e3',Bool.true_and]
end Go.Proofs.YtlobjcokopfbkaaDoor.Str
