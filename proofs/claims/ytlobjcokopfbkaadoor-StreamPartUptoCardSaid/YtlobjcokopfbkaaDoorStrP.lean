/- part of a proof; what it has no use for was struck out -/
import Derived.Test.YtlobjcokopfbkaaDoorStrF
import Derived.Test.YtlobjcokopfbkaaDoorPYx6
import Derived.Test.YtlobjcokopfbkaaDoorPYx7
import Derived.Test.YtlobjcokopfbkaaDoorPYx8
import Derived.Test.YtlobjcokopfbkaaDoorPYx8
namespace Go.Proofs.YtlobjcokopfbkaaDoor.Str
open Go.RowKit Go.Proofs.YtlobjcokopfbkaaDoor.PY Go.Proofs.YtlobjcokopfbkaaDoorW.PrintWords Go.Proofs.YtlobjcokopfbkaaDoorW.PrintLast Go.Proofs.YtlobjcokopfbkaaDoor.Base Go.Proofs.YtlobjcokopfbkaaDoor.Nam Go.Proofs.YtlobjcokopfbkaaDoor.Soa Go.Proofs.YtlobjcokopfbkaaDoor.QY
set_option linter.unusedVariables false
set_option linter.unusedSimpArgs false
abbrev DL:=S57
def ser (r:R):Int:=(ofR r.f1 (bytesOf r.f3)).2.2.1
theorem Ser_ev (r:R) (h:Sz r):Ev (fun k=>stream_serial.f k r.f0 r.f1 r.f2 r.f3) (ser r):=by
 obtain ⟨K,g⟩:=Of_ev r.f0 r.f1 r.f2 r.f3 (by have:=h.2;omega)
 refine ⟨K,fun k hk=>?_⟩
 have e:=g k hk
 simp only at e
 show stream_serial.f k r.f0 r.f1 r.f2 r.f3 = _
 unfold stream_serial.f
 rw [e]
 rfl
def runL:List R→List R × List R
 | []=>([],[])
 | r :: t=>if r.f1 = 6 then ([],r :: t) else (r :: (runL t).1,(runL t).2)
theorem runL_len (l:List R):(runL l).1.length + (runL l).2.length = l.length:=by
 induction l with
 | nil=>rfl
 | cons r t ih =>
  unfold runL
  split
  ·simp
  ·simp only [List.length_cons];omega
theorem runL_mem (l:List R):(∀ y ∈ (runL l).1,y ∈ l)∧∀ y ∈ (runL l).2,y ∈ l:=by
 induction l with
 | nil=>exact ⟨fun y h=>h,fun y h=>h⟩
 | cons r t ih =>
  unfold runL
  split
  ·exact ⟨fun y h=>(by cases h),fun y h=>h⟩
  ·refine ⟨fun y h=>?_,fun y h=>List.mem_cons_of_mem _ (ih.2 y h)⟩
   rcases List.mem_cons.1 h with rfl|h
   ·exact List.mem_cons_self ..
   ·exact List.mem_cons_of_mem _ (ih.1 y h)
theorem run_loop (l:List R) (hl:l.length≤1000000):∀ (d i:Nat),i + d = l.length→Ev (fun k=>stream_run.l0 k l l (l.length:Int) (i:Int)) (l.take i ++ (runL (l.drop i)).1,(runL (l.drop i)).2):=by
 intro d
 induction d with
 | zero =>
  intro i hi
  refine ⟨1,fun k hk=>?_⟩
  obtain ⟨k,rfl⟩:∃ k',k = k' + 1:=⟨k - 1,by omega⟩
  simp only [stream_run.l0]
  rw [if_neg (by omega),if_pos (by rw [List.length_nil];omega),List.drop_eq_nil_of_le (by omega),List.take_of_length_le (by omega)]
  simp [runL]
 | succ d ih =>
  intro i hi
  have hil:i < l.length:=by omega
  obtain ⟨a,ha⟩:∃ a,l[i]? = some a:=⟨_,List.getElem?_eq_getElem hil⟩
  have hra:=rd_R ha
  have hdr:l.drop i = a :: l.drop (i + 1):=by
   rw [List.drop_eq_getElem_cons hil]
   rw [List.getElem?_eq_getElem hil] at ha
   injection ha with ha
   rw [ha]
  obtain ⟨K,g⟩:=ih (i + 1) (by omega)
  refine ⟨K + 1,fun k hk=>?_⟩
  obtain ⟨k,rfl⟩:∃ k',k = k' + 1:=⟨k - 1,by omega⟩
  have e:=g k (by omega)
  simp only at e
  simp only [stream_run.l0]
  rw [if_pos (by omega),if_pos (by omega),if_pos (by omega),hra,w64n i (by omega),hdr]
  by_cases h6:a.f1 = 6
  ·rw [if_pos h6,if_pos (by omega),show ((i:Int)).toNat = i by omega,Option.bind_some,if_pos (by rw [List.length_nil,List.length_take];omega),hdr]
   simp [runL,h6]
  ·rw [if_neg h6,e,List.take_add_one,ha]
   simp [runL,h6]
theorem Run_ev (l:List R) (hl:l.length≤1000000):Ev (fun k=>stream_run.f k l) (runL l):=by
 obtain ⟨K,g⟩:=run_loop l hl l.length 0 (by omega)
 refine ⟨K,fun k hk=>?_⟩
 have e:=g k hk
 exact e
abbrev Res:=Bool × List R × List DL × Option Int
def err (n:Int):Res:=(false,[],[],some n)
def deltasL:Nat→Int→List R→List DL→R→Res
 | 0,_,_,_,_=>err 4
 | n + 1,fr,rest,out,last =>
  if 1 < rest.length then
   match rest with
   | []=>err 4
   | r0 :: t=>if r0.f1 = 6 then (if ser r0 = fr then
     (match (runL t).2 with
     | []=>err 4
     | r1 :: t1=>deltasL n (ser r1) (runL t1).2 (out ++ [⟨r0,r1,(runL t).1,(runL t1).1⟩]) last) else err 5) else err 4
  else match rest,out.getLast? with
   | [r0],some d=>if eqR r0 last = true∧eqR d.f1 last = true then (false,[],out,none) else err 4
   | _,_=>err 4
theorem rd_D {l:List DL} {i:Nat} {a:DL} (h:l[i]? = some a):rd_T57 l (i:Int) = a:=by
 unfold rd_T57
 rw [List.getD_eq_getElem?_getD,show ((i:Int)).toNat = i by omega,h]
 rfl
theorem deltas_loop (last:R):∀ (n:Nat) (fr:Int) (rest:List R) (out:List DL),rest.length < n→rest.length + out.length≤1000000→(∀ r ∈ rest,Sz r)→Ev (fun k=>stream_deltas.l0 k fr rest out last.f0 last.f1 last.f2 last.f3) (deltasL n fr rest out last):=by
 intro n
 induction n with
 | zero=>intro fr rest out h;omega
 | succ n ih =>
  intro fr rest out hn hl hs
  unfold deltasL
  by_cases h1:1 < rest.length
  ·rw [if_pos h1]
   match rest,hn,hl,hs,h1 with
   | r0 :: t,hn,hl,hs,h1 =>
    have e0:rd_T32 (r0 :: t) 0 = r0:=rd_R (l:=r0 :: t) (i:=0) rfl
    by_cases h6:r0.f1 = 6
    ·have hs0:=hs r0 (List.mem_cons_self ..)
     obtain ⟨K1,g1⟩:=Ser_ev r0 hs0
     by_cases hf:ser r0 = fr
     ·have hrl:=runL_len t
      have hrm:=runL_mem t
      rw [List.length_cons] at hn hl h1
      obtain ⟨K2,g2⟩:=Run_ev t (by omega)
      cases hr1:(runL t).2 with
      | nil =>
       simp only
       rw [if_pos h6,if_pos hf]
       refine ⟨max K1 K2 + 1,fun k hk=>?_⟩
       obtain ⟨k,rfl⟩:∃ k',k = k' + 1:=⟨k - 1,by omega⟩
       have q1:=g1 k (by omega)
       have q2:=g2 k (by omega)
       simp only at q1 q2
       simp only [stream_deltas.l0]
       rw [if_pos (by rw [List.length_cons];omega),if_pos (by rw [List.length_cons];omega),e0,if_pos h6,q1,Option.bind_some,if_pos hf,if_pos (by rw [List.length_cons];omega),List.drop_one,List.tail_cons,q2,Option.bind_some,hr1,if_pos (by rfl)]
       rfl
      | cons r1 t1 =>
       simp only
       rw [if_pos h6,if_pos hf]
       rw [hr1,List.length_cons] at hrl
       have hs1:=hs r1 (List.mem_cons_of_mem _ (hrm.2 r1 (by rw [hr1];exact List.mem_cons_self ..)))
       have hst1:∀ y ∈ t1,y ∈ t:=fun y hy=>hrm.2 y (by rw [hr1];exact List.mem_cons_of_mem _ hy)
       have hrl1:=runL_len t1
       have hrm1:=runL_mem t1
       obtain ⟨K3,g3⟩:=Run_ev t1 (by omega)
       obtain ⟨K4,g4⟩:=Ser_ev r1 hs1
       obtain ⟨K5,g5⟩:=ih (ser r1) (runL t1).2 (out ++ [(⟨r0,r1,(runL t).1,(runL t1).1⟩:DL)]) (by omega) (by rw [List.length_append,List.length_singleton];omega) (fun y hy=>hs y (List.mem_cons_of_mem _ (hst1 y (hrm1.2 y hy))))
       refine ⟨max (max K1 K2) (max K3 (max K4 K5)) + 1,fun k hk=>?_⟩
       obtain ⟨k,rfl⟩:∃ k',k = k' + 1:=⟨k - 1,by omega⟩
       have q1:=g1 k (by omega)
       have q2:=g2 k (by omega)
       have q3:=g3 k (by omega)
       have q4:=g4 k (by omega)
       have q5:=g5 k (by omega)
       simp only at q1 q2 q3 q4 q5
       have e1:rd_T32 (r1 :: t1) 0 = r1:=rd_R (l:=r1 :: t1) (i:=0) rfl
       simp only [stream_deltas.l0]
       rw [if_pos (by rw [List.length_cons];omega),if_pos (by rw [List.length_cons];omega),e0,if_pos h6,q1,Option.bind_some,if_pos hf,if_pos (by rw [List.length_cons];omega),List.drop_one,List.tail_cons,q2,Option.bind_some,hr1,if_neg (by rw [List.length_cons];omega),if_pos (by rw [List.length_cons];omega),if_pos (by rw [List.length_cons];omega),List.drop_one,List.tail_cons,q3,Option.bind_some,e1,q4,Option.bind_some,if_pos (by omega)]
       exact q5
     ·simp only
      rw [if_pos h6,if_neg hf]
      refine ⟨K1 + 1,fun k hk=>?_⟩
      obtain ⟨k,rfl⟩:∃ k',k = k' + 1:=⟨k - 1,by omega⟩
      have q1:=g1 k (by omega)
      simp only at q1
      simp only [stream_deltas.l0]
      rw [if_pos (by omega),if_pos (by omega),e0,if_pos h6,q1,Option.bind_some,if_neg hf]
      rfl
    ·simp only
     rw [if_neg h6]
     refine ⟨1,fun k hk=>?_⟩
     obtain ⟨k,rfl⟩:∃ k',k = k' + 1:=⟨k - 1,by omega⟩
     simp only [stream_deltas.l0]
     rw [if_pos (by omega),if_pos (by omega),e0,if_neg h6]
     rfl
  ·rw [if_neg h1]
   by_cases ho:out.length = 0
   ·obtain rfl:=List.eq_nil_of_length_eq_zero ho
    refine ⟨1,fun k hk=>?_⟩
    obtain ⟨k,rfl⟩:∃ k',k = k' + 1:=⟨k - 1,by omega⟩
    simp only [stream_deltas.l0]
    rw [if_neg (by omega),if_pos (by rfl)]
    rcases rest with _|⟨r0,_|⟨r1,t⟩⟩ <;> rfl
   ·obtain ⟨m,hm⟩:∃ m,out.length = m + 1:=⟨out.length - 1,by omega⟩
    obtain ⟨d,hd⟩:∃ d,out[m]? = some d:=⟨_,List.getElem?_eq_getElem (by omega)⟩
    have hgl:out.getLast? = some d:=by rw [List.getLast?_eq_getElem?,hm];exact hd
    have ed:=rd_D hd
    have hw:wrap64 ((out.length:Int) - 1) = (m:Int):=by rw [hm];exact (w64i (by omega) (by omega)).trans (by omega)
    match rest,h1,hl with
    | [],h1,hl =>
     refine ⟨1,fun k hk=>?_⟩
     obtain ⟨k,rfl⟩:∃ k',k = k' + 1:=⟨k - 1,by omega⟩
     simp only [stream_deltas.l0]
     rw [if_neg (by decide),if_neg (by omega),if_neg (by decide)]
     rfl
    | [r0],h1,hl =>
     have e0:rd_T32 [r0] 0 = r0:=rd_R (l:=[r0]) (i:=0) rfl
     rw [hgl]
     refine ⟨1,fun k hk=>?_⟩
     obtain ⟨k,rfl⟩:∃ k',k = k' + 1:=⟨k - 1,by omega⟩
     simp only [stream_deltas.l0]
     rw [if_neg (by simp),if_neg (by omega),if_pos (by rfl),if_pos (by simp),e0,neR,hw]
     cases hq:eqR r0 last with
     | false=>simp [err]
     | true =>
      rw [if_neg (by decide),if_pos (by omega),if_pos (by omega),ed,neR]
      cases hq2:eqR d.f1 last <;> simp [err]
    | r0 :: r1 :: t,h1,hl=>exact absurd (by rw [List.length_cons,List.length_cons];omega) h1
def partL (b:Bool) (fr:Int) (rs:List R):Res :=
 if b = true then (match rs with
  | []=>err 4
  | [r]=>if ser r = fr then (true,[],[],none) else err 5
  | r :: t=>if fullB b rs = true then (false,rs.take (rs.length - 1),[],none) else deltasL (t.length + 1) fr t [] r) else err 4
theorem Part_ev (x:ByteArray) (fr:Int) (rs:List R) (hl:rs.length≤1000000) (hs:∀ r ∈ rs,Sz r) (b:Bool) (hr:Ev (fun k=>stream_right.f k x rs) b) (hb:b = true→rs≠[]) (hm:Ev (fun k=>bolterlaw09_may.f k x rs) b):Ev (fun k=>stream_Part.f k x fr rs) (partL b fr rs):=by
 obtain ⟨K1,g1⟩:=hr
 obtain ⟨⟨K2,g2⟩,_⟩:=both_full x rs hl b ⟨K1,g1⟩ hm
 unfold partL
 cases b with
 | false =>
  rw [if_neg (by decide)]
  refine ⟨K1,fun k hk=>?_⟩
  have q:=g1 k hk
  simp only at q
  show stream_Part.f k x fr rs = _
  unfold stream_Part.f
  rw [q,Option.bind_some,if_neg (by decide)]
  rfl
 | true =>
  rw [if_pos rfl]
  match rs,hl,hs,hb,g1,g2 with
  | [],hl,hs,hb,g1,g2=>exact absurd rfl (hb rfl)
  | [r],hl,hs,hb,g1,g2 =>
   have e0:rd_T32 [r] 0 = r:=rd_R (l:=[r]) (i:=0) rfl
   obtain ⟨K3,g3⟩:=Ser_ev r (hs r (List.mem_cons_self ..))
   refine ⟨max K1 K3,fun k hk=>?_⟩
   have q:=g1 k (by omega)
   have q3:=g3 k (by omega)
   simp only at q q3
   show stream_Part.f k x fr [r] = _
   unfold stream_Part.f
   rw [q,Option.bind_some,if_pos rfl,if_pos (by rfl),if_pos (by simp),e0,q3,Option.bind_some]
   show _ = some (if ser r = fr then (true,[],[],none) else err 5)
   split <;> rfl
  | r :: r1 :: t,hl,hs,hb,g1,g2 =>
   have e0:rd_T32 (r :: r1 :: t) 0 = r:=rd_R (l:=r :: r1 :: t) (i:=0) rfl
   rw [List.length_cons] at hl
   obtain ⟨K3,g3⟩:=deltas_loop r ((r1 :: t).length + 1) fr (r1 :: t) [] (Nat.lt_succ_self _) (by rw [List.length_nil];omega) (fun y hy=>hs y (List.mem_cons_of_mem _ hy))
   refine ⟨max K1 (max K2 K3),fun k hk=>?_⟩
   have q:=g1 k (by omega)
   have q2:=g2 k (by omega)
   have q3:=g3 k (by omega)
   simp only at q q2 q3
   show stream_Part.f k x fr (r :: r1 :: t) = _
   unfold stream_Part.f
   rw [q,Option.bind_some,if_pos rfl,if_neg (by rw [List.length_cons,List.length_cons];omega),q2,Option.bind_some]
   cases hfb:fullB true (r :: r1 :: t) with
   | true=>rfl
   | false =>
    simp only [Bool.false_eq_true,if_false,Option.isNone_some]
    unfold stream_deltas.f
    rw [if_pos (by rw [List.length_cons];omega),if_pos (by rw [List.length_cons];omega),List.drop_one,List.tail_cons,e0,q3]
    rfl
end Go.Proofs.YtlobjcokopfbkaaDoor.Str
