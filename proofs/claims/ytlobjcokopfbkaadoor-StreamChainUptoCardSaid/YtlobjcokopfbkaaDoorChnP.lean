/- part of a proof; what it has no use for was struck out -/
import Derived.Test.YtlobjcokopfbkaaDoorChn
import Derived.Test.YtlobjcokopfbkaaDoorStrP
import Derived.Test.YtlobjcokopfbkaaDoorPYx18
namespace Go.Proofs.YtlobjcokopfbkaaDoor.Str
open Go.RowKit Go.Proofs.YtlobjcokopfbkaaDoor.PY Go.Proofs.YtlobjcokopfbkaaDoorW.PrintWords Go.Proofs.YtlobjcokopfbkaaDoorW.PrintLast Go.Proofs.YtlobjcokopfbkaaDoor.Base Go.Proofs.YtlobjcokopfbkaaDoor.Nam Go.Proofs.YtlobjcokopfbkaaDoor.Soa Go.Proofs.YtlobjcokopfbkaaDoor.QY
set_option linter.unusedVariables false
set_option linter.unusedSimpArgs false
theorem Ev_one {α:Type} {f:Nat→Option α} {a b:α} (h1:Ev f a) (h2:Ev f b):a = b:=by
 obtain ⟨K1,g1⟩:=h1
 obtain ⟨K2,g2⟩:=h2
 have e1:=g1 (max K1 K2) (by omega)
 have e2:=g2 (max K1 K2) (by omega)
 rw [e1] at e2
 exact Option.some.inj e2
theorem texts_one (n:Nat) (t:ByteArray) (hn:n≤255) (ht:t.size = n):Ev (fun k=>rdata_texts.f k (strOfNums [(n:Int)] ++ t)) true:=by
 obtain ⟨s,hs⟩:∃ s,strOfNums [(n:Int)] ++ t = s:=⟨_,rfl⟩
 have hz:s.size = n + 1:=by rw [← hs,ByteArray.size_append,str_size,ht];simp only [List.length_cons,List.length_nil];omega
 have hb:bt s 0 = (n:Int):=by
  have h:=bt_get s 0 (by omega)
  rw [← hs,bytes_app,bytes_str (B8.cons (by omega) (by omega) B8.nil)] at h
  rw [← hs]
  simpa using h.symm
 rw [hs]
 refine ⟨2,fun k hk=>?_⟩
 obtain ⟨k,rfl⟩:∃ k',k = k' + 2:=⟨k - 2,by omega⟩
 show rdata_texts.l0 (k + 1 + 1) s 0 = some true
 rw [rdata_texts.l0,if_neg (by omega),if_pos (by omega),if_pos (by omega),hb,w64i (x:=((n:Nat):Int)) (by omega) (by omega),w64i (x:=1 + ((n:Nat):Int)) (by omega) (by omega),w64i (x:=0 + (1 + ((n:Nat):Int))) (by omega) (by omega)]
 rw [rdata_texts.l0,if_pos (by omega),if_pos (by omega)]
 exact congrArg some (decide_eq_true (by omega))
theorem mayD_one (d:ByteArray) (h:d.size = 4):Ev (fun k=>rdata_May.f k 1 d) true:=⟨0,fun k _=>by
 show rdata_May.f k 1 d = _
 unfold rdata_May.f
 rw [if_pos rfl,h]
 rfl⟩
theorem mayD_six (d:ByteArray) (h:d.size = 16):Ev (fun k=>rdata_May.f k 28 d) true:=⟨0,fun k _=>by
 show rdata_May.f k 28 d = _
 unfold rdata_May.f
 rw [if_neg (by decide),if_pos rfl,h]
 rfl⟩
theorem mayD_name (t:Int) (ht:t = 2∨t = 5) (d:ByteArray) (hz:d.size≤1000) (h:nm (bytesOf d) = true):Ev (fun k=>rdata_May.f k t d) true:=by
 obtain ⟨K1,g1⟩:=May_ev d (by omega)
 refine ⟨K1 + 1,fun k hk=>?_⟩
 obtain ⟨k,rfl⟩:∃ k',k = k' + 1:=⟨k - 1,by omega⟩
 have e:=g1 k (by omega)
 simp only [h] at e
 have hj:rdata_May.j0 (k + 1) d t true = some true:=by
  simp only [rdata_May.j0,if_true]
  rw [e]
  rfl
 show rdata_May.f (k + 1) t d = _
 unfold rdata_May.f
 rcases ht with rfl|rfl
 ·rw [if_neg (by decide),if_neg (by decide),if_pos rfl]
  exact hj
 ·rw [if_neg (by decide),if_neg (by decide),if_neg (by decide)]
  exact hj
theorem mayD_text (d:ByteArray) (h:Ev (fun k=>rdata_texts.f k d) true) (hz:d.size≤512):Ev (fun k=>rdata_May.f k 16 d) true:=by
 obtain ⟨K1,g1⟩:=h
 refine ⟨K1 + 1,fun k hk=>?_⟩
 obtain ⟨k,rfl⟩:∃ k',k = k' + 1:=⟨k - 1,by omega⟩
 have e:=g1 k (by omega)
 simp only at e
 show rdata_May.f (k + 1) 16 d = _
 unfold rdata_May.f
 rw [if_neg (by decide),if_neg (by decide),if_neg (by decide)]
 show rdata_May.j0 (k + 1) d 16 false = _
 simp only [rdata_May.j0]
 rw [if_neg (by decide),if_neg (by decide),if_pos trivial,e]
 exact congrArg some (decide_eq_true (by omega))
theorem mayD_any (d:ByteArray) (hz:d.size≤512):Ev (fun k=>rdata_May.f k 99 d) true:=by
 refine ⟨1,fun k hk=>?_⟩
 obtain ⟨k,rfl⟩:∃ k',k = k' + 1:=⟨k - 1,by omega⟩
 show rdata_May.f (k + 1) 99 d = _
 unfold rdata_May.f
 rw [if_neg (by decide),if_neg (by decide),if_neg (by decide)]
 show rdata_May.j0 (k + 1) d 99 false = _
 simp only [rdata_May.j0]
 rw [if_neg (by decide),if_neg (by decide),if_neg (by decide)]
 exact congrArg some (decide_eq_true (by omega))
theorem dataV_may (j:Nat) (ns:List Int) (s:ByteArray) (hs:s.size≤30) (h6:(bolterlaw04_Data.dataV j (strOfNums (nameL ns)) s).1≠6) :
  (bolterlaw04_Data.dataV j (strOfNums (nameL ns)) s).1≠41∧Ev (fun k=>rdata_May.f k (bolterlaw04_Data.dataV j (strOfNums (nameL ns)) s).1 (bolterlaw04_Data.dataV j (strOfNums (nameL ns)) s).2) true:=by
 have hnm:nm (bytesOf (strOfNums (nameL ns))) = true:=by rw [bytes_str (nameL_b8 ns)];exact nameL_nm ns
 have hnz:(strOfNums (nameL ns)).size≤1000:=by rw [str_size];have:=nameL_len ns;omega
 unfold bolterlaw04_Data.dataV at h6 ⊢
 by_cases j1:j≤1
 ·simp only [if_pos j1]
  exact ⟨by decide,mayD_one _ (by rw [ByteArray.size_extract,ByteArray.size_append];have h:bolterlaw04_Data.data4.size = 4:=rfl;omega)⟩
 simp only [if_neg j1] at h6 ⊢
 by_cases j2:j = 2
 ·simp only [if_pos j2]
  exact ⟨by decide,mayD_name 2 (.inl rfl) _ hnz hnm⟩
 simp only [if_neg j2] at h6 ⊢
 by_cases j3:j = 3
 ·simp only [if_pos j3]
  exact ⟨by decide,mayD_name 5 (.inr rfl) _ hnz hnm⟩
 simp only [if_neg j3] at h6 ⊢
 by_cases j4:j = 4
 ·simp only [if_pos j4] at h6
  exact absurd rfl h6
 simp only [if_neg j4] at h6 ⊢
 by_cases j5:j = 5
 ·simp only [if_pos j5]
  have hz:(s.extract 0 (min s.size 255)).size = min s.size 255:=by rw [ByteArray.size_extract];omega
  exact ⟨by decide,mayD_text _ (texts_one (min s.size 255) _ (by omega) hz) (by rw [ByteArray.size_append,hz,str_size];simp only [List.length_cons,List.length_nil];omega)⟩
 simp only [if_neg j5] at h6 ⊢
 by_cases j6:j = 6
 ·simp only [if_pos j6]
  exact ⟨by decide,mayD_six _ (by rw [ByteArray.size_extract,ByteArray.size_append];have h:bolterlaw04_Data.data16.size = 16:=rfl;omega)⟩
 simp only [if_neg j6] at h6 ⊢
 exact ⟨by decide,mayD_any _ (by rw [ByteArray.size_extract];omega)⟩
theorem MayRec_true (r:R) (hz:Sz r) (hn:nm (bytesOf r.f0) = true) (h41:r.f1≠41) (hd:Ev (fun k=>rdata_May.f k r.f1 r.f3) true):Ev (fun k=>message_MayRecord.f k r.f0 r.f1 r.f2 r.f3) true:=by
 obtain ⟨K1,g1⟩:=May_ev r.f0 (by have:=hz.1;omega)
 obtain ⟨K2,g2⟩:=hd
 refine ⟨max K1 K2,fun k hk=>?_⟩
 have e1:=g1 k (by omega)
 have e2:=g2 k (by omega)
 simp only [hn] at e1
 simp only at e2
 show message_MayRecord.f k r.f0 r.f1 r.f2 r.f3 = _
 unfold message_MayRecord.f
 rw [e1,Option.bind_some,if_pos rfl,if_neg h41,e2]
 rfl
theorem Parent_lay (a:ByteArray) (l:List Int) (t:List (List Int)) (hL:Lab l) (ha:bytesOf a = lay (l :: t)) (hn:nm (bytesOf a) = true) (hs:a.size≤100000000):Ev (fun k=>name_Parent.f k a) (a.extract (1 + l.length) a.size,true):=by
 obtain ⟨K1,g1⟩:=May_ev a (by omega)
 have hlen:=of_size a
 rw [ha,lay_cons] at hlen
 simp only [List.length_append,List.length_cons] at hlen
 have hb:bt a 0 = (l.length:Int):=by
  have h:=bt_get a 0 (by omega)
  rw [ha,lay_cons] at h
  simpa using h.symm
 have hLb:1≤l.length∧l.length≤63:=hL
 refine ⟨K1,fun k hk=>?_⟩
 have e1:=g1 k hk
 simp only [hn] at e1
 show name_Parent.f k a = _
 unfold name_Parent.f
 rw [if_neg (by omega),e1,Option.bind_some,if_pos rfl,if_pos (by omega),hb,w64i (x:=(l.length:Int)) (by omega) (by omega),w64i (x:=1 + (l.length:Int)) (by omega) (by omega),if_pos (by omega),if_pos (by omega),show (1 + (l.length:Int)).toNat = 1 + l.length by omega]
theorem below_lay (x:ByteArray) (xs:List (List Int)) (hx:bytesOf x = lay xs) (x1:∀ l ∈ xs,Lab l) (x2:∀ l ∈ xs,fold l = l):∀ (ls:List (List Int)) (a:ByteArray),(∀ l ∈ ls,Lab l)→(∀ l ∈ ls,fold l = l)→bytesOf a = lay (ls ++ xs)→(lay (ls ++ xs)).length≤254→Ev (fun k=>name_Below.l0 k a x true) true:=by
 intro ls
 induction ls with
 | nil =>
  intro a _ _ ha _
  have:a = x:=str_inj' (by rw [ha,hx];rfl)
  subst this
  refine ⟨1,fun k hk=>?_⟩
  obtain ⟨k,rfl⟩:∃ k',k = k' + 1:=⟨k - 1,by omega⟩
  simp only [name_Below.l0]
  rw [if_pos trivial,if_pos trivial]
 | cons l t ih =>
  intro a h1 h2 ha hl
  by_cases he:a.toList = x.toList
  ·refine ⟨1,fun k hk=>?_⟩
   obtain ⟨k,rfl⟩:∃ k',k = k' + 1:=⟨k - 1,by omega⟩
   simp only [name_Below.l0]
   rw [if_pos trivial,if_pos he]
  ·have hsz:=of_size a
   rw [ha] at hsz
   have hn:nm (bytesOf a) = true:=by
    rw [ha]
    refine nm_lay (fun y hy=>?_) (fun y hy=>?_) hl
    ·rcases List.mem_append.1 hy with h|h
     ·exact h1 y h
     ·exact x1 y h
    ·rcases List.mem_append.1 hy with h|h
     ·exact h2 y h
     ·exact x2 y h
   obtain ⟨K1,g1⟩:=Parent_lay a l (t ++ xs) (h1 l (List.mem_cons_self ..)) ha hn (by omega)
   rw [List.cons_append,lay_cons] at ha hl hsz
   have hl2:(lay (t ++ xs)).length≤254:=by
    rw [List.length_append] at hl
    omega
   obtain ⟨K2,g2⟩:=ih (a.extract (1 + l.length) a.size) (fun y hy=>h1 y (List.mem_cons_of_mem _ hy)) (fun y hy=>h2 y (List.mem_cons_of_mem _ hy)) (by
    rw [bytes_ex,ha,List.take_of_length_le (by omega)]
    rw [show 1 + l.length = ((l.length:Int) :: l).length by rw [List.length_cons];omega,List.drop_left]) hl2
   refine ⟨max K1 K2 + 1,fun k hk=>?_⟩
   obtain ⟨k,rfl⟩:∃ k',k = k' + 1:=⟨k - 1,by omega⟩
   have e:=g1 k (by omega)
   have e2:=g2 k (by omega)
   simp only at e e2
   simp only [name_Below.l0]
   rw [if_pos trivial,if_neg he,e,Option.bind_some]
   exact e2
theorem Below_true (x a:ByteArray) (xs ls:List (List Int)) (hx:bytesOf x = lay xs) (x1:∀ l ∈ xs,Lab l) (x2:∀ l ∈ xs,fold l = l) (h1:∀ l ∈ ls,Lab l) (h2:∀ l ∈ ls,fold l = l) (ha:bytesOf a = lay (ls ++ xs)) (hl:(lay (ls ++ xs)).length≤254):nm (bytesOf a) = true∧Ev (fun k=>name_Below.f k a x) true:=by
 have hsz:=of_size a
 have hsx:=of_size x
 rw [ha] at hsz
 rw [hx] at hsx
 have hl3:(lay xs).length≤254:=by rw [lay_app,List.length_append] at hl;omega
 have hna:nm (bytesOf a) = true:=by
  rw [ha]
  refine nm_lay (fun y hy=>?_) (fun y hy=>?_) hl
  ·rcases List.mem_append.1 hy with h|h
   ·exact h1 y h
   ·exact x1 y h
  ·rcases List.mem_append.1 hy with h|h
   ·exact h2 y h
   ·exact x2 y h
 have hnx:nm (bytesOf x) = true:=by rw [hx];exact nm_lay x1 x2 hl3
 obtain ⟨K1,g1⟩:=May_ev a (by omega)
 obtain ⟨K2,g2⟩:=May_ev x (by omega)
 obtain ⟨K3,g3⟩:=below_lay x xs hx x1 x2 ls a h1 h2 ha hl
 refine ⟨hna,max K1 (max K2 K3) + 1,fun k hk=>?_⟩
 obtain ⟨k,rfl⟩:∃ k',k = k' + 1:=⟨k - 1,by omega⟩
 have e1:=g1 (k + 1) (by omega)
 have e2:=g2 (k + 1) (by omega)
 have e3:=g3 k (by omega)
 simp only [hna] at e1
 simp only [hnx] at e2
 simp only at e3
 show name_Below.f (k + 1) a x = _
 unfold name_Below.f
 rw [e1,Option.bind_some,if_pos rfl,e2,Option.bind_some]
 simp only [name_Below.j0]
 exact e3
def Good (x:ByteArray) (r:R):Prop:=Sz r∧Ev (fun k=>message_MayRecord.f k r.f0 r.f1 r.f2 r.f3) true∧Ev (fun k=>name_Below.f k r.f0 x) true∧(r.f1 = 6→r.f0 = x)
theorem good_sR (ns:List Int) (n:Int):Good (strOfNums (nameL ns)) (sR (strOfNums (nameL ns)) n):=by
 obtain ⟨ls,hl,hL,hF,h4⟩:=nm_labs (nameL_nm ns)
 have hb:bytesOf (strOfNums (nameL ns)) = lay ls:=by rw [bytes_str (nameL_b8 ns)];exact hl
 have hz:(strOfNums (nameL ns)).size≤1000:=by rw [str_size];have:=nameL_len ns;omega
 have hsz:=sR_sz (strOfNums (nameL ns)) n hz
 obtain ⟨hn,hB⟩:=Below_true (strOfNums (nameL ns)) (strOfNums (nameL ns)) ls [] hb hL hF (fun _ h=>by cases h) (fun _ h=>by cases h) (by rw [List.nil_append];exact hb) (by rw [List.nil_append];exact h4)
 refine ⟨hsz,MayRec_true (sR (strOfNums (nameL ns)) n) hsz hn (by show (6:Int)≠41;decide) ?_,hB,fun _=>rfl⟩
 have h:=rmay_soa (sR (strOfNums (nameL ns)) n).f3 (by have:=hsz.2;omega)
 have h2:(soaP (bytesOf (sR (strOfNums (nameL ns)) n).f3)).2.2.2 = true:=by
  show (soaP (bytesOf (strOfNums (soaMake [] n 10 3 40)))).2.2.2 = true
  rw [bytes_str (soaMake_b8 [] n 10 3 40),soaP_make]
 rw [h2] at h
 exact h
theorem good_und (ns:List Int) (l:List LA) (m:Nat):∀ r ∈ underL (strOfNums (nameL ns)) l m false,Good (strOfNums (nameL ns)) r∧r.f1≠6:=by
 intro r hr
 have hz:(strOfNums (nameL ns)).size≤1000:=by rw [str_size];have:=nameL_len ns;omega
 have hsz:=und_sz (strOfNums (nameL ns)) hz l m false r hr
 obtain ⟨ls,hl,hL,hF,h4⟩:=nm_labs (nameL_nm ns)
 have hb:bytesOf (strOfNums (nameL ns)) = lay ls:=by rw [bytes_str (nameL_b8 ns)];exact hl
 unfold underL at hr
 obtain ⟨a,_,rfl⟩:=List.mem_map.1 hr
 have hn:bytesOf (recV a).f0 = nameL a.f0:=bytes_str (nameL_b8 a.f0)
 obtain ⟨hx,hB⟩:=Below_true (strOfNums (nameL ns)) (strOfNums (nameL ns)) ls [] hb hL hF (fun _ h=>by cases h) (fun _ h=>by cases h) (by rw [List.nil_append];exact hb) (by rw [List.nil_append];exact h4)
 by_cases h6:(recV a).f1 = 6
 ·have hu:undR (strOfNums (nameL ns)) false a = ⟨strOfNums (nameL ns),16,a.f2,⟨#[1,120]⟩⟩:=by unfold undR;rw [if_pos h6,if_neg (by decide)]
  rw [hu] at hsz ⊢
  have ht:(⟨#[1,120]⟩:ByteArray) = strOfNums [((1:Nat):Int)] ++ (⟨#[120]⟩:ByteArray):=str_inj' (by rw [bytes_app,bytes_str (B8.cons (by omega) (by omega) B8.nil)];rfl)
  refine ⟨⟨hsz,MayRec_true _ hsz hx (by show (16:Int)≠41;decide) ?_,hB,fun h=>?_⟩,?_⟩
  ·refine mayD_text _ ?_ (by show (2:Nat)≤512;decide)
   show Ev (fun k=>rdata_texts.f k (⟨#[1,120]⟩:ByteArray)) true
   rw [ht]
   exact texts_one 1 _ (by decide) rfl
  ·exact absurd (show (16:Int) = 6 from h) (by decide)
  ·show (16:Int)≠6
   decide
 ·have hu:undR (strOfNums (nameL ns)) false a = ⟨if joinB (recV a).f0 (strOfNums (nameL ns)) = true then (recV a).f0 ++ (strOfNums (nameL ns)) else (strOfNums (nameL ns)),(recV a).f1,(recV a).f2,(recV a).f3⟩:=by unfold undR;rw [if_neg h6]
  rw [hu] at hsz ⊢
  obtain ⟨h41,hM⟩:=dataV_may (a.f1 % 8).toNat a.f3 (a.f4.extract 0 (min a.f4.size 30)) (by rw [ByteArray.size_extract];omega) h6
  have hnb:nm (bytesOf (if joinB (recV a).f0 (strOfNums (nameL ns)) = true then (recV a).f0 ++ (strOfNums (nameL ns)) else (strOfNums (nameL ns)))) = true∧Ev (fun k=>name_Below.f k (if joinB (recV a).f0 (strOfNums (nameL ns)) = true then (recV a).f0 ++ (strOfNums (nameL ns)) else (strOfNums (nameL ns))) (strOfNums (nameL ns))) true:=by
   by_cases hj:joinB (recV a).f0 (strOfNums (nameL ns)) = true
   ·rw [if_pos hj]
    unfold joinB at hj
    simp only [Bool.and_eq_true,decide_eq_true_eq] at hj
    obtain ⟨⟨hj1,_⟩,hj3⟩:=hj
    rw [hn] at hj1
    obtain ⟨ms,m1,m2,m3,m4⟩:=nm_labs hj1
    have hab:bytesOf ((recV a).f0 ++ strOfNums (nameL ns)) = lay (ms ++ ls):=by rw [bytes_app,hn,hb,lay_app,m1]
    exact Below_true _ _ ls ms hb hL hF m2 m3 hab (by rw [← hab,of_size,ByteArray.size_append];exact hj3)
   ·rw [if_neg hj]
    exact ⟨hx,hB⟩
  exact ⟨⟨hsz,MayRec_true _ hsz hnb.1 h41 hM,hnb.2,fun h=>absurd h h6⟩,h6⟩
theorem right_yes (x:ByteArray) (rs:List R) (hl:rs.length≤1000000) (hg:∀ r ∈ rs,Good x r) (r0:R) (h0:rs[0]? = some r0) (h6:r0.f1 = 6):∀ (d i:Nat),i + d = rs.length→Ev (fun k=>stream_right.l0 k x rs rs (rs.length:Int) (i:Int)) true:=by
 intro d
 induction d with
 | zero =>
  intro i hi
  have hp:=(List.getElem?_eq_some_iff.1 h0).1
  refine ⟨1,fun k hk=>?_⟩
  obtain ⟨k,rfl⟩:∃ k',k = k' + 1:=⟨k - 1,by omega⟩
  simp only [stream_right.l0]
  rw [if_neg (by omega),if_pos (by omega),if_pos (by omega)]
  have e0:rd_T32 rs 0 = r0:=rd_R (i:=0) h0
  rw [e0,h6]
  rfl
 | succ d ih =>
  intro i hi
  have hil:i < rs.length:=by omega
  obtain ⟨a,ha⟩:∃ a,rs[i]? = some a:=⟨_,List.getElem?_eq_getElem hil⟩
  have hra:=rd_R ha
  obtain ⟨hsa,⟨K1,g1⟩,⟨K2,g2⟩,hx⟩:=hg a (List.mem_of_getElem? ha)
  obtain ⟨K3,g3⟩:=ih (i + 1) (by omega)
  refine ⟨max K1 (max K2 K3) + 1,fun k hk=>?_⟩
  obtain ⟨k,rfl⟩:∃ k',k = k' + 1:=⟨k - 1,by omega⟩
  have e1:=g1 k (by omega)
  have e2:=g2 k (by omega)
  have e3:=g3 k (by omega)
  simp only at e1 e2 e3
  simp only [stream_right.l0]
  rw [if_pos (by omega),if_pos (by omega),if_pos (by omega),hra,e1,Option.bind_some,e2,Option.bind_some,w64n i (by omega),e3]
  by_cases ha6:a.f1 = 6
  ·rw [hx ha6]
   simp
  ·simp [ha6]
theorem part_yes (x:ByteArray) (hx:x.size≤1000) (fr:Int) (r0:R) (tl:List R) (hl:(r0 :: tl).length≤1000000) (hg:∀ r ∈ r0 :: tl,Good x r) (h6:r0.f1 = 6):Ev (fun k=>stream_Part.f k x fr (r0 :: tl)) (partL true fr (r0 :: tl)):=by
 obtain ⟨b,hb1,hb2⟩:=right_tot x hx (r0 :: tl) hl (fun r hr=>(hg r hr).1)
 have h:=right_yes x (r0 :: tl) hl hg r0 rfl h6 (r0 :: tl).length 0 (by omega)
 have:b = true:=Ev_one hb1 h
 subst this
 exact Part_ev x fr (r0 :: tl) hl (fun r hr=>(hg r hr).1) true hb1 (fun _=>by simp) hb2
def dlL (x:ByteArray) (fr:Int) (ps:List (List LA)) (k:Nat):DL :=
 ⟨sR x ((fr + k) % 4294967296),sR x ((fr + k + 1) % 4294967296),underL x (ps.getD (2 * k) []) 5 false,underL x (ps.getD (2 * k + 1) []) 5 false⟩
theorem ser_sR (x:ByteArray) (n:Int) (hn:0≤n∧n < 4294967296):ser (sR x n) = n:=by
 show (ofR 6 (bytesOf (strOfNums (soaMake [] n 10 3 40)))).2.2.1 = n
 rw [bytes_str (soaMake_b8 [] n 10 3 40),make_of _ _ _ _ _ hn]
theorem runL_app (u:List R) (r:R) (t:List R) (hu:∀ y ∈ u,y.f1≠6) (hr:r.f1 = 6):runL (u ++ r :: t) = (u,r :: t):=by
 induction u with
 | nil =>
  show runL (r :: t) = _
  unfold runL
  rw [if_pos hr]
 | cons y u ih =>
  rw [List.cons_append]
  unfold runL
  rw [if_neg (hu y (List.mem_cons_self ..)),ih (fun z hz=>hu z (List.mem_cons_of_mem _ hz))]
theorem deltasL_step (n:Nat) (fr:Int) (s0 s1 s2:R) (u1 u2 t:List R) (out:List DL) (last:R) (h0:s0.f1 = 6) (h1:s1.f1 = 6) (h2:s2.f1 = 6) (hs:ser s0 = fr) (g1:∀ y ∈ u1,y.f1≠6) (g2:∀ y ∈ u2,y.f1≠6) :
  deltasL (n + 1) fr (s0 :: (u1 ++ s1 :: u2) ++ s2 :: t) out last = deltasL n (ser s1) (s2 :: t) (out ++ [⟨s0,s1,u1,u2⟩]) last:=by
 rw [List.cons_append,List.append_assoc,List.cons_append]
 conv=>lhs;unfold deltasL
 rw [if_pos (by rw [List.length_cons,List.length_append,List.length_cons];omega)]
 simp only
 rw [if_pos h0,if_pos hs,runL_app u1 s1 (u2 ++ s2 :: t) g1 h1]
 simp only
 rw [runL_app u2 s2 t g2 h2]
theorem und_no6 (ns:List Int) (l:List LA):∀ y ∈ underL (strOfNums (nameL ns)) l 5 false,y.f1≠6:=fun y hy=>(good_und ns l 5 y hy).2
def restL (x:ByteArray) (fr:Int) (ps:List (List LA)) (k d:Nat) (last:R):List R:=(List.range' k d).flatMap (linkL x fr ps) ++ [last]
theorem restL_succ (x:ByteArray) (fr:Int) (ps:List (List LA)) (k d:Nat) (last:R):restL x fr ps k (d + 1) last = linkL x fr ps k ++ restL x fr ps (k + 1) d last:=by
 unfold restL
 rw [List.range'_succ,List.flatMap_cons,List.append_assoc]
theorem restL_head (x:ByteArray) (fr:Int) (ps:List (List LA)) (k d:Nat) (last:R) (hl:last.f1 = 6):∃ s t,restL x fr ps k d last = s :: t∧s.f1 = 6:=by
 cases d with
 | zero=>exact ⟨last,[],rfl,hl⟩
 | succ d =>
  rw [restL_succ]
  unfold linkL
  exact ⟨_,_,rfl,rfl⟩
theorem restL_len (x:ByteArray) (fr:Int) (ps:List (List LA)) (last:R):∀ (d k:Nat),d < (restL x fr ps k d last).length:=by
 intro d
 induction d with
 | zero=>intro k;show 0 < 1;decide
 | succ d ih =>
  intro k
  rw [restL_succ,List.length_append]
  have:=ih (k + 1)
  unfold linkL
  rw [List.length_cons]
  omega
theorem rest_part (ns:List Int) (fr:Int) (ps:List (List LA)) (n:Nat):∀ (d k m:Nat) (out:List DL),k + d = n→d < m→(d = 0→∃ o z,out = o ++ [z]∧z.f1 = sR (strOfNums (nameL ns)) ((fr + n) % 4294967296)) →
  deltasL m ((fr + k) % 4294967296) (restL (strOfNums (nameL ns)) fr ps k d (sR (strOfNums (nameL ns)) ((fr + n) % 4294967296))) out (sR (strOfNums (nameL ns)) ((fr + n) % 4294967296)) = (false,[],out ++ (List.range' k d).map (dlL (strOfNums (nameL ns)) fr ps),none):=by
 obtain ⟨x,hx⟩:∃ x,strOfNums (nameL ns) = x:=⟨_,rfl⟩
 have hu:=und_no6 ns
 rw [hx] at hu ⊢
 intro d
 induction d with
 | zero =>
  intro k m out hk hm ho
  obtain ⟨o,z,rfl,hz⟩:=ho rfl
  obtain ⟨m,rfl⟩:∃ m',m = m' + 1:=⟨m - 1,by omega⟩
  have e:restL x fr ps k 0 (sR x ((fr + n) % 4294967296)) = [sR x ((fr + n) % 4294967296)]:=rfl
  rw [e]
  unfold deltasL
  rw [if_neg (by rw [List.length_singleton];omega),List.getLast?_concat]
  simp only
  rw [if_pos ⟨(eqR_iff _ _).2 rfl,by rw [hz];exact (eqR_iff _ _).2 rfl⟩]
  simp
 | succ d ih =>
  intro k m out hk hm ho
  obtain ⟨m,rfl⟩:∃ m',m = m' + 1:=⟨m - 1,by omega⟩
  obtain ⟨s,t,hst,hs6⟩:=restL_head x fr ps (k + 1) d (sR x ((fr + n) % 4294967296)) rfl
  rw [restL_succ,hst]
  have hstep:=deltasL_step m ((fr + k) % 4294967296) (sR x ((fr + k) % 4294967296)) (sR x ((fr + k + 1) % 4294967296)) s (underL x (ps.getD (2 * k) []) 5 false) (underL x (ps.getD (2 * k + 1) []) 5 false) t out (sR x ((fr + n) % 4294967296)) rfl rfl hs6 (ser_sR x _ (by omega)) (hu _) (hu _)
  have h2:linkL x fr ps k ++ s :: t = sR x ((fr + k) % 4294967296) :: (underL x (ps.getD (2 * k) []) 5 false ++ sR x ((fr + k + 1) % 4294967296) :: underL x (ps.getD (2 * k + 1) []) 5 false) ++ s :: t:=rfl
  rw [h2,hstep,ser_sR x _ (by omega),← hst]
  have hi:=ih (k + 1) m (out ++ [dlL x fr ps k]) (by omega) (by omega) (fun h0=>⟨out,dlL x fr ps k,rfl,by subst h0;show sR x ((fr + k + 1) % 4294967296) = _;rw [show (n:Int) = (k:Int) + 1 by omega,Int.add_assoc]⟩)
  rw [show (fr + ((k + 1:Nat):Int)) = fr + k + 1 by omega] at hi
  rw [show ([({ f0:=sR x ((fr + k) % 4294967296),f1:=sR x ((fr + k + 1) % 4294967296),f2:=underL x (ps.getD (2 * k) []) 5 false,f3:=underL x (ps.getD (2 * k + 1) []) 5 false }:DL)]:List DL) = [dlL x fr ps k] from rfl,hi]
  rw [List.range'_succ,List.map_cons,List.append_assoc]
  rfl
theorem chain_rest (x:ByteArray) (fr:Int) (ps:List (List LA)):chainL x fr ps = sR x ((fr + chN ps) % 4294967296) :: restL x fr ps 0 (chN ps) (sR x ((fr + chN ps) % 4294967296)):=by
 unfold chainL restL
 rw [List.range_eq_range']
theorem chain_notfull (x:ByteArray) (fr:Int) (ps:List (List LA)) (h:chN ps≠0):fullB true (chainL x fr ps) = false:=by
 obtain ⟨d,hd⟩:∃ d,chN ps = d + 1:=⟨chN ps - 1,by omega⟩
 rw [chain_rest,hd,restL_succ]
 obtain ⟨s,t,hst,hs6⟩:=restL_head x fr ps 1 d (sR x ((fr + ((d + 1:Nat):Int)) % 4294967296)) rfl
 rw [hst]
 unfold linkL
 obtain ⟨u,hu⟩:∃ u,underL x (ps.getD (2 * 0) []) 5 false ++ sR x ((fr + ((0:Nat):Int) + 1) % 4294967296) :: underL x (ps.getD (2 * 0 + 1) []) 5 false = u:=⟨_,rfl⟩
 rw [hu]
 have hup:0 < u.length:=by rw [← hu,List.length_append,List.length_cons];omega
 obtain ⟨m,hm⟩:∃ m,(u ++ s :: t).length = m + 1:=⟨u.length + t.length,by rw [List.length_append,List.length_cons];omega⟩
 show (true && (eqR _ _ && no6 _)) = false
 rw [show (sR x ((fr + ((0:Nat):Int)) % 4294967296) :: u ++ s :: t) = sR x ((fr + ((0:Nat):Int)) % 4294967296) :: (u ++ s :: t) from rfl]
 simp only [List.length_cons,hm,Nat.add_sub_cancel]
 rw [List.take_succ_cons,List.drop_one,List.tail_cons,List.take_succ_cons]
 have:no6 (sR x ((fr + ((0:Nat):Int)) % 4294967296) :: (u ++ s :: t).take m) = false:=rfl
 rw [this,Bool.and_false,Bool.and_false]
theorem chain_part (ns:List Int) (fr:Int) (hf:0≤fr∧fr < 4294967296) (ps:List (List LA)) (h:chN ps≠0):partL true fr (chainL (strOfNums (nameL ns)) fr ps) = (false,[],(List.range (chN ps)).map (dlL (strOfNums (nameL ns)) fr ps),none):=by
 have hnf:=chain_notfull (strOfNums (nameL ns)) fr ps h
 obtain ⟨d,hd⟩:∃ d,chN ps = d + 1:=⟨chN ps - 1,by omega⟩
 have hp:=rest_part ns fr ps (chN ps) (chN ps) 0 ((restL (strOfNums (nameL ns)) fr ps 0 (chN ps) (sR (strOfNums (nameL ns)) ((fr + chN ps) % 4294967296))).length + 1) [] (by omega) (by have:=restL_len (strOfNums (nameL ns)) fr ps (sR (strOfNums (nameL ns)) ((fr + chN ps) % 4294967296)) (chN ps) 0;omega) (fun h0=>absurd h0 h)
 rw [show (fr + ((0:Nat):Int)) % 4294967296 = fr by omega,List.nil_append,← List.range_eq_range'] at hp
 rw [chain_rest] at hnf ⊢
 obtain ⟨s,t,hst,hs6⟩:=restL_head (strOfNums (nameL ns)) fr ps 0 (chN ps) (sR (strOfNums (nameL ns)) ((fr + chN ps) % 4294967296)) rfl
 rw [hst] at hnf hp ⊢
 unfold partL
 rw [if_pos rfl]
 simp only
 rw [if_neg (by rw [hnf];decide),hp]
theorem chain_other (x:ByteArray) (fr f2:Int) (hf:0≤fr∧fr < 4294967296) (hne:fr≠f2) (ps:List (List LA)) (h:chN ps≠0):partL true f2 (chainL x fr ps) = err 5:=by
 have hnf:=chain_notfull x fr ps h
 obtain ⟨d,hd⟩:∃ d,chN ps = d + 1:=⟨chN ps - 1,by omega⟩
 rw [chain_rest] at hnf ⊢
 have e:restL x fr ps 0 (chN ps) (sR x ((fr + chN ps) % 4294967296)) = linkL x fr ps 0 ++ restL x fr ps 1 d (sR x ((fr + chN ps) % 4294967296)):=by rw [← restL_succ,hd]
 have hl:=restL_len x fr ps (sR x ((fr + chN ps) % 4294967296)) d 1
 rw [e] at hnf ⊢
 unfold linkL at hnf ⊢
 obtain ⟨u,hu⟩:∃ u,underL x (ps.getD (2 * 0) []) 5 false ++ sR x ((fr + ((0:Nat):Int) + 1) % 4294967296) :: underL x (ps.getD (2 * 0 + 1) []) 5 false = u:=⟨_,rfl⟩
 rw [hu,List.cons_append] at hnf ⊢
 unfold partL
 rw [if_pos rfl]
 simp only
 rw [if_neg (by rw [hnf];decide)]
 unfold deltasL
 rw [if_pos (by rw [List.length_cons,List.length_append];omega)]
 simp only
 have h6:(sR x ((fr + ((0:Nat):Int)) % 4294967296)).f1 = 6:=rfl
 rw [if_pos h6,if_neg (by rw [ser_sR x _ (by omega)];omega)]
theorem chain_full (x:ByteArray) (fr f2:Int) (ps:List (List LA)) (h:chN ps = 0):partL true f2 (chainL x fr ps) = (false,[sR x ((fr + chN ps) % 4294967296)],[],none):=by
 rw [chain_rest,h]
 show partL true f2 [sR x ((fr + ((0:Nat):Int)) % 4294967296),sR x ((fr + ((0:Nat):Int)) % 4294967296)] = _
 have hf:fullB true [sR x ((fr + ((0:Nat):Int)) % 4294967296),sR x ((fr + ((0:Nat):Int)) % 4294967296)] = true:=by
  show (true && (eqR _ _ && no6 [])) = true
  have he:eqR (sR x ((fr + ((0:Nat):Int)) % 4294967296)) (sR x ((fr + ((0:Nat):Int)) % 4294967296)) = true:=(eqR_iff _ _).2 rfl
  show (true && (eqR (sR x ((fr + ((0:Nat):Int)) % 4294967296)) (sR x ((fr + ((0:Nat):Int)) % 4294967296)) && no6 [])) = true
  rw [he]
  rfl
 unfold partL
 rw [if_pos rfl]
 simp only
 rw [if_pos hf]
 rfl
theorem chain_good (ns:List Int) (fr:Int) (ps:List (List LA)):∀ r ∈ chainL (strOfNums (nameL ns)) fr ps,Good (strOfNums (nameL ns)) r:=by
 intro r hr
 unfold chainL at hr
 rcases List.mem_cons.1 hr with rfl|hr
 ·exact good_sR ns _
 rcases List.mem_append.1 hr with hr|hr
 ·obtain ⟨k,_,hk⟩:=List.mem_flatMap.1 hr
  unfold linkL at hk
  rcases List.mem_cons.1 hk with rfl|hk
  ·exact good_sR ns _
  rcases List.mem_append.1 hk with hk|hk
  ·exact (good_und ns _ 5 r hk).1
  rcases List.mem_cons.1 hk with rfl|hk
  ·exact good_sR ns _
  ·exact (good_und ns _ 5 r hk).1
 ·rcases List.mem_cons.1 hr with rfl|hr
  ·exact good_sR ns _
  ·cases hr
theorem chain_ev (ns:List Int) (fr f2:Int) (ps:List (List LA)):Ev (fun k=>stream_Part.f k (strOfNums (nameL ns)) f2 (chainL (strOfNums (nameL ns)) fr ps)) (partL true f2 (chainL (strOfNums (nameL ns)) fr ps)):=by
 have hl:=chain_len (strOfNums (nameL ns)) fr ps
 have hg:=chain_good ns fr ps
 rw [chain_rest] at hl hg ⊢
 exact part_yes _ (by rw [str_size];have:=nameL_len ns;omega) f2 _ _ (by omega) hg rfl
end Go.Proofs.YtlobjcokopfbkaaDoor.Str
