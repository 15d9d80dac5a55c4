/- part of a proof; what it has no use for was struck out -/
import Derived.Test.YtlobjcokopfbkaaDoorStr
import Derived.Test.YtlobjcokopfbkaaDoorPYx3
import Derived.Test.YtlobjcokopfbkaaDoorPYx3
import Derived.Test.YtlobjcokopfbkaaDoorPYx4
import Derived.Test.YtlobjcokopfbkaaDoorPYx4
import Derived.Test.YtlobjcokopfbkaaDoorPYx5
import Derived.Test.YtlobjcokopfbkaaDoorPYx13
import Derived.Test.YtlobjcokopfbkaaDoorPYx14
import Derived.Test.YtlobjcokopfbkaaDoorPYx15
namespace Go.Proofs.YtlobjcokopfbkaaDoor.Str
open Go.RowKit Go.Proofs.YtlobjcokopfbkaaDoor.PY Go.Proofs.YtlobjcokopfbkaaDoorW.PrintWords Go.Proofs.YtlobjcokopfbkaaDoorW.PrintLast Go.Proofs.YtlobjcokopfbkaaDoor.Base Go.Proofs.YtlobjcokopfbkaaDoor.Nam Go.Proofs.YtlobjcokopfbkaaDoor.Soa Go.Proofs.YtlobjcokopfbkaaDoor.QY
set_option linter.unusedVariables false
set_option linter.unusedSimpArgs false
theorem w64i {x:Int} (h0 : -1000000000000≤x) (h1:x≤1000000000000):wrap64 x = x:=by unfold wrap64;omega
theorem texts_loop (s:ByteArray) (hs:s.size≤1000000000):∀ (d i:Nat),s.size < i + d→i≤s.size + 1000→∃ b,Ev (fun k=>rdata_texts.l0 k s (i:Int)) b:=by
 intro d
 induction d with
 | zero =>
  intro i h1 h2
  refine ⟨false,1,fun k hk=>?_⟩
  obtain ⟨k,rfl⟩:∃ k',k = k' + 1:=⟨k - 1,by omega⟩
  simp only [rdata_texts.l0]
  rw [if_pos (by omega),if_neg (by omega)]
 | succ d ih =>
  intro i h1 h2
  by_cases hge:s.size≤i
  ·by_cases he:i = s.size
   ·refine ⟨decide ((i:Int) > 0),1,fun k hk=>?_⟩
    obtain ⟨k,rfl⟩:∃ k',k = k' + 1:=⟨k - 1,by omega⟩
    simp only [rdata_texts.l0]
    rw [if_pos (by omega),if_pos (by omega)]
   ·refine ⟨false,1,fun k hk=>?_⟩
    obtain ⟨k,rfl⟩:∃ k',k = k' + 1:=⟨k - 1,by omega⟩
    simp only [rdata_texts.l0]
    rw [if_pos (by omega),if_neg (by omega)]
  ·have hr:=bt_range s (i:Int)
   obtain ⟨t,ht⟩:=Int.eq_ofNat_of_zero_le hr.1
   have ht2:t≤255:=by have:=hr.2;omega
   obtain ⟨b,K,g⟩:=ih (i + 1 + t) (by omega) (by omega)
   refine ⟨b,K + 1,fun k hk=>?_⟩
   obtain ⟨k,rfl⟩:∃ k',k = k' + 1:=⟨k - 1,by omega⟩
   have e:=g k (by omega)
   simp only at e
   simp only [rdata_texts.l0]
   rw [if_neg (by omega),if_pos (by omega),if_pos (by omega),ht,w64i (x:=((t:Nat):Int)) (by omega) (by omega),w64i (x:=1 + ((t:Nat):Int)) (by omega) (by omega),w64i (x:=(i:Int) + (1 + ((t:Nat):Int))) (by omega) (by omega),show ((i:Int) + (1 + ((t:Nat):Int))) = ((i + 1 + t:Nat):Int) by omega]
   exact e
theorem MayD_tot (t:Int) (s:ByteArray) (hs:s.size≤1000000000):∃ b,Ev (fun k=>rdata_May.f k t s) b:=by
 obtain ⟨K1,g1⟩:=May_ev s (by omega)
 obtain ⟨K2,g2⟩:=rsoa_ev s (by omega)
 obtain ⟨b3,K3,g3⟩:=texts_loop s hs (s.size + 1) 0 (by omega) (by omega)
 by_cases h1:t = 1
 ·exact ⟨_,0,fun k _=>by show rdata_May.f k t s = _;unfold rdata_May.f;rw [if_pos h1]⟩
 by_cases h2:t = 28
 ·exact ⟨_,0,fun k _=>by show rdata_May.f k t s = _;unfold rdata_May.f;rw [if_neg h1,if_pos h2]⟩
 have key:∀ q:Bool,∃ b,Ev (fun k=>rdata_May.j0 k s t q) b:=by
  intro q
  cases q with
  | true =>
   refine ⟨nm (bytesOf s),K1 + 1,fun k hk=>?_⟩
   obtain ⟨k,rfl⟩:∃ k',k = k' + 1:=⟨k - 1,by omega⟩
   have e:=g1 k (by omega)
   simp only at e
   simp only [rdata_May.j0,if_true]
   rw [e]
   rfl
  | false =>
   by_cases h6:t = 6
   ·refine ⟨(soaP (bytesOf s)).2.2.2,K2 + 1,fun k hk=>?_⟩
    obtain ⟨k,rfl⟩:∃ k',k = k' + 1:=⟨k - 1,by omega⟩
    have e:=g2 k (by omega)
    simp only at e
    simp only [rdata_May.j0]
    rw [if_neg (by decide),if_pos h6,e]
    rfl
   ·by_cases h16:t = 16
    ·refine ⟨if b3 = true then decide ((s.size:Int)≤512) else false,K3 + 1,fun k hk=>?_⟩
     obtain ⟨k,rfl⟩:∃ k',k = k' + 1:=⟨k - 1,by omega⟩
     have e:=g3 k (by omega)
     have e':rdata_texts.f k s = some b3:=e
     simp only [rdata_May.j0]
     rw [if_neg (by decide),if_neg h6,if_pos h16,e']
     cases b3 <;> rfl
    ·refine ⟨decide ((s.size:Int)≤512),1,fun k hk=>?_⟩
     obtain ⟨k,rfl⟩:∃ k',k = k' + 1:=⟨k - 1,by omega⟩
     simp only [rdata_May.j0]
     rw [if_neg (by decide),if_neg h6,if_neg h16]
 by_cases h3:t = 2
 ·obtain ⟨b,K,g⟩:=key (t == 2)
  exact ⟨b,K,fun k hk=>by show rdata_May.f k t s = _;unfold rdata_May.f;rw [if_neg h1,if_neg h2,if_pos h3];exact g k hk⟩
 ·obtain ⟨b,K,g⟩:=key (t == 5)
  exact ⟨b,K,fun k hk=>by show rdata_May.f k t s = _;unfold rdata_May.f;rw [if_neg h1,if_neg h2,if_neg h3];exact g k hk⟩
def Sz (r:R):Prop:=r.f0.size≤100000000∧r.f3.size≤100000000
theorem MayRec_tot (r:R) (h:Sz r):∃ b,Ev (fun k=>message_MayRecord.f k r.f0 r.f1 r.f2 r.f3) b:=by
 obtain ⟨h0,h3⟩:=h
 obtain ⟨K1,g1⟩:=May_ev r.f0 (by omega)
 obtain ⟨b2,K2,g2⟩:=MayD_tot r.f1 r.f3 (by omega)
 refine ⟨if nm (bytesOf r.f0) = true then (if r.f1 = 41 then false else b2) else false,max K1 K2,fun k hk=>?_⟩
 have e1:=g1 k (by omega)
 have e2:=g2 k (by omega)
 simp only at e1 e2
 show message_MayRecord.f k r.f0 r.f1 r.f2 r.f3 = _
 unfold message_MayRecord.f
 rw [e1,Option.bind_some]
 split
 ·split
  ·rfl
  ·rw [e2];rfl
 ·rfl
theorem Parent_ev (s:ByteArray) (hs:s.size≤100000000):∃ y:ByteArray × Bool,Ev (fun k=>name_Parent.f k s) y∧(y.2 = true→y.1.size < s.size)∧y.1.size≤s.size:=by
 obtain ⟨K1,g1⟩:=May_ev s (by omega)
 by_cases h0:s.size = 0
 ·refine ⟨(⟨#[]⟩,false),⟨0,fun k _=>?_⟩,(by intro h;cases h),Nat.zero_le _⟩
  show name_Parent.f k s = _
  unfold name_Parent.f
  rw [if_pos (by omega)]
 ·cases hn:nm (bytesOf s) with
  | false =>
   refine ⟨(⟨#[]⟩,false),⟨K1,fun k hk=>?_⟩,(by intro h;cases h),Nat.zero_le _⟩
   have e1:=g1 k hk
   simp only [hn] at e1
   show name_Parent.f k s = _
   unfold name_Parent.f
   rw [if_neg (by omega),e1]
   rfl
  | true =>
   obtain ⟨ls,hl,hL,_,_⟩:=nm_labs hn
   have hlen:(bytesOf s).length = s.size:=by simp [bytesOf]
   cases ls with
   | nil=>rw [hl,lay_nil] at hlen;simp at hlen;omega
   | cons l t =>
    have hb:bt s 0 = (l.length:Int):=by
     have h:=bt_get s 0 (by omega)
     rw [hl,lay_cons] at h
     simpa using h.symm
    have hl2:1 + l.length≤s.size:=by
     rw [hl,lay_cons] at hlen
     simp at hlen
     omega
    have hLl:=hL l (List.mem_cons_self ..)
    have hLb:1≤l.length∧l.length≤63:=hLl
    refine ⟨(s.extract (1 + l.length) s.size,true),⟨K1,fun k hk=>?_⟩,fun _=>by rw [ByteArray.size_extract];omega,by rw [ByteArray.size_extract];omega⟩
    have e1:=g1 k hk
    simp only [hn] at e1
    show name_Parent.f k s = _
    unfold name_Parent.f
    rw [if_neg (by omega),e1,Option.bind_some,if_pos rfl,if_pos (by omega),hb,w64i (x:=(l.length:Int)) (by omega) (by omega),w64i (x:=1 + (l.length:Int)) (by omega) (by omega),if_pos (by omega),if_pos (by omega),show (1 + (l.length:Int)).toNat = 1 + l.length by omega]
theorem Below_loop (b:ByteArray):∀ (n:Nat) (a:ByteArray) (q:Bool),a.size≤n→a.size≤100000000→∃ r,Ev (fun k=>name_Below.l0 k a b q) r:=by
 intro n
 induction n with
 | zero =>
  intro a q h1 h2
  cases q with
  | false =>
   refine ⟨false,1,fun k hk=>?_⟩
   obtain ⟨k,rfl⟩:∃ k',k = k' + 1:=⟨k - 1,by omega⟩
   simp only [name_Below.l0]
   rw [if_neg (by decide)]
  | true =>
   obtain ⟨⟨y,f⟩,⟨K,g⟩,hy,_⟩:=Parent_ev a h2
   have hf:f = false:=by
    cases f with
    | false=>rfl
    | true=>exact absurd (hy rfl) (by omega)
   subst hf
   by_cases he:a.toList = b.toList
   ·refine ⟨true,1,fun k hk=>?_⟩
    obtain ⟨k,rfl⟩:∃ k',k = k' + 1:=⟨k - 1,by omega⟩
    simp only [name_Below.l0]
    rw [if_pos trivial,if_pos he]
   ·refine ⟨false,K + 2,fun k hk=>?_⟩
    obtain ⟨k,rfl⟩:∃ k',k = k' + 2:=⟨k - 2,by omega⟩
    have e:=g (k + 1) (by omega)
    simp only at e
    show name_Below.l0 (k + 1 + 1) a b true = _
    simp only [name_Below.l0]
    rw [if_pos trivial,if_neg he,e,Option.bind_some]
    rfl
 | succ n ih =>
  intro a q h1 h2
  cases q with
  | false =>
   refine ⟨false,1,fun k hk=>?_⟩
   obtain ⟨k,rfl⟩:∃ k',k = k' + 1:=⟨k - 1,by omega⟩
   simp only [name_Below.l0]
   rw [if_neg (by decide)]
  | true =>
   by_cases he:a.toList = b.toList
   ·refine ⟨true,1,fun k hk=>?_⟩
    obtain ⟨k,rfl⟩:∃ k',k = k' + 1:=⟨k - 1,by omega⟩
    simp only [name_Below.l0]
    rw [if_pos trivial,if_pos he]
   ·obtain ⟨⟨y,f⟩,⟨K,g⟩,hy,hy2⟩:=Parent_ev a h2
    have hr:∃ r,Ev (fun k=>name_Below.l0 k y b f) r:=by
     cases f with
     | true=>exact ih y true (by have:=hy rfl;simp only at this;omega) (by simp only at hy2;omega)
     | false =>
      refine ⟨false,1,fun k hk=>?_⟩
      obtain ⟨k,rfl⟩:∃ k',k = k' + 1:=⟨k - 1,by omega⟩
      simp only [name_Below.l0]
      rw [if_neg (by decide)]
    obtain ⟨r,K2,g2⟩:=hr
    refine ⟨r,max K K2 + 1,fun k hk=>?_⟩
    obtain ⟨k,rfl⟩:∃ k',k = k' + 1:=⟨k - 1,by omega⟩
    have e:=g k (by omega)
    have e2:=g2 k (by omega)
    simp only at e e2
    simp only [name_Below.l0]
    rw [if_pos trivial,if_neg he,e,Option.bind_some]
    exact e2
theorem Below_tot (a b:ByteArray) (ha:a.size≤100000000) (hb:b.size≤100000000):∃ r,Ev (fun k=>name_Below.f k a b) r:=by
 obtain ⟨K1,g1⟩:=May_ev a (by omega)
 obtain ⟨K2,g2⟩:=May_ev b (by omega)
 have key:∀ q:Bool,∃ r,Ev (fun k=>name_Below.j0 k a b q) r:=by
  intro q
  obtain ⟨r,K,g⟩:=Below_loop b a.size a q (Nat.le_refl _) ha
  refine ⟨r,K + 1,fun k hk=>?_⟩
  obtain ⟨k,rfl⟩:∃ k',k = k' + 1:=⟨k - 1,by omega⟩
  simp only [name_Below.j0]
  exact g k (by omega)
 cases hn:nm (bytesOf a) with
 | true =>
  obtain ⟨r,K,g⟩:=key (nm (bytesOf b))
  refine ⟨r,max K (max K1 K2),fun k hk=>?_⟩
  have e1:=g1 k (by omega)
  have e2:=g2 k (by omega)
  simp only [hn] at e1
  simp only at e2
  show name_Below.f k a b = _
  unfold name_Below.f
  rw [e1,Option.bind_some,if_pos rfl,e2,Option.bind_some]
  exact g k (by omega)
 | false =>
  obtain ⟨r,K,g⟩:=key false
  refine ⟨r,max K K1,fun k hk=>?_⟩
  have e1:=g1 k (by omega)
  simp only [hn] at e1
  show name_Below.f k a b = _
  unfold name_Below.f
  rw [e1,Option.bind_some,if_neg (by decide)]
  exact g k (by omega)
theorem right_loop (x:ByteArray) (hx:x.size≤1000) (rs:List R) (hl:rs.length≤1000000) (hs:∀ r ∈ rs,Sz r):∀ (d i:Nat),i + d = rs.length →
  ∃ b,Ev (fun k=>stream_right.l0 k x rs rs (rs.length:Int) (i:Int)) b∧Ev (fun k=>bolterlaw09_may.l0 k x rs rs (rs.length:Int) (i:Int)) b:=by
 intro d
 induction d with
 | zero =>
  intro i hi
  by_cases h0:0 < rs.length
  ·refine ⟨(rd_T32 rs 0).f1 == 6,⟨1,fun k hk=>?_⟩,⟨1,fun k hk=>?_⟩⟩
   all_goals
    obtain ⟨k,rfl⟩:∃ k',k = k' + 1:=⟨k - 1,by omega⟩
    simp only [stream_right.l0,bolterlaw09_may.l0]
    rw [if_neg (by omega),if_pos (by omega),if_pos (by omega)]
  ·refine ⟨false,⟨1,fun k hk=>?_⟩,⟨1,fun k hk=>?_⟩⟩
   all_goals
    obtain ⟨k,rfl⟩:∃ k',k = k' + 1:=⟨k - 1,by omega⟩
    simp only [stream_right.l0,bolterlaw09_may.l0]
    rw [if_neg (by omega),if_neg (by omega)]
 | succ d ih =>
  intro i hi
  have hil:i < rs.length:=by omega
  obtain ⟨a,ha⟩:∃ a,rs[i]? = some a:=⟨_,List.getElem?_eq_getElem hil⟩
  have hra:=rd_R ha
  have hsa:=hs a (List.mem_of_getElem? ha)
  obtain ⟨b1,K1,g1⟩:=MayRec_tot a hsa
  obtain ⟨b2,K2,g2⟩:=Below_tot a.f0 x hsa.1 (by omega)
  obtain ⟨b,⟨K3,g3⟩,⟨K4,g4⟩⟩:=ih (i + 1) (by omega)
  refine ⟨if b1 = true then (if b2 = true then (if a.f1 = 6 then (if a.f0.toList = x.toList then b else false) else b) else false) else false,⟨max K1 (max K2 K3) + 1,fun k hk=>?_⟩,⟨max K1 (max K2 K4) + 1,fun k hk=>?_⟩⟩
  ·obtain ⟨k,rfl⟩:∃ k',k = k' + 1:=⟨k - 1,by omega⟩
   have e1:=g1 k (by omega)
   have e2:=g2 k (by omega)
   have e3:=g3 k (by omega)
   simp only at e1 e2 e3
   simp only [stream_right.l0]
   rw [if_pos (by omega),if_pos (by omega),if_pos (by omega),hra,e1,Option.bind_some,e2,Option.bind_some,w64n i (by omega),e3]
   repeat' split
   all_goals rfl
  ·obtain ⟨k,rfl⟩:∃ k',k = k' + 1:=⟨k - 1,by omega⟩
   have e1:=g1 k (by omega)
   have e2:=g2 k (by omega)
   have e3:=g4 k (by omega)
   simp only at e1 e2 e3
   simp only [bolterlaw09_may.l0]
   rw [if_pos (by omega),if_pos (by omega),if_pos (by omega),hra,e1,Option.bind_some,e2,Option.bind_some,w64n i (by omega),e3]
   repeat' split
   all_goals rfl
theorem right_tot (x:ByteArray) (hx:x.size≤1000) (rs:List R) (hl:rs.length≤1000000) (hs:∀ r ∈ rs,Sz r):∃ b,Ev (fun k=>stream_right.f k x rs) b∧Ev (fun k=>bolterlaw09_may.f k x rs) b:=right_loop x hx rs hl hs rs.length 0 (by omega)
end Go.Proofs.YtlobjcokopfbkaaDoor.Str
