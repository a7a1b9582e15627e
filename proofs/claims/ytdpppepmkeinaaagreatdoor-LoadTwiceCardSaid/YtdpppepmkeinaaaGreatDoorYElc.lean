import Derived.Test.YtdpppepmkeinaaaGreatDoorYg
import Derived.Test.YtdpppepmkeinaaaGreatDoorYh
import Derived.Test.YtdpppepmkeinaaaGreatDoorYm
import Derived.Test.YtdpppepmkeinaaaGreatDoorYz
import Derived.Test.YtdpppepmkeinaaaGreatDoorYxf
import Derived.Test.YtdpppepmkeinaaaGreatDoorYxh
import Derived.Test.YtdpppepmkeinaaaGreatDoorYxk
import Derived.Test.YtdpppepmkeinaaaGreatDoorYp
import Derived.Test.YtdpppepmkeinaaaGreatDoorYxi
import Derived.Test.YtdpppepmkeinaaaGreatDoorYxj
import Derived.Test.YtdpppepmkeinaaaGreatDoorYxm
import Derived.Test.YtdpppepmkeinaaaGreatDoorYxo
import Derived.Test.YtdpppepmkeinaaaGreatDoorYxl
import Derived.Test.YtdpppepmkeinaaaGreatDoorYxa
import Derived.Test.YtdpppepmkeinaaaGreatDoorYxs
/- What is proved: the law returns true whatever comes in; no condition beside those that each theorem names. -/
namespace Go.Proofs.YtdpppepmkeinaaaGreatDoor
set_option maxHeartbeats 32000000
open Go Go.RowKit Go.Lib
open Go.Value renaming int->I,string->Q,slice->Z
open Go.IntKind renaming i64->J
open Option renaming none->O,some->F
open _root_.Go renaming World->Y
set_option linter.unusedSimpArgs false
set_option linter.unusedVariables false
open Go Go.RowKit
set_option linter.unusedSectionVars false
set_option maxRecDepth 100000
section
theorem AE (b l:List UInt8) (p:Nat):(b++l).getD (b.length+p) 0=l.getD p 0:=by
 rw[List.getD,List.getElem?_append_right (by omega),show b.length+p - b.length=p by omega];rfl
theorem E6 (l m:List UInt8) (p:Nat) (h:p<l.length):(l++m).getD p 0=l.getD p 0:=by
 rw[List.getD,List.getElem?_append_left h];rfl
end
section
theorem A7 (b l:List UInt8) (i:Nat) (bs:List UInt8):Cg (b++l) (b.length+i) bs=Cg l i bs:=by
 unfold Cg;rw[AE,List.length_append];congr 1;rw[Bool.eq_iff_iff];simp
theorem Cj (b l:List UInt8) (i:Nat):BI (b++l) (b.length+i)=BI l i:=by
 unfold BI;rw[A7,List.length_append];congr 1;rw[Bool.eq_iff_iff];simp
theorem Bz (b l:List UInt8) (i d:Nat):AC (b++l) (b.length+i) d=AC l i d:=by
 unfold AC;rw[A7,Cj]
theorem B6:∀ (n:Nat) (l m:List UInt8),l.length<=n->validD l=true->Ag (l++m)=Ag l++Ag m
 | n,[],m,_,_=>rfl
 | 0,c::t,m,h,_=>by simp at h
 | n+1,c::t,m,h,hv=>by
  have hne:c::t≠[]:=by simp
  have hw:=decodeL_width (c::t);rw[Av (c::t++m) (by simp),Av (c::t) hne,EC _ m hne hv,List.drop_append_of_le_length (decodeL_le _ hne),B6 n _ m (by rw[List.length_drop];simp at h |-;omega) (Cu _ hne hv)];rfl
theorem AU (c:UInt8) (l:List UInt8) (h:c.toNat<128):Ag (c::l)=c.toNat::Ag l:=by
 rw[Av (c::l) (by simp),decodeL_ascii c l h];rfl
end
section
def CV (N:Nat):Prop:=∀ p v,p.length<=N->PV p v->∀ n d c,2*p.length<=n->AB n d (p++c)=if d+Ad v<=25 then .ok v c else .bad 73
def CI (N:Nat):Prop:=∀ p ts,p.length<=N->PI p ts->∀ n d c acc,2*p.length+1<=n->B9 n d (p++c) acc=if ts=[]\/d+1+Ad.deepTs ts<=25 then .ok (Bt (acc++ts)) c else .bad 73
def CD (N:Nat):Prop:=∀ p ks ts,p.length<=N->PD p ks ts->∀ n d c ks0 ts0,2*p.length+1<=n->AP n d (p++c) ks0 ts0=if ts=[]\/d+1+Ad.deepTs ts<=25 then .ok (BT (ks0++ks) (ts0++ts)) c else .bad 73
theorem A6 (t:Pc) (r:List Pc):hk (t::r)=t.kind:=rfl
theorem Dy:∀ N,CV N/\CI N/\CD N
 | 0=>⟨fun p v h hp=>absurd (List.eq_nil_of_length_eq_zero (by omega)) (Bm hp).1,fun p v h hp=>absurd (List.eq_nil_of_length_eq_zero (by omega)) (N1 hp),fun p k v h hp=>absurd (List.eq_nil_of_length_eq_zero (by omega)) (NY hp)⟩
 | N+1=>by
  obtain⟨hV,hI,hD⟩:=Dy N;refine⟨fun p v hl hp n d c hn=>?_,fun p ts hl hp n d c acc hn=>?_,fun p ks ts hl hp n d c ks0 ts0 hn=>?_⟩
  ·cases n with
   | zero=>exact absurd (List.eq_nil_of_length_eq_zero (by omega)) (Bm hp).1
   | succ n=>
    have hpos:=CL v;by_cases hd:24<d
    ·unfold AB;rw[if_pos hd,if_neg (by omega)]
    ·cases hp with
     | key t h=>
      have hkk:=CF h;show AB (n+1) d (t::c)=_;unfold AB;rw[if_neg hd,CN,if_pos (by omega)];simp only
      rw[if_neg (by omega),if_neg (by omega),if_neg (by omega),if_neg (by omega),if_pos h]
     | ali t h=>
      show AB (n+1) d (t::c)=_;unfold AB;rw[if_neg hd,GW,if_pos (by omega)];simp only
      rw[if_neg (by omega),if_pos h]
     | nam t p v h h2 h3 hp=>
      have hne:=(Bm hp).1;simp only[List.length_cons] at hl hn;show AB (n+1) d (t::(p++c))=_;have ih:=hV p v (by omega) hp n d c (by omega);unfold AB;rw[if_neg hd];simp only
      rw[if_pos h,D6 hne,if_neg (by omega),ih,D2];by_cases hdd:d+Ad v<=25
      ·rw[if_pos hdd,if_pos hdd]
      ·rw[if_neg hdd,if_neg hdd]
     | lst t p ts h hp=>
      simp only[List.length_cons] at hl hn;show AB (n+1) d (t::(p++c))=_;have ih:=hI p ts (by omega) hp n d c [] (by omega);unfold AB;rw[if_neg hd];simp only
      rw[if_neg (by omega),if_neg (by omega),if_pos h,ih,DJ,List.nil_append];by_cases hts:ts=[]
      ·rw[if_pos (.inl hts)];subst hts;rw[Ap,if_pos (by omega)]
      ·by_cases hdd:d+1+Ad.deepTs ts<=25
       ·rw[if_pos (.inr hdd),if_pos (by omega)]
       ·rw[if_neg (fun k=>k.elim hts hdd),if_neg (by omega)]
     | dic t p ks ts h hp=>
      simp only[List.length_cons] at hl hn;show AB (n+1) d (t::(p++c))=_;have ih:=hD p ks ts (by omega) hp n d c [] [] (by omega);unfold AB;rw[if_neg hd];simp only
      rw[if_neg (by omega),if_neg (by omega),if_neg (by omega),if_pos h,ih,Gg,List.nil_append,List.nil_append];by_cases hts:ts=[]
      ·rw[if_pos (.inl hts)];subst hts;rw[Ap,if_pos (by omega)]
      ·by_cases hdd:d+1+Ad.deepTs ts<=25
       ·rw[if_pos (.inr hdd),if_pos (by omega)]
       ·rw[if_neg (fun k=>k.elim hts hdd),if_neg (by omega)]
  ·cases n with
   | zero=>omega
   | succ n=>
    cases hp with
    | nil e h=>
     show B9 (n+1) d (e::c) acc=_;unfold B9;rw[A6,if_pos h,if_pos (.inl rfl),List.append_nil];rfl
    | last p v e hp h=>
     simp only[List.length_append,List.length_cons,List.length_nil] at hl hn;have hh:=Bm hp;have ih:=hV p v (by omega) hp n (d+1) (e::c) (by omega);rw[List.append_assoc,List.singleton_append];unfold B9;rw[D6 hh.1,if_neg (by omega),ih,Am,Ap];by_cases hdd:d+1+Ad v<=25
     ·rw[if_pos hdd,if_pos (.inr (by omega))];simp only
      rw[A6,if_neg (by omega),if_pos h];rfl
     ·rw[if_neg hdd,if_neg (fun k=>k.elim (fun k=>by cases k) (fun k=>by omega))]
    | cons p v m q ts hp h hq=>
     simp only[List.length_append,List.length_cons] at hl hn;have hh:=Bm hp;have ih:=hV p v (by omega) hp n (d+1) (m::(q++c)) (by omega);have ih2:=hI q ts (by omega) hq n d c (acc++[v]) (by omega);rw[List.append_assoc,List.cons_append];unfold B9;rw[D6 hh.1,if_neg (by omega),ih,Am];by_cases hdd:d+1+Ad v<=25
     ·rw[if_pos hdd];simp only
      rw[A6,if_pos h,List.tail_cons,ih2,List.append_assoc,List.singleton_append];by_cases hts:ts=[]
      ·subst hts;rw[if_pos (.inl rfl),Ap,if_pos (.inr (by omega))]
      ·by_cases hd2:d+1+Ad.deepTs ts<=25
       ·rw[if_pos (.inr hd2),if_pos (.inr (by omega))]
       ·rw[if_neg (fun k=>k.elim hts hd2),if_neg (fun k=>k.elim (fun k=>by cases k) (fun k=>by omega))]
     ·rw[if_neg hdd,if_neg (fun k=>k.elim (fun k=>by cases k) (fun k=>by omega))]
  ·
   have pair:∀ (p:List Pc) (x:Sc) (v:Tr),p.length<=N->PP p x v->∀ n e,2*p.length+1<=n->∀ (hke:hk e=7\/hk e=11) (ks0:List Sc) (ts0:List Tr),
     AP (n+1) d (p++e) ks0 ts0=if d+1+Ad v<=25 then (if hk e=7 then AP n d e.tail (ks0++[x]) (ts0++[v]) else .ok (BT (ks0++[x]) (ts0++[v])) e.tail) else .bad 73:=by
    intro p x v hpl hpp n e hn hke ks0 ts0;cases hpp with
    | none k c2 h hc=>
     have hkk:=CF h;show AP (n+1) d (k::c2::e) ks0 ts0=_;rw[AP];rw[A6,if_neg (by omega)];try simp only
     rw[if_neg (Decidable.not_not.2 h),A6,if_neg (Decidable.not_not.2 hc),List.tail_cons,Fb];by_cases hdd:24<d+1
     ·rw[if_pos hdd,if_neg (by omega)]
     ·rw[if_neg hdd,if_pos (show d+1+1<=25 by omega)];by_cases h7:hk e=7
      ·rw[if_pos h7,if_pos h7]
      ·rw[if_neg h7,if_neg h7,if_pos (by omega)]
    | some k c2 p v h hc hp=>
     have hkk:=CF h;have hh:=Bm hp;have hpos:=CL v;simp only[List.length_cons] at hpl hn;have ih:=hV p v (by omega) hp n (d+1) e (by omega);show AP (n+1) d (k::c2::(p++e)) ks0 ts0=_;rw[AP];rw[A6,if_neg (by omega)];try simp only
     rw[if_neg (Decidable.not_not.2 h),A6,if_neg (Decidable.not_not.2 hc),List.tail_cons,D6 hh.1];by_cases hdd:24<d+1
     ·rw[if_pos hdd,if_neg (by omega)]
     ·rw[if_neg hdd,if_neg (by omega),if_neg (by omega),ih];by_cases hd2:d+1+Ad v<=25
      ·rw[if_pos hd2,if_pos hd2];simp only
       by_cases h7:hk e=7
       ·rw[if_pos h7,if_pos h7]
       ·rw[if_neg h7,if_neg h7,if_pos (by omega)]
      ·rw[if_neg hd2,if_neg hd2]
   cases n with
   | zero=>omega
   | succ n=>
    cases hp with
    | nil e h=>
     show AP (n+1) d (e::c) ks0 ts0=_;unfold AP;rw[A6,if_pos h,if_pos (.inl rfl),List.append_nil,List.append_nil];rfl
    | last p x v e hp h=>
     simp only[List.length_append,List.length_cons,List.length_nil] at hl hn;rw[List.append_assoc,List.singleton_append,pair p x v (by omega) hp n (e::c) (by omega) (.inr h),A6,Am,Ap];by_cases hdd:d+1+Ad v<=25
     ·rw[if_pos hdd,if_neg (by omega),if_pos (.inr (by omega))];rfl
     ·rw[if_neg hdd,if_neg (fun k=>k.elim (fun k=>by cases k) (fun k=>by omega))]
    | cons p x v m q ks ts hp h hq=>
     simp only[List.length_append,List.length_cons] at hl hn;have ih2:=hD q ks ts (by omega) hq n d c (ks0++[x]) (ts0++[v]) (by omega);rw[List.append_assoc,List.cons_append,pair p x v (by omega) hp n (m::(q++c)) (by omega) (.inl h),A6,Am];by_cases hdd:d+1+Ad v<=25
     ·rw[if_pos hdd,if_pos h,List.tail_cons,ih2,List.append_assoc,List.append_assoc,List.singleton_append,List.singleton_append];by_cases hts:ts=[]
      ·subst hts;rw[if_pos (.inl rfl),Ap,if_pos (.inr (by omega))]
      ·by_cases hd2:d+1+Ad.deepTs ts<=25
       ·rw[if_pos (.inr hd2),if_pos (.inr (by omega))]
       ·rw[if_neg (fun k=>k.elim hts hd2),if_neg (fun k=>k.elim (fun k=>by cases k) (fun k=>by omega))]
     ·rw[if_neg hdd,if_neg (fun k=>k.elim (fun k=>by cases k) (fun k=>by omega))]
theorem J0 {p:List Pc} {v:Tr} (h:PV p v) (n d:Nat) (c:List Pc) (hn:2*p.length<=n):AB n d (p++c)=if d+Ad v<=25 then .ok v c else .bad 73:=
 (Dy p.length).1 p v Nr h n d c hn
theorem Fg {l:List Pc} {t:Tr} (h:PV l t):Bl l=if Ad t<=24 then (t,0) else (Ei,73):=by
 have:=J0 h (2*l.length+2) 1 [] (by omega);rw[List.append_nil] at this;unfold Bl Iu;rw[this];by_cases hd:Ad t<=24
 ·rw[if_pos (by omega),if_pos hd]
 ·rw[if_neg (by omega),if_neg hd]
end
section
theorem Fs {l:List IM} (h:∀ x∈l,0<=x.ind/\x.ind<=8000):LF l=DW l:=by
 unfold LF;rw[if_pos];rw[List.all_eq_true];intro x hx;simp[Kq,h x hx]
end
section
theorem Ca {l:List UInt8} {flow:Bool} (h:Cm l flow=true):0<l.length/\validD l=true/\(Ag l).all Ac=true/\l.getD 0 0≠32/\l.getD (l.length - 1) 0≠32∧
  Ar ET (l.getD 0 0)=false/\NH l=false/\∀ i,i<l.length->Nq l flow i=false:=by
 rw[<- Mk] at h;unfold RF Xf at h;rw[Lr] at h;simp only[Bool.and_eq_true,Bool.not_eq_true',List.isEmpty_eq_false_iff,beq_eq_false_iff_ne] at h;obtain⟨⟨h1,⟨h2,h3⟩,h4,h5,h6⟩,h7,h8⟩:=h;refine⟨List.length_pos_iff.2 h1,h2,h3,h4,h5,h6,h7,fun i hi=>?_⟩;unfold okR at h8;rw[List.all_eq_true] at h8;have:=h8 i (List.mem_range.2 hi);simpa using this
theorem Cx {l m:List UInt8} {i:Nat} (h:i<l.length) (bs:List UInt8):Cg (l++m) i bs=Ar bs (l.getD i 0):=by
 unfold Cg;rw[E6 _ _ _ h,List.length_append,decide_eq_true (by omega),Bool.true_and]
theorem Ct (a c:UInt8):Ar [a] c=(c==a):=by
 unfold Ar;rw[Bool.eq_iff_iff];simp
def GC (m:List UInt8) (d:Nat):Prop:=m=[]\/(0<d/\∃ c r,m=c::r/\Ar Cc c=true)
theorem EY {l m:List UInt8} {d i:Nat} (h:Cm l (decide (0<d))=true) (hi:i<l.length) (hc:l.getD i 0=58):AC (l++m) (i+1) d=false/\i+1<l.length:=by
 obtain⟨_,_,_,_,_,_,_,hb⟩:=Ca h;have h1:=hb i hi;unfold Nq XK at h1;rw[hc] at h1;simp only[beq_self_eq_true,Bool.true_and,Bool.or_eq_false_iff,beq_eq_false_iff_ne] at h1;have h2:i+1<l.length:=by have:=h1.1.1.1;omega
 have h3:l.getD (i+1) 0≠32:=h1.1.1.2;have h4:=hb (i+1) h2;unfold Nq at h4;simp only[Bool.or_eq_false_iff] at h4;refine⟨?_,h2⟩;unfold AC BI;rw[Cx h2,Cx h2,Ct,List.length_append,decide_eq_false (by omega),Bool.false_or,h4.2,Bool.or_false];simpa using h3
theorem QD {l m:List UInt8} {d i:Nat} (h:Cm l (decide (0<d))=true) (hi:i<l.length):EO (l++m) i d=false:=by
 obtain⟨hp,_,_,_,_,h6,_,hb⟩:=Ca h;have h1:=hb i hi;unfold Nq XK Afd at h1;simp only[Bool.or_eq_false_iff] at h1;unfold EO BA;rw[Cx hi,Cx hi,Cx hi,Ct,Ct,List.length_append,decide_eq_false (by omega),h1.2,Bool.false_or,Bool.or_false];by_cases h35:l.getD i 0=35
 ·have h58:(l.getD i 0==58)=false:=by rw[h35];rfl
  rw[h58,h35];have h2:=h1.1.2;rw[h35] at h2;cases i with
  | zero=>rw[h35] at h6;exact absurd h6 (by decide)
  | succ k=>
   rw[show k+1 - 1=k by omega] at h2 |-;rw[Cx (by omega),Ct];simpa using h2
 ·have h35':(l.getD i 0==35)=false:=by simpa using h35
  rw[h35'];by_cases h58:l.getD i 0=58
  ·rw[(EY (m:=m) h hi h58).1];simp
  ·have:(l.getD i 0==58)=false:=by simpa using h58
   rw[this];rfl
theorem QR {l m:List UInt8} {d:Nat} (h:GC m d):EO (l++m) l.length d=true:=by
 rcases h with rfl | ⟨h1,c,r,rfl,h2⟩
 ·unfold EO;simp
 ·unfold EO;have:Cg (l++c::r) l.length Cc=true:=by
   have:=A7 l (c::r) 0 Cc;rw[Nat.add_zero] at this;rw[this];unfold Cg;simpa using h2
  rw[this,decide_eq_true h1];simp
theorem GU (b l:List UInt8) (i d:Nat) (h:i≠0\/Cg l 0 [35]=false):EO (b++l) (b.length+i) d=EO l i d:=by
 unfold EO;rw[A7,A7,Nat.add_assoc,Bz,List.length_append];have h1:BA (b++l) (b.length+i)=BA l i:=by
  unfold BA;rw[A7];cases i with
  | zero=>
   have:Cg l 0 [35]=false:=by rcases h with h | h;exact absurd rfl h;exact h
   rw[this];rfl
  | succ k=>
   rw[show b.length+(k+1) - 1=b.length+k by omega,A7];rw[show(b.length+(k+1)==0)=false by rw[beq_eq_false_iff_ne];omega,show(k+1==0)=false by rw[beq_eq_false_iff_ne];omega];rfl
 rw[h1];congr 1;rw[Bool.eq_iff_iff];simp
theorem JC {l:List UInt8} {m:List UInt8} {flow:Bool} (h:Cm l flow=true):Cg (l++m) 0 [35]=false:=by
 obtain⟨hp,_,_,_,_,h6,_,_⟩:=Ca h;rw[Cx hp,Ct];rw[beq_eq_false_iff_ne];intro e;rw[e] at h6;exact absurd h6 (by decide)
theorem KI {b l m:List UInt8} {d:Nat} (h:Cm l (decide (0<d))=true) (hm:GC m d):∀ (k i:Nat),i+k=l.length->Fz (b++(l++m)) (b.length+i) d=b.length+l.length
 | 0,i,e=>by
  obtain rfl:i=l.length:=by omega
  exact Ni (by rw[GU _ _ _ _ (.inr (JC h))];exact QR hm)
 | k+1,i,e=>by
  rw[KU (by rw[GU _ _ _ _ (.inr (JC h))];exact QD h (by omega)),Nat.add_assoc];exact KI h hm k (i+1) (by omega)
theorem CU {l:List UInt8} (hp:0<l.length) (h:l.getD (l.length - 1) 0≠32):Dt l=l:=by
 obtain⟨m,c,rfl⟩:∃ m c,l=m++[c]:=⟨l.dropLast,l.getLast (List.length_pos_iff.1 hp),(List.dropLast_concat_getLast (List.length_pos_iff.1 hp)).symm⟩
 have hc:c≠32:=by
  intro e;apply h;rw[List.length_append,show m.length+[c].length - 1=m.length+0 by simp,AE,e];rfl
 unfold Dt;rw[List.reverse_append,List.reverse_singleton,List.singleton_append,List.dropWhile_cons,if_neg (by simpa using hc)];simp
theorem Le {b l m:List UInt8} {d:Nat} (h:Cm l (decide (0<d))=true) (hm:GC m d):CM (b++(l++m)) b.length d=.ok 1 l (b.length+l.length) d:=by
 obtain⟨hp,_,_,_,h5,_,_,_⟩:=Ca h;have he:Fz (b++(l++m)) b.length d=b.length+l.length:=KI h hm l.length 0 (by omega);unfold CM;have ht:Dt (((b++(l++m)).take (b.length+l.length)).drop b.length)=l:=by
  rw[List.drop_take,show b.length+l.length - b.length=l.length by omega,List.drop_left,List.take_left,CU hp h5]
 rw[he,ht,if_pos h]
theorem J1 {b l m:List UInt8} {d:Nat} (h:Cm l (decide (0<d))=true) (hm:GC m d):
  Dx (b++(l++m)) b.length d=.ok 1 l (b.length+l.length) d/\Cg (b++(l++m)) b.length [32]=false/\BA (b++(l++m)) b.length=false:=by
 obtain⟨hp,_,_,h4,h5,h6,h7,_⟩:=Ca h;have hc:(b++(l++m)).getD b.length 0=l.getD 0 0:=by
  have:=AE b (l++m) 0;rw[Nat.add_zero] at this;rw[this,E6 _ _ _ hp]
 have h35:Cg (b++(l++m)) b.length [35]=false:=by
  have:=A7 b (l++m) 0 [35];rw[Nat.add_zero] at this;rw[this,JC h]
 refine⟨?_,?_,by unfold BA;rw[h35];rfl⟩
 ·have hpl:=Le (b:=b) h hm;unfold Dx Ql;rw[hc];have hne:∀ x:UInt8,Ar ET x=true->l.getD 0 0≠x:=fun x hx e=>by rw[e,hx] at h6;cases h6
  rw[if_neg (fun e=>by rcases e with e | e<;>exact hne _ (by rfl) e),if_neg (fun e=>by rcases e with e | e<;>exact hne _ (by rfl) e)];split
  ·rename_i h45;unfold NH at h7;rw[h45] at h7;have h8:(l.length==1||l.getD 1 0==32)=false:=by simpa[Ar] using h7
   simp only[Bool.or_eq_false_iff,beq_eq_false_iff_ne] at h8;have h9:BI (b++(l++m)) (b.length+1)=false:=by
    rw[Cj];unfold BI;rw[Cx (by omega),Ct,List.length_append,decide_eq_false (by omega),Bool.false_or,beq_eq_false_iff_ne];exact h8.2
   unfold Hw;rw[h9];exact hpl
  ·split
   ·rename_i h58;unfold Fp;rw[Bz,(EY (m:=m) h hp h58).1];exact hpl
   ·rw[if_neg (fun e=>by rcases e with e | e<;>exact hne _ (by rfl) e),if_neg (fun e=>by rcases e with e | e | e<;>exact hne _ (by rfl) e)];exact hpl
 ·have:=A7 b (l++m) 0 [32];rw[Nat.add_zero] at this;rw[this,Cx hp,Ct,beq_eq_false_iff_ne];exact h4
theorem GJ:∀ (n:Nat) (l:List UInt8),l.length<=n->validD l=true->(Ag l).flatMap (fun r:Nat=>encodeRune r)=l
 | n,[],_,_=>rfl
 | 0,c::t,h,_=>by simp at h
 | n+1,c::t,h,hv=>by
  have hne:c::t≠[]:=by simp
  have hb:¬((decodeL (c::t)).1=65533/\(decodeL (c::t)).2=1):=fun h=>by rw[validD_step _ hne,if_pos h] at hv;cases hv
  have hw:=decodeL_width (c::t);rw[Av _ hne,List.flatMap_cons,GJ n _ (by rw[List.length_drop];simp at h |-;omega) (Cu _ hne hv),encode_decode _ hne hb,List.take_append_drop]
theorem H6 (r:Nat) (h:r<128):Ds 0 [Cl (r / 16),Cl (r%16)]=F r/\(Cl (r / 16)).toNat<128/\(Cl (r%16)).toNat<128∧
  32<=(Cl (r / 16)).toNat/\32<=(Cl (r%16)).toNat/\(Cl (r / 16)).toNat≠127/\(Cl (r%16)).toNat≠127:=by
 obtain⟨a1,a2,a3,a4⟩:=IC ⟨r / 16,by omega⟩;obtain⟨b1,b2,b3,b4⟩:=IC ⟨r%16,by omega⟩;refine⟨?_,a2,b2,a3,b3,a4,b4⟩;unfold Ds;rw[a1];show Ds (0*16+r / 16) [Cl (r%16)]=F r;unfold Ds;rw[b1];show F ((0*16+r / 16)*16+r%16)=F r;congr 1;omega
theorem Jr (r:Nat) (h:DZ r):0<(encodeRune (r:Int)).length:=by
 have h1:=Gy r h [];have h2:=decodeL_width (encodeRune (r:Int)++[]);rw[h1] at h2;exact h2
theorem Cp (c:UInt8) (t:List UInt8) (h:c.toNat<128):Me (c::t)=if BC [34,92,47] (c.toNat:Int) then .sign (c.toNat:Int) 1 else if (c.toNat:Int)=48 then .sign 0 1
  else if (c.toNat:Int)=120 then K2 1 (Fj t 2) else if (c.toNat:Int)=117 then K2 1 (Fj t 4) else match Cr (c.toNat:Int) with | some y=>.sign y 1 | none=>.bad 41:=by
 unfold Me;rw[if_neg (by simp),DT c t h,List.drop_one,List.tail_cons];rfl
theorem Lj {a b:UInt8} {r:Nat} (h1:Ds 0 [a,b]=F r) (hr:r<128) (m:List UInt8):Fj (a::b::m) 2=.sign r 2:=by
 have hvr:Lib.validRune (r:Int)=true:=by unfold Lib.validRune;rw[decide_eq_true_eq];omega
 have h2:Jq (a::b::m) 2=F r:=by
  unfold Jq;rw[if_neg (by simp),show(a::b::m).take 2=[a,b] from rfl,h1];simp only[hvr,if_true]
 unfold Fj;rw[h2]
theorem Jp {r:Nat} (h:DZ r) (m:List UInt8):FB 34 (A8 r++m)=.sign r (A8 r).length:=by
 have e92:∀ t:List UInt8,FB 34 (92::t)=K2 1 (Me t):=fun t=>by
  unfold FB;rw[if_neg (by simp),DT _ _ (by decide),if_neg (by decide),if_pos ⟨rfl,rfl⟩];rfl
 unfold A8;split
 ·rename_i e;subst e;rw[show[(92:UInt8),110]++m=92::110::m from rfl,e92,Cp _ _ (by decide)];simp[BC,Cr,K2]
 ·split
  ·rename_i e;subst e;rw[show[(92:UInt8),116]++m=92::116::m from rfl,e92,Cp _ _ (by decide)];simp[BC,Cr,K2]
  ·split
   ·rename_i e;subst e;rw[show[(92:UInt8),114]++m=92::114::m from rfl,e92,Cp _ _ (by decide)];simp[BC,Cr,K2]
   ·split
    ·rename_i e;rcases e with rfl | rfl
     ·rw[show[(92:UInt8),UInt8.ofNat 34]++m=92::34::m from rfl,e92,Cp _ _ (by decide)];simp[BC,Cr,K2]
     ·rw[show[(92:UInt8),UInt8.ofNat 92]++m=92::92::m from rfl,e92,Cp _ _ (by decide)];simp[BC,Cr,K2]
    ·rename_i hq;split
     ·rename_i hp;have h0:=Jr r h;have hd:=Gy r h m;have hne:encodeRune (r:Int)++m≠[]:=by intro e;rw[List.append_eq_nil_iff] at e;rw[e.1] at h0;simp at h0
      have hr:BV (encodeRune (r:Int)++m)=(r:Int):=by unfold BV;rw[if_neg hne,hd];simp
      unfold FB;rw[if_neg (fun e=>hne (List.length_eq_zero_iff.1 e)),hr,if_neg (by omega),if_neg (by omega),hd];unfold Ac at hp;rw[if_pos hp]
     ·rename_i hp;have hlt:=GY (by simpa using hp);obtain⟨h1,h2,h3,_⟩:=H6 r hlt;rw[show[(92:UInt8),120,Cl (r / 16),Cl (r%16)]++m=92::120::Cl (r / 16)::Cl (r%16)::m from rfl,e92,Cp _ _ (by decide),if_neg (by simp[BC]),if_neg (by simp),if_pos (by simp)];have hn:Fj (Cl (r / 16)::Cl (r%16)::m) 2=.sign r 2:=Lj h1 (by omega) m;rw[hn];simp[K2]
theorem Lb {r:Nat} (h:DZ r):1<=(A8 r).length:=by
 unfold A8
 repeat' split
 all_goals first | (have:=Jr r h;omega) | simp
theorem Ff (m:List UInt8):∀ (rs:List Nat) (f:Nat) (acc:List UInt8) (n:Nat),(∀ r∈rs,DZ r)->rs.length<f→
  Dw 34 f (rs.flatMap A8++34::m) acc n=(acc++rs.flatMap (fun r:Nat=>encodeRune r),n+(rs.flatMap A8).length+1,0)
 | [],0,_,_,_,h=>by simp at h
 | [],f+1,acc,n,_,_=>by
  unfold Dw;have:FB 34 ([].flatMap A8++34::m)=.fin 1:=by
   unfold FB;rw[List.flatMap_nil,List.nil_append,if_neg (by simp),DT _ _ (by decide)];simp
  rw[this];simp
 | r::rs,0,_,_,_,h=>by simp at h
 | r::rs,f+1,acc,n,h,hf=>by
  have hr:=h r (List.mem_cons_self ..);have h1:=Jp hr (rs.flatMap A8++34::m);unfold Dw;rw[List.flatMap_cons,List.append_assoc,h1];show Dw 34 f ((A8 r++(rs.flatMap A8++34::m)).drop (A8 r).length) (acc++encodeRune r) (n+(A8 r).length)=_;rw[List.drop_left,Ff m rs f _ _ (fun x hx=>h x (List.mem_cons_of_mem _ hx)) (by simp at hf;omega)];simp[Nat.add_assoc]
theorem K3:∀ rs:List Nat,(∀ r∈rs,DZ r)->rs.length<=(rs.flatMap A8).length
 | [],_=>by simp
 | r::rs,h=>by
  have h1:=Lb (h r (List.mem_cons_self ..));have h2:=K3 rs (fun x hx=>h x (List.mem_cons_of_mem _ hx));rw[List.flatMap_cons,List.length_append,List.length_cons];omega
theorem Lw {r:Nat} (h:DZ r) (m:List UInt8):validD (encodeRune (r:Int)++m)=validD m/\Ag (encodeRune (r:Int)++m)=r::Ag m:=by
 have h0:=Jr r h;have hd:=Gy r h m;have hne:encodeRune (r:Int)++m≠[]:=by intro e;rw[List.append_eq_nil_iff] at e;rw[e.1] at h0;simp at h0
 constructor
 ·rw[validD_step _ hne,hd,if_neg,List.drop_left];rintro⟨h1,h2⟩;have:=MG (r:Int) h1;omega
 ·rw[Av _ hne,hd,List.drop_left];simp
theorem AV {c:UInt8} (hc:c.toNat<128) (h1:32<=c.toNat) (h2:c.toNat≠127) (m:List UInt8):validD (c::m)=validD m/\(Ag (c::m)).all Ac=(Ag m).all Ac:=by
 refine⟨validD_cons c m hc,?_⟩;rw[AU c m hc,List.all_cons];have:Ac c.toNat=true:=by unfold Ac BW;simp;omega
 rw[this,Bool.true_and]
theorem Cn (c:UInt8) (hc:c.toNat<128) (h1:32<=c.toNat) (h2:c.toNat≠127) (m:List UInt8):validD (92::c::m)=validD m/\(Ag (92::c::m)).all Ac=(Ag m).all Ac:=by
 obtain⟨a1,a2⟩:=AV (c:=92) (by decide) (by decide) (by decide) (c::m);obtain⟨b1,b2⟩:=AV hc h1 h2 m;exact⟨a1.trans b1,a2.trans b2⟩
theorem Ib {r:Nat} (h:DZ r) (m:List UInt8):validD (A8 r++m)=validD m/\(Ag (A8 r++m)).all Ac=(Ag m).all Ac:=by
 unfold A8;split
 ·exact Cn 110 (by decide) (by decide) (by decide) m
 ·split
  ·exact Cn 116 (by decide) (by decide) (by decide) m
  ·split
   ·exact Cn 114 (by decide) (by decide) (by decide) m
   ·split
    ·rename_i e;rcases e with rfl | rfl
     ·exact Cn 34 (by decide) (by decide) (by decide) m
     ·exact Cn 92 (by decide) (by decide) (by decide) m
    ·split
     ·rename_i hp;obtain⟨a,b⟩:=Lw h m;exact⟨a,by rw[b,List.all_cons,hp,Bool.true_and]⟩
     ·rename_i hp;have hlt:=GY (by simpa using hp);obtain⟨_,h2,h3,h4,h5,h6,h7⟩:=H6 r hlt;obtain⟨a1,a2⟩:=Cn 120 (by decide) (by decide) (by decide) (Cl (r / 16)::Cl (r%16)::m);obtain⟨b1,b2⟩:=AV h2 h4 h6 (Cl (r%16)::m);obtain⟨c1,c2⟩:=AV h3 h5 h7 m;exact⟨a1.trans (b1.trans c1),a2.trans (b2.trans c2)⟩
theorem FY (m:List UInt8):∀ rs:List Nat,(∀ r∈rs,DZ r)->validD (rs.flatMap A8++m)=validD m/\(Ag (rs.flatMap A8++m)).all Ac=(Ag m).all Ac
 | [],_=>⟨rfl,rfl⟩
 | r::rs,h=>by
  obtain⟨a,b⟩:=Ib (h r (List.mem_cons_self ..)) (rs.flatMap A8++m);obtain⟨c,d⟩:=FY m rs (fun x hx=>h x (List.mem_cons_of_mem _ hx));rw[List.flatMap_cons,List.append_assoc];exact⟨a.trans c,b.trans d⟩
theorem Ir {l:List UInt8} (hv:validD l=true) (m:List UInt8):validD (Ae l++m)=validD m/\(Ag (Ae l++m)).all Ac=(Ag m).all Ac:=by
 unfold Ae;rw[List.cons_append,List.append_assoc];obtain⟨a1,a2⟩:=AV (c:=34) (by decide) (by decide) (by decide) ((Ag l).flatMap A8++([34]++m));obtain⟨b1,b2⟩:=FY ([34]++m) (Ag l) (E8 _ l Nr hv);obtain⟨c1,c2⟩:=AV (c:=34) (by decide) (by decide) (by decide) m;exact⟨a1.trans (b1.trans c1),a2.trans (b2.trans c2)⟩
theorem H9 {l:List UInt8} (hv:validD l=true) (b m:List UInt8) (hbm:validD (b++(Ae l++m))=true):
  D1 ⟨(b++(Ae l++m)).toArray⟩ (b.length:Int)=(l,b.length+(Ae l).length,0):=by
 have hs:=E8 _ l Nr hv;have hq:Iv (b++(Ae l++m)) b.length 34:=by
  refine⟨by simp[Ae],.inl ⟨?_,rfl⟩⟩;have:=AE b (Ae l++m) 0;rw[Nat.add_zero] at this;rw[this];rfl
 have hfl:=K3 _ hs;rw[Mm hq hbm,<- List.drop_drop,List.drop_left];have hd:(Ae l++m).drop 1=(Ag l).flatMap A8++34::m:=by unfold Ae;simp
 have hfuel:(Ag l).length<(b++(Ae l++m)).length+1 - (b.length+1):=by
  unfold Ae;rw[List.length_append,List.length_append,List.length_cons,List.length_append];omega
 rw[hd,Ff m (Ag l) _ _ _ hs hfuel,GJ _ l Nr hv];unfold Ae;simp;omega
end
section
section
variable (ρ:Int->Int)
end
theorem C1 {a r:List UInt8} (h:validD (a++10::r)=true):validD a=true/\validD r=true:=by
 have h1:=B0 10 (by decide) r _ a Nr h;refine⟨h1,?_⟩;have h2:=Bj _ a (10::r) Nr h1;rw[h] at h2;rw[<- validD_cons 10 r (by decide)];exact h2.symm
end
section
def AI (b m:List UInt8) (d:Nat):List TP:=BH (b++m) b.length d
theorem ZE (b m:List UInt8):(b++m).getD b.length 0=m.getD 0 0:=by have:=AE b m 0;rwa [Nat.add_zero] at this
theorem Hq (b m:List UInt8) (bs:List UInt8):Cg (b++m) b.length bs=Cg m 0 bs:=by have:=A7 b m 0 bs;rwa [Nat.add_zero] at this
theorem Cf (c:UInt8) (m:List UInt8) (bs:List UInt8):Cg (c::m) 0 bs=Ar bs c:=by
 unfold Cg;simp
theorem II (b:List UInt8) (d:Nat):AI b [] d=[]:=IE d (by simp)
theorem C0 {b m:List UInt8} (hv:validD (b++32::m)=true) (d:Nat):AI b (32::m) d=AI (b++[32]) m d:=by
 unfold AI;rw[Gn hv (by simp) (by rw[Hq,Cf];rfl)];simp
theorem DX {b m:List UInt8} {c:UInt8} {d k d':Nat} (hv:validD (b++c::m)=true) (h32:Ar [32] c=false) (h35:Ar [35] c=false) (ho:Dx (b++c::m) b.length d=.ok k [] (b.length+1) d'):AI b (c::m) d=.tok k [] b.length::AI (b++[c]) m d':=by
 unfold AI;rw[DH hv (by simp) (by rw[Hq,Cf];exact h32) (by unfold BA;rw[Hq,Cf,h35];rfl) ho];simp
theorem Hg {b m:List UInt8} (c:UInt8) (hc:c=91\/c=123) (hv:validD (b++c::m)=true) (d:Nat):AI b (c::m) d=.tok (if c=91 then 8 else 10) [] b.length::AI (b++[c]) m (d+1):=by
 refine DX hv (by rcases hc with rfl | rfl<;>rfl) (by rcases hc with rfl | rfl<;>rfl) ?_;unfold Dx;rw[ZE];rcases hc with rfl | rfl<;>rfl
theorem Iy {b m:List UInt8} (c:UInt8) (hc:c=44\/c=93\/c=125) (hv:validD (b++c::m)=true):AI b (c::m) 1=.tok (if c=44 then 7 else if c=93 then 9 else 11) [] b.length::AI (b++[c]) m (if c=44 then 1 else 0):=by
 refine DX hv (by rcases hc with rfl | rfl | rfl<;>rfl) (by rcases hc with rfl | rfl | rfl<;>rfl) ?_;unfold Dx;rw[ZE];rcases hc with rfl | rfl | rfl<;>rfl
theorem Id {b m:List UInt8} (hv:validD (b++58::32::m)=true) (d:Nat):AI b (58::32::m) d=.tok 6 [] b.length::AI (b++[58]) (32::m) d:=by
 refine DX hv rfl rfl ?_;unfold Dx;rw[ZE];show Fp (b++58::32::m) b.length d=_;unfold Fp;rw[if_pos];rw[Bz b (58::32::m) 1 d];unfold AC BI Cg;simp[Ar]
theorem Fi {l:List UInt8} (hv:validD l=true) (b m:List UInt8) (d:Nat) (hbm:validD (b++(Ae l++m))=true) (hm:(AC m 0 d||Cg m 0 [58])=true):
  AI b (Ae l++m) d=.tok 2 l b.length::AI (b++Ae l) m d:=by
 have hr:=H9 hv b m hbm;have hc:(b++(Ae l++m)).getD b.length 0=34:=by rw[ZE];rfl
 have hi:∀ bs,Cg (Ae l++m) 0 bs=Ar bs 34:=fun bs=>by
  rw[Cx (by simp[Ae])];rfl
 have ho:Dx (b++(Ae l++m)) b.length d=.ok 2 l (b.length+(Ae l).length) d:=by
  unfold Dx Ql;rw[hc,if_pos (.inl rfl)];unfold Ht;rw[hr];have h1:=Bz (b++Ae l) m 0 d;have h2:=A7 (b++Ae l) m 0 [58];rw[List.append_assoc,Nat.add_zero,List.length_append] at h1 h2;simp only[if_true]
  rw[h1,h2,hm];simp
 unfold AI;rw[DH hbm (by simp[Ae]) (by rw[Hq,hi];rfl) (by unfold BA;rw[Hq,hi];rfl) ho];simp
def kn:TP->TP
 | .tok k t _=>.tok k t 0
 | .bad e _=>.bad e 0
def Oz:List TP->Bool
 | []=>true
 | .tok _ _ _::r=>Oz r
 | .bad _ _::_=>false
theorem Gz:∀ {ps:List TP},Oz ps=true->DK ps=O
 | [],_=>rfl
 | .tok _ _ _::r,h=>Gz (ps:=r) h
 | .bad _ _::_,h=>by cases h
theorem Nx:∀ ps:List TP,Oz (ps.map kn)=Oz ps
 | []=>rfl
 | .tok _ _ _::r=>Nx r
 | .bad _ _::_=>rfl
def O7:TP->Pc
 | .tok k t _=>⟨k,t⟩
 | .bad _ _=>⟨0,[]⟩
theorem Ia:∀ ps:List TP,Oz ps=true->IT ((ps.map J7).map LX)=(ps.map kn).map O7
 | [],_=>rfl
 | .tok k t p::r,h=>by
  have:=Ia r h;unfold IT at this |-;simp only[List.map_cons]
  rw[this];rfl
 | .bad _ _::_,h=>by cases h
theorem GP {l:List UInt8} {ps:List TP} (hv:validD l=true) (hp:(Ag l).all Ac=true) (ht:BH l 0 0=ps) (hk:Oz ps=true) (hne:ps≠[]):Du l=((ps.map J7).map LX,0):=by
 unfold Du BP;rw[if_pos hv,if_pos hp,ht,FZ,Gz hk];simp[hne]
end
section
def Af (l:List UInt8):Prop:=validD l=true/\(Ag l).all Ac=true
theorem Af.cons {c:UInt8} (hc:c.toNat<128) (h1:32<=c.toNat) (h2:c.toNat≠127) {m:List UInt8} (h:Af m):Af (c::m):=by
 have:=AV hc h1 h2 m;exact⟨this.1.trans h.1,this.2.trans h.2⟩
theorem Af.quote {l m:List UInt8} (hv:validD l=true) (h:Af m):Af (Ae l++m):=by
 have:=Ir hv m;exact⟨this.1.trans h.1,this.2.trans h.2⟩
theorem Af.nil:Af []:=⟨rfl,rfl⟩
def LZ (l:List UInt8):Pc:=⟨2,l⟩
theorem IK {l:List UInt8} (hv:validD l=true):B3 (LZ l)=(⟨3,0,⟨l.toArray⟩⟩,0):=by
 unfold B3 LZ;rw[if_neg (show ¬(2:Int)=1 by decide),if_pos rfl,if_pos hv]
def DE (l:List UInt8):Sc:=⟨3,0,⟨l.toArray⟩⟩
theorem KP {Fz:Nat} (c:UInt8) (m:List UInt8) (no:Int) {ps:List TP} {t:Tr} (hc:c=91\/c=123) (hF:1<=Fz) (hr:Af (c::m)) (hp:(AI [c] m 1).map kn=ps) (hok:Oz ps=true) (hPV:PV ((⟨if c=91 then 8 else 10,[]⟩:Pc)::ps.map O7) t) (hd:Ad t<=24):AZ Fz [⟨no,0,c::m⟩]=(t,0,0):=by
 obtain⟨Fz,rfl⟩:∃ G,Fz=G+1:=⟨Fz - 1,by omega⟩
 have e1:=Hg (b:=[]) (m:=m) c hc (by exact hr.1) 0;have hok2:Oz (AI ([]++[c]) m (0+1))=true:=by rw[<- Nx];rw[show(AI ([]++[c]) m (0+1)).map kn=ps from hp];exact hok
 have h1:=GP (l:=c::m) hr.1 hr.2 (ps:=_) e1 (by exact hok2) (by simp);have hpcs:IT (((TP.tok (if c=91 then 8 else 10) [] (List.length ([]:List UInt8))::AI ([]++[c]) m (0+1)).map J7).map LX)=(⟨if c=91 then 8 else 10,[]⟩:Pc)::ps.map O7:=by
  rw[Ia _ (by exact hok2),List.map_cons,List.map_cons,show(AI ([]++[c]) m (0+1)).map kn=ps from hp];simp only[kn,O7]
  rcases hc with rfl | rfl<;>rfl
 unfold AZ;rw[Fs (by intro x hx;rw[List.mem_singleton.1 hx];exact⟨by show(0:Int)<=0;omega,by show(0:Int)<=8000;omega⟩),DW,DW];simp only
 rw[h1];simp only
 rw[if_neg (by decide)];show CK (Fz+1) [_]=_;unfold CK;rw[if_neg (by simp),AF];simp only
 rw[if_neg (by decide)];obtain⟨tk,htk⟩:∃ tk,((TP.tok (if c=91 then 8 else 10) [] (List.length ([]:List UInt8))::AI ([]++[c]) m (0+1)).map J7).map LX=tk:=⟨_,rfl⟩
 rw[htk] at hpcs |-;have hb:Ck tk=.plain:=by
  cases tk with
  | nil=>rw[show IT ([]:List C8)=[] from rfl] at hpcs;cases hpcs
  | cons a r=>
   have h2:(⟨a.kind,a.str⟩:Pc)=⟨if c=91 then 8 else 10,[]⟩:=by unfold IT at hpcs;injection hpcs
   injection h2 with h2 _;unfold Ck Zt;rcases hc with rfl | rfl<;>simp at h2<;>simp[h2]
 rw[hb];simp only
 unfold C9;rw[hpcs,Fg hPV,if_pos hd,if_neg (by decide),if_neg (by simp),if_neg (by simp only;omega)];rfl
theorem Ky:∀ rs:List Nat,(rs.flatMap A8).length<=4*rs.length
 | []=>by simp
 | r::rs=>by
  have h1:=MS r;have h2:=Ky rs;rw[List.flatMap_cons,List.length_append,List.length_cons];omega
theorem H8:∀ (n:Nat) (l:List UInt8),l.length<=n->(Ag l).length<=l.length
 | n,[],_=>by simp[GQ]
 | 0,c::t,h=>by simp at h
 | n+1,c::t,h=>by
  have hne:c::t≠[]:=by simp
  have hw:=decodeL_width (c::t);have hl:(c::t).length<=n+1:=h;have ih:=H8 n ((c::t).drop (decodeL (c::t)).2) (by rw[List.length_drop];omega);rw[List.length_drop] at ih;rw[Av _ hne,List.length_cons];have:0<(c::t).length:=by simp
  omega
theorem EG (l:List UInt8):(Ae l).length<=4*l.length+2:=by
 have h1:=Ky (Ag l);have h2:=H8 _ l Nr;unfold Ae;simp only[List.length_cons,List.length_append,List.length_nil]
 omega
end
section
theorem CT {r:List UInt8} (h:Af r):10∉r:=fun hm=>by
 have hs:=(CE r).1 hm;have hv:=h.1;rw[hs] at hv;have ha:=(C1 hv).1;have hp:=h.2;rw[hs,B6 _ _ _ Nr ha,AU _ _ (by decide),List.all_append,List.all_cons] at hp;have:Ac (10:UInt8).toNat=false:=rfl;rw[this] at hp;simp at hp
theorem DS {r:List UInt8} (h:Af r) (hm:B7 r=false):Ax r=0:=by
 unfold Ax Bd;rw[h.2,hm];rfl
theorem Ep {r:List UInt8} {rs:List (List UInt8)} {k:Nat} {acc:List Sc} (h:Af r) (hm:B7 r=false) (hs:AO r=true):BB (BG k (r::rs)) acc=BB (BG (k+1) rs) (acc++[AN k r]):=by
 rw[Ba,Bc,if_neg (by rw[DS h hm];decide),hs,if_pos rfl]
theorem FV {Fz:Nat} {r m:List UInt8} (hr:Af r) (hmk:B7 r=false) (hs:AO r=true) (hl:r.length<=7000) (hm:m=[]\/m=[10]):A3 Fz (r++m)=AZ Fz [BM (AN 1 r)]:=by
 have hne:r≠[]:=fun e=>by rw[e] at hs;cases hs
 have hno:=CT hr;have hrows:Be (r++m)=[r]:=by
  rcases hm with rfl | rfl
  ·rw[List.append_nil];exact FW hno hne
  ·rw[DM hno,CO]
 have hv:validD (r++m)=true:=by
  rw[Bj _ r m Nr hr.1];rcases hm with rfl | rfl<;>rfl
 have hml:m.length<=1:=by rcases hm with rfl | rfl<;>decide
 have hsp:Ao (r++m)=([AN 1 r],0,0):=by
  unfold Ao;rw[if_neg (by rw[List.length_append];omega),if_pos hv,hrows,Ep hr hmk hs];rfl
 unfold A3;rw[hsp,if_neg (fun h=>h rfl)];rfl
theorem Gp {c:UInt8} {r:List UInt8} (k:Nat) (hc:c≠32) (he:(c::r).getD r.length 0≠32):AN k (c::r)=⟨k,0,⟨(c::r).toArray⟩⟩:=by
 have h1:AK (c::r)=c::r:=by
  unfold AK Lib.trimLeftB;rw[List.dropWhile_cons,if_neg (by simpa using hc)]
 unfold AN;rw[h1,CU (by simp) (by simpa using he)];congr 1;omega
theorem Gw {c:UInt8} {r:List UInt8} (hc:c≠32) (h35:c≠35):AO (c::r)=true:=by
 have h1:AK (c::r)=c::r:=by
  unfold AK Lib.trimLeftB;rw[List.dropWhile_cons,if_neg (by simpa using hc)]
 unfold AO;rw[h1];simpa using h35
theorem Gu {c:UInt8} {r:List UInt8} (h1:c≠45) (h2:c≠46):B7 (c::r)=false:=by
 simp[B7,BZ,Lib.hasPrefix,List.isPrefixOf,Ne.symm h1,Ne.symm h2]
theorem Ho (k n:Int) (l:List UInt8):BM ⟨k,n,⟨l.toArray⟩⟩=⟨k,n,l⟩:=rfl
theorem PZ {a b x y:Sc} (ha:A4 a=true) (hb:A4 b=true) (hx:A4 x=true) (hy:A4 y=true):Al AD (BT [a,b] [BX x,BX y])=if a=b then (G8,101) else (⟨0,[⟨2,AJ,[a,b],[1,2]⟩,⟨0,x,[],[]⟩,⟨0,y,[],[]⟩]⟩,0):=by
 have:BO AD 1 (BT [a,b] [BX x,BX y]) ⟨[],[]⟩=if a=b then (⟨[],[]⟩,0,101) else (⟨[⟨2,AJ,[a,b],[1,2]⟩,⟨0,x,[],[]⟩,⟨0,y,[],[]⟩],[]⟩,0,0):=by
  by_cases e:a=b
  ·subst e;simp[BO,D3,BX,BT,AD,BY,F7,BD,Fv,Nw,Uz,ha,hx,hy,St.node,St.kid]
  ·simp[BO,D3,BX,BT,AD,BY,F7,BD,Fv,Nw,Uz,ha,hb,hx,hy,St.node,St.kid,e]
 unfold Al;rw[this];by_cases e:a=b
 ·simp[e]
 ·simp[e]
theorem Ec {Fz:Nat} {s:List UInt8} {t:Tr} (h:A3 Fz s=(t,0,0)):Aq AD Fz s=((Al AD t).1,0,(Al AD t).2):=by
 unfold Aq;rw[h,if_neg (fun h=>h rfl)]
theorem IF {l:List UInt8} (h:validD l=true):A4 (DE l)=true:=by
 unfold A4 DE;simp[h]
theorem I0 {l:List UInt8} {d:Nat} (h:Cm l (decide (0<d))=true) (b m:List UInt8) (hm:GC m d) (hv:validD (b++(l++m))=true):AI b (l++m) d=.tok 1 l b.length::AI (b++l) m d:=by
 obtain⟨h1,h2,h3⟩:=J1 (b:=b) h hm;have hp:=(Ca h).1;unfold AI;rw[DH hv (by simp;omega) h2 h3 h1];simp
end
section
section
variable {P:Program} {n:Nat} {ds:List Deferred} {d:Bool} {ops:Array Oper} {K:Act->Y->Prop} {i:Nat} {pl pend:List Nat} {S:Y->Prop} {l:Env}
 {t:Nat} {ty:TypeId} {ps:String} {af:Array Edge} {gd:Option (Nat×Bool)}
end
theorem Hk (s:ByteArray) (k:Nat):(s.extract 0 k).size<=k:=by rw[ByteArray.size_extract];omega
end
section
def C6 (c:UInt8):Sc:=⟨2,(c.toNat:Int) - 48,⟨#[]⟩⟩
theorem Aeh:Ay ⟨#[49]⟩=(C6 49,0):=by kernel_rfl
theorem Ad8:Ay ⟨#[50]⟩=(C6 50,0):=by kernel_rfl
theorem Mt:Cm [49] false=true/\Cm [49] true=true/\Cm [50] false=true/\Cm [50] true=true:=⟨by kernel_rfl,by kernel_rfl,by kernel_rfl,by kernel_rfl⟩
theorem Mx:B3 ⟨1,[49]⟩=(C6 49,0)/\B3 ⟨1,[50]⟩=(C6 50,0):=by
 unfold B3;rw[if_pos rfl,if_pos rfl,show(⟨([49]:List UInt8).toArray⟩:ByteArray)=⟨#[49]⟩ from rfl,show(⟨([50]:List UInt8).toArray⟩:ByteArray)=⟨#[50]⟩ from rfl,Aeh,Ad8];exact⟨rfl,rfl⟩
def OZ (a b:List UInt8):Tr:=BT [DE a,DE b] [BX (C6 49),BX (C6 50)]
theorem Aac (c:UInt8) (h:c=49\/c=50):PV [⟨1,[c]⟩] (BX (C6 c)):=by
 rcases h with rfl | rfl
 ·have:=PV.key ⟨1,[49]⟩ (by rw[Mx.1]);rw[Mx.1] at this;exact this
 ·have:=PV.key ⟨1,[50]⟩ (by rw[Mx.2]);rw[Mx.2] at this;exact this
theorem ZY {a:List UInt8} (ha:validD a=true) (c:UInt8) (h:c=49\/c=50):PP [LZ a,⟨6,[]⟩,⟨1,[c]⟩] (DE a) (BX (C6 c)):=by
 have:=PP.some (LZ a) ⟨6,[]⟩ [⟨1,[c]⟩] (BX (C6 c)) (by rw[IK ha]) rfl (Aac c h);rw[IK ha] at this;exact this
def Ci (a b:List UInt8):List UInt8:=Ae a++58::32::([49]++44::32::(Ae b++58::32::([50]++[125])))
theorem Aay {Fz:Nat} {a b:List UInt8} (ha:validD a=true) (hb:validD b=true):AZ (Fz+1) [⟨1,0,123::Ci a b⟩]=(OZ a b,0,0):=by
 have hr0:Af (58::32::([50]++[125])):=Af.cons (by decide) (by decide) (by decide) (Af.cons (by decide) (by decide) (by decide) (Af.cons (by decide) (by decide) (by decide) (Af.cons (by decide) (by decide) (by decide) Af.nil)));have hr1:Af (58::32::([49]++44::32::(Ae b++58::32::([50]++[125])))):=Af.cons (by decide) (by decide) (by decide) (Af.cons (by decide) (by decide) (by decide) (Af.cons (by decide) (by decide) (by decide) (Af.cons (by decide) (by decide) (by decide) (Af.cons (by decide) (by decide) (by decide) (Af.quote hb hr0)))));have hr:Af (123::Ci a b):=Af.cons (by decide) (by decide) (by decide) (Af.quote ha hr1);have hv:validD ([123]++Ci a b)=true:=hr.1;have hp:(AI [123] (Ci a b) 1).map kn=[.tok 2 a 0,.tok 6 [] 0,.tok 1 [49] 0,.tok 7 [] 0,.tok 2 b 0,.tok 6 [] 0,.tok 1 [50] 0,.tok 11 [] 0]:=by
  unfold Ci at hv |-;rw[Fi ha _ _ 1 hv (by rw[Cf];simp[Ar]),Id (by simpa using hv),C0 (by simpa using hv),I0 (by exact Mt.2.1) _ _ (.inr ⟨by decide,44,_,rfl,rfl⟩) (by simpa using hv),Iy 44 (.inl rfl) (by simpa using hv),if_pos rfl,if_pos rfl,C0 (by simpa using hv),
   Fi hb _ _ 1 (by simpa using hv) (by rw[Cf];simp[Ar]),Id (by simpa using hv),C0 (by simpa using hv),I0 (by exact Mt.2.2.2) _ _ (.inr ⟨by decide,125,_,rfl,rfl⟩) (by simpa using hv),Iy 125 (.inr (.inr rfl)) (by simpa using hv),II]
  rfl
 refine KP 123 (Ci a b) 1 (.inr rfl) (by omega) hr hp rfl (PV.dic _ _ _ _ rfl (PD.cons [LZ a,⟨6,[]⟩,⟨1,[49]⟩] _ _ ⟨7,[]⟩ _ _ _ (ZY ha 49 (.inl rfl)) rfl (PD.last [LZ b,⟨6,[]⟩,⟨1,[50]⟩] _ _ ⟨11,[]⟩ (ZY hb 50 (.inr rfl)) rfl))) ?_;unfold OZ;rw[Gg,Am,Am,Ap,CN,CN];decide
def CX (a:List UInt8) (c:UInt8):List UInt8:=Ae a++58::32::[c]
theorem KY {a:List UInt8} (ha:validD a=true) (c:UInt8) (h:c=49\/c=50):Af (CX a c):=by
 refine Af.quote ha (Af.cons (by decide) (by decide) (by decide) (Af.cons (by decide) (by decide) (by decide) (Af.cons ?_ ?_ ?_ Af.nil)))<;>rcases h with rfl | rfl<;>decide
theorem PM {a:List UInt8} (ha:validD a=true) (c:UInt8) (h:c=49\/c=50):Du (CX a c)=([⟨2,a,0⟩,⟨6,[],(Ae a).length⟩,⟨1,[c],(Ae a).length+2⟩],0):=by
 have hr:=KY ha c h;have hv:validD ([]++(Ae a++58::32::[c]))=true:=hr.1;have hm:Cm [c] (decide (0<0))=true:=by rcases h with rfl | rfl;exact Mt.1;exact Mt.2.2.1
 have e4:AI ([]++Ae a++[58]++[32]) [c] 0=.tok 1 [c] ([]++Ae a++[58]++[32]).length::AI ([]++Ae a++[58]++[32]++[c]) [] 0:=by
  have:=I0 (d:=0) hm ([]++Ae a++[58]++[32]) [] (.inl rfl) (by simpa using hv)
  rwa [List.append_nil] at this
 refine GP hr.1 hr.2 (ps:=[.tok 2 a 0,.tok 6 [] (Ae a).length,.tok 1 [c] ((Ae a).length+2)]) ?_ rfl (by simp);rw[show BH (CX a c) 0 0=AI [] (Ae a++58::32::[c]) 0 from rfl,Fi ha _ _ 0 hv (by simp[Cf,Ar]),Id (by simpa using hv),C0 (by simpa using hv),e4,II];simp
theorem Zz {Fz:Nat} {a b:List UInt8} (ha:validD a=true) (hb:validD b=true):AZ (Fz+6) [⟨1,0,CX a 49⟩,⟨2,0,CX b 50⟩]=(OZ a b,0,0):=by
 have hk:∀ (l:List UInt8),validD l=true->∀ (n m:Int) (c:List UInt8),EA [⟨2,l,0⟩,⟨6,[],n⟩,⟨1,c,m⟩]=(DE l,0):=fun l hl n m c=>IK hl;have hbg:∀ (l:List UInt8) (n m:Int) (c:List UInt8),Ck [⟨2,l,0⟩,⟨6,[],n⟩,⟨1,c,m⟩]=.key:=fun l n m c=>by unfold Ck Zt;simp
 have hpl:∀ (c:List UInt8) (m:Int),Ck [⟨1,c,m⟩]=.plain:=fun c m=>by unfold Ck Zt;simp[WK]
 have hw:∀ (c:UInt8) (m no:Int) (r:List En),(c=49\/c=50)->C9 no [⟨1,[c],m⟩] 2 r=.ok (BX (C6 c)) r:=fun c m no r hc=>by
  have hwh:Bl [⟨1,[c]⟩]=(BX (C6 c),0):=by rw[Fg (Aac c hc),if_pos (by rw[CN];decide)]
  unfold C9;rw[show IT ([⟨1,[c],m⟩]:List C8)=[⟨1,[c]⟩] from rfl,hwh,if_neg (by decide),if_neg (by simp),if_neg (by simp only;rw[CN];decide)]
 unfold AZ;rw[Fs (by intro x hx;simp at hx;rcases hx with rfl | rfl<;>exact⟨by show(0:Int)<=0;decide,by show(0:Int)<=8000;decide⟩),DW,DW,DW];simp only
 rw[PM ha 49 (.inl rfl),PM hb 50 (.inr rfl)];simp only
 rw[if_neg (by decide),if_neg (by decide)];show CK (Fz+6) [_,_]=_;unfold CK;rw[if_neg (by simp),AF];simp only
 rw[if_neg (by decide),hbg];simp only
 rw[AL];simp only
 rw[hbg,if_pos (by simp),hk a ha];simp only
 rw[if_neg (by decide),B8];simp only[List.drop_succ_cons,List.drop_zero]
 rw[hpl];simp only
 rw[if_neg (by simp),hw 49 _ _ _ (.inl rfl)];simp only[BR.bind]
 rw[AL];simp only
 rw[hbg,if_pos (by simp),hk b hb];simp only
 rw[if_neg (by decide),B8];simp only[List.drop_succ_cons,List.drop_zero]
 rw[hpl];simp only
 rw[if_neg (by simp),hw 50 _ _ _ (.inr rfl)];simp only[BR.bind]
 rw[AL];rfl
theorem YQ {r1 r2:List UInt8} (h1:Af r1) (h2:Af r2) (m1:B7 r1=false) (m2:B7 r2=false) (s1:AO r1=true) (s2:AO r2=true) (l1:r1.length<=2000) (l2:r2.length<=2000):Ao (r1++10::(r2++[10]))=([AN 1 r1,AN 2 r2],0,0):=by
 have hv:validD (r1++10::(r2++[10]))=true:=by
  rw[Bj _ _ _ Nr h1.1,validD_cons _ _ (by decide),Bj _ _ _ Nr h2.1];rfl
 unfold Ao;rw[if_neg (by simp;omega),if_pos hv,DM (CT h1),DM (CT h2),CO,Ep h1 m1 s1,Ep h2 m2 s2];rfl
theorem Aep {Fz:Nat} {a b:List UInt8} (ha:validD a=true) (hb:validD b=true) (la:a.length<=40) (lb:b.length<=40):
  (Aq AD (Fz+6) (123::Ci a b)=(if a=b then (G8,0,101) else (⟨0,[⟨2,AJ,[DE a,DE b],[1,2]⟩,⟨0,C6 49,[],[]⟩,⟨0,C6 50,[],[]⟩]⟩,0,0)))/\Aq AD (Fz+6) (CX a 49++10::(CX b 50++[10]))=Aq AD (Fz+6) (123::Ci a b):=by
 have qa:=EG a;have qb:=EG b;have hr0:Af (58::32::([50]++[125])):=Af.cons (by decide) (by decide) (by decide) (Af.cons (by decide) (by decide) (by decide) (Af.cons (by decide) (by decide) (by decide) (Af.cons (by decide) (by decide) (by decide) Af.nil)));have hr:Af (123::Ci a b):=Af.cons (by decide) (by decide) (by decide) (Af.quote ha (Af.cons (by decide) (by decide) (by decide) (Af.cons (by decide) (by decide) (by decide) (Af.cons (by decide) (by decide) (by decide) (Af.cons (by decide) (by decide) (by decide) (Af.cons (by decide) (by decide) (by decide) (Af.quote hb hr0)))))));have hlast:(123::Ci a b).getD (Ci a b).length 0≠32:=by
  have e:(123::Ci a b)=(123::(Ae a++58::32::([49]++44::32::(Ae b++58::32::[50]))))++[125]:=by simp[Ci]
  have el:(Ci a b).length=(123::(Ae a++58::32::([49]++44::32::(Ae b++58::32::[50])))).length+0:=by simp[Ci];omega
  rw[e,el,AE];decide
 have t1:A3 (Fz+6) (123::Ci a b)=(OZ a b,0,0):=by
  have:=FV (Fz:=Fz+6) (m:=[]) hr (Gu (by decide) (by decide)) (Gw (by decide) (by decide)) (by simp[Ci];omega) (.inl rfl);rw[List.append_nil,Gp 1 (by decide) hlast,Ho] at this;rw[this];exact Aay (Fz:=Fz+5) ha hb
 have row:∀ (k:Nat) (l:List UInt8) (c:UInt8),(c=49\/c=50)->AN k (CX l c)=⟨k,0,⟨(CX l c).toArray⟩⟩/\AO (CX l c)=true/\B7 (CX l c)=false:=fun k l c hc=>by
  have e:CX l c=34::((Ag l).flatMap A8++[34]++58::32::[c]):=rfl;rw[e];refine⟨Gp k (by decide) ?_,Gw (by decide) (by decide),Gu (by decide) (by decide)⟩;have e1:(34::((Ag l).flatMap A8++[34]++58::32::[c]):List UInt8)=(34::((Ag l).flatMap A8++[34]++58::[32]))++[c]:=by simp
  have e2:((Ag l).flatMap A8++[34]++58::32::[c]).length=(34::((Ag l).flatMap A8++[34]++58::[32])).length+0:=by simp
  rw[e1,e2,AE];rcases hc with rfl | rfl<;>decide
 obtain⟨e1,s1,m1⟩:=row 1 a 49 (.inl rfl);obtain⟨e2,s2,m2⟩:=row 2 b 50 (.inr rfl);have t2:A3 (Fz+6) (CX a 49++10::(CX b 50++[10]))=(OZ a b,0,0):=by
  unfold A3;rw[YQ (KY ha 49 (.inl rfl)) (KY hb 50 (.inr rfl)) m1 m2 s1 s2 (by simp[CX];omega) (by simp[CX];omega),if_neg (fun h=>h rfl),e1,e2];exact Zz ha hb
 have hc:=PZ (IF ha) (IF hb) (x:=C6 49) (y:=C6 50) (by decide+kernel) (by decide+kernel);have hab:(DE a=DE b)=(a=b):=by
  apply propext;constructor
  ·intro e;have:=congrArg (fun x:Sc=>x.str.data.toList) e;simpa[DE] using this
  ·intro e;rw[e]
 rw[Ec t1,Ec t2];refine⟨?_,rfl⟩;show((Al AD (BT [DE a,DE b] [BX (C6 49),BX (C6 50)])).1,(0:Int),_)=_;have hc2:(Al AD (OZ a b)).2=(Al AD (BT [DE a,DE b] [BX (C6 49),BX (C6 50)])).2:=rfl;rw[hc2,hc];by_cases e:a=b
 ·rw[if_pos e,if_pos (hab▸e)]
 ·rw[if_neg e,if_neg (fun h=>e (hab▸h))]
end
section
theorem Ad0 (s t:ByteArray) (w:Y) (hW:FP w):Calls Tryz.prog 8 #[Q s,Q t] w fun e w'=>e=.returned (.bool true)/\Below w.heap.size w w':=by
 obtain⟨m,hm⟩:∃ m,min s.size 40=m:=⟨_,rfl⟩
 obtain⟨k,hk⟩:∃ k,min t.size 40=k:=⟨_,rfl⟩
 obtain⟨S,hS⟩:∃ S,s.extract 0 m=S:=⟨_,rfl⟩
 obtain⟨T,hT⟩:∃ T,t.extract 0 k=T:=⟨_,rfl⟩
 have hSs:S.size<=40:=by rw[<- hS];exact Nat.le_trans (Hk s m) (by omega:m<=40)
 have hTs:T.size<=40:=by rw[<- hT];exact Nat.le_trans (Hk t k) (by omega:k<=40)
 obtain⟨a,ha⟩:∃ a,S.data.toList=a:=⟨_,rfl⟩
 obtain⟨b,hb⟩:∃ b,T.data.toList=b:=⟨_,rfl⟩
 have hla:a.length<=40:=by rw[<- ha,<- Lib.size_eq];exact hSs
 have hlb:b.length<=40:=by rw[<- hb,<- Lib.size_eq];exact hTs
 refine V.enter _ Tryz.func8 (Mem.start (C:=A5) w) ?_
 repeat refine W ?_
 refine R.c (fun w' h'=>DY w' (hW.to h'.1.below)) ?_
 repeat refine W ?_
 refine R.cut (s:=s) m (m:=min (s.size:Int) 40) (by omega) (by omega) ?_;rw[hS]
 repeat refine W ?_
 refine R.cut (s:=t) k (m:=min (t.size:Int) 40) (by omega) (by omega) ?_;rw[hT]
 repeat refine W ?_
 refine R.c (fun w' h'=>GK S w' (by omega) (hW.to h'.1.below).tabs) ?_;rw[ha];cases hva:Lib.validD a with
 | false=>
  have hq:CP a=.tuple #[Q ⟨#[]⟩,I J 40]:=by unfold CP;rw[if_neg (by rw[hva];simp)]
  rw[hq]
  repeat refine W ?_
  refine R.c (fun w' h'=>GK T w' (by omega) (hW.to h'.1.below).tabs) ?_;rw[hb];obtain⟨tt,te,hq2⟩:∃ tt te,CP b=.tuple #[Q tt,I J te]:=by unfold CP;split<;>exact⟨_,_,rfl⟩
  rw[hq2]
  repeat refine W ?_
  refine V.end fun w' h'=>?_;exact⟨rfl,h'.1.below⟩
 | true=>
  have hq:CP a=.tuple #[Q ⟨(Ae a).toArray⟩,I J 0]:=by unfold CP;rw[if_pos hva]
  rw[hq]
  repeat refine W ?_
  refine R.c (fun w' h'=>GK T w' (by omega) (hW.to h'.1.below).tabs) ?_;rw[hb];cases hvb:Lib.validD b with
  | false=>
   have hq2:CP b=.tuple #[Q ⟨#[]⟩,I J 40]:=by unfold CP;rw[if_neg (by rw[hvb];simp)]
   rw[hq2]
   repeat refine W ?_
   refine V.end fun w' h'=>?_;exact⟨rfl,h'.1.below⟩
  | true=>
   have hq2:CP b=.tuple #[Q ⟨(Ae b).toArray⟩,I J 0]:=by unfold CP;rw[if_pos hvb]
   rw[hq2];obtain⟨h1,h2⟩:=Aep (Fz:=99994) hva hvb hla hlb;have hqa:(⟨(Ae a).toArray⟩:ByteArray).size<=1000:=by have:=EG a;rw[Lib.size_eq];show(Ae a).length<=_;omega
   have hqb:(⟨(Ae b).toArray⟩:ByteArray).size<=1000:=by have:=EG b;rw[Lib.size_eq];show(Ae b).length<=_;omega
   obtain⟨QA,hQA⟩:∃ x:ByteArray,⟨(Ae a).toArray⟩=x:=⟨_,rfl⟩
   obtain⟨QB,hQB⟩:∃ x:ByteArray,⟨(Ae b).toArray⟩=x:=⟨_,rfl⟩
   obtain⟨X,hX⟩:∃ X:ByteArray,(((⟨#[123]⟩:ByteArray)++QA)++⟨#[58,32,49,44,32]⟩++QB)++⟨#[58,32,50,125]⟩=X:=⟨_,rfl⟩
   obtain⟨Yz,hY⟩:∃ Yz:ByteArray,(QA++⟨#[58,32,49,10]⟩++QB)++⟨#[58,32,50,10]⟩=Yz:=⟨_,rfl⟩
   have hXl:X.data.toList=123::Ci a b:=by rw[<- hX,<- hQA,<- hQB];simp[Ci]
   have hYl:Yz.data.toList=CX a 49++10::(CX b 50++[10]):=by rw[<- hY,<- hQA,<- hQB];simp[CX]
   have hLX:=fun w' (h:FP w')=>C2 X w' h;have hLY:=fun w' (h:FP w')=>C2 Yz w' h;rw[h1] at h2;obtain⟨L,hL⟩:∃ x:Gf×Int×Int,(if a=b then (G8,0,101) else (⟨0,[⟨2,AJ,[DE a,DE b],[1,2]⟩,⟨0,C6 49,[],[]⟩,⟨0,C6 50,[],[]⟩]⟩,0,0))=x:=⟨_,rfl⟩
   rw[hL] at h1 h2;rw[hXl,h1] at hLX;rw[hYl,h2] at hLY;rw[hQA] at hqa |-;rw[hQB] at hqb |-
   repeat refine W ?_
   refine R.cat ⟨#[123]⟩ QA (by show 1+_<=_;omega) ?_;refine R.cat (⟨#[123]⟩++QA) ⟨#[58,32,49,44,32]⟩ (by rw[ByteArray.size_append];show 1+_+5<=_;omega) ?_
   repeat refine W ?_
   refine R.cat ((⟨#[123]⟩++QA)++⟨#[58,32,49,44,32]⟩) QB (by rw[ByteArray.size_append,ByteArray.size_append];show 1+_+5+_<=_;omega) ?_;refine R.cat (((⟨#[123]⟩++QA)++⟨#[58,32,49,44,32]⟩)++QB) ⟨#[58,32,50,125]⟩ (by rw[ByteArray.size_append,ByteArray.size_append,ByteArray.size_append];show 1+_+5+_+4<=_;omega) ?_;rw[hX];refine R.cf (fun w' h'=>hLX w' (hW.to h'.1.below)) (fun q=>?_)
   repeat (first | refine W ?_ | refine R.new fun _ _=>?_)
   refine R.cat QA ⟨#[58,32,49,10]⟩ (by show _+4<=_;omega) ?_
   repeat refine W ?_
   refine R.cat (QA++⟨#[58,32,49,10]⟩) QB (by rw[ByteArray.size_append];show _+4+_<=_;omega) ?_;refine R.cat ((QA++⟨#[58,32,49,10]⟩)++QB) ⟨#[58,32,50,10]⟩ (by rw[ByteArray.size_append,ByteArray.size_append];show _+4+_+4<=_;omega) ?_;rw[hY];refine R.cf (fun w' h'=>hLY w' (hW.to h'.1.below)) (fun q2=>?_)
   repeat (first | refine W ?_ | refine R.new fun _ _=>?_)
   by_cases hab:a=b
   ·rw[if_pos hab] at hL;subst hL;refine V.re 67 (v:=.bool (S.toList==T.toList)) (v':=.bool true) (by rw[ByteArray.toList_eq,ByteArray.toList_eq,ha,hb];simp[hab]) ?_
    repeat refine W ?_
    refine V.end fun w' h'=>?_;exact⟨rfl,h'.1.below⟩
   ·rw[if_neg hab] at hL;subst hL;refine V.re 67 (v:=.bool (S.toList==T.toList)) (v':=.bool false) (by rw[ByteArray.toList_eq,ByteArray.toList_eq,ha,hb];simp[hab]) ?_
    repeat refine W ?_
    refine R.c (v:=.bool true) (fun w' h'=>?_) ?_
    ·obtain⟨Fz,⟨A,c,ea,hn⟩,_⟩:=h'.has (X:=KZ (Fx q.1 q.2 ⟨0,[⟨2,AJ,[DE a,DE b],[1,2]⟩,⟨0,C6 49,[],[]⟩,⟨0,C6 50,[],[]⟩]⟩) ⟨0,[⟨2,AJ,[DE a,DE b],[1,2]⟩,⟨0,C6 49,[],[]⟩,⟨0,C6 50,[],[]⟩]⟩) (by simp);obtain⟨F2,⟨A2,c2,ea2,hn2⟩,_⟩:=h'.has (X:=KZ (Fx q2.1 q2.2 ⟨0,[⟨2,AJ,[DE a,DE b],[1,2]⟩,⟨0,C6 49,[],[]⟩,⟨0,C6 50,[],[]⟩]⟩) ⟨0,[⟨2,AJ,[DE a,DE b],[1,2]⟩,⟨0,C6 49,[],[]⟩,⟨0,C6 50,[],[]⟩]⟩) (by simp);obtain⟨rfl,rfl⟩:=DP ea;obtain⟨rfl,rfl⟩:=DP ea2;exact(DQ Fz F2 q.1 q2.1 q.2 q2.2 _ _ w' hn hn2 ⟨by simp,by simp⟩).mono fun e w2 ⟨he,hb⟩=>⟨by rw[he,decide_eq_true rfl],hb⟩
    repeat refine W ?_
    refine V.end fun w' h'=>?_;exact⟨rfl,h'.1.below⟩
end
end Go.Proofs.YtdpppepmkeinaaaGreatDoor
