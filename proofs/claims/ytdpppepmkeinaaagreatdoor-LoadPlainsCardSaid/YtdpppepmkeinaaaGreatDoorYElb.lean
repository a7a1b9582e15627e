import Derived.Test.YtdpppepmkeinaaaGreatDoorYg
import Derived.Test.YtdpppepmkeinaaaGreatDoorYh
import Derived.Test.YtdpppepmkeinaaaGreatDoorYm
import Derived.Test.YtdpppepmkeinaaaGreatDoorYz
import Derived.Test.YtdpppepmkeinaaaGreatDoorYxf
import Derived.Test.YtdpppepmkeinaaaGreatDoorYxh
import Derived.Test.YtdpppepmkeinaaaGreatDoorYxk
import Derived.Test.YtdpppepmkeinaaaGreatDoorYp
import Derived.Test.YtdpppepmkeinaaaGreatDoorYxi
import Derived.Test.YtdpppepmkeinaaaGreatDoorYxj
import Derived.Test.YtdpppepmkeinaaaGreatDoorYxm
import Derived.Test.YtdpppepmkeinaaaGreatDoorYxo
import Derived.Test.YtdpppepmkeinaaaGreatDoorYxl
import Derived.Test.YtdpppepmkeinaaaGreatDoorYxa
import Derived.Test.YtdpppepmkeinaaaGreatDoorYxs
/- What is proved: the law returns true whatever comes in; no condition beside those that each theorem names. -/
namespace Go.Proofs.YtdpppepmkeinaaaGreatDoor
set_option maxRecDepth 100000
set_option maxHeartbeats 16000000
open Go Go.RowKit Go.Lib
open Go.Value renaming int->I,string->Q,slice->Z
open Go.IntKind renaming i64->J
open Option renaming none->O,some->F
open _root_.Go renaming World->Y
set_option linter.unusedSimpArgs false
set_option linter.unusedVariables false
open Go Go.RowKit
set_option linter.unusedSectionVars false
set_option maxRecDepth 100000
section
theorem AE (b l:List UInt8) (p:Nat):(b++l).getD (b.length+p) 0=l.getD p 0:=by
 rw[List.getD,List.getElem?_append_right (by omega),show b.length+p - b.length=p by omega];rfl
theorem E6 (l m:List UInt8) (p:Nat) (h:p<l.length):(l++m).getD p 0=l.getD p 0:=by
 rw[List.getD,List.getElem?_append_left h];rfl
end
section
theorem A7 (b l:List UInt8) (i:Nat) (bs:List UInt8):Cg (b++l) (b.length+i) bs=Cg l i bs:=by
 unfold Cg;rw[AE,List.length_append];congr 1;rw[Bool.eq_iff_iff];simp
theorem Cj (b l:List UInt8) (i:Nat):BI (b++l) (b.length+i)=BI l i:=by
 unfold BI;rw[A7,List.length_append];congr 1;rw[Bool.eq_iff_iff];simp
theorem Bz (b l:List UInt8) (i d:Nat):AC (b++l) (b.length+i) d=AC l i d:=by
 unfold AC;rw[A7,Cj]
theorem B6:∀ (n:Nat) (l m:List UInt8),l.length<=n->validD l=true->Ag (l++m)=Ag l++Ag m
 | n,[],m,_,_=>rfl
 | 0,c::t,m,h,_=>by simp at h
 | n+1,c::t,m,h,hv=>by
  have hne:c::t≠[]:=by simp
  have hw:=decodeL_width (c::t);rw[Av (c::t++m) (by simp),Av (c::t) hne,EC _ m hne hv,List.drop_append_of_le_length (decodeL_le _ hne),B6 n _ m (by rw[List.length_drop];simp at h |-;omega) (Cu _ hne hv)];rfl
theorem AU (c:UInt8) (l:List UInt8) (h:c.toNat<128):Ag (c::l)=c.toNat::Ag l:=by
 rw[Av (c::l) (by simp),decodeL_ascii c l h];rfl
end
section
def Jm (s:ByteArray) (flow:Bool):Sc×Int:=if !Cm s.data.toList flow then (AJ,51) else Ay s
theorem Z8 (s:ByteArray) (flow:Bool) (w:Y) (hs:s.size<=1000000) (hT:BU w):
  Calls Tryz.prog 18 #[Q s,.bool flow] w fun e w'=>e=.returned (.tuple #[Ev (Jm s flow).1,I J (Jm s flow).2])/\Below w.heap.size w w':=by
 obtain⟨⟨⟨k,n,t⟩,er⟩,hx⟩:∃ p,Ay s=p:=⟨_,rfl⟩
 have HX:=hid hx;clear hx;go_enter Tryz.func18,Tryz.ntmps18;go_wp2_with fail;refine(QH s flow _ hs (hT.below ((Bq _ w).alloc Nr _))).mono ?_;rintro e w1 ⟨rfl,hb1⟩;have hbw:Below w.heap.size w w1:=((Bq _ w).alloc Nr _).trans (hb1.mono (by simp));have hT1:=hT.below hbw;have hk:=Eq _ _ hb1;cases hm:Cm s.data.toList flow with
 | false=>
  obtain⟨c0,c1,c2,f0,f1,f2⟩:=EM hk;have HM:=hid hm;clear hm hk;go_wp2;refine bodyPost_ret (v:=.tuple #[.agg #[I J 0,I J 0,Q ⟨#[]⟩],I J 51]) (by simp[results,Tryz.results18,go_sem,c0,c1,c2]) rfl ⟨?_,?_⟩
  ·rw[show Jm s flow=(AJ,51) from(by unfold Jm;rw[HM.out];rfl)];rfl
  ·repeat (first | exact hbw | refine Below.setCell ?_ (by simp) _)
 | true=>
  have HM:=hid hm;clear hm;go_wp2_with fail;refine(LP s _ hs hT1).mono ?_;rw[HX.out];unfold Ev;rintro e w2 ⟨rfl,hb2⟩;have hk2:=AW hk hb2;have hb02:Below w.heap.size w w2:=hbw.trans (hb2.mono hbw.size);obtain⟨c0,c1,c2,f0,f1,f2⟩:=EM hk2;clear hk hk2;go_wp2;refine bodyPost_ret (v:=.tuple #[.agg #[I J k,I J n,Q t],I J er]) (by simp[results,Tryz.results18,go_sem,c0,c1,c2]) rfl ⟨?_,?_⟩
  ·rw[show Jm s flow=Ay s from(by unfold Jm;rw[HM.out];rfl),HX.out];rfl
  ·repeat (first | exact hb02 | refine Below.setCell ?_ (by simp) _)
end
section
def CV (N:Nat):Prop:=∀ p v,p.length<=N->PV p v->∀ n d c,2*p.length<=n->AB n d (p++c)=if d+Ad v<=25 then .ok v c else .bad 73
def CI (N:Nat):Prop:=∀ p ts,p.length<=N->PI p ts->∀ n d c acc,2*p.length+1<=n->B9 n d (p++c) acc=if ts=[]\/d+1+Ad.deepTs ts<=25 then .ok (Bt (acc++ts)) c else .bad 73
def CD (N:Nat):Prop:=∀ p ks ts,p.length<=N->PD p ks ts->∀ n d c ks0 ts0,2*p.length+1<=n->AP n d (p++c) ks0 ts0=if ts=[]\/d+1+Ad.deepTs ts<=25 then .ok (BT (ks0++ks) (ts0++ts)) c else .bad 73
theorem A6 (t:Pc) (r:List Pc):hk (t::r)=t.kind:=rfl
theorem Dy:∀ N,CV N/\CI N/\CD N
 | 0=>⟨fun p v h hp=>absurd (List.eq_nil_of_length_eq_zero (by omega)) (Bm hp).1,fun p v h hp=>absurd (List.eq_nil_of_length_eq_zero (by omega)) (N1 hp),fun p k v h hp=>absurd (List.eq_nil_of_length_eq_zero (by omega)) (NY hp)⟩
 | N+1=>by
  obtain⟨hV,hI,hD⟩:=Dy N;refine⟨fun p v hl hp n d c hn=>?_,fun p ts hl hp n d c acc hn=>?_,fun p ks ts hl hp n d c ks0 ts0 hn=>?_⟩
  ·cases n with
   | zero=>exact absurd (List.eq_nil_of_length_eq_zero (by omega)) (Bm hp).1
   | succ n=>
    have hpos:=CL v;by_cases hd:24<d
    ·unfold AB;rw[if_pos hd,if_neg (by omega)]
    ·cases hp with
     | key t h=>
      have hkk:=CF h;show AB (n+1) d (t::c)=_;unfold AB;rw[if_neg hd,CN,if_pos (by omega)];simp only
      rw[if_neg (by omega),if_neg (by omega),if_neg (by omega),if_neg (by omega),if_pos h]
     | ali t h=>
      show AB (n+1) d (t::c)=_;unfold AB;rw[if_neg hd,GW,if_pos (by omega)];simp only
      rw[if_neg (by omega),if_pos h]
     | nam t p v h h2 h3 hp=>
      have hne:=(Bm hp).1;simp only[List.length_cons] at hl hn;show AB (n+1) d (t::(p++c))=_;have ih:=hV p v (by omega) hp n d c (by omega);unfold AB;rw[if_neg hd];simp only
      rw[if_pos h,D6 hne,if_neg (by omega),ih,D2];by_cases hdd:d+Ad v<=25
      ·rw[if_pos hdd,if_pos hdd]
      ·rw[if_neg hdd,if_neg hdd]
     | lst t p ts h hp=>
      simp only[List.length_cons] at hl hn;show AB (n+1) d (t::(p++c))=_;have ih:=hI p ts (by omega) hp n d c [] (by omega);unfold AB;rw[if_neg hd];simp only
      rw[if_neg (by omega),if_neg (by omega),if_pos h,ih,DJ,List.nil_append];by_cases hts:ts=[]
      ·rw[if_pos (.inl hts)];subst hts;rw[Ap,if_pos (by omega)]
      ·by_cases hdd:d+1+Ad.deepTs ts<=25
       ·rw[if_pos (.inr hdd),if_pos (by omega)]
       ·rw[if_neg (fun k=>k.elim hts hdd),if_neg (by omega)]
     | dic t p ks ts h hp=>
      simp only[List.length_cons] at hl hn;show AB (n+1) d (t::(p++c))=_;have ih:=hD p ks ts (by omega) hp n d c [] [] (by omega);unfold AB;rw[if_neg hd];simp only
      rw[if_neg (by omega),if_neg (by omega),if_neg (by omega),if_pos h,ih,Gg,List.nil_append,List.nil_append];by_cases hts:ts=[]
      ·rw[if_pos (.inl hts)];subst hts;rw[Ap,if_pos (by omega)]
      ·by_cases hdd:d+1+Ad.deepTs ts<=25
       ·rw[if_pos (.inr hdd),if_pos (by omega)]
       ·rw[if_neg (fun k=>k.elim hts hdd),if_neg (by omega)]
  ·cases n with
   | zero=>omega
   | succ n=>
    cases hp with
    | nil e h=>
     show B9 (n+1) d (e::c) acc=_;unfold B9;rw[A6,if_pos h,if_pos (.inl rfl),List.append_nil];rfl
    | last p v e hp h=>
     simp only[List.length_append,List.length_cons,List.length_nil] at hl hn;have hh:=Bm hp;have ih:=hV p v (by omega) hp n (d+1) (e::c) (by omega);rw[List.append_assoc,List.singleton_append];unfold B9;rw[D6 hh.1,if_neg (by omega),ih,Am,Ap];by_cases hdd:d+1+Ad v<=25
     ·rw[if_pos hdd,if_pos (.inr (by omega))];simp only
      rw[A6,if_neg (by omega),if_pos h];rfl
     ·rw[if_neg hdd,if_neg (fun k=>k.elim (fun k=>by cases k) (fun k=>by omega))]
    | cons p v m q ts hp h hq=>
     simp only[List.length_append,List.length_cons] at hl hn;have hh:=Bm hp;have ih:=hV p v (by omega) hp n (d+1) (m::(q++c)) (by omega);have ih2:=hI q ts (by omega) hq n d c (acc++[v]) (by omega);rw[List.append_assoc,List.cons_append];unfold B9;rw[D6 hh.1,if_neg (by omega),ih,Am];by_cases hdd:d+1+Ad v<=25
     ·rw[if_pos hdd];simp only
      rw[A6,if_pos h,List.tail_cons,ih2,List.append_assoc,List.singleton_append];by_cases hts:ts=[]
      ·subst hts;rw[if_pos (.inl rfl),Ap,if_pos (.inr (by omega))]
      ·by_cases hd2:d+1+Ad.deepTs ts<=25
       ·rw[if_pos (.inr hd2),if_pos (.inr (by omega))]
       ·rw[if_neg (fun k=>k.elim hts hd2),if_neg (fun k=>k.elim (fun k=>by cases k) (fun k=>by omega))]
     ·rw[if_neg hdd,if_neg (fun k=>k.elim (fun k=>by cases k) (fun k=>by omega))]
  ·
   have pair:∀ (p:List Pc) (x:Sc) (v:Tr),p.length<=N->PP p x v->∀ n e,2*p.length+1<=n->∀ (hke:hk e=7\/hk e=11) (ks0:List Sc) (ts0:List Tr),
     AP (n+1) d (p++e) ks0 ts0=if d+1+Ad v<=25 then (if hk e=7 then AP n d e.tail (ks0++[x]) (ts0++[v]) else .ok (BT (ks0++[x]) (ts0++[v])) e.tail) else .bad 73:=by
    intro p x v hpl hpp n e hn hke ks0 ts0;cases hpp with
    | none k c2 h hc=>
     have hkk:=CF h;show AP (n+1) d (k::c2::e) ks0 ts0=_;rw[AP];rw[A6,if_neg (by omega)];try simp only
     rw[if_neg (Decidable.not_not.2 h),A6,if_neg (Decidable.not_not.2 hc),List.tail_cons,Fb];by_cases hdd:24<d+1
     ·rw[if_pos hdd,if_neg (by omega)]
     ·rw[if_neg hdd,if_pos (show d+1+1<=25 by omega)];by_cases h7:hk e=7
      ·rw[if_pos h7,if_pos h7]
      ·rw[if_neg h7,if_neg h7,if_pos (by omega)]
    | some k c2 p v h hc hp=>
     have hkk:=CF h;have hh:=Bm hp;have hpos:=CL v;simp only[List.length_cons] at hpl hn;have ih:=hV p v (by omega) hp n (d+1) e (by omega);show AP (n+1) d (k::c2::(p++e)) ks0 ts0=_;rw[AP];rw[A6,if_neg (by omega)];try simp only
     rw[if_neg (Decidable.not_not.2 h),A6,if_neg (Decidable.not_not.2 hc),List.tail_cons,D6 hh.1];by_cases hdd:24<d+1
     ·rw[if_pos hdd,if_neg (by omega)]
     ·rw[if_neg hdd,if_neg (by omega),if_neg (by omega),ih];by_cases hd2:d+1+Ad v<=25
      ·rw[if_pos hd2,if_pos hd2];simp only
       by_cases h7:hk e=7
       ·rw[if_pos h7,if_pos h7]
       ·rw[if_neg h7,if_neg h7,if_pos (by omega)]
      ·rw[if_neg hd2,if_neg hd2]
   cases n with
   | zero=>omega
   | succ n=>
    cases hp with
    | nil e h=>
     show AP (n+1) d (e::c) ks0 ts0=_;unfold AP;rw[A6,if_pos h,if_pos (.inl rfl),List.append_nil,List.append_nil];rfl
    | last p x v e hp h=>
     simp only[List.length_append,List.length_cons,List.length_nil] at hl hn;rw[List.append_assoc,List.singleton_append,pair p x v (by omega) hp n (e::c) (by omega) (.inr h),A6,Am,Ap];by_cases hdd:d+1+Ad v<=25
     ·rw[if_pos hdd,if_neg (by omega),if_pos (.inr (by omega))];rfl
     ·rw[if_neg hdd,if_neg (fun k=>k.elim (fun k=>by cases k) (fun k=>by omega))]
    | cons p x v m q ks ts hp h hq=>
     simp only[List.length_append,List.length_cons] at hl hn;have ih2:=hD q ks ts (by omega) hq n d c (ks0++[x]) (ts0++[v]) (by omega);rw[List.append_assoc,List.cons_append,pair p x v (by omega) hp n (m::(q++c)) (by omega) (.inl h),A6,Am];by_cases hdd:d+1+Ad v<=25
     ·rw[if_pos hdd,if_pos h,List.tail_cons,ih2,List.append_assoc,List.append_assoc,List.singleton_append,List.singleton_append];by_cases hts:ts=[]
      ·subst hts;rw[if_pos (.inl rfl),Ap,if_pos (.inr (by omega))]
      ·by_cases hd2:d+1+Ad.deepTs ts<=25
       ·rw[if_pos (.inr hd2),if_pos (.inr (by omega))]
       ·rw[if_neg (fun k=>k.elim hts hd2),if_neg (fun k=>k.elim (fun k=>by cases k) (fun k=>by omega))]
     ·rw[if_neg hdd,if_neg (fun k=>k.elim (fun k=>by cases k) (fun k=>by omega))]
theorem J0 {p:List Pc} {v:Tr} (h:PV p v) (n d:Nat) (c:List Pc) (hn:2*p.length<=n):AB n d (p++c)=if d+Ad v<=25 then .ok v c else .bad 73:=
 (Dy p.length).1 p v Nr h n d c hn
theorem Fg {l:List Pc} {t:Tr} (h:PV l t):Bl l=if Ad t<=24 then (t,0) else (Ei,73):=by
 have:=J0 h (2*l.length+2) 1 [] (by omega);rw[List.append_nil] at this;unfold Bl Iu;rw[this];by_cases hd:Ad t<=24
 ·rw[if_pos (by omega),if_pos hd]
 ·rw[if_neg (by omega),if_neg hd]
end
section
theorem Fs {l:List IM} (h:∀ x∈l,0<=x.ind/\x.ind<=8000):LF l=DW l:=by
 unfold LF;rw[if_pos];rw[List.all_eq_true];intro x hx;simp[Kq,h x hx]
end
section
theorem Ca {l:List UInt8} {flow:Bool} (h:Cm l flow=true):0<l.length/\validD l=true/\(Ag l).all Ac=true/\l.getD 0 0≠32/\l.getD (l.length - 1) 0≠32∧
  Ar ET (l.getD 0 0)=false/\NH l=false/\∀ i,i<l.length->Nq l flow i=false:=by
 rw[<- Mk] at h;unfold RF Xf at h;rw[Lr] at h;simp only[Bool.and_eq_true,Bool.not_eq_true',List.isEmpty_eq_false_iff,beq_eq_false_iff_ne] at h;obtain⟨⟨h1,⟨h2,h3⟩,h4,h5,h6⟩,h7,h8⟩:=h;refine⟨List.length_pos_iff.2 h1,h2,h3,h4,h5,h6,h7,fun i hi=>?_⟩;unfold okR at h8;rw[List.all_eq_true] at h8;have:=h8 i (List.mem_range.2 hi);simpa using this
theorem Cx {l m:List UInt8} {i:Nat} (h:i<l.length) (bs:List UInt8):Cg (l++m) i bs=Ar bs (l.getD i 0):=by
 unfold Cg;rw[E6 _ _ _ h,List.length_append,decide_eq_true (by omega),Bool.true_and]
theorem Ct (a c:UInt8):Ar [a] c=(c==a):=by
 unfold Ar;rw[Bool.eq_iff_iff];simp
def GC (m:List UInt8) (d:Nat):Prop:=m=[]\/(0<d/\∃ c r,m=c::r/\Ar Cc c=true)
theorem EY {l m:List UInt8} {d i:Nat} (h:Cm l (decide (0<d))=true) (hi:i<l.length) (hc:l.getD i 0=58):AC (l++m) (i+1) d=false/\i+1<l.length:=by
 obtain⟨_,_,_,_,_,_,_,hb⟩:=Ca h;have h1:=hb i hi;unfold Nq XK at h1;rw[hc] at h1;simp only[beq_self_eq_true,Bool.true_and,Bool.or_eq_false_iff,beq_eq_false_iff_ne] at h1;have h2:i+1<l.length:=by have:=h1.1.1.1;omega
 have h3:l.getD (i+1) 0≠32:=h1.1.1.2;have h4:=hb (i+1) h2;unfold Nq at h4;simp only[Bool.or_eq_false_iff] at h4;refine⟨?_,h2⟩;unfold AC BI;rw[Cx h2,Cx h2,Ct,List.length_append,decide_eq_false (by omega),Bool.false_or,h4.2,Bool.or_false];simpa using h3
theorem QD {l m:List UInt8} {d i:Nat} (h:Cm l (decide (0<d))=true) (hi:i<l.length):EO (l++m) i d=false:=by
 obtain⟨hp,_,_,_,_,h6,_,hb⟩:=Ca h;have h1:=hb i hi;unfold Nq XK Afd at h1;simp only[Bool.or_eq_false_iff] at h1;unfold EO BA;rw[Cx hi,Cx hi,Cx hi,Ct,Ct,List.length_append,decide_eq_false (by omega),h1.2,Bool.false_or,Bool.or_false];by_cases h35:l.getD i 0=35
 ·have h58:(l.getD i 0==58)=false:=by rw[h35];rfl
  rw[h58,h35];have h2:=h1.1.2;rw[h35] at h2;cases i with
  | zero=>rw[h35] at h6;exact absurd h6 (by decide)
  | succ k=>
   rw[show k+1 - 1=k by omega] at h2 |-;rw[Cx (by omega),Ct];simpa using h2
 ·have h35':(l.getD i 0==35)=false:=by simpa using h35
  rw[h35'];by_cases h58:l.getD i 0=58
  ·rw[(EY (m:=m) h hi h58).1];simp
  ·have:(l.getD i 0==58)=false:=by simpa using h58
   rw[this];rfl
theorem QR {l m:List UInt8} {d:Nat} (h:GC m d):EO (l++m) l.length d=true:=by
 rcases h with rfl | ⟨h1,c,r,rfl,h2⟩
 ·unfold EO;simp
 ·unfold EO;have:Cg (l++c::r) l.length Cc=true:=by
   have:=A7 l (c::r) 0 Cc;rw[Nat.add_zero] at this;rw[this];unfold Cg;simpa using h2
  rw[this,decide_eq_true h1];simp
theorem GU (b l:List UInt8) (i d:Nat) (h:i≠0\/Cg l 0 [35]=false):EO (b++l) (b.length+i) d=EO l i d:=by
 unfold EO;rw[A7,A7,Nat.add_assoc,Bz,List.length_append];have h1:BA (b++l) (b.length+i)=BA l i:=by
  unfold BA;rw[A7];cases i with
  | zero=>
   have:Cg l 0 [35]=false:=by rcases h with h | h;exact absurd rfl h;exact h
   rw[this];rfl
  | succ k=>
   rw[show b.length+(k+1) - 1=b.length+k by omega,A7];rw[show(b.length+(k+1)==0)=false by rw[beq_eq_false_iff_ne];omega,show(k+1==0)=false by rw[beq_eq_false_iff_ne];omega];rfl
 rw[h1];congr 1;rw[Bool.eq_iff_iff];simp
theorem JC {l:List UInt8} {m:List UInt8} {flow:Bool} (h:Cm l flow=true):Cg (l++m) 0 [35]=false:=by
 obtain⟨hp,_,_,_,_,h6,_,_⟩:=Ca h;rw[Cx hp,Ct];rw[beq_eq_false_iff_ne];intro e;rw[e] at h6;exact absurd h6 (by decide)
theorem KI {b l m:List UInt8} {d:Nat} (h:Cm l (decide (0<d))=true) (hm:GC m d):∀ (k i:Nat),i+k=l.length->Fz (b++(l++m)) (b.length+i) d=b.length+l.length
 | 0,i,e=>by
  obtain rfl:i=l.length:=by omega
  exact Ni (by rw[GU _ _ _ _ (.inr (JC h))];exact QR hm)
 | k+1,i,e=>by
  rw[KU (by rw[GU _ _ _ _ (.inr (JC h))];exact QD h (by omega)),Nat.add_assoc];exact KI h hm k (i+1) (by omega)
theorem CU {l:List UInt8} (hp:0<l.length) (h:l.getD (l.length - 1) 0≠32):Dt l=l:=by
 obtain⟨m,c,rfl⟩:∃ m c,l=m++[c]:=⟨l.dropLast,l.getLast (List.length_pos_iff.1 hp),(List.dropLast_concat_getLast (List.length_pos_iff.1 hp)).symm⟩
 have hc:c≠32:=by
  intro e;apply h;rw[List.length_append,show m.length+[c].length - 1=m.length+0 by simp,AE,e];rfl
 unfold Dt;rw[List.reverse_append,List.reverse_singleton,List.singleton_append,List.dropWhile_cons,if_neg (by simpa using hc)];simp
theorem Le {b l m:List UInt8} {d:Nat} (h:Cm l (decide (0<d))=true) (hm:GC m d):CM (b++(l++m)) b.length d=.ok 1 l (b.length+l.length) d:=by
 obtain⟨hp,_,_,_,h5,_,_,_⟩:=Ca h;have he:Fz (b++(l++m)) b.length d=b.length+l.length:=KI h hm l.length 0 (by omega);unfold CM;have ht:Dt (((b++(l++m)).take (b.length+l.length)).drop b.length)=l:=by
  rw[List.drop_take,show b.length+l.length - b.length=l.length by omega,List.drop_left,List.take_left,CU hp h5]
 rw[he,ht,if_pos h]
theorem J1 {b l m:List UInt8} {d:Nat} (h:Cm l (decide (0<d))=true) (hm:GC m d):
  Dx (b++(l++m)) b.length d=.ok 1 l (b.length+l.length) d/\Cg (b++(l++m)) b.length [32]=false/\BA (b++(l++m)) b.length=false:=by
 obtain⟨hp,_,_,h4,h5,h6,h7,_⟩:=Ca h;have hc:(b++(l++m)).getD b.length 0=l.getD 0 0:=by
  have:=AE b (l++m) 0;rw[Nat.add_zero] at this;rw[this,E6 _ _ _ hp]
 have h35:Cg (b++(l++m)) b.length [35]=false:=by
  have:=A7 b (l++m) 0 [35];rw[Nat.add_zero] at this;rw[this,JC h]
 refine⟨?_,?_,by unfold BA;rw[h35];rfl⟩
 ·have hpl:=Le (b:=b) h hm;unfold Dx Ql;rw[hc];have hne:∀ x:UInt8,Ar ET x=true->l.getD 0 0≠x:=fun x hx e=>by rw[e,hx] at h6;cases h6
  rw[if_neg (fun e=>by rcases e with e | e<;>exact hne _ (by rfl) e),if_neg (fun e=>by rcases e with e | e<;>exact hne _ (by rfl) e)];split
  ·rename_i h45;unfold NH at h7;rw[h45] at h7;have h8:(l.length==1||l.getD 1 0==32)=false:=by simpa[Ar] using h7
   simp only[Bool.or_eq_false_iff,beq_eq_false_iff_ne] at h8;have h9:BI (b++(l++m)) (b.length+1)=false:=by
    rw[Cj];unfold BI;rw[Cx (by omega),Ct,List.length_append,decide_eq_false (by omega),Bool.false_or,beq_eq_false_iff_ne];exact h8.2
   unfold Hw;rw[h9];exact hpl
  ·split
   ·rename_i h58;unfold Fp;rw[Bz,(EY (m:=m) h hp h58).1];exact hpl
   ·rw[if_neg (fun e=>by rcases e with e | e<;>exact hne _ (by rfl) e),if_neg (fun e=>by rcases e with e | e | e<;>exact hne _ (by rfl) e)];exact hpl
 ·have:=A7 b (l++m) 0 [32];rw[Nat.add_zero] at this;rw[this,Cx hp,Ct,beq_eq_false_iff_ne];exact h4
theorem Ajg {c:UInt8} {d:Nat} (r:List UInt8) (hv:validD (91::r)=true):BH (91::r) 0 0=.tok 8 [] 0::BH (91::r) 1 1:=
 DH hv (by simp) (by rfl) (by rfl) (by rfl)
theorem Aej (b:List UInt8) (hv:validD (b++[93])=true):BH (b++[93]) b.length 1=[.tok 9 [] b.length]:=by
 have hs:=fun bs=>A7 b [93] 0 bs;simp only[Nat.add_zero] at hs;have hg:(b++[93]).getD b.length 0=93:=by have:=AE b [93] 0;rwa [Nat.add_zero] at this
 have ho:Dx (b++[93]) b.length 1=.ok 9 [] (b.length+1) 0:=by
  unfold Dx;rw[hg];rfl
 rw[DH hv (by simp) (by rw[hs];rfl) (by unfold BA;rw[hs];rfl) ho,IE _ (by simp)]
theorem S5 {l:List UInt8} (h:Cm l true=true):BP (91::(l++[93]))=([⟨8,[],0⟩,⟨1,l,1⟩,⟨9,[],1+l.length⟩],0,0):=by
 obtain⟨hp,hv,hr,_⟩:=Ca h;have hv2:validD (91::(l++[93]))=true:=by rw[validD_cons _ _ (by decide),Bj _ l _ Nr hv];rfl
 have hr2:(Ag (91::(l++[93]))).all Ac=true:=by
  rw[AU _ _ (by decide),B6 _ l _ Nr hv,List.all_cons,List.all_append,hr];rfl
 obtain⟨h1,h2,h3⟩:=J1 (b:=[91]) (l:=l) (m:=[93]) (d:=1) h (.inr ⟨by omega,93,[],rfl,rfl⟩);have h4:=Aej (91::l) hv2;have h5:=DH hv2 (p:=1) (d:=1) (by simp) h2 h3 h1;unfold BP;rw[if_pos hv2,if_pos hr2,Ajg (c:=0) (d:=0) _ hv2,h5,show([91]:List UInt8).length+l.length=(91::l).length by simp;omega];have h6:BH (91::(l++[93])) (91::l).length 1=[.tok 9 [] (91::l).length]:=h4;rw[h6];simp[Jb,Nat.add_comm]
theorem S6 (xs:List (Nat×Nat×Nat)) (h:Dj true xs=true):Dj false xs=true:=by
 unfold Dj at*
 rw[List.all_eq_true] at*
 intro x hx;have:=h x hx;unfold Er at*
 simp at this |-;exact⟨⟨this.1.1.1,this.1.2⟩,this.2⟩
theorem YK (l:List UInt8) (h:Cm l true=true):Cm l false=true:=by
 unfold Cm Ju at*
 simp only[Bool.and_eq_true] at*
 exact⟨h.1,S6 _ h.2⟩
theorem AV {c:UInt8} (hc:c.toNat<128) (h1:32<=c.toNat) (h2:c.toNat≠127) (m:List UInt8):validD (c::m)=validD m/\(Ag (c::m)).all Ac=(Ag m).all Ac:=by
 refine⟨validD_cons c m hc,?_⟩;rw[AU c m hc,List.all_cons];have:Ac c.toNat=true:=by unfold Ac BW;simp;omega
 rw[this,Bool.true_and]
end
section
section
variable (ρ:Int->Int)
end
theorem C1 {a r:List UInt8} (h:validD (a++10::r)=true):validD a=true/\validD r=true:=by
 have h1:=B0 10 (by decide) r _ a Nr h;refine⟨h1,?_⟩;have h2:=Bj _ a (10::r) Nr h1;rw[h] at h2;rw[<- validD_cons 10 r (by decide)];exact h2.symm
end
section
def Af (l:List UInt8):Prop:=validD l=true/\(Ag l).all Ac=true
theorem Af.cons {c:UInt8} (hc:c.toNat<128) (h1:32<=c.toNat) (h2:c.toNat≠127) {m:List UInt8} (h:Af m):Af (c::m):=by
 have:=AV hc h1 h2 m;exact⟨this.1.trans h.1,this.2.trans h.2⟩
theorem Af.nil:Af []:=⟨rfl,rfl⟩
end
section
theorem CT {r:List UInt8} (h:Af r):10∉r:=fun hm=>by
 have hs:=(CE r).1 hm;have hv:=h.1;rw[hs] at hv;have ha:=(C1 hv).1;have hp:=h.2;rw[hs,B6 _ _ _ Nr ha,AU _ _ (by decide),List.all_append,List.all_cons] at hp;have:Ac (10:UInt8).toNat=false:=rfl;rw[this] at hp;simp at hp
theorem DS {r:List UInt8} (h:Af r) (hm:B7 r=false):Ax r=0:=by
 unfold Ax Bd;rw[h.2,hm];rfl
theorem Ep {r:List UInt8} {rs:List (List UInt8)} {k:Nat} {acc:List Sc} (h:Af r) (hm:B7 r=false) (hs:AO r=true):BB (BG k (r::rs)) acc=BB (BG (k+1) rs) (acc++[AN k r]):=by
 rw[Ba,Bc,if_neg (by rw[DS h hm];decide),hs,if_pos rfl]
theorem FV {Fz:Nat} {r m:List UInt8} (hr:Af r) (hmk:B7 r=false) (hs:AO r=true) (hl:r.length<=7000) (hm:m=[]\/m=[10]):A3 Fz (r++m)=AZ Fz [BM (AN 1 r)]:=by
 have hne:r≠[]:=fun e=>by rw[e] at hs;cases hs
 have hno:=CT hr;have hrows:Be (r++m)=[r]:=by
  rcases hm with rfl | rfl
  ·rw[List.append_nil];exact FW hno hne
  ·rw[DM hno,CO]
 have hv:validD (r++m)=true:=by
  rw[Bj _ r m Nr hr.1];rcases hm with rfl | rfl<;>rfl
 have hml:m.length<=1:=by rcases hm with rfl | rfl<;>decide
 have hsp:Ao (r++m)=([AN 1 r],0,0):=by
  unfold Ao;rw[if_neg (by rw[List.length_append];omega),if_pos hv,hrows,Ep hr hmk hs];rfl
 unfold A3;rw[hsp,if_neg (fun h=>h rfl)];rfl
theorem Gp {c:UInt8} {r:List UInt8} (k:Nat) (hc:c≠32) (he:(c::r).getD r.length 0≠32):AN k (c::r)=⟨k,0,⟨(c::r).toArray⟩⟩:=by
 have h1:AK (c::r)=c::r:=by
  unfold AK Lib.trimLeftB;rw[List.dropWhile_cons,if_neg (by simpa using hc)]
 unfold AN;rw[h1,CU (by simp) (by simpa using he)];congr 1;omega
theorem Gw {c:UInt8} {r:List UInt8} (hc:c≠32) (h35:c≠35):AO (c::r)=true:=by
 have h1:AK (c::r)=c::r:=by
  unfold AK Lib.trimLeftB;rw[List.dropWhile_cons,if_neg (by simpa using hc)]
 unfold AO;rw[h1];simpa using h35
theorem Gu {c:UInt8} {r:List UInt8} (h1:c≠45) (h2:c≠46):B7 (c::r)=false:=by
 simp[B7,BZ,Lib.hasPrefix,List.isPrefixOf,Ne.symm h1,Ne.symm h2]
theorem Ho (k n:Int) (l:List UInt8):BM ⟨k,n,⟨l.toArray⟩⟩=⟨k,n,l⟩:=rfl
theorem OE {x:Sc} (h:A4 x=true):Al AD (Bt [BX x])=(⟨0,[⟨1,AJ,[],[1]⟩,⟨0,x,[],[]⟩]⟩,0):=by
 have:BO AD 1 (Bt [BX x]) ⟨[],[]⟩=(⟨[⟨1,AJ,[],[1]⟩,⟨0,x,[],[]⟩],[]⟩,0,0):=by
  simp[BO,D3,BX,Bt,AD,BY,F7,BD,Fv,Nw,O3,h,St.node,St.kid]
 unfold Al;rw[this];rfl
theorem Ec {Fz:Nat} {s:List UInt8} {t:Tr} (h:A3 Fz s=(t,0,0)):Aq AD Fz s=((Al AD t).1,0,(Al AD t).2):=by
 unfold Aq;rw[h,if_neg (fun h=>h rfl)]
theorem MO {Fz:Nat} {no ind:Int} {q:List UInt8} {tk:List C8} {t:Tr} (hi:0<=ind/\ind<=8000) (h1:Du q=(tk,0)) (hb:Ck tk=.plain) (hw:Bl (IT tk)=(t,0)) (hd:Ad t<=24):AZ (Fz+1) [⟨no,ind,q⟩]=(t,0,0):=by
 unfold AZ;rw[Fs (by intro x hx;rw[List.mem_singleton.1 hx];exact hi),DW,DW];simp only
 rw[h1];simp only
 rw[if_neg (by decide)];show CK (Fz+1) [_]=_;unfold CK;rw[if_neg (by simp),AF];simp only
 rw[if_neg (by decide),hb];simp only
 unfold C9;rw[hw,if_neg (by decide),if_neg (by simp),if_neg (by simp only;omega)];rfl
theorem UI {Fz:Nat} {l:List UInt8} (h:Cm l true=true) (hl:l.length<=400):
  Aq AD (Fz+1) (91::(l++[93]))=if (Ay ⟨l.toArray⟩).2=0 then (⟨0,[⟨1,AJ,[],[1]⟩,⟨0,(Ay ⟨l.toArray⟩).1,[],[]⟩]⟩,0,0) else (G8,1,(Ay ⟨l.toArray⟩).2):=by
 obtain⟨hp,hv,hpr,_⟩:=Ca h;have hr:Af (91::(l++[93])):=⟨by rw[validD_cons _ _ (by decide),Bj _ l _ Nr hv];rfl,by rw[AU _ _ (by decide),B6 _ l _ Nr hv,List.all_cons,List.all_append,hpr];rfl⟩
 have hlast:(91::(l++[93])).getD (l++[93]).length 0≠32:=by
  have e1:(91::(l++[93]))=(91::l)++[93]:=rfl;have e2:(l++[93]).length=(91::l).length+0:=by simp
  rw[e1,e2,AE];decide
 have hline:AN 1 (91::(l++[93]))=⟨1,0,⟨(91::(l++[93])).toArray⟩⟩:=Gp 1 (by decide) hlast;have h1:=S5 h;have hof:Du (91::(l++[93]))=([⟨8,[],0⟩,⟨1,l,1⟩,⟨9,[],((1+l.length:Nat):Int)⟩],0):=by
  unfold Du;rw[h1];rfl
 have hpc:IT ([⟨8,[],0⟩,⟨1,l,1⟩,⟨9,[],((1+l.length:Nat):Int)⟩]:List C8)=[⟨8,[]⟩,⟨1,l⟩,⟨9,[]⟩]:=rfl;have hk:B3 ⟨1,l⟩=if (Ay ⟨l.toArray⟩).2=0 then Ay ⟨l.toArray⟩ else (AJ,(Ay ⟨l.toArray⟩).2):=by unfold B3;rw[if_pos rfl]
 have htr:A3 (Fz+1) (91::(l++[93]))=AZ (Fz+1) [⟨1,0,91::(l++[93])⟩]:=by
  have:=FV (Fz:=Fz+1) (m:=[]) hr (Gu (by decide) (by decide)) (Gw (by decide) (by decide)) (by simp;omega) (.inl rfl);rw[List.append_nil,hline,Ho] at this;exact this
 by_cases e:(Ay ⟨l.toArray⟩).2=0
 ·rw[if_pos e];rw[if_pos e] at hk;have hpv:=PV.key ⟨1,l⟩ (by rw[hk];exact e);rw[hk] at hpv;have hw:Bl [⟨8,[]⟩,⟨1,l⟩,⟨9,[]⟩]=(Bt [BX (Ay ⟨l.toArray⟩).1],0):=by
   show Bl ((⟨8,[]⟩:Pc)::([⟨1,l⟩]++[⟨9,[]⟩]))=_;rw[Fg (PV.lst ⟨8,[]⟩ _ _ rfl (PI.last [⟨1,l⟩] _ ⟨9,[]⟩ hpv rfl)),if_pos (by rw[DJ,Am,Ap,CN];decide)]
  have ht:A3 (Fz+1) (91::(l++[93]))=(Bt [BX (Ay ⟨l.toArray⟩).1],0,0):=by
   rw[htr];exact MO ⟨by decide,by decide⟩ hof rfl (by rw[hpc];exact hw) (by rw[DJ,Am,Ap,CN];decide)
  rw[Ec ht,OE (Jg _).1]
 ·rw[if_neg e];rw[if_neg e] at hk;have hw:Bl [⟨8,[]⟩,⟨1,l⟩,⟨9,[]⟩]=(Ei,(Ay ⟨l.toArray⟩).2):=by
   unfold Bl Iu;simp only[List.length_cons,List.length_nil]
   simp[AB,B9,hk,A6,e]
  have ht:A3 (Fz+1) (91::(l++[93]))=(Ei,1,(Ay ⟨l.toArray⟩).2):=by
   rw[htr];unfold AZ;rw[Fs (by intro x hx;rw[List.mem_singleton.1 hx];exact⟨by show(0:Int)<=0;decide,by show(0:Int)<=8000;decide⟩),DW,DW];simp only
   rw[hof];simp only
   rw[if_neg (by decide)];show CK (Fz+1) [_]=_;unfold CK;rw[if_neg (by simp),AF];simp only
   rw[if_neg (by decide)];show Hy (C9 1 _ 1 [])=_;unfold C9;rw[hpc,hw,if_neg (by decide),if_pos e];rfl
  unfold Aq;rw[ht,if_pos e]
end
section
section
variable {P:Program} {n:Nat} {ds:List Deferred} {d:Bool} {ops:Array Oper} {K:Act->Y->Prop} {i:Nat} {pl pend:List Nat} {S:Y->Prop} {l:Env}
 {t:Nat} {ty:TypeId} {ps:String} {af:Array Edge} {gd:Option (Nat×Bool)}
end
theorem Hk (s:ByteArray) (k:Nat):(s.extract 0 k).size<=k:=by rw[ByteArray.size_extract];omega
theorem mkL (s:ByteArray):(⟨s.data.toList.toArray⟩:ByteArray)=s:=by simp
end
section
theorem Ako {S:ByteArray} (h:Cm S.data.toList true=true):(Ay S).2=0\/(Ay S).2=50:=by
 unfold Ay;rw[if_neg (by rw[YK _ h];simp)];unfold Gv;split
 ·exact .inr rfl
 ·exact .inl rfl
 ·exact .inl rfl
 ·exact .inl rfl
 ·exact .inl rfl
theorem Acd (s:ByteArray) (w:Y) (hW:FP w):Calls Tryz.prog 9 #[Q s] w fun e w'=>e=.returned (.bool true)/\Below w.heap.size w w':=by
 obtain⟨m,hm⟩:∃ m,min s.size 100=m:=⟨_,rfl⟩
 obtain⟨S,hS⟩:∃ S,s.extract 0 m=S:=⟨_,rfl⟩
 have hSs:S.size<=100:=by rw[<- hS];exact Nat.le_trans (Hk s m) (by omega:m<=100)
 obtain⟨X,hX⟩:∃ X:ByteArray,((⟨#[91]⟩:ByteArray)++S)++⟨#[93]⟩=X:=⟨_,rfl⟩
 have hXl:X.data.toList=91::(S.data.toList++[93]):=by rw[<- hX];simp
 have hll:S.data.toList.length<=100:=by rw[<- Lib.size_eq];exact hSs
 have hL:=fun w' (h:FP w')=>C2 X w' h;refine V.enter _ Tryz.func9 (Mem.start (C:=A5) w) ?_
 repeat refine W ?_
 refine R.c (fun w' h'=>DY w' (hW.to h'.1.below)) ?_
 repeat refine W ?_
 refine R.cut (s:=s) m (m:=min (s.size:Int) 100) (by omega) (by omega) ?_;rw[hS]
 repeat refine W ?_
 refine R.c (fun w' h'=>Z8 S true w' (by omega) (hW.to h'.1.below).tabs) ?_;cases hv:Cm S.data.toList true with
 | false=>
  have hr:Jm S true=(AJ,51):=by unfold Jm;rw[hv];rfl
  rw[hr];obtain⟨L,hLe⟩:∃ x,Aq AD 100000 X.data.toList=x:=⟨_,rfl⟩
  rw[hLe] at hL
  repeat (first | refine W ?_ | refine R.new fun _ _=>?_)
  refine R.cat ⟨#[91]⟩ S (by show 1+_<=_;omega) ?_;refine R.cat (⟨#[91]⟩++S) ⟨#[93]⟩ (by rw[ByteArray.size_append];show 1+_+1<=_;omega) ?_;rw[hX];refine R.cf (fun w' h'=>hL w' (hW.to h'.1.below)) (fun q=>?_)
  repeat (first | refine W ?_ | refine R.new fun _ _=>?_)
  refine V.end fun w' h'=>?_;exact⟨rfl,h'.1.below⟩
 | true=>
  have hr:Jm S true=Ay S:=by unfold Jm;rw[hv];rfl
  have h50:=Ako hv;have hlaw:=UI (Fz:=99999) hv (by omega);rw[mkL,<- hXl] at hlaw;rw[hlaw] at hL;rw[hr];obtain⟨rp,hrp⟩:∃ x,Ay S=x:=⟨_,rfl⟩
  rw[hrp] at h50 hL |-
  repeat (first | refine W ?_ | refine R.new fun _ _=>?_)
  refine R.cat ⟨#[91]⟩ S (by show 1+_<=_;omega) ?_;refine R.cat (⟨#[91]⟩++S) ⟨#[93]⟩ (by rw[ByteArray.size_append];show 1+_+1<=_;omega) ?_;rw[hX];by_cases h0:rp.2=0
  ·rw[if_pos h0] at hL;refine R.cf (fun w' h'=>hL w' (hW.to h'.1.below)) (fun q=>?_)
   repeat (first | refine W ?_ | refine R.new fun _ _=>?_)
   refine V.re 29 (v:=.bool (rp.2==51)) (v':=.bool false) (by simp[h0]) ?_
   repeat refine W ?_
   refine V.re 32 (v:=.bool (rp.2 !=0)) (v':=.bool false) (by simp[h0]) ?_
   repeat refine W ?_
   refine R.bs (m:=1) (cs:=[I J 1]) (bt:=3) (fun bi hbi=>?_)
   repeat refine W ?_
   refine R.bs (m:=2) (cs:=BE [⟨1,AJ,[],[1]⟩,⟨0,rp.1,[],[]⟩] [(Z O 0 0,Z (F ⟨bi,0,O⟩) 1 1),(Z O 0 0,Z O 0 0)]) (bt:=40) (fun bn hbn=>?_)
   repeat refine W ?_
   refine R.c (v:=.bool true) (fun w' h'=>?_) ?_
   ·obtain⟨Fz,⟨A,c,ea,hn⟩,hF⟩:=h'.has (X:=KZ (Fx q.1 q.2 ⟨0,[⟨1,AJ,[],[1]⟩,⟨0,rp.1,[],[]⟩]⟩) ⟨0,[⟨1,AJ,[],[1]⟩,⟨0,rp.1,[],[]⟩]⟩) (by simp);obtain⟨rfl,rfl⟩:=DP ea;have hbl:=h'.blk (b:=bi) (cs:=[I J 1]) (ty:=3) (by simp);refine(DQ Fz (fun _=>True) q.1 (F ⟨bn,0,O⟩) q.2 2 ⟨0,[⟨1,AJ,[],[1]⟩,⟨0,rp.1,[],[]⟩]⟩ ⟨0,[⟨1,AJ,[],[1]⟩,⟨0,rp.1,[],[]⟩]⟩ w' hn (QM (h'.blk (List.Mem.head _)) rfl trivial (fun j x p hx hp=>?_)) ⟨by simp,by simp⟩).mono fun e w2 ⟨he,hb⟩=>⟨by rw[he,decide_eq_true rfl],hb⟩
    match j,hx,hp with
    | 0,hx,hp=>cases hx;cases hp;exact⟨O,0,F ⟨bi,0,O⟩,1,rfl,ksNil,Aco (is:=[1]) hbl trivial⟩
    | 1,hx,hp=>cases hx;cases hp;exact⟨O,0,O,0,rfl,ksNil,isNil⟩
   repeat refine W ?_
   refine V.end fun w' h'=>?_;exact⟨rfl,h'.1.below⟩
  ·rw[if_neg h0,h50.resolve_left h0] at hL;have h1:=h50.resolve_left h0;refine R.cf (fun w' h'=>hL w' (hW.to h'.1.below)) (fun q=>?_)
   repeat (first | refine W ?_ | refine R.new fun _ _=>?_)
   refine V.re 29 (v:=.bool (rp.2==51)) (v':=.bool false) (by simp[h1]) ?_
   repeat refine W ?_
   refine V.re 32 (v:=.bool (rp.2 !=0)) (v':=.bool true) (by simp[h1]) ?_
   repeat refine W ?_
   refine V.end fun w' h'=>?_;exact⟨rfl,h'.1.below⟩
end
end Go.Proofs.YtdpppepmkeinaaaGreatDoor
