import Derived.Test.YtdpppepmkeinaaaGreatDoorYg
import Derived.Test.YtdpppepmkeinaaaGreatDoorYh
import Derived.Test.YtdpppepmkeinaaaGreatDoorYm
import Derived.Test.YtdpppepmkeinaaaGreatDoorYz
import Derived.Test.YtdpppepmkeinaaaGreatDoorYxf
import Derived.Test.YtdpppepmkeinaaaGreatDoorYxh
import Derived.Test.YtdpppepmkeinaaaGreatDoorYv
import Derived.Test.YtdpppepmkeinaaaGreatDoorYxj
import Derived.Test.YtdpppepmkeinaaaGreatDoorYxk
import Derived.Test.YtdpppepmkeinaaaGreatDoorYp
import Derived.Test.YtdpppepmkeinaaaGreatDoorYxi
import Derived.Test.YtdpppepmkeinaaaGreatDoorYxm
import Derived.Test.YtdpppepmkeinaaaGreatDoorYxo
import Derived.Test.YtdpppepmkeinaaaGreatDoorYxl
import Derived.Test.YtdpppepmkeinaaaGreatDoorYxa
import Derived.Test.YtdpppepmkeinaaaGreatDoorYxs
/- What is proved: the law returns true whatever comes in; no condition beside those that each theorem names. -/
namespace Go.Proofs.YtdpppepmkeinaaaGreatDoor
set_option maxHeartbeats 32000000
open Go Go.RowKit Go.Lib
open Go.Value renaming int->I,string->Q,slice->Z
open Go.IntKind renaming i64->J
open Option renaming none->O,some->F
open _root_.Go renaming World->Y
set_option linter.unusedSimpArgs false
set_option linter.unusedVariables false
open Go
open Go Go.RowKit
set_option linter.unusedSectionVars false
set_option maxRecDepth 100000
section
theorem AE (b l:List UInt8) (p:Nat):(b++l).getD (b.length+p) 0=l.getD p 0:=by
 rw[List.getD,List.getElem?_append_right (by omega),show b.length+p - b.length=p by omega];rfl
end
section
theorem A7 (b l:List UInt8) (i:Nat) (bs:List UInt8):Cg (b++l) (b.length+i) bs=Cg l i bs:=by
 unfold Cg;rw[AE,List.length_append];congr 1;rw[Bool.eq_iff_iff];simp
theorem Cj (b l:List UInt8) (i:Nat):BI (b++l) (b.length+i)=BI l i:=by
 unfold BI;rw[A7,List.length_append];congr 1;rw[Bool.eq_iff_iff];simp
theorem Bz (b l:List UInt8) (i d:Nat):AC (b++l) (b.length+i) d=AC l i d:=by
 unfold AC;rw[A7,Cj]
theorem B6:∀ (n:Nat) (l m:List UInt8),l.length<=n->validD l=true->Ag (l++m)=Ag l++Ag m
 | n,[],m,_,_=>rfl
 | 0,c::t,m,h,_=>by simp at h
 | n+1,c::t,m,h,hv=>by
  have hne:c::t≠[]:=by simp
  have hw:=decodeL_width (c::t);rw[Av (c::t++m) (by simp),Av (c::t) hne,EC _ m hne hv,List.drop_append_of_le_length (decodeL_le _ hne),B6 n _ m (by rw[List.length_drop];simp at h |-;omega) (Cu _ hne hv)];rfl
theorem AU (c:UInt8) (l:List UInt8) (h:c.toNat<128):Ag (c::l)=c.toNat::Ag l:=by
 rw[Av (c::l) (by simp),decodeL_ascii c l h];rfl
end
section
def CV (N:Nat):Prop:=∀ p v,p.length<=N->PV p v->∀ n d c,2*p.length<=n->AB n d (p++c)=if d+Ad v<=25 then .ok v c else .bad 73
def CI (N:Nat):Prop:=∀ p ts,p.length<=N->PI p ts->∀ n d c acc,2*p.length+1<=n->B9 n d (p++c) acc=if ts=[]\/d+1+Ad.deepTs ts<=25 then .ok (Bt (acc++ts)) c else .bad 73
def CD (N:Nat):Prop:=∀ p ks ts,p.length<=N->PD p ks ts->∀ n d c ks0 ts0,2*p.length+1<=n->AP n d (p++c) ks0 ts0=if ts=[]\/d+1+Ad.deepTs ts<=25 then .ok (BT (ks0++ks) (ts0++ts)) c else .bad 73
theorem A6 (t:Pc) (r:List Pc):hk (t::r)=t.kind:=rfl
theorem Dy:∀ N,CV N/\CI N/\CD N
 | 0=>⟨fun p v h hp=>absurd (List.eq_nil_of_length_eq_zero (by omega)) (Bm hp).1,fun p v h hp=>absurd (List.eq_nil_of_length_eq_zero (by omega)) (N1 hp),fun p k v h hp=>absurd (List.eq_nil_of_length_eq_zero (by omega)) (NY hp)⟩
 | N+1=>by
  obtain⟨hV,hI,hD⟩:=Dy N;refine⟨fun p v hl hp n d c hn=>?_,fun p ts hl hp n d c acc hn=>?_,fun p ks ts hl hp n d c ks0 ts0 hn=>?_⟩
  ·cases n with
   | zero=>exact absurd (List.eq_nil_of_length_eq_zero (by omega)) (Bm hp).1
   | succ n=>
    have hpos:=CL v;by_cases hd:24<d
    ·unfold AB;rw[if_pos hd,if_neg (by omega)]
    ·cases hp with
     | key t h=>
      have hkk:=CF h;show AB (n+1) d (t::c)=_;unfold AB;rw[if_neg hd,CN,if_pos (by omega)];simp only
      rw[if_neg (by omega),if_neg (by omega),if_neg (by omega),if_neg (by omega),if_pos h]
     | ali t h=>
      show AB (n+1) d (t::c)=_;unfold AB;rw[if_neg hd,GW,if_pos (by omega)];simp only
      rw[if_neg (by omega),if_pos h]
     | nam t p v h h2 h3 hp=>
      have hne:=(Bm hp).1;simp only[List.length_cons] at hl hn;show AB (n+1) d (t::(p++c))=_;have ih:=hV p v (by omega) hp n d c (by omega);unfold AB;rw[if_neg hd];simp only
      rw[if_pos h,D6 hne,if_neg (by omega),ih,D2];by_cases hdd:d+Ad v<=25
      ·rw[if_pos hdd,if_pos hdd]
      ·rw[if_neg hdd,if_neg hdd]
     | lst t p ts h hp=>
      simp only[List.length_cons] at hl hn;show AB (n+1) d (t::(p++c))=_;have ih:=hI p ts (by omega) hp n d c [] (by omega);unfold AB;rw[if_neg hd];simp only
      rw[if_neg (by omega),if_neg (by omega),if_pos h,ih,DJ,List.nil_append];by_cases hts:ts=[]
      ·rw[if_pos (.inl hts)];subst hts;rw[Ap,if_pos (by omega)]
      ·by_cases hdd:d+1+Ad.deepTs ts<=25
       ·rw[if_pos (.inr hdd),if_pos (by omega)]
       ·rw[if_neg (fun k=>k.elim hts hdd),if_neg (by omega)]
     | dic t p ks ts h hp=>
      simp only[List.length_cons] at hl hn;show AB (n+1) d (t::(p++c))=_;have ih:=hD p ks ts (by omega) hp n d c [] [] (by omega);unfold AB;rw[if_neg hd];simp only
      rw[if_neg (by omega),if_neg (by omega),if_neg (by omega),if_pos h,ih,Gg,List.nil_append,List.nil_append];by_cases hts:ts=[]
      ·rw[if_pos (.inl hts)];subst hts;rw[Ap,if_pos (by omega)]
      ·by_cases hdd:d+1+Ad.deepTs ts<=25
       ·rw[if_pos (.inr hdd),if_pos (by omega)]
       ·rw[if_neg (fun k=>k.elim hts hdd),if_neg (by omega)]
  ·cases n with
   | zero=>omega
   | succ n=>
    cases hp with
    | nil e h=>
     show B9 (n+1) d (e::c) acc=_;unfold B9;rw[A6,if_pos h,if_pos (.inl rfl),List.append_nil];rfl
    | last p v e hp h=>
     simp only[List.length_append,List.length_cons,List.length_nil] at hl hn;have hh:=Bm hp;have ih:=hV p v (by omega) hp n (d+1) (e::c) (by omega);rw[List.append_assoc,List.singleton_append];unfold B9;rw[D6 hh.1,if_neg (by omega),ih,Am,Ap];by_cases hdd:d+1+Ad v<=25
     ·rw[if_pos hdd,if_pos (.inr (by omega))];simp only
      rw[A6,if_neg (by omega),if_pos h];rfl
     ·rw[if_neg hdd,if_neg (fun k=>k.elim (fun k=>by cases k) (fun k=>by omega))]
    | cons p v m q ts hp h hq=>
     simp only[List.length_append,List.length_cons] at hl hn;have hh:=Bm hp;have ih:=hV p v (by omega) hp n (d+1) (m::(q++c)) (by omega);have ih2:=hI q ts (by omega) hq n d c (acc++[v]) (by omega);rw[List.append_assoc,List.cons_append];unfold B9;rw[D6 hh.1,if_neg (by omega),ih,Am];by_cases hdd:d+1+Ad v<=25
     ·rw[if_pos hdd];simp only
      rw[A6,if_pos h,List.tail_cons,ih2,List.append_assoc,List.singleton_append];by_cases hts:ts=[]
      ·subst hts;rw[if_pos (.inl rfl),Ap,if_pos (.inr (by omega))]
      ·by_cases hd2:d+1+Ad.deepTs ts<=25
       ·rw[if_pos (.inr hd2),if_pos (.inr (by omega))]
       ·rw[if_neg (fun k=>k.elim hts hd2),if_neg (fun k=>k.elim (fun k=>by cases k) (fun k=>by omega))]
     ·rw[if_neg hdd,if_neg (fun k=>k.elim (fun k=>by cases k) (fun k=>by omega))]
  ·
   have pair:∀ (p:List Pc) (x:Sc) (v:Tr),p.length<=N->PP p x v->∀ n e,2*p.length+1<=n->∀ (hke:hk e=7\/hk e=11) (ks0:List Sc) (ts0:List Tr),
     AP (n+1) d (p++e) ks0 ts0=if d+1+Ad v<=25 then (if hk e=7 then AP n d e.tail (ks0++[x]) (ts0++[v]) else .ok (BT (ks0++[x]) (ts0++[v])) e.tail) else .bad 73:=by
    intro p x v hpl hpp n e hn hke ks0 ts0;cases hpp with
    | none k c2 h hc=>
     have hkk:=CF h;show AP (n+1) d (k::c2::e) ks0 ts0=_;rw[AP];rw[A6,if_neg (by omega)];try simp only
     rw[if_neg (Decidable.not_not.2 h),A6,if_neg (Decidable.not_not.2 hc),List.tail_cons,Fb];by_cases hdd:24<d+1
     ·rw[if_pos hdd,if_neg (by omega)]
     ·rw[if_neg hdd,if_pos (show d+1+1<=25 by omega)];by_cases h7:hk e=7
      ·rw[if_pos h7,if_pos h7]
      ·rw[if_neg h7,if_neg h7,if_pos (by omega)]
    | some k c2 p v h hc hp=>
     have hkk:=CF h;have hh:=Bm hp;have hpos:=CL v;simp only[List.length_cons] at hpl hn;have ih:=hV p v (by omega) hp n (d+1) e (by omega);show AP (n+1) d (k::c2::(p++e)) ks0 ts0=_;rw[AP];rw[A6,if_neg (by omega)];try simp only
     rw[if_neg (Decidable.not_not.2 h),A6,if_neg (Decidable.not_not.2 hc),List.tail_cons,D6 hh.1];by_cases hdd:24<d+1
     ·rw[if_pos hdd,if_neg (by omega)]
     ·rw[if_neg hdd,if_neg (by omega),if_neg (by omega),ih];by_cases hd2:d+1+Ad v<=25
      ·rw[if_pos hd2,if_pos hd2];simp only
       by_cases h7:hk e=7
       ·rw[if_pos h7,if_pos h7]
       ·rw[if_neg h7,if_neg h7,if_pos (by omega)]
      ·rw[if_neg hd2,if_neg hd2]
   cases n with
   | zero=>omega
   | succ n=>
    cases hp with
    | nil e h=>
     show AP (n+1) d (e::c) ks0 ts0=_;unfold AP;rw[A6,if_pos h,if_pos (.inl rfl),List.append_nil,List.append_nil];rfl
    | last p x v e hp h=>
     simp only[List.length_append,List.length_cons,List.length_nil] at hl hn;rw[List.append_assoc,List.singleton_append,pair p x v (by omega) hp n (e::c) (by omega) (.inr h),A6,Am,Ap];by_cases hdd:d+1+Ad v<=25
     ·rw[if_pos hdd,if_neg (by omega),if_pos (.inr (by omega))];rfl
     ·rw[if_neg hdd,if_neg (fun k=>k.elim (fun k=>by cases k) (fun k=>by omega))]
    | cons p x v m q ks ts hp h hq=>
     simp only[List.length_append,List.length_cons] at hl hn;have ih2:=hD q ks ts (by omega) hq n d c (ks0++[x]) (ts0++[v]) (by omega);rw[List.append_assoc,List.cons_append,pair p x v (by omega) hp n (m::(q++c)) (by omega) (.inl h),A6,Am];by_cases hdd:d+1+Ad v<=25
     ·rw[if_pos hdd,if_pos h,List.tail_cons,ih2,List.append_assoc,List.append_assoc,List.singleton_append,List.singleton_append];by_cases hts:ts=[]
      ·subst hts;rw[if_pos (.inl rfl),Ap,if_pos (.inr (by omega))]
      ·by_cases hd2:d+1+Ad.deepTs ts<=25
       ·rw[if_pos (.inr hd2),if_pos (.inr (by omega))]
       ·rw[if_neg (fun k=>k.elim hts hd2),if_neg (fun k=>k.elim (fun k=>by cases k) (fun k=>by omega))]
     ·rw[if_neg hdd,if_neg (fun k=>k.elim (fun k=>by cases k) (fun k=>by omega))]
theorem J0 {p:List Pc} {v:Tr} (h:PV p v) (n d:Nat) (c:List Pc) (hn:2*p.length<=n):AB n d (p++c)=if d+Ad v<=25 then .ok v c else .bad 73:=
 (Dy p.length).1 p v Nr h n d c hn
theorem Fg {l:List Pc} {t:Tr} (h:PV l t):Bl l=if Ad t<=24 then (t,0) else (Ei,73):=by
 have:=J0 h (2*l.length+2) 1 [] (by omega);rw[List.append_nil] at this;unfold Bl Iu;rw[this];by_cases hd:Ad t<=24
 ·rw[if_pos (by omega),if_pos hd]
 ·rw[if_neg (by omega),if_neg hd]
end
section
theorem Fs {l:List IM} (h:∀ x∈l,0<=x.ind/\x.ind<=8000):LF l=DW l:=by
 unfold LF;rw[if_pos];rw[List.all_eq_true];intro x hx;simp[Kq,h x hx]
end
section
theorem Ed {chk:Tr->Int->St->Int} {t:Tr} (h:(Al chk t).2≠0):(Al chk t).1=G8:=by
 unfold Al at h |-;split at h
 ·exact absurd rfl h
 ·rename_i he;rw[if_neg he]
end
section
theorem CU {l:List UInt8} (hp:0<l.length) (h:l.getD (l.length - 1) 0≠32):Dt l=l:=by
 obtain⟨m,c,rfl⟩:∃ m c,l=m++[c]:=⟨l.dropLast,l.getLast (List.length_pos_iff.1 hp),(List.dropLast_concat_getLast (List.length_pos_iff.1 hp)).symm⟩
 have hc:c≠32:=by
  intro e;apply h;rw[List.length_append,show m.length+[c].length - 1=m.length+0 by simp,AE,e];rfl
 unfold Dt;rw[List.reverse_append,List.reverse_singleton,List.singleton_append,List.dropWhile_cons,if_neg (by simpa using hc)];simp
theorem AV {c:UInt8} (hc:c.toNat<128) (h1:32<=c.toNat) (h2:c.toNat≠127) (m:List UInt8):validD (c::m)=validD m/\(Ag (c::m)).all Ac=(Ag m).all Ac:=by
 refine⟨validD_cons c m hc,?_⟩;rw[AU c m hc,List.all_cons];have:Ac c.toNat=true:=by unfold Ac BW;simp;omega
 rw[this,Bool.true_and]
end
section
section
variable (ρ:Int->Int)
end
theorem NJ {chk:Tr->Int->St->Int} {Fz:Nat} {s:List UInt8} (h:(Aq chk Fz s).2.2≠0):(Aq chk Fz s).1=G8:=by
 unfold Aq at h |-;split
 ·rfl
 ·rename_i ht;rw[if_neg ht] at h;exact Ed h
theorem C1 {a r:List UInt8} (h:validD (a++10::r)=true):validD a=true/\validD r=true:=by
 have h1:=B0 10 (by decide) r _ a Nr h;refine⟨h1,?_⟩;have h2:=Bj _ a (10::r) Nr h1;rw[h] at h2;rw[<- validD_cons 10 r (by decide)];exact h2.symm
end
section
def AI (b m:List UInt8) (d:Nat):List TP:=BH (b++m) b.length d
theorem ZE (b m:List UInt8):(b++m).getD b.length 0=m.getD 0 0:=by have:=AE b m 0;rwa [Nat.add_zero] at this
theorem Hq (b m:List UInt8) (bs:List UInt8):Cg (b++m) b.length bs=Cg m 0 bs:=by have:=A7 b m 0 bs;rwa [Nat.add_zero] at this
theorem Cf (c:UInt8) (m:List UInt8) (bs:List UInt8):Cg (c::m) 0 bs=Ar bs c:=by
 unfold Cg;simp
theorem II (b:List UInt8) (d:Nat):AI b [] d=[]:=IE d (by simp)
theorem C0 {b m:List UInt8} (hv:validD (b++32::m)=true) (d:Nat):AI b (32::m) d=AI (b++[32]) m d:=by
 unfold AI;rw[Gn hv (by simp) (by rw[Hq,Cf];rfl)];simp
theorem DX {b m:List UInt8} {c:UInt8} {d k d':Nat} (hv:validD (b++c::m)=true) (h32:Ar [32] c=false) (h35:Ar [35] c=false) (ho:Dx (b++c::m) b.length d=.ok k [] (b.length+1) d'):AI b (c::m) d=.tok k [] b.length::AI (b++[c]) m d':=by
 unfold AI;rw[DH hv (by simp) (by rw[Hq,Cf];exact h32) (by unfold BA;rw[Hq,Cf,h35];rfl) ho];simp
theorem Hg {b m:List UInt8} (c:UInt8) (hc:c=91\/c=123) (hv:validD (b++c::m)=true) (d:Nat):AI b (c::m) d=.tok (if c=91 then 8 else 10) [] b.length::AI (b++[c]) m (d+1):=by
 refine DX hv (by rcases hc with rfl | rfl<;>rfl) (by rcases hc with rfl | rfl<;>rfl) ?_;unfold Dx;rw[ZE];rcases hc with rfl | rfl<;>rfl
theorem Iy {b m:List UInt8} (c:UInt8) (hc:c=44\/c=93\/c=125) (hv:validD (b++c::m)=true):AI b (c::m) 1=.tok (if c=44 then 7 else if c=93 then 9 else 11) [] b.length::AI (b++[c]) m (if c=44 then 1 else 0):=by
 refine DX hv (by rcases hc with rfl | rfl | rfl<;>rfl) (by rcases hc with rfl | rfl | rfl<;>rfl) ?_;unfold Dx;rw[ZE];rcases hc with rfl | rfl | rfl<;>rfl
def kn:TP->TP
 | .tok k t _=>.tok k t 0
 | .bad e _=>.bad e 0
def Oz:List TP->Bool
 | []=>true
 | .tok _ _ _::r=>Oz r
 | .bad _ _::_=>false
theorem Gz:∀ {ps:List TP},Oz ps=true->DK ps=O
 | [],_=>rfl
 | .tok _ _ _::r,h=>Gz (ps:=r) h
 | .bad _ _::_,h=>by cases h
theorem Nx:∀ ps:List TP,Oz (ps.map kn)=Oz ps
 | []=>rfl
 | .tok _ _ _::r=>Nx r
 | .bad _ _::_=>rfl
def O7:TP->Pc
 | .tok k t _=>⟨k,t⟩
 | .bad _ _=>⟨0,[]⟩
theorem Ia:∀ ps:List TP,Oz ps=true->IT ((ps.map J7).map LX)=(ps.map kn).map O7
 | [],_=>rfl
 | .tok k t p::r,h=>by
  have:=Ia r h;unfold IT at this |-;simp only[List.map_cons]
  rw[this];rfl
 | .bad _ _::_,h=>by cases h
theorem GP {l:List UInt8} {ps:List TP} (hv:validD l=true) (hp:(Ag l).all Ac=true) (ht:BH l 0 0=ps) (hk:Oz ps=true) (hne:ps≠[]):Du l=((ps.map J7).map LX,0):=by
 unfold Du BP;rw[if_pos hv,if_pos hp,ht,FZ,Gz hk];simp[hne]
end
section
def Af (l:List UInt8):Prop:=validD l=true/\(Ag l).all Ac=true
theorem Af.cons {c:UInt8} (hc:c.toNat<128) (h1:32<=c.toNat) (h2:c.toNat≠127) {m:List UInt8} (h:Af m):Af (c::m):=by
 have:=AV hc h1 h2 m;exact⟨this.1.trans h.1,this.2.trans h.2⟩
theorem Af.nil:Af []:=⟨rfl,rfl⟩
theorem KP {Fz:Nat} (c:UInt8) (m:List UInt8) (no:Int) {ps:List TP} {t:Tr} (hc:c=91\/c=123) (hF:1<=Fz) (hr:Af (c::m)) (hp:(AI [c] m 1).map kn=ps) (hok:Oz ps=true) (hPV:PV ((⟨if c=91 then 8 else 10,[]⟩:Pc)::ps.map O7) t) (hd:Ad t<=24):AZ Fz [⟨no,0,c::m⟩]=(t,0,0):=by
 obtain⟨Fz,rfl⟩:∃ G,Fz=G+1:=⟨Fz - 1,by omega⟩
 have e1:=Hg (b:=[]) (m:=m) c hc (by exact hr.1) 0;have hok2:Oz (AI ([]++[c]) m (0+1))=true:=by rw[<- Nx];rw[show(AI ([]++[c]) m (0+1)).map kn=ps from hp];exact hok
 have h1:=GP (l:=c::m) hr.1 hr.2 (ps:=_) e1 (by exact hok2) (by simp);have hpcs:IT (((TP.tok (if c=91 then 8 else 10) [] (List.length ([]:List UInt8))::AI ([]++[c]) m (0+1)).map J7).map LX)=(⟨if c=91 then 8 else 10,[]⟩:Pc)::ps.map O7:=by
  rw[Ia _ (by exact hok2),List.map_cons,List.map_cons,show(AI ([]++[c]) m (0+1)).map kn=ps from hp];simp only[kn,O7]
  rcases hc with rfl | rfl<;>rfl
 unfold AZ;rw[Fs (by intro x hx;rw[List.mem_singleton.1 hx];exact⟨by show(0:Int)<=0;omega,by show(0:Int)<=8000;omega⟩),DW,DW];simp only
 rw[h1];simp only
 rw[if_neg (by decide)];show CK (Fz+1) [_]=_;unfold CK;rw[if_neg (by simp),AF];simp only
 rw[if_neg (by decide)];obtain⟨tk,htk⟩:∃ tk,((TP.tok (if c=91 then 8 else 10) [] (List.length ([]:List UInt8))::AI ([]++[c]) m (0+1)).map J7).map LX=tk:=⟨_,rfl⟩
 rw[htk] at hpcs |-;have hb:Ck tk=.plain:=by
  cases tk with
  | nil=>rw[show IT ([]:List C8)=[] from rfl] at hpcs;cases hpcs
  | cons a r=>
   have h2:(⟨a.kind,a.str⟩:Pc)=⟨if c=91 then 8 else 10,[]⟩:=by unfold IT at hpcs;injection hpcs
   injection h2 with h2 _;unfold Ck Zt;rcases hc with rfl | rfl<;>simp at h2<;>simp[h2]
 rw[hb];simp only
 unfold C9;rw[hpcs,Fg hPV,if_pos hd,if_neg (by decide),if_neg (by simp),if_neg (by simp only;omega)];rfl
end
section
theorem CT {r:List UInt8} (h:Af r):10∉r:=fun hm=>by
 have hs:=(CE r).1 hm;have hv:=h.1;rw[hs] at hv;have ha:=(C1 hv).1;have hp:=h.2;rw[hs,B6 _ _ _ Nr ha,AU _ _ (by decide),List.all_append,List.all_cons] at hp;have:Ac (10:UInt8).toNat=false:=rfl;rw[this] at hp;simp at hp
theorem DS {r:List UInt8} (h:Af r) (hm:B7 r=false):Ax r=0:=by
 unfold Ax Bd;rw[h.2,hm];rfl
theorem Ep {r:List UInt8} {rs:List (List UInt8)} {k:Nat} {acc:List Sc} (h:Af r) (hm:B7 r=false) (hs:AO r=true):BB (BG k (r::rs)) acc=BB (BG (k+1) rs) (acc++[AN k r]):=by
 rw[Ba,Bc,if_neg (by rw[DS h hm];decide),hs,if_pos rfl]
theorem FV {Fz:Nat} {r m:List UInt8} (hr:Af r) (hmk:B7 r=false) (hs:AO r=true) (hl:r.length<=7000) (hm:m=[]\/m=[10]):A3 Fz (r++m)=AZ Fz [BM (AN 1 r)]:=by
 have hne:r≠[]:=fun e=>by rw[e] at hs;cases hs
 have hno:=CT hr;have hrows:Be (r++m)=[r]:=by
  rcases hm with rfl | rfl
  ·rw[List.append_nil];exact FW hno hne
  ·rw[DM hno,CO]
 have hv:validD (r++m)=true:=by
  rw[Bj _ r m Nr hr.1];rcases hm with rfl | rfl<;>rfl
 have hml:m.length<=1:=by rcases hm with rfl | rfl<;>decide
 have hsp:Ao (r++m)=([AN 1 r],0,0):=by
  unfold Ao;rw[if_neg (by rw[List.length_append];omega),if_pos hv,hrows,Ep hr hmk hs];rfl
 unfold A3;rw[hsp,if_neg (fun h=>h rfl)];rfl
theorem Gp {c:UInt8} {r:List UInt8} (k:Nat) (hc:c≠32) (he:(c::r).getD r.length 0≠32):AN k (c::r)=⟨k,0,⟨(c::r).toArray⟩⟩:=by
 have h1:AK (c::r)=c::r:=by
  unfold AK Lib.trimLeftB;rw[List.dropWhile_cons,if_neg (by simpa using hc)]
 unfold AN;rw[h1,CU (by simp) (by simpa using he)];congr 1;omega
theorem Gw {c:UInt8} {r:List UInt8} (hc:c≠32) (h35:c≠35):AO (c::r)=true:=by
 have h1:AK (c::r)=c::r:=by
  unfold AK Lib.trimLeftB;rw[List.dropWhile_cons,if_neg (by simpa using hc)]
 unfold AO;rw[h1];simpa using h35
theorem Gu {c:UInt8} {r:List UInt8} (h1:c≠45) (h2:c≠46):B7 (c::r)=false:=by
 simp[B7,BZ,Lib.hasPrefix,List.isPrefixOf,Ne.symm h1,Ne.symm h2]
theorem Ho (k n:Int) (l:List UInt8):BM ⟨k,n,⟨l.toArray⟩⟩=⟨k,n,l⟩:=rfl
theorem Ec {Fz:Nat} {s:List UInt8} {t:Tr} (h:A3 Fz s=(t,0,0)):Aq AD Fz s=((Al AD t).1,0,(Al AD t).2):=by
 unfold Aq;rw[h,if_neg (fun h=>h rfl)]
end
section
section
variable {P:Program} {n:Nat} {ds:List Deferred} {d:Bool} {ops:Array Oper} {K:Act->Y->Prop} {i:Nat} {pl pend:List Nat} {S:Y->Prop} {l:Env}
 {t:Nat} {ty:TypeId} {ps:String} {af:Array Edge} {gd:Option (Nat×Bool)}
end
theorem Hk (s:ByteArray) (k:Nat):(s.extract 0 k).size<=k:=by rw[ByteArray.size_extract];omega
end
section
theorem SB {c:UInt8} (h:Cd c=true):45<=c.toNat/\c.toNat<=122:=by
 unfold Cd BJ at h;simp only[Bool.or_eq_true,Bool.and_eq_true,decide_eq_true_eq,beq_iff_eq] at h;omega
theorem ME:∀ l:List UInt8,l.all Cd=true->validD l=true
 | [],_=>rfl
 | c::r,h=>by
  simp only[List.all_cons,Bool.and_eq_true] at h;rw[validD_cons c r (by have:=SB h.1;omega)];exact ME r h.2
theorem NV:∀ l:List UInt8,l.all Cd=true->(Ag l).all Ac=true
 | [],_=>rfl
 | c::r,h=>by
  simp only[List.all_cons,Bool.and_eq_true] at h;have hb:=SB h.1;rw[AU c r (by omega),List.all_cons,NV r h.2,Bool.and_true];unfold Ac BW;simp;omega
end
section
theorem Nh {a:List UInt8} (h:a.all Cd=true) {m:List UInt8} (hm:Af m):Af (a++m):=by
 have h1:=ME a h;exact⟨by rw[Bj _ _ _ Nr h1];exact hm.1,by rw[B6 _ _ _ Nr h1,List.all_append,NV a h,hm.2];rfl⟩
theorem G0 {a:List UInt8} (h:CG a=true):a.all Cd=true/\a≠[]/\a.length<=20:=by
 unfold CG at h;simp only[Bool.and_eq_true,decide_eq_true_eq] at h;refine⟨h.1,fun e=>?_,h.2.2⟩;rw[e] at h;exact absurd h.2.1 (by decide)
theorem Akq {a:List UInt8} (h:a.all Cd=true) {c:UInt8} (hc:Cd c=false) (m:List UInt8):(a++c::m).takeWhile Cd=a:=by
 induction a with
 | nil=>rw[List.nil_append,List.takeWhile_cons,hc];rfl
 | cons x r ih=>
  rw[List.all_cons,Bool.and_eq_true] at h;rw[List.cons_append,List.takeWhile_cons,h.1,if_pos rfl,ih h.2]
theorem N2 {a:List UInt8} (ha:CG a=true) (b m:List UInt8) (s c:UInt8) (hs:s=38\/s=42) (hc:c=32\/c=93) (hv:validD (b++s::(a++c::m))=true):
  AI b (s::(a++c::m)) 1=.tok (if s=42 then 4 else 3) a b.length::AI (b++s::a) (c::m) 1:=by
 obtain⟨h1,h2,h3⟩:=G0 ha;have hcs:Cd c=false:=by rcases hc with rfl | rfl<;>rfl
 have hof:nameOf (b++s::(a++c::m)) b.length=a:=by
  unfold nameOf;rw[show b++s::(a++c::m)=(b++[s])++(a++c::m) by simp,show b.length+1=(b++[s]).length by simp,List.drop_left,Akq h1 hcs]
 have hcl:AC (b++s::(a++c::m)) (b.length+1+a.length) 1=true:=by
  have e:=Bz (b++s::a) (c::m) 0 1;rw[Nat.add_zero,show(b++s::a)++c::m=b++s::(a++c::m) by simp,show(b++s::a).length=b.length+1+a.length by simp;omega] at e;rw[e];rcases hc with rfl | rfl<;>rfl
 have ho:Dx (b++s::(a++c::m)) b.length 1=.ok (if s=42 then 4 else 3) a (b.length+1+a.length) 1:=by
  have hn:Jv (b++s::(a++c::m)) b.length 1=.ok (if s=42 then 4 else 3) a (b.length+1+a.length) 1:=by
   unfold Jv;rw[hof,ha,hcl,Hq,Cf];rcases hs with rfl | rfl<;>rfl
  have hg:(b++s::(a++c::m)).getD b.length 0=s:=by rw[ZE];rfl
  unfold Dx;rw[hg];unfold Ql;rw[if_neg (by rcases hs with rfl | rfl<;>decide),if_pos (show s=38\/s=42 from hs)];exact hn
 unfold AI;rw[DH hv (by simp) (by rw[Hq,Cf];rcases hs with rfl | rfl<;>rfl) (by unfold BA;rw[Hq,Cf];rcases hs with rfl | rfl<;>rfl) ho];simp[Nat.add_assoc,Nat.add_comm 1]
theorem Qp {b m:List UInt8} (hv:validD (b++93::m)=true):AI b (93::m) 2=.tok 9 [] b.length::AI (b++[93]) m 1:=by
 refine DX hv rfl rfl ?_;unfold Dx;rw[ZE];rfl
theorem byL (a:List UInt8):(⟨a.toArray⟩:ByteArray).toList=a:=by rw[ByteArray.toList_eq]
def IY (a b:List UInt8):List UInt8:=38::(a++32::91::93::44::32::42::(b++[93]))
theorem Uv (a:List UInt8) (b:List UInt8) (ha:CG a=true):Al AD (Bt [(Bt []).named a,Fd b])=if a=b then (⟨0,[⟨1,AJ,[],[1,1]⟩,⟨1,AJ,[],[]⟩]⟩,0) else (G8,if CG b=true\/b=[] then (if b=[] then 93 else 100) else 93):=by
 obtain⟨_,hne,_⟩:=G0 ha;have hae:a.isEmpty=false:=by cases a with | nil=>exact absurd rfl hne | cons _ _=>rfl
 by_cases e:a=b
 ·subst e;have:BO AD 1 (Bt [(Bt []).named a,Fd a]) ⟨[],[]⟩=(⟨[⟨1,AJ,[],[1,1]⟩,⟨1,AJ,[],[]⟩],[(⟨a.toArray⟩,1)]⟩,0,0):=by
   simp[BO,D3,Bt,Fd,Tr.named,AD,BY,F7,BD,Fv,O3,Uw,ha,hae,byL,St.node,St.kid,mput,AT]
  unfold Al;rw[this,if_pos rfl,if_pos rfl]
 ·have hbe:(⟨a.toArray⟩:ByteArray)≠⟨b.toArray⟩:=fun h=>e (by have:=congrArg (fun x:ByteArray=>x.data.toList) h;simpa using this);have:(BO AD 1 (Bt [(Bt []).named a,Fd b]) ⟨[],[]⟩).2.2=if CG b=true\/b=[] then (if b=[] then 93 else 100) else 93:=by
   by_cases hb0:b=[]
   ·subst hb0;simp[BO,D3,Bt,Fd,Tr.named,AD,BY,F7,BD,Fv,O3,Uw,ha,hae,byL,St.node,St.kid,mput,AT]
   ·have hbE:b.isEmpty=false:=by cases b with | nil=>exact absurd rfl hb0 | cons _ _=>rfl
    by_cases hb:CG b=true
    ·simp[BO,D3,Bt,Fd,Tr.named,AD,BY,F7,BD,Fv,O3,Uw,ha,hae,hb,hbE,hb0,byL,St.node,St.kid,mput,AT,hbe]
    ·have hb:CG b=false:=by simpa using hb
     simp[BO,D3,Bt,Fd,Tr.named,AD,BY,F7,BD,Fv,O3,Uw,ha,hae,hb,hbE,hb0,byL,St.node,St.kid,mput,AT,hbe]
  have hne0:(BO AD 1 (Bt [(Bt []).named a,Fd b]) ⟨[],[]⟩).2.2≠0:=by
   rw[this];split
   ·split<;>decide
   ·decide
  unfold Al;rw[if_neg hne0,this,if_neg e]
theorem XE {Fz:Nat} {a b:List UInt8} (ha:CG a=true) (hb:CG b=true):Aq AD (Fz+1) (91::IY a b)=if a=b then (⟨0,[⟨1,AJ,[],[1,1]⟩,⟨1,AJ,[],[]⟩]⟩,0,0) else (G8,0,100):=by
 obtain⟨a1,a2,a3⟩:=G0 ha;obtain⟨b1,b2,b3⟩:=G0 hb;have hr0:Af (b++[93]):=Nh b1 (Af.cons (by decide) (by decide) (by decide) Af.nil);have hr1:Af (32::91::93::44::32::42::(b++[93])):=Af.cons (by decide) (by decide) (by decide) (Af.cons (by decide) (by decide) (by decide) (Af.cons (by decide) (by decide) (by decide) (Af.cons (by decide) (by decide) (by decide) (Af.cons (by decide) (by decide) (by decide) (Af.cons (by decide) (by decide) (by decide) hr0)))));have hr:Af (91::IY a b):=Af.cons (by decide) (by decide) (by decide) (Af.cons (by decide) (by decide) (by decide) (Nh a1 hr1));have hv:validD ([91]++IY a b)=true:=hr.1;have hlast:(91::IY a b).getD (IY a b).length 0≠32:=by
  have e:(91::IY a b)=(91::38::(a++32::91::93::44::32::42::b))++[93]:=by simp[IY]
  have el:(IY a b).length=(91::38::(a++32::91::93::44::32::42::b)).length+0:=by simp[IY];omega
  rw[e,el,AE];decide
 have hp:(AI [91] (IY a b) 1).map kn=[.tok 3 a 0,.tok 8 [] 0,.tok 9 [] 0,.tok 7 [] 0,.tok 4 b 0,.tok 9 [] 0]:=by
  unfold IY at hv |-;rw[N2 ha _ _ 38 32 (.inl rfl) (.inl rfl) (by simpa using hv),C0 (by simpa using hv),Hg 91 (.inl rfl) (by simpa using hv),Qp (by simpa using hv),Iy 44 (.inl rfl) (by simpa using hv),if_pos rfl,if_pos rfl,if_pos rfl,C0 (by simpa using hv),
   N2 hb _ _ 42 93 (.inr rfl) (.inr rfl) (by simpa using hv),Iy 93 (.inr (.inl rfl)) (by simpa using hv),II]
  rfl
 have hpv:PV ((⟨8,[]⟩:Pc)::([.tok 3 a 0,.tok 8 [] 0,.tok 9 [] 0,.tok 7 [] 0,.tok 4 b 0,.tok 9 [] 0]:List TP).map O7) (Bt [(Bt []).named a,Fd b]):=
  PV.lst _ _ _ rfl (PI.cons [⟨3,a⟩,⟨8,[]⟩,⟨9,[]⟩] _ ⟨7,[]⟩ _ _ (PV.nam ⟨3,a⟩ [⟨8,[]⟩,⟨9,[]⟩] _ rfl (by decide) (by decide) (PV.lst ⟨8,[]⟩ [⟨9,[]⟩] [] rfl (PI.nil ⟨9,[]⟩ rfl))) rfl (PI.last [⟨4,b⟩] _ ⟨9,[]⟩ (PV.ali ⟨4,b⟩ rfl) rfl))
 have t1:A3 (Fz+1) (91::IY a b)=(Bt [(Bt []).named a,Fd b],0,0):=by
  have:=FV (Fz:=Fz+1) (m:=[]) hr (Gu (by decide) (by decide)) (Gw (by decide) (by decide)) (by simp[IY];omega) (.inl rfl);rw[List.append_nil,Gp 1 (by decide) hlast,Ho] at this;rw[this];exact KP 91 (IY a b) 1 (.inl rfl) (by omega) hr hp rfl hpv (by rw[DJ,Am,Am,Ap,D2,DJ,Ap,GW];decide)
 rw[Ec t1,Uv a b ha];by_cases e:a=b
 ·rw[if_pos e,if_pos e]
 ·rw[if_neg e,if_neg e,if_pos (.inl hb),if_neg b2]
end
section
theorem Zv (s t:ByteArray) (w:Y) (hW:FP w):Calls Tryz.prog 7 #[Q s,Q t] w fun e w'=>e=.returned (.bool true)/\Below w.heap.size w w':=by
 obtain⟨m,hm⟩:∃ m,min s.size 30=m:=⟨_,rfl⟩
 obtain⟨k,hk⟩:∃ k,min t.size 30=k:=⟨_,rfl⟩
 obtain⟨S,hS⟩:∃ S,s.extract 0 m=S:=⟨_,rfl⟩
 obtain⟨T,hT⟩:∃ T,t.extract 0 k=T:=⟨_,rfl⟩
 have hSs:S.size<=30:=by rw[<- hS];exact Nat.le_trans (Hk s m) (by omega:m<=30)
 have hTs:T.size<=30:=by rw[<- hT];exact Nat.le_trans (Hk t k) (by omega:k<=30)
 obtain⟨a,ha⟩:∃ a,S.data.toList=a:=⟨_,rfl⟩
 obtain⟨b,hb⟩:∃ b,T.data.toList=b:=⟨_,rfl⟩
 obtain⟨X,hX⟩:∃ X:ByteArray,(((⟨#[91,38]⟩:ByteArray)++S)++⟨#[32,91,93,44,32,42]⟩++T)++⟨#[93]⟩=X:=⟨_,rfl⟩
 have hXl:X.data.toList=91::IY a b:=by rw[<- hX,<- ha,<- hb];simp[IY]
 have hLX:=fun w' (h:FP w')=>C2 X w' h;have hbad:(Aq AD 100000 X.data.toList).2.2≠0->(Aq AD 100000 X.data.toList).1=G8:=NJ;have hlaw:CG a=true->CG b=true->Aq AD 100000 X.data.toList=if a=b then (⟨0,[⟨1,AJ,[],[1,1]⟩,⟨1,AJ,[],[]⟩]⟩,0,0) else (G8,0,100):=fun h1 h2=>by rw[hXl];exact XE (Fz:=99999) h1 h2
 obtain⟨L,hL⟩:∃ x,Aq AD 100000 X.data.toList=x:=⟨_,rfl⟩
 rw[hL] at hLX hbad hlaw;clear hL;have hNS:=fun w'=>Ga S w' (by omega);have hNT:=fun w'=>Ga T w' (by omega);rw[ha] at hNS;rw[hb] at hNT;refine V.enter _ Tryz.func7 (Mem.start (C:=A5) w) ?_
 repeat refine W ?_
 refine R.c (fun w' h'=>DY w' (hW.to h'.1.below)) ?_
 repeat refine W ?_
 refine R.cut (s:=s) m (m:=min (s.size:Int) 30) (by omega) (by omega) ?_;rw[hS]
 repeat refine W ?_
 refine R.cut (s:=t) k (m:=min (t.size:Int) 30) (by omega) (by omega) ?_;rw[hT]
 repeat refine W ?_
 refine R.cat ⟨#[91,38]⟩ S (by show 2+_<=_;omega) ?_;refine R.cat (⟨#[91,38]⟩++S) ⟨#[32,91,93,44,32,42]⟩ (by rw[ByteArray.size_append];show 2+_+6<=_;omega) ?_
 repeat refine W ?_
 refine R.cat ((⟨#[91,38]⟩++S)++⟨#[32,91,93,44,32,42]⟩) T (by rw[ByteArray.size_append,ByteArray.size_append];show 2+_+6+_<=_;omega) ?_;refine R.cat (((⟨#[91,38]⟩++S)++⟨#[32,91,93,44,32,42]⟩)++T) ⟨#[93]⟩ (by rw[ByteArray.size_append,ByteArray.size_append,ByteArray.size_append];show 2+_+6+_+1<=_;omega) ?_;rw[hX];obtain⟨G,no,er⟩:=L;refine R.cf (fun w' h'=>hLX w' (hW.to h'.1.below)) (fun q=>?_)
 repeat (first | refine W ?_ | refine R.new fun _ _=>?_)
 refine R.c (fun w' h'=>hNS w') ?_;cases hna:CG a with
 | false=>
  repeat refine W ?_
  by_cases he:er=0
  ·subst he
   repeat refine W ?_
   refine V.end fun w' h'=>?_;exact⟨rfl,h'.1.below⟩
  ·obtain rfl:G=G8:=hbad he
   repeat refine W ?_
   refine R.re 43 (v:=.bool (er==0)) (v':=.bool false) (by simp[he]) ?_
   repeat refine W ?_
   refine V.end fun w' h'=>?_;exact⟨rfl,h'.1.below⟩
 | true=>
  repeat refine W ?_
  refine R.c (fun w' h'=>hNT w') ?_;cases hnb:CG b with
  | false=>
   by_cases he:er=0
   ·subst he
    repeat refine W ?_
    refine V.end fun w' h'=>?_;exact⟨rfl,h'.1.below⟩
   ·obtain rfl:G=G8:=hbad he
    repeat refine W ?_
    refine R.re 43 (v:=.bool (er==0)) (v':=.bool false) (by simp[he]) ?_
    repeat refine W ?_
    refine V.end fun w' h'=>?_;exact⟨rfl,h'.1.below⟩
  | true=>
   have hlaw:=hlaw hna hnb;by_cases hab:a=b
   ·rw[if_pos hab] at hlaw;obtain⟨rfl,h2⟩:=Prod.mk.inj hlaw;obtain⟨rfl,rfl⟩:=Prod.mk.inj h2
    repeat refine W ?_
    refine V.re 52 (v:=.bool (S.toList !=T.toList)) (v':=.bool false) (by rw[ByteArray.toList_eq,ByteArray.toList_eq,ha,hb];simp[hab]) ?_
    repeat refine W ?_
    refine R.bs (m:=2) (cs:=[I J 1,I J 1]) (bt:=3) (fun bi hbi=>?_)
    repeat refine W ?_
    refine R.bs (m:=2) (cs:=BE [⟨1,AJ,[],[1,1]⟩,⟨1,AJ,[],[]⟩] [(Z O 0 0,Z (F ⟨bi,0,O⟩) 2 2),(Z O 0 0,Z O 0 0)]) (bt:=40) (fun bn hbn=>?_)
    repeat refine W ?_
    refine R.c (v:=.bool true) (fun w' h'=>?_) ?_
    ·obtain⟨Fz,⟨A,c,ea,hn⟩,hF⟩:=h'.has (X:=KZ (Fx q.1 q.2 ⟨0,[⟨1,AJ,[],[1,1]⟩,⟨1,AJ,[],[]⟩]⟩) ⟨0,[⟨1,AJ,[],[1,1]⟩,⟨1,AJ,[],[]⟩]⟩) (by simp);obtain⟨rfl,rfl⟩:=DP ea;have hbl:=h'.blk (b:=bi) (cs:=[I J 1,I J 1]) (ty:=3) (by simp);refine(DQ Fz (fun _=>True) q.1 (F ⟨bn,0,O⟩) q.2 2 ⟨0,[⟨1,AJ,[],[1,1]⟩,⟨1,AJ,[],[]⟩]⟩ ⟨0,[⟨1,AJ,[],[1,1]⟩,⟨1,AJ,[],[]⟩]⟩ w' hn (QM (h'.blk (List.Mem.head _)) rfl trivial (fun j x p hx hp=>?_)) ⟨by simp,by simp⟩).mono fun e w2 ⟨he,hb⟩=>⟨by rw[he,decide_eq_true rfl],hb⟩
     match j,hx,hp with
     | 0,hx,hp=>cases hx;cases hp;exact⟨O,0,F ⟨bi,0,O⟩,2,rfl,ksNil,Aco (is:=[1,1]) hbl trivial⟩
     | 1,hx,hp=>cases hx;cases hp;exact⟨O,0,O,0,rfl,ksNil,isNil⟩
    repeat refine W ?_
    refine V.end fun w' h'=>?_;exact⟨rfl,h'.1.below⟩
   ·rw[if_neg hab] at hlaw;obtain⟨rfl,h2⟩:=Prod.mk.inj hlaw;obtain⟨rfl,rfl⟩:=Prod.mk.inj h2
    repeat refine W ?_
    refine V.re 52 (v:=.bool (S.toList !=T.toList)) (v':=.bool true) (by rw[ByteArray.toList_eq,ByteArray.toList_eq,ha,hb];simp[hab]) ?_
    repeat refine W ?_
    refine V.end fun w' h'=>?_;exact⟨rfl,h'.1.below⟩
end
end Go.Proofs.YtdpppepmkeinaaaGreatDoor
