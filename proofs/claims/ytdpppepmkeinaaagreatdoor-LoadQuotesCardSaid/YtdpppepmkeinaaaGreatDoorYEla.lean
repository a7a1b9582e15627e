import Derived.Test.YtdpppepmkeinaaaGreatDoorYg
import Derived.Test.YtdpppepmkeinaaaGreatDoorYh
import Derived.Test.YtdpppepmkeinaaaGreatDoorYm
import Derived.Test.YtdpppepmkeinaaaGreatDoorYz
import Derived.Test.YtdpppepmkeinaaaGreatDoorYxf
import Derived.Test.YtdpppepmkeinaaaGreatDoorYxh
import Derived.Test.YtdpppepmkeinaaaGreatDoorYxk
import Derived.Test.YtdpppepmkeinaaaGreatDoorYp
import Derived.Test.YtdpppepmkeinaaaGreatDoorYxi
import Derived.Test.YtdpppepmkeinaaaGreatDoorYxj
import Derived.Test.YtdpppepmkeinaaaGreatDoorYxm
import Derived.Test.YtdpppepmkeinaaaGreatDoorYxo
import Derived.Test.YtdpppepmkeinaaaGreatDoorYxl
import Derived.Test.YtdpppepmkeinaaaGreatDoorYxa
import Derived.Test.YtdpppepmkeinaaaGreatDoorYxs
/- What is proved: the law returns true whatever comes in; no condition beside those that each theorem names. -/
namespace Go.Proofs.YtdpppepmkeinaaaGreatDoor
set_option maxHeartbeats 16000000
open Go Go.RowKit Go.Lib
open Go.Value renaming int->I,string->Q,slice->Z
open Go.IntKind renaming i64->J
open Option renaming none->O,some->F
open _root_.Go renaming World->Y
set_option linter.unusedSimpArgs false
set_option linter.unusedVariables false
open Go Go.RowKit
set_option linter.unusedSectionVars false
set_option maxRecDepth 100000
section
theorem AE (b l:List UInt8) (p:Nat):(b++l).getD (b.length+p) 0=l.getD p 0:=by
 rw[List.getD,List.getElem?_append_right (by omega),show b.length+p - b.length=p by omega];rfl
theorem E6 (l m:List UInt8) (p:Nat) (h:p<l.length):(l++m).getD p 0=l.getD p 0:=by
 rw[List.getD,List.getElem?_append_left h];rfl
end
section
theorem A7 (b l:List UInt8) (i:Nat) (bs:List UInt8):Cg (b++l) (b.length+i) bs=Cg l i bs:=by
 unfold Cg;rw[AE,List.length_append];congr 1;rw[Bool.eq_iff_iff];simp
theorem Cj (b l:List UInt8) (i:Nat):BI (b++l) (b.length+i)=BI l i:=by
 unfold BI;rw[A7,List.length_append];congr 1;rw[Bool.eq_iff_iff];simp
theorem Bz (b l:List UInt8) (i d:Nat):AC (b++l) (b.length+i) d=AC l i d:=by
 unfold AC;rw[A7,Cj]
theorem B6:∀ (n:Nat) (l m:List UInt8),l.length<=n->validD l=true->Ag (l++m)=Ag l++Ag m
 | n,[],m,_,_=>rfl
 | 0,c::t,m,h,_=>by simp at h
 | n+1,c::t,m,h,hv=>by
  have hne:c::t≠[]:=by simp
  have hw:=decodeL_width (c::t);rw[Av (c::t++m) (by simp),Av (c::t) hne,EC _ m hne hv,List.drop_append_of_le_length (decodeL_le _ hne),B6 n _ m (by rw[List.length_drop];simp at h |-;omega) (Cu _ hne hv)];rfl
theorem AU (c:UInt8) (l:List UInt8) (h:c.toNat<128):Ag (c::l)=c.toNat::Ag l:=by
 rw[Av (c::l) (by simp),decodeL_ascii c l h];rfl
end
section
def CV (N:Nat):Prop:=∀ p v,p.length<=N->PV p v->∀ n d c,2*p.length<=n->AB n d (p++c)=if d+Ad v<=25 then .ok v c else .bad 73
def CI (N:Nat):Prop:=∀ p ts,p.length<=N->PI p ts->∀ n d c acc,2*p.length+1<=n->B9 n d (p++c) acc=if ts=[]\/d+1+Ad.deepTs ts<=25 then .ok (Bt (acc++ts)) c else .bad 73
def CD (N:Nat):Prop:=∀ p ks ts,p.length<=N->PD p ks ts->∀ n d c ks0 ts0,2*p.length+1<=n->AP n d (p++c) ks0 ts0=if ts=[]\/d+1+Ad.deepTs ts<=25 then .ok (BT (ks0++ks) (ts0++ts)) c else .bad 73
theorem A6 (t:Pc) (r:List Pc):hk (t::r)=t.kind:=rfl
theorem Dy:∀ N,CV N/\CI N/\CD N
 | 0=>⟨fun p v h hp=>absurd (List.eq_nil_of_length_eq_zero (by omega)) (Bm hp).1,fun p v h hp=>absurd (List.eq_nil_of_length_eq_zero (by omega)) (N1 hp),fun p k v h hp=>absurd (List.eq_nil_of_length_eq_zero (by omega)) (NY hp)⟩
 | N+1=>by
  obtain⟨hV,hI,hD⟩:=Dy N;refine⟨fun p v hl hp n d c hn=>?_,fun p ts hl hp n d c acc hn=>?_,fun p ks ts hl hp n d c ks0 ts0 hn=>?_⟩
  ·cases n with
   | zero=>exact absurd (List.eq_nil_of_length_eq_zero (by omega)) (Bm hp).1
   | succ n=>
    have hpos:=CL v;by_cases hd:24<d
    ·unfold AB;rw[if_pos hd,if_neg (by omega)]
    ·cases hp with
     | key t h=>
      have hkk:=CF h;show AB (n+1) d (t::c)=_;unfold AB;rw[if_neg hd,CN,if_pos (by omega)];simp only
      rw[if_neg (by omega),if_neg (by omega),if_neg (by omega),if_neg (by omega),if_pos h]
     | ali t h=>
      show AB (n+1) d (t::c)=_;unfold AB;rw[if_neg hd,GW,if_pos (by omega)];simp only
      rw[if_neg (by omega),if_pos h]
     | nam t p v h h2 h3 hp=>
      have hne:=(Bm hp).1;simp only[List.length_cons] at hl hn;show AB (n+1) d (t::(p++c))=_;have ih:=hV p v (by omega) hp n d c (by omega);unfold AB;rw[if_neg hd];simp only
      rw[if_pos h,D6 hne,if_neg (by omega),ih,D2];by_cases hdd:d+Ad v<=25
      ·rw[if_pos hdd,if_pos hdd]
      ·rw[if_neg hdd,if_neg hdd]
     | lst t p ts h hp=>
      simp only[List.length_cons] at hl hn;show AB (n+1) d (t::(p++c))=_;have ih:=hI p ts (by omega) hp n d c [] (by omega);unfold AB;rw[if_neg hd];simp only
      rw[if_neg (by omega),if_neg (by omega),if_pos h,ih,DJ,List.nil_append];by_cases hts:ts=[]
      ·rw[if_pos (.inl hts)];subst hts;rw[Ap,if_pos (by omega)]
      ·by_cases hdd:d+1+Ad.deepTs ts<=25
       ·rw[if_pos (.inr hdd),if_pos (by omega)]
       ·rw[if_neg (fun k=>k.elim hts hdd),if_neg (by omega)]
     | dic t p ks ts h hp=>
      simp only[List.length_cons] at hl hn;show AB (n+1) d (t::(p++c))=_;have ih:=hD p ks ts (by omega) hp n d c [] [] (by omega);unfold AB;rw[if_neg hd];simp only
      rw[if_neg (by omega),if_neg (by omega),if_neg (by omega),if_pos h,ih,Gg,List.nil_append,List.nil_append];by_cases hts:ts=[]
      ·rw[if_pos (.inl hts)];subst hts;rw[Ap,if_pos (by omega)]
      ·by_cases hdd:d+1+Ad.deepTs ts<=25
       ·rw[if_pos (.inr hdd),if_pos (by omega)]
       ·rw[if_neg (fun k=>k.elim hts hdd),if_neg (by omega)]
  ·cases n with
   | zero=>omega
   | succ n=>
    cases hp with
    | nil e h=>
     show B9 (n+1) d (e::c) acc=_;unfold B9;rw[A6,if_pos h,if_pos (.inl rfl),List.append_nil];rfl
    | last p v e hp h=>
     simp only[List.length_append,List.length_cons,List.length_nil] at hl hn;have hh:=Bm hp;have ih:=hV p v (by omega) hp n (d+1) (e::c) (by omega);rw[List.append_assoc,List.singleton_append];unfold B9;rw[D6 hh.1,if_neg (by omega),ih,Am,Ap];by_cases hdd:d+1+Ad v<=25
     ·rw[if_pos hdd,if_pos (.inr (by omega))];simp only
      rw[A6,if_neg (by omega),if_pos h];rfl
     ·rw[if_neg hdd,if_neg (fun k=>k.elim (fun k=>by cases k) (fun k=>by omega))]
    | cons p v m q ts hp h hq=>
     simp only[List.length_append,List.length_cons] at hl hn;have hh:=Bm hp;have ih:=hV p v (by omega) hp n (d+1) (m::(q++c)) (by omega);have ih2:=hI q ts (by omega) hq n d c (acc++[v]) (by omega);rw[List.append_assoc,List.cons_append];unfold B9;rw[D6 hh.1,if_neg (by omega),ih,Am];by_cases hdd:d+1+Ad v<=25
     ·rw[if_pos hdd];simp only
      rw[A6,if_pos h,List.tail_cons,ih2,List.append_assoc,List.singleton_append];by_cases hts:ts=[]
      ·subst hts;rw[if_pos (.inl rfl),Ap,if_pos (.inr (by omega))]
      ·by_cases hd2:d+1+Ad.deepTs ts<=25
       ·rw[if_pos (.inr hd2),if_pos (.inr (by omega))]
       ·rw[if_neg (fun k=>k.elim hts hd2),if_neg (fun k=>k.elim (fun k=>by cases k) (fun k=>by omega))]
     ·rw[if_neg hdd,if_neg (fun k=>k.elim (fun k=>by cases k) (fun k=>by omega))]
  ·
   have pair:∀ (p:List Pc) (x:Sc) (v:Tr),p.length<=N->PP p x v->∀ n e,2*p.length+1<=n->∀ (hke:hk e=7\/hk e=11) (ks0:List Sc) (ts0:List Tr),
     AP (n+1) d (p++e) ks0 ts0=if d+1+Ad v<=25 then (if hk e=7 then AP n d e.tail (ks0++[x]) (ts0++[v]) else .ok (BT (ks0++[x]) (ts0++[v])) e.tail) else .bad 73:=by
    intro p x v hpl hpp n e hn hke ks0 ts0;cases hpp with
    | none k c2 h hc=>
     have hkk:=CF h;show AP (n+1) d (k::c2::e) ks0 ts0=_;rw[AP];rw[A6,if_neg (by omega)];try simp only
     rw[if_neg (Decidable.not_not.2 h),A6,if_neg (Decidable.not_not.2 hc),List.tail_cons,Fb];by_cases hdd:24<d+1
     ·rw[if_pos hdd,if_neg (by omega)]
     ·rw[if_neg hdd,if_pos (show d+1+1<=25 by omega)];by_cases h7:hk e=7
      ·rw[if_pos h7,if_pos h7]
      ·rw[if_neg h7,if_neg h7,if_pos (by omega)]
    | some k c2 p v h hc hp=>
     have hkk:=CF h;have hh:=Bm hp;have hpos:=CL v;simp only[List.length_cons] at hpl hn;have ih:=hV p v (by omega) hp n (d+1) e (by omega);show AP (n+1) d (k::c2::(p++e)) ks0 ts0=_;rw[AP];rw[A6,if_neg (by omega)];try simp only
     rw[if_neg (Decidable.not_not.2 h),A6,if_neg (Decidable.not_not.2 hc),List.tail_cons,D6 hh.1];by_cases hdd:24<d+1
     ·rw[if_pos hdd,if_neg (by omega)]
     ·rw[if_neg hdd,if_neg (by omega),if_neg (by omega),ih];by_cases hd2:d+1+Ad v<=25
      ·rw[if_pos hd2,if_pos hd2];simp only
       by_cases h7:hk e=7
       ·rw[if_pos h7,if_pos h7]
       ·rw[if_neg h7,if_neg h7,if_pos (by omega)]
      ·rw[if_neg hd2,if_neg hd2]
   cases n with
   | zero=>omega
   | succ n=>
    cases hp with
    | nil e h=>
     show AP (n+1) d (e::c) ks0 ts0=_;unfold AP;rw[A6,if_pos h,if_pos (.inl rfl),List.append_nil,List.append_nil];rfl
    | last p x v e hp h=>
     simp only[List.length_append,List.length_cons,List.length_nil] at hl hn;rw[List.append_assoc,List.singleton_append,pair p x v (by omega) hp n (e::c) (by omega) (.inr h),A6,Am,Ap];by_cases hdd:d+1+Ad v<=25
     ·rw[if_pos hdd,if_neg (by omega),if_pos (.inr (by omega))];rfl
     ·rw[if_neg hdd,if_neg (fun k=>k.elim (fun k=>by cases k) (fun k=>by omega))]
    | cons p x v m q ks ts hp h hq=>
     simp only[List.length_append,List.length_cons] at hl hn;have ih2:=hD q ks ts (by omega) hq n d c (ks0++[x]) (ts0++[v]) (by omega);rw[List.append_assoc,List.cons_append,pair p x v (by omega) hp n (m::(q++c)) (by omega) (.inl h),A6,Am];by_cases hdd:d+1+Ad v<=25
     ·rw[if_pos hdd,if_pos h,List.tail_cons,ih2,List.append_assoc,List.append_assoc,List.singleton_append,List.singleton_append];by_cases hts:ts=[]
      ·subst hts;rw[if_pos (.inl rfl),Ap,if_pos (.inr (by omega))]
      ·by_cases hd2:d+1+Ad.deepTs ts<=25
       ·rw[if_pos (.inr hd2),if_pos (.inr (by omega))]
       ·rw[if_neg (fun k=>k.elim hts hd2),if_neg (fun k=>k.elim (fun k=>by cases k) (fun k=>by omega))]
     ·rw[if_neg hdd,if_neg (fun k=>k.elim (fun k=>by cases k) (fun k=>by omega))]
theorem J0 {p:List Pc} {v:Tr} (h:PV p v) (n d:Nat) (c:List Pc) (hn:2*p.length<=n):AB n d (p++c)=if d+Ad v<=25 then .ok v c else .bad 73:=
 (Dy p.length).1 p v Nr h n d c hn
theorem Fg {l:List Pc} {t:Tr} (h:PV l t):Bl l=if Ad t<=24 then (t,0) else (Ei,73):=by
 have:=J0 h (2*l.length+2) 1 [] (by omega);rw[List.append_nil] at this;unfold Bl Iu;rw[this];by_cases hd:Ad t<=24
 ·rw[if_pos (by omega),if_pos hd]
 ·rw[if_neg (by omega),if_neg hd]
end
section
theorem Fs {l:List IM} (h:∀ x∈l,0<=x.ind/\x.ind<=8000):LF l=DW l:=by
 unfold LF;rw[if_pos];rw[List.all_eq_true];intro x hx;simp[Kq,h x hx]
end
section
theorem Cx {l m:List UInt8} {i:Nat} (h:i<l.length) (bs:List UInt8):Cg (l++m) i bs=Ar bs (l.getD i 0):=by
 unfold Cg;rw[E6 _ _ _ h,List.length_append,decide_eq_true (by omega),Bool.true_and]
theorem CU {l:List UInt8} (hp:0<l.length) (h:l.getD (l.length - 1) 0≠32):Dt l=l:=by
 obtain⟨m,c,rfl⟩:∃ m c,l=m++[c]:=⟨l.dropLast,l.getLast (List.length_pos_iff.1 hp),(List.dropLast_concat_getLast (List.length_pos_iff.1 hp)).symm⟩
 have hc:c≠32:=by
  intro e;apply h;rw[List.length_append,show m.length+[c].length - 1=m.length+0 by simp,AE,e];rfl
 unfold Dt;rw[List.reverse_append,List.reverse_singleton,List.singleton_append,List.dropWhile_cons,if_neg (by simpa using hc)];simp
theorem GJ:∀ (n:Nat) (l:List UInt8),l.length<=n->validD l=true->(Ag l).flatMap (fun r:Nat=>encodeRune r)=l
 | n,[],_,_=>rfl
 | 0,c::t,h,_=>by simp at h
 | n+1,c::t,h,hv=>by
  have hne:c::t≠[]:=by simp
  have hb:¬((decodeL (c::t)).1=65533/\(decodeL (c::t)).2=1):=fun h=>by rw[validD_step _ hne,if_pos h] at hv;cases hv
  have hw:=decodeL_width (c::t);rw[Av _ hne,List.flatMap_cons,GJ n _ (by rw[List.length_drop];simp at h |-;omega) (Cu _ hne hv),encode_decode _ hne hb,List.take_append_drop]
theorem H6 (r:Nat) (h:r<128):Ds 0 [Cl (r / 16),Cl (r%16)]=F r/\(Cl (r / 16)).toNat<128/\(Cl (r%16)).toNat<128∧
  32<=(Cl (r / 16)).toNat/\32<=(Cl (r%16)).toNat/\(Cl (r / 16)).toNat≠127/\(Cl (r%16)).toNat≠127:=by
 obtain⟨a1,a2,a3,a4⟩:=IC ⟨r / 16,by omega⟩;obtain⟨b1,b2,b3,b4⟩:=IC ⟨r%16,by omega⟩;refine⟨?_,a2,b2,a3,b3,a4,b4⟩;unfold Ds;rw[a1];show Ds (0*16+r / 16) [Cl (r%16)]=F r;unfold Ds;rw[b1];show F ((0*16+r / 16)*16+r%16)=F r;congr 1;omega
theorem Jr (r:Nat) (h:DZ r):0<(encodeRune (r:Int)).length:=by
 have h1:=Gy r h [];have h2:=decodeL_width (encodeRune (r:Int)++[]);rw[h1] at h2;exact h2
theorem Cp (c:UInt8) (t:List UInt8) (h:c.toNat<128):Me (c::t)=if BC [34,92,47] (c.toNat:Int) then .sign (c.toNat:Int) 1 else if (c.toNat:Int)=48 then .sign 0 1
  else if (c.toNat:Int)=120 then K2 1 (Fj t 2) else if (c.toNat:Int)=117 then K2 1 (Fj t 4) else match Cr (c.toNat:Int) with | some y=>.sign y 1 | none=>.bad 41:=by
 unfold Me;rw[if_neg (by simp),DT c t h,List.drop_one,List.tail_cons];rfl
theorem Lj {a b:UInt8} {r:Nat} (h1:Ds 0 [a,b]=F r) (hr:r<128) (m:List UInt8):Fj (a::b::m) 2=.sign r 2:=by
 have hvr:Lib.validRune (r:Int)=true:=by unfold Lib.validRune;rw[decide_eq_true_eq];omega
 have h2:Jq (a::b::m) 2=F r:=by
  unfold Jq;rw[if_neg (by simp),show(a::b::m).take 2=[a,b] from rfl,h1];simp only[hvr,if_true]
 unfold Fj;rw[h2]
theorem Jp {r:Nat} (h:DZ r) (m:List UInt8):FB 34 (A8 r++m)=.sign r (A8 r).length:=by
 have e92:∀ t:List UInt8,FB 34 (92::t)=K2 1 (Me t):=fun t=>by
  unfold FB;rw[if_neg (by simp),DT _ _ (by decide),if_neg (by decide),if_pos ⟨rfl,rfl⟩];rfl
 unfold A8;split
 ·rename_i e;subst e;rw[show[(92:UInt8),110]++m=92::110::m from rfl,e92,Cp _ _ (by decide)];simp[BC,Cr,K2]
 ·split
  ·rename_i e;subst e;rw[show[(92:UInt8),116]++m=92::116::m from rfl,e92,Cp _ _ (by decide)];simp[BC,Cr,K2]
  ·split
   ·rename_i e;subst e;rw[show[(92:UInt8),114]++m=92::114::m from rfl,e92,Cp _ _ (by decide)];simp[BC,Cr,K2]
   ·split
    ·rename_i e;rcases e with rfl | rfl
     ·rw[show[(92:UInt8),UInt8.ofNat 34]++m=92::34::m from rfl,e92,Cp _ _ (by decide)];simp[BC,Cr,K2]
     ·rw[show[(92:UInt8),UInt8.ofNat 92]++m=92::92::m from rfl,e92,Cp _ _ (by decide)];simp[BC,Cr,K2]
    ·rename_i hq;split
     ·rename_i hp;have h0:=Jr r h;have hd:=Gy r h m;have hne:encodeRune (r:Int)++m≠[]:=by intro e;rw[List.append_eq_nil_iff] at e;rw[e.1] at h0;simp at h0
      have hr:BV (encodeRune (r:Int)++m)=(r:Int):=by unfold BV;rw[if_neg hne,hd];simp
      unfold FB;rw[if_neg (fun e=>hne (List.length_eq_zero_iff.1 e)),hr,if_neg (by omega),if_neg (by omega),hd];unfold Ac at hp;rw[if_pos hp]
     ·rename_i hp;have hlt:=GY (by simpa using hp);obtain⟨h1,h2,h3,_⟩:=H6 r hlt;rw[show[(92:UInt8),120,Cl (r / 16),Cl (r%16)]++m=92::120::Cl (r / 16)::Cl (r%16)::m from rfl,e92,Cp _ _ (by decide),if_neg (by simp[BC]),if_neg (by simp),if_pos (by simp)];have hn:Fj (Cl (r / 16)::Cl (r%16)::m) 2=.sign r 2:=Lj h1 (by omega) m;rw[hn];simp[K2]
theorem Lb {r:Nat} (h:DZ r):1<=(A8 r).length:=by
 unfold A8
 repeat' split
 all_goals first | (have:=Jr r h;omega) | simp
theorem Ff (m:List UInt8):∀ (rs:List Nat) (f:Nat) (acc:List UInt8) (n:Nat),(∀ r∈rs,DZ r)->rs.length<f→
  Dw 34 f (rs.flatMap A8++34::m) acc n=(acc++rs.flatMap (fun r:Nat=>encodeRune r),n+(rs.flatMap A8).length+1,0)
 | [],0,_,_,_,h=>by simp at h
 | [],f+1,acc,n,_,_=>by
  unfold Dw;have:FB 34 ([].flatMap A8++34::m)=.fin 1:=by
   unfold FB;rw[List.flatMap_nil,List.nil_append,if_neg (by simp),DT _ _ (by decide)];simp
  rw[this];simp
 | r::rs,0,_,_,_,h=>by simp at h
 | r::rs,f+1,acc,n,h,hf=>by
  have hr:=h r (List.mem_cons_self ..);have h1:=Jp hr (rs.flatMap A8++34::m);unfold Dw;rw[List.flatMap_cons,List.append_assoc,h1];show Dw 34 f ((A8 r++(rs.flatMap A8++34::m)).drop (A8 r).length) (acc++encodeRune r) (n+(A8 r).length)=_;rw[List.drop_left,Ff m rs f _ _ (fun x hx=>h x (List.mem_cons_of_mem _ hx)) (by simp at hf;omega)];simp[Nat.add_assoc]
theorem K3:∀ rs:List Nat,(∀ r∈rs,DZ r)->rs.length<=(rs.flatMap A8).length
 | [],_=>by simp
 | r::rs,h=>by
  have h1:=Lb (h r (List.mem_cons_self ..));have h2:=K3 rs (fun x hx=>h x (List.mem_cons_of_mem _ hx));rw[List.flatMap_cons,List.length_append,List.length_cons];omega
theorem Lw {r:Nat} (h:DZ r) (m:List UInt8):validD (encodeRune (r:Int)++m)=validD m/\Ag (encodeRune (r:Int)++m)=r::Ag m:=by
 have h0:=Jr r h;have hd:=Gy r h m;have hne:encodeRune (r:Int)++m≠[]:=by intro e;rw[List.append_eq_nil_iff] at e;rw[e.1] at h0;simp at h0
 constructor
 ·rw[validD_step _ hne,hd,if_neg,List.drop_left];rintro⟨h1,h2⟩;have:=MG (r:Int) h1;omega
 ·rw[Av _ hne,hd,List.drop_left];simp
theorem AV {c:UInt8} (hc:c.toNat<128) (h1:32<=c.toNat) (h2:c.toNat≠127) (m:List UInt8):validD (c::m)=validD m/\(Ag (c::m)).all Ac=(Ag m).all Ac:=by
 refine⟨validD_cons c m hc,?_⟩;rw[AU c m hc,List.all_cons];have:Ac c.toNat=true:=by unfold Ac BW;simp;omega
 rw[this,Bool.true_and]
theorem Cn (c:UInt8) (hc:c.toNat<128) (h1:32<=c.toNat) (h2:c.toNat≠127) (m:List UInt8):validD (92::c::m)=validD m/\(Ag (92::c::m)).all Ac=(Ag m).all Ac:=by
 obtain⟨a1,a2⟩:=AV (c:=92) (by decide) (by decide) (by decide) (c::m);obtain⟨b1,b2⟩:=AV hc h1 h2 m;exact⟨a1.trans b1,a2.trans b2⟩
theorem Ib {r:Nat} (h:DZ r) (m:List UInt8):validD (A8 r++m)=validD m/\(Ag (A8 r++m)).all Ac=(Ag m).all Ac:=by
 unfold A8;split
 ·exact Cn 110 (by decide) (by decide) (by decide) m
 ·split
  ·exact Cn 116 (by decide) (by decide) (by decide) m
  ·split
   ·exact Cn 114 (by decide) (by decide) (by decide) m
   ·split
    ·rename_i e;rcases e with rfl | rfl
     ·exact Cn 34 (by decide) (by decide) (by decide) m
     ·exact Cn 92 (by decide) (by decide) (by decide) m
    ·split
     ·rename_i hp;obtain⟨a,b⟩:=Lw h m;exact⟨a,by rw[b,List.all_cons,hp,Bool.true_and]⟩
     ·rename_i hp;have hlt:=GY (by simpa using hp);obtain⟨_,h2,h3,h4,h5,h6,h7⟩:=H6 r hlt;obtain⟨a1,a2⟩:=Cn 120 (by decide) (by decide) (by decide) (Cl (r / 16)::Cl (r%16)::m);obtain⟨b1,b2⟩:=AV h2 h4 h6 (Cl (r%16)::m);obtain⟨c1,c2⟩:=AV h3 h5 h7 m;exact⟨a1.trans (b1.trans c1),a2.trans (b2.trans c2)⟩
theorem FY (m:List UInt8):∀ rs:List Nat,(∀ r∈rs,DZ r)->validD (rs.flatMap A8++m)=validD m/\(Ag (rs.flatMap A8++m)).all Ac=(Ag m).all Ac
 | [],_=>⟨rfl,rfl⟩
 | r::rs,h=>by
  obtain⟨a,b⟩:=Ib (h r (List.mem_cons_self ..)) (rs.flatMap A8++m);obtain⟨c,d⟩:=FY m rs (fun x hx=>h x (List.mem_cons_of_mem _ hx));rw[List.flatMap_cons,List.append_assoc];exact⟨a.trans c,b.trans d⟩
theorem Ir {l:List UInt8} (hv:validD l=true) (m:List UInt8):validD (Ae l++m)=validD m/\(Ag (Ae l++m)).all Ac=(Ag m).all Ac:=by
 unfold Ae;rw[List.cons_append,List.append_assoc];obtain⟨a1,a2⟩:=AV (c:=34) (by decide) (by decide) (by decide) ((Ag l).flatMap A8++([34]++m));obtain⟨b1,b2⟩:=FY ([34]++m) (Ag l) (E8 _ l Nr hv);obtain⟨c1,c2⟩:=AV (c:=34) (by decide) (by decide) (by decide) m;exact⟨a1.trans (b1.trans c1),a2.trans (b2.trans c2)⟩
theorem H9 {l:List UInt8} (hv:validD l=true) (b m:List UInt8) (hbm:validD (b++(Ae l++m))=true):
  D1 ⟨(b++(Ae l++m)).toArray⟩ (b.length:Int)=(l,b.length+(Ae l).length,0):=by
 have hs:=E8 _ l Nr hv;have hq:Iv (b++(Ae l++m)) b.length 34:=by
  refine⟨by simp[Ae],.inl ⟨?_,rfl⟩⟩;have:=AE b (Ae l++m) 0;rw[Nat.add_zero] at this;rw[this];rfl
 have hfl:=K3 _ hs;rw[Mm hq hbm,<- List.drop_drop,List.drop_left];have hd:(Ae l++m).drop 1=(Ag l).flatMap A8++34::m:=by unfold Ae;simp
 have hfuel:(Ag l).length<(b++(Ae l++m)).length+1 - (b.length+1):=by
  unfold Ae;rw[List.length_append,List.length_append,List.length_cons,List.length_append];omega
 rw[hd,Ff m (Ag l) _ _ _ hs hfuel,GJ _ l Nr hv];unfold Ae;simp;omega
end
section
section
variable (ρ:Int->Int)
end
theorem C1 {a r:List UInt8} (h:validD (a++10::r)=true):validD a=true/\validD r=true:=by
 have h1:=B0 10 (by decide) r _ a Nr h;refine⟨h1,?_⟩;have h2:=Bj _ a (10::r) Nr h1;rw[h] at h2;rw[<- validD_cons 10 r (by decide)];exact h2.symm
def AA (n:Nat):List UInt8:=List.replicate n 32
def JK (n:Nat) (x:Sc):Sc:=⟨x.kind,x.num+n,x.str⟩
theorem FL (n:Nat) (r:List UInt8):AK (AA n++r)=AK r:=by
 unfold AK Lib.trimLeftB AA;induction n with
 | zero=>rfl
 | succ n ih=>rw[List.replicate_succ,List.cons_append,List.dropWhile_cons,if_pos (by decide)];exact ih
theorem Iw (n:Nat) (r:List UInt8):AO (AA n++r)=AO r:=by unfold AO;rw[FL]
theorem IR (n k:Nat) (r:List UInt8):AN k (AA n++r)=JK n (AN k r):=by
 unfold AN JK;rw[FL];dsimp only
 congr 1;rw[List.length_append];simp[AA];omega
end
section
def AI (b m:List UInt8) (d:Nat):List TP:=BH (b++m) b.length d
theorem ZE (b m:List UInt8):(b++m).getD b.length 0=m.getD 0 0:=by have:=AE b m 0;rwa [Nat.add_zero] at this
theorem Hq (b m:List UInt8) (bs:List UInt8):Cg (b++m) b.length bs=Cg m 0 bs:=by have:=A7 b m 0 bs;rwa [Nat.add_zero] at this
theorem Cf (c:UInt8) (m:List UInt8) (bs:List UInt8):Cg (c::m) 0 bs=Ar bs c:=by
 unfold Cg;simp
theorem C0 {b m:List UInt8} (hv:validD (b++32::m)=true) (d:Nat):AI b (32::m) d=AI (b++[32]) m d:=by
 unfold AI;rw[Gn hv (by simp) (by rw[Hq,Cf];rfl)];simp
theorem Fi {l:List UInt8} (hv:validD l=true) (b m:List UInt8) (d:Nat) (hbm:validD (b++(Ae l++m))=true) (hm:(AC m 0 d||Cg m 0 [58])=true):
  AI b (Ae l++m) d=.tok 2 l b.length::AI (b++Ae l) m d:=by
 have hr:=H9 hv b m hbm;have hc:(b++(Ae l++m)).getD b.length 0=34:=by rw[ZE];rfl
 have hi:∀ bs,Cg (Ae l++m) 0 bs=Ar bs 34:=fun bs=>by
  rw[Cx (by simp[Ae])];rfl
 have ho:Dx (b++(Ae l++m)) b.length d=.ok 2 l (b.length+(Ae l).length) d:=by
  unfold Dx Ql;rw[hc,if_pos (.inl rfl)];unfold Ht;rw[hr];have h1:=Bz (b++Ae l) m 0 d;have h2:=A7 (b++Ae l) m 0 [58];rw[List.append_assoc,Nat.add_zero,List.length_append] at h1 h2;simp only[if_true]
  rw[h1,h2,hm];simp
 unfold AI;rw[DH hbm (by simp[Ae]) (by rw[Hq,hi];rfl) (by unfold BA;rw[Hq,hi];rfl) ho];simp
def Oz:List TP->Bool
 | []=>true
 | .tok _ _ _::r=>Oz r
 | .bad _ _::_=>false
theorem Gz:∀ {ps:List TP},Oz ps=true->DK ps=O
 | [],_=>rfl
 | .tok _ _ _::r,h=>Gz (ps:=r) h
 | .bad _ _::_,h=>by cases h
theorem GP {l:List UInt8} {ps:List TP} (hv:validD l=true) (hp:(Ag l).all Ac=true) (ht:BH l 0 0=ps) (hk:Oz ps=true) (hne:ps≠[]):Du l=((ps.map J7).map LX,0):=by
 unfold Du BP;rw[if_pos hv,if_pos hp,ht,FZ,Gz hk];simp[hne]
end
section
def Af (l:List UInt8):Prop:=validD l=true/\(Ag l).all Ac=true
theorem Af.cons {c:UInt8} (hc:c.toNat<128) (h1:32<=c.toNat) (h2:c.toNat≠127) {m:List UInt8} (h:Af m):Af (c::m):=by
 have:=AV hc h1 h2 m;exact⟨this.1.trans h.1,this.2.trans h.2⟩
theorem Af.quote {l m:List UInt8} (hv:validD l=true) (h:Af m):Af (Ae l++m):=by
 have:=Ir hv m;exact⟨this.1.trans h.1,this.2.trans h.2⟩
theorem Af.nil:Af []:=⟨rfl,rfl⟩
def Abf (l:List UInt8):Tr:=BX ⟨3,0,⟨l.toArray⟩⟩
def LZ (l:List UInt8):Pc:=⟨2,l⟩
theorem IK {l:List UInt8} (hv:validD l=true):B3 (LZ l)=(⟨3,0,⟨l.toArray⟩⟩,0):=by
 unfold B3 LZ;rw[if_neg (show ¬(2:Int)=1 by decide),if_pos rfl,if_pos hv]
theorem Aiy {l:List UInt8} (hv:validD l=true):PV [LZ l] (Abf l):=by
 have:=PV.key (LZ l) (by rw[IK hv]);rw[IK hv] at this;exact this
theorem YB {l:List UInt8} (hv:validD l=true):Bl [LZ l]=(Abf l,0):=by
 rw[Fg (Aiy hv),if_pos (by unfold Abf;rw[CN];decide)]
def DE (l:List UInt8):Sc:=⟨3,0,⟨l.toArray⟩⟩
theorem Ky:∀ rs:List Nat,(rs.flatMap A8).length<=4*rs.length
 | []=>by simp
 | r::rs=>by
  have h1:=MS r;have h2:=Ky rs;rw[List.flatMap_cons,List.length_append,List.length_cons];omega
theorem H8:∀ (n:Nat) (l:List UInt8),l.length<=n->(Ag l).length<=l.length
 | n,[],_=>by simp[GQ]
 | 0,c::t,h=>by simp at h
 | n+1,c::t,h=>by
  have hne:c::t≠[]:=by simp
  have hw:=decodeL_width (c::t);have hl:(c::t).length<=n+1:=h;have ih:=H8 n ((c::t).drop (decodeL (c::t)).2) (by rw[List.length_drop];omega);rw[List.length_drop] at ih;rw[Av _ hne,List.length_cons];have:0<(c::t).length:=by simp
  omega
theorem EG (l:List UInt8):(Ae l).length<=4*l.length+2:=by
 have h1:=Ky (Ag l);have h2:=H8 _ l Nr;unfold Ae;simp only[List.length_cons,List.length_append,List.length_nil]
 omega
end
section
theorem CT {r:List UInt8} (h:Af r):10∉r:=fun hm=>by
 have hs:=(CE r).1 hm;have hv:=h.1;rw[hs] at hv;have ha:=(C1 hv).1;have hp:=h.2;rw[hs,B6 _ _ _ Nr ha,AU _ _ (by decide),List.all_append,List.all_cons] at hp;have:Ac (10:UInt8).toNat=false:=rfl;rw[this] at hp;simp at hp
theorem DS {r:List UInt8} (h:Af r) (hm:B7 r=false):Ax r=0:=by
 unfold Ax Bd;rw[h.2,hm];rfl
theorem Ep {r:List UInt8} {rs:List (List UInt8)} {k:Nat} {acc:List Sc} (h:Af r) (hm:B7 r=false) (hs:AO r=true):BB (BG k (r::rs)) acc=BB (BG (k+1) rs) (acc++[AN k r]):=by
 rw[Ba,Bc,if_neg (by rw[DS h hm];decide),hs,if_pos rfl]
theorem FV {Fz:Nat} {r m:List UInt8} (hr:Af r) (hmk:B7 r=false) (hs:AO r=true) (hl:r.length<=7000) (hm:m=[]\/m=[10]):A3 Fz (r++m)=AZ Fz [BM (AN 1 r)]:=by
 have hne:r≠[]:=fun e=>by rw[e] at hs;cases hs
 have hno:=CT hr;have hrows:Be (r++m)=[r]:=by
  rcases hm with rfl | rfl
  ·rw[List.append_nil];exact FW hno hne
  ·rw[DM hno,CO]
 have hv:validD (r++m)=true:=by
  rw[Bj _ r m Nr hr.1];rcases hm with rfl | rfl<;>rfl
 have hml:m.length<=1:=by rcases hm with rfl | rfl<;>decide
 have hsp:Ao (r++m)=([AN 1 r],0,0):=by
  unfold Ao;rw[if_neg (by rw[List.length_append];omega),if_pos hv,hrows,Ep hr hmk hs];rfl
 unfold A3;rw[hsp,if_neg (fun h=>h rfl)];rfl
theorem Gp {c:UInt8} {r:List UInt8} (k:Nat) (hc:c≠32) (he:(c::r).getD r.length 0≠32):AN k (c::r)=⟨k,0,⟨(c::r).toArray⟩⟩:=by
 have h1:AK (c::r)=c::r:=by
  unfold AK Lib.trimLeftB;rw[List.dropWhile_cons,if_neg (by simpa using hc)]
 unfold AN;rw[h1,CU (by simp) (by simpa using he)];congr 1;omega
theorem Gw {c:UInt8} {r:List UInt8} (hc:c≠32) (h35:c≠35):AO (c::r)=true:=by
 have h1:AK (c::r)=c::r:=by
  unfold AK Lib.trimLeftB;rw[List.dropWhile_cons,if_neg (by simpa using hc)]
 unfold AO;rw[h1];simpa using h35
theorem Gu {c:UInt8} {r:List UInt8} (h1:c≠45) (h2:c≠46):B7 (c::r)=false:=by
 simp[B7,BZ,Lib.hasPrefix,List.isPrefixOf,Ne.symm h1,Ne.symm h2]
theorem Ho (k n:Int) (l:List UInt8):BM ⟨k,n,⟨l.toArray⟩⟩=⟨k,n,l⟩:=rfl
theorem TK {x:Sc} (h:A4 x=true):Al AD (BX x)=(⟨0,[⟨0,x,[],[]⟩]⟩,0):=by
 have:BO AD 1 (BX x) ⟨[],[]⟩=(⟨[⟨0,x,[],[]⟩],[]⟩,0,0):=by
  simp[BO,D3,BX,AD,BY,F7,BD,Fv,Nw,h,St.node]
 unfold Al;rw[this];rfl
theorem Ec {Fz:Nat} {s:List UInt8} {t:Tr} (h:A3 Fz s=(t,0,0)):Aq AD Fz s=((Al AD t).1,0,(Al AD t).2):=by
 unfold Aq;rw[h,if_neg (fun h=>h rfl)]
theorem IF {l:List UInt8} (h:validD l=true):A4 (DE l)=true:=by
 unfold A4 DE;simp[h]
theorem MO {Fz:Nat} {no ind:Int} {q:List UInt8} {tk:List C8} {t:Tr} (hi:0<=ind/\ind<=8000) (h1:Du q=(tk,0)) (hb:Ck tk=.plain) (hw:Bl (IT tk)=(t,0)) (hd:Ad t<=24):AZ (Fz+1) [⟨no,ind,q⟩]=(t,0,0):=by
 unfold AZ;rw[Fs (by intro x hx;rw[List.mem_singleton.1 hx];exact hi),DW,DW];simp only
 rw[h1];simp only
 rw[if_neg (by decide)];show CK (Fz+1) [_]=_;unfold CK;rw[if_neg (by simp),AF];simp only
 rw[if_neg (by decide),hb];simp only
 unfold C9;rw[hw,if_neg (by decide),if_neg (by simp),if_neg (by simp only;omega)];rfl
theorem UP {Fz:Nat} {l:List UInt8} (hv:validD l=true) (hl:l.length<=400):Aq AD (Fz+1) (32::32::(Ae l++[32,35,32,120,10]))=(⟨0,[⟨0,DE l,[],[]⟩]⟩,0,0):=by
 have hq4:=EG l;have hr0:Af [32,35,32,120]:=Af.cons (by decide) (by decide) (by decide) (Af.cons (by decide) (by decide) (by decide) (Af.cons (by decide) (by decide) (by decide) (Af.cons (by decide) (by decide) (by decide) Af.nil)));have hr1:Af (Ae l++[32,35,32,120]):=Af.quote hv hr0;have hr:Af (32::32::(Ae l++[32,35,32,120])):=Af.cons (by decide) (by decide) (by decide) (Af.cons (by decide) (by decide) (by decide) hr1);have hq:Ae l++[32,35,32,120]=34::((Ag l).flatMap A8++[34]++[32,35,32,120]):=rfl;have e:(32:UInt8)::32::(Ae l++[32,35,32,120])=AA 2++(Ae l++[32,35,32,120]):=rfl;have hsay:AO (32::32::(Ae l++[32,35,32,120]))=true:=by rw[e,Iw,hq];exact Gw (by decide) (by decide)
 have hlast:(34::((Ag l).flatMap A8++[34]++[32,35,32,120]):List UInt8).getD ((Ag l).flatMap A8++[34]++[32,35,32,120]).length 0≠32:=by
  have e1:(34::((Ag l).flatMap A8++[34]++[32,35,32,120]):List UInt8)=(34::((Ag l).flatMap A8++[34]++[32,35,32]))++[120]:=by simp
  have e2:((Ag l).flatMap A8++[34]++[32,35,32,120]).length=(34::((Ag l).flatMap A8++[34]++[32,35,32])).length+0:=by simp
  rw[e1,e2,AE];decide
 have hline:AN 1 (32::32::(Ae l++[32,35,32,120]))=⟨1,2,⟨(Ae l++[32,35,32,120]).toArray⟩⟩:=by
  rw[e,IR,hq,Gp 1 (by decide) hlast];rfl
 have ht:A3 (Fz+1) (32::32::(Ae l++[32,35,32,120,10]))=(Abf l,0,0):=by
  have e2:(32:UInt8)::32::(Ae l++[32,35,32,120,10])=(32::32::(Ae l++[32,35,32,120]))++[10]:=by simp
  rw[e2,FV hr (Gu (by decide) (by decide)) hsay (by simp;omega) (.inr rfl),hline,Ho];have t1:=Fi hv [] [32,35,32,120] 0 (by exact hr1.1) (by rfl);have t2:=C0 (b:=[]++Ae l) (m:=[35,32,120]) (by exact hr1.1) 0;have hv3:validD (([]++Ae l++[32])++[35,32,120])=true:=by have:=hr1.1;simpa using this
  have t3:AI ([]++Ae l++[32]) [35,32,120] 0=[]:=by
   unfold AI;refine Nj hv3 (by simp) (by rw[Hq];rfl) ?_;unfold BA;rw[Hq];have h0:Cg (([]++Ae l++[32])++[35,32,120]) (([]++Ae l++[32]).length - 1) [32]=true:=by
    have e1:([]++Ae l++[32]).length - 1=(Ae l).length:=by simp
    have e2:([]++Ae l++[32])++[35,32,120]=Ae l++[32,35,32,120]:=by simp
    rw[e1,e2,Hq];rfl
   rw[h0];simp[Cf,Ar]
  rw[t2,t3] at t1;exact MO ⟨by decide,by decide⟩ (GP hr1.1 hr1.2 (ps:=[.tok 2 l 0]) t1 rfl (by simp)) rfl (YB hv) (by unfold Abf;rw[CN];decide)
 rw[Ec ht];have:=TK (IF hv);show((Al AD (BX (DE l))).1,(0:Int),(Al AD (BX (DE l))).2)=_;rw[this]
end
section
section
variable {P:Program} {n:Nat} {ds:List Deferred} {d:Bool} {ops:Array Oper} {K:Act->Y->Prop} {i:Nat} {pl pend:List Nat} {S:Y->Prop} {l:Env}
 {t:Nat} {ty:TypeId} {ps:String} {af:Array Edge} {gd:Option (Nat×Bool)}
end
theorem Hk (s:ByteArray) (k:Nat):(s.extract 0 k).size<=k:=by rw[ByteArray.size_extract];omega
theorem mkL (s:ByteArray):(⟨s.data.toList.toArray⟩:ByteArray)=s:=by simp
end
section
theorem Aa8 (s:ByteArray) (w:Y) (hW:FP w):Calls Tryz.prog 5 #[Q s] w fun e w'=>e=.returned (.bool true)/\Below w.heap.size w w':=by
 obtain⟨m,hm⟩:∃ m,min s.size 100=m:=⟨_,rfl⟩
 obtain⟨S,hS⟩:∃ S,s.extract 0 m=S:=⟨_,rfl⟩
 have hSs:S.size<=100:=by rw[<- hS];exact Nat.le_trans (Hk s m) (by omega:m<=100)
 obtain⟨l,hl⟩:∃ l,S.data.toList=l:=⟨_,rfl⟩
 have hll:l.length<=100:=by rw[<- hl,<- Lib.size_eq];exact hSs
 have hSl:S=⟨l.toArray⟩:=by rw[<- hl,mkL]
 refine V.enter _ Tryz.func5 (Mem.start (C:=A5) w) ?_
 repeat refine W ?_
 refine R.c (fun w' h'=>DY w' (hW.to h'.1.below)) ?_
 repeat refine W ?_
 refine R.cut (s:=s) m (m:=min (s.size:Int) 100) (by omega) (by omega) ?_;rw[hS]
 repeat refine W ?_
 refine R.c (fun w' h'=>GK S w' (by omega) (hW.to h'.1.below).tabs) ?_;rw[hl];cases hv:Lib.validD l with
 | false=>
  have hq:CP l=.tuple #[Q ⟨#[]⟩,I J 40]:=by unfold CP;rw[if_neg (by rw[hv];simp)]
  rw[hq]
  repeat refine W ?_
  refine V.end fun w' h'=>?_;exact⟨rfl,h'.1.below⟩
 | true=>
  have hq:CP l=.tuple #[Q ⟨(Ae l).toArray⟩,I J 0]:=by unfold CP;rw[if_pos hv]
  rw[hq];obtain⟨X,hX⟩:∃ X:ByteArray,((⟨#[32,32]⟩:ByteArray)++⟨(Ae l).toArray⟩)++⟨#[32,35,32,120,10]⟩=X:=⟨_,rfl⟩
  have hXl:X.data.toList=32::32::(Ae l++[32,35,32,120,10]):=by rw[<- hX];simp
  have hlaw:=UP (Fz:=99999) hv (by omega:l.length<=400);have hst:DE l=⟨3,0,S⟩:=by unfold DE;rw[hSl]
  rw[<- hXl,hst] at hlaw;have hL:=fun w' (h:FP w')=>C2 X w' h;rw[hlaw] at hL;have hq4:=EG l;have hqs:(⟨(Ae l).toArray⟩:ByteArray).size<=1000:=by rw[Lib.size_eq];show(Ae l).length<=_;omega
  repeat refine W ?_
  refine R.cat ⟨#[32,32]⟩ ⟨(Ae l).toArray⟩ (by show 2+_<=_;omega) ?_;refine R.cat (⟨#[32,32]⟩++⟨(Ae l).toArray⟩) ⟨#[32,35,32,120,10]⟩ (by rw[ByteArray.size_append];show 2+_+5<=_;omega) ?_;refine R.cf (fun w' h'=>by
   have:=hL w' (hW.to h'.1.below);rw[<- hX] at this;exact this) (fun q=>?_)
  repeat (first | refine W ?_ | refine R.new fun _ _=>?_)
  refine R.bs (m:=1) (cs:=BE [⟨0,⟨3,0,S⟩,[],[]⟩] [(Z O 0 0,Z O 0 0)]) (bt:=40) (fun bn hbn=>?_)
  repeat refine W ?_
  refine R.c (v:=.bool true) (fun w' h'=>?_) ?_
  ·obtain⟨Fz,⟨A,c,ea,hn⟩,hF⟩:=h'.has (X:=KZ (Fx q.1 q.2 ⟨0,[⟨0,⟨3,0,S⟩,[],[]⟩]⟩) ⟨0,[⟨0,⟨3,0,S⟩,[],[]⟩]⟩) (by simp);obtain⟨rfl,rfl⟩:=DP ea;refine(DQ Fz (fun _=>True) q.1 (F ⟨bn,0,O⟩) q.2 1 ⟨0,[⟨0,⟨3,0,S⟩,[],[]⟩]⟩ ⟨0,[⟨0,⟨3,0,S⟩,[],[]⟩]⟩ w' hn (QM (h'.blk (List.Mem.head _)) rfl trivial (fun j x p hx hp=>?_)) ⟨by simp,by simp⟩).mono fun e w2 ⟨he,hb⟩=>⟨by rw[he,decide_eq_true rfl],hb⟩
   match j,hx,hp with
   | 0,hx,hp=>cases hx;cases hp;exact⟨O,0,O,0,rfl,ksNil,isNil⟩
  repeat refine W ?_
  refine V.end fun w' h'=>?_;exact⟨rfl,h'.1.below⟩
end
end Go.Proofs.YtdpppepmkeinaaaGreatDoor
