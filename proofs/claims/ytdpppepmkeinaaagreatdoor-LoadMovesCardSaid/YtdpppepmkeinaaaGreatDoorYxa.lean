/- What is proved: a part of the walk of the program and of its plain laws; no condition beside those that each theorem names. -/
import Derived.Test.YtdpppepmkeinaaaGreatDoorYc
import Derived.Test.YtdpppepmkeinaaaGreatDoorYz
import Derived.Test.YtdpppepmkeinaaaGreatDoorYy
import Derived.Test.YtdpppepmkeinaaaGreatDoorYa
import Derived.Lib.AtoiAllCases
namespace Go.Proofs.YtdpppepmkeinaaaGreatDoor
open Go Go.RowKit Go.Lib
open Go.Value renaming int->I,string->Q,slice->Z
open Go.IntKind renaming i64->J
open Option renaming none->O,some->F
open _root_.Go renaming World->Y
set_option linter.unusedSimpArgs false
set_option linter.unusedVariables false
set_option linter.unusedSectionVars false
section
theorem LU (r:Nat) (h:128<=r):D4 r=true:=by
 have h1:BC [46,101,69,43,45,95] (r:Int)=false:=by
  rw[<- Bool.not_eq_true];unfold BC;simp;omega
 unfold D4;rw[h1];simp;omega
theorem LR (b:UInt8):D4 b.toNat= !okN b:=by
 have h1:BC [46,101,69,43,45,95] (b.toNat:Int)=Ar [46,101,69,43,45,95] b:=by
  rw[Bool.eq_iff_iff];unfold BC Ar;simp[<- UInt8.toNat_inj,List.contains_cons];omega
 unfold D4 okN BJ;rw[h1];cases Ar [46,101,69,43,45,95] b<;>simp
theorem Adn (b:UInt8) (h:128<=b.toNat):okN b=false:=by
 have:=LR b;rw[LU _ h] at this;simpa using this.symm
theorem WI (s:ByteArray):∀ (f pos:Nat),s.size - pos<=f->(!decide (0<=idxFuncFrom D4 true s f pos))=(s.data.toList.drop pos).all okN
 | 0,pos,h=>by
  rw[List.drop_eq_nil_of_le (by rw[<- Lib.size_eq];omega)];simp[idxFuncFrom]
 | f+1,pos,h=>by
  unfold idxFuncFrom;by_cases hp:pos<s.size
  ·rw[if_pos hp];have hlt:pos<s.data.toList.length:=by rw[<- Lib.size_eq];exact hp
   have hd:=List.drop_eq_getElem_cons hlt;obtain⟨b,hb⟩:∃ b,s.data.toList[pos]=b:=⟨_,rfl⟩
   rw[hb] at hd;rw[hd,List.all_cons,<- Lib.decodeL_drop,hd];by_cases hb128:b.toNat<128
   ·rw[decodeL_ascii b _ hb128];simp only
    rw[LR];cases hok:okN b with
    | true=>
     simp only[Bool.not_true,Bool.false_eq_true,if_false,Bool.true_and]
     exact WI s f (pos+1) (by omega)
    | false=>simp
   ·rw[LU _ (E7 b _ (by omega)),Adn b (by omega)];simp
  ·rw[if_neg hp,List.drop_eq_nil_of_le (by rw[<- Lib.size_eq];omega)];simp
theorem DR (a b:UInt8) (t:List UInt8):trimPrefix (b::t) [a]=if b=a then t else b::t:=by
 unfold trimPrefix hasPrefix;by_cases h:b=a
 ·subst h;simp
 ·have:¬a=b:=fun e=>h e.symm;simp[this,h]
theorem IW (a:UInt8):trimPrefix [] [a]=[]:=by simp[trimPrefix,hasPrefix]
theorem Ym (l:List UInt8):UF l=trimPrefix l [46]:=by
 unfold UF Ag5;cases l with
 | nil=>rw[IW];rfl
 | cons b t=>
  rw[DR];by_cases h:b=46
  ·simp[h]
  ·simp[h]
theorem Afa (l:List UInt8):ZN l=(!l.isEmpty&&(BJ (l.headD 0)&& !(decide (0<=Lib.idxFunc D4 true ⟨l.toArray⟩)))):=by
 unfold ZN Lib.idxFunc;rw[WI ⟨l.toArray⟩ _ 0 (by omega),MU];simp
theorem ZM (l:List UInt8):Qx l=K7 l:=by
 have e1:∀ r:List UInt8,hasPrefix r [43,45]=match r with | b::c::_=>b==43&&c==45 | _=>false:=by
  intro r;unfold hasPrefix
  match r with
  | []=>rfl
  | [b]=>simp[List.isPrefixOf]
  | b::c::t=>
   simp only[List.isPrefixOf,Bool.and_true]
   rw[Bool.eq_iff_iff];simp;intros;constructor<;>(rintro⟨h1,h2⟩;exact⟨h1.symm,h2.symm⟩)
 unfold Qx K7;rw[Afa,Ym];cases l with
 | nil=>rfl
 | cons b t=>
  by_cases hb:b=43
  ·subst hb;have hs:J8 (43::t)=t:=by unfold J8 Xj Ar;simp
   rw[hs];unfold Hm;rw[DR,if_pos rfl];cases t with
   | nil=>rw[IW,e1,IW,IW];rfl
   | cons c t'=>
    by_cases hc:c=45
    ·subst hc;rw[e1,DR,if_neg (by decide)];simp[BJ]
    ·have hcb:(c==45)=false:=by simpa using hc
     rw[e1,DR 45,if_neg hc];simp[hcb,Bool.and_assoc]
  ·have h43:(b==43)=false:=by simpa using hb
   have hpre:hasPrefix (b::t) [43,45]=false:=by
    rw[e1];cases t with
    | nil=>rfl
    | cons c t'=>simp[hb]
   rw[hpre];unfold Hm;rw[DR,if_neg hb];by_cases hm:b=45
   ·subst hm;have hs:J8 (45::t)=t:=by unfold J8 Xj Ar;simp
    rw[hs,DR,if_pos rfl];simp[Bool.and_assoc]
   ·have hs:J8 (b::t)=b::t:=by unfold J8 Xj Ar;simp[hb,hm]
    rw[hs,DR 45,if_neg hm];simp[Bool.and_assoc]
theorem Dl {u:Nat} (h:u<10):decDigits u=[UInt8.ofNat (48+u)]:=by rw[decDigits,dif_pos h]
theorem I9 {u:Nat} (h:¬u<10):decDigits u=decDigits (u / 10)++[UInt8.ofNat (48+u%10)]:=by rw[decDigits,dif_neg h]
theorem Km {k:Nat} (h:k<10):(UInt8.ofNat (48+k)).toNat=48+k:=by rw[UInt8.toNat_ofNat'];omega
theorem Ab4 {k:Nat} (h:k<10):BJ (UInt8.ofNat (48+k))=true:=by unfold BJ;rw[Km h];simp;omega
theorem NI (u:Nat):DL (decDigits u)=u:=by
 induction u using Nat.strongRecOn with
 | _ u ih=>
  by_cases h:u<10
  ·rw[Dl h];show 10*0+(((UInt8.ofNat (48+u)).toNat:Int) - 48)=u;rw[Km h];omega
  ·rw[I9 h,Lv,ih (u / 10) (by omega),Km (by omega)];omega
theorem Ki (u:Nat):(decDigits u).all BJ=true:=by
 induction u using Nat.strongRecOn with
 | _ u ih=>
  by_cases h:u<10
  ·rw[Dl h,List.all_cons,Ab4 h];rfl
  ·rw[I9 h,List.all_append,ih (u / 10) (by omega),List.all_cons,Ab4 (show u%10<10 by omega)];rfl
theorem J4 (u:Nat):decDigits u≠[]:=by
 by_cases h:u<10
 ·rw[Dl h];simp
 ·rw[I9 h];simp
theorem RB (l m:List UInt8) (h:l≠[]):(l++m).getD 0 0=l.getD 0 0:=by
 cases l with
 | nil=>exact absurd rfl h
 | cons b t=>rfl
theorem Uc (u:Nat):(decDigits u).getD 0 0=48->u=0:=by
 induction u using Nat.strongRecOn with
 | _ u ih=>
  by_cases h:u<10
  ·rw[Dl h];intro h2;have h3:UInt8.ofNat (48+u)=48:=h2;have:=Km h;rw[h3] at this;have h4:(48:UInt8).toNat=48:=rfl;omega
  ·rw[I9 h,RB _ _ (J4 _)];intro h2;have:=ih (u / 10) (by omega) h2;omega
theorem Afo (u:Nat):1<=u->10 ^ ((decDigits u).length - 1)<=u:=by
 induction u using Nat.strongRecOn with
 | _ u ih=>
  intro h1;by_cases h:u<10
  ·rw[Dl h];simpa using h1
  ·rw[I9 h,List.length_append];have:=ih (u / 10) (by omega) (by omega);have hl:1<=(decDigits (u / 10)).length:=List.length_pos_iff.2 (J4 _);have e:(decDigits (u / 10)).length+[UInt8.ofNat (48+u%10)].length - 1=((decDigits (u / 10)).length - 1)+1:=by simp;omega
   rw[e,Nat.pow_succ];omega
theorem P0 (u:Nat) (h:u<=999999999999999):(decDigits u).length<=15:=by
 by_cases h0:u=0
 ·subst h0;rw[Dl (by omega)];simp
 ·have:=Afo u (by omega);by_cases hl:(decDigits u).length<=15
  ·exact hl
  ·have h2:10 ^ 15<=10 ^ ((decDigits u).length - 1):=Nat.pow_le_pow_right (by omega) (by omega);omega
theorem S7 {c:UInt8} (h:BJ c=true):UInt8.ofNat (48+((c.toNat:Int) - 48).toNat)=c:=by
 have:=V3 h;apply UInt8.toNat_inj.1;rw[Km (by omega)];omega
theorem YN (l:List UInt8) (h:l≠[]):∃ m c,l=m++[c]:=⟨l.dropLast,l.getLast h,(List.dropLast_concat_getLast h).symm⟩
theorem JA:∀ (n:Nat) (d:List UInt8),d.length<=n->d≠[]->d.all BJ=true->(d.getD 0 0=48->d=[48])->d=decDigits (DL d).toNat
 | 0,d,h,hne,_,_=>absurd (List.eq_nil_of_length_eq_zero (by omega)) hne
 | n+1,d,h,hne,hall,hz=>by
  obtain⟨m,c,rfl⟩:=YN d hne;rw[List.all_append,Bool.and_eq_true] at hall;have hc:BJ c=true:=by simpa using hall.2
  have hcd:=V3 hc;by_cases hm:m=[]
  ·subst hm;have:DL ([]++[c])=(c.toNat:Int) - 48:=by rw[Lv];simp[DL]
   rw[this,Dl (by omega),S7 hc];rfl
  ·have hh:m.getD 0 0≠48:=fun e=>by
    have h3:=hz (by rw[RB m _ hm];exact e);have h4:=congrArg List.length h3;have hl:0<m.length:=List.length_pos_iff.2 hm;rw[List.length_append] at h4;simp only[List.length_cons,List.length_nil] at h4;omega
   have ih:=JA n m (by simp at h;omega) hm hall.1 (fun e=>absurd e hh);have hv:=WP m hall.1;have hpos:1<=DL m:=by
    rcases Int.lt_or_le (DL m) 1 with hlt | hle
    ·have e0:(DL m).toNat=0:=by omega
     rw[e0] at ih;rw[ih,Dl (by omega)] at hh;exact absurd rfl hh
    ·exact hle
   rw[Lv];have hb:¬(10*DL m+((c.toNat:Int) - 48)).toNat<10:=by omega
   rw[I9 hb,show(10*DL m+((c.toNat:Int) - 48)).toNat / 10=(DL m).toNat by omega,<- ih,show(10*DL m+((c.toNat:Int) - 48)).toNat%10=((c.toNat:Int) - 48).toNat by omega,S7 hc]
theorem Ty (u:Nat):BJ ((decDigits u).getD 0 0)=true:=by
 have h:=Ki u;cases hd:decDigits u with
 | nil=>exact absurd hd (J4 u)
 | cons b t=>rw[hd] at h;simp at h;exact h.1
theorem Kv {b:UInt8} {t:List UInt8} (h:b≠45):Ln (b::t)=false/\digitsOf (b::t)=b::t:=by
 have h1:Ln (b::t)=false:=by unfold Ln;simp[h]
 exact⟨h1,by unfold digitsOf;rw[h1];rfl⟩
theorem KD (t:List UInt8):Ln (45::t)=true/\digitsOf (45::t)=t:=⟨rfl,rfl⟩
theorem Y4 (n:Int) (h0: -999999999999999<=n) (h1:n<=999999999999999):LW (itoa n)=(n,true):=by
 unfold itoa;by_cases hn:n<0
 ·rw[if_pos hn];obtain⟨e1,e2⟩:=KD (decDigits n.natAbs);have hz:((decDigits n.natAbs).getD 0 0==48)=false:=by
   rw[<- Bool.not_eq_true,beq_iff_eq];intro h;have:=Uc _ h;omega
  have hne:(decDigits n.natAbs).isEmpty=false:=by
   rw[<- Bool.not_eq_true,List.isEmpty_iff];exact J4 _
  have hno:Oc (45::decDigits n.natAbs)=false:=by
   unfold Oc;rw[e2,hne,hz,decide_eq_false (by have:=P0 n.natAbs (by omega);omega)];rfl
  unfold LW;rw[hno,e2,e1,Ki,NI];simp;omega
 ·rw[if_neg hn];have hd:=V3 (Ty n.toNat);cases hl:decDigits n.toNat with
  | nil=>exact absurd hl (J4 _)
  | cons b t=>
   have hb:b≠45:=by
    rintro rfl;rw[hl] at hd;have h4:((([45]:List UInt8)++t).getD 0 0).toNat=45:=rfl;have h5:(((45::t:List UInt8)).getD 0 0).toNat=45:=rfl;omega
   obtain⟨e1,e2⟩:=Kv (t:=t) hb;have hno:Oc (b::t)=false:=by
    unfold Oc;rw[e2,decide_eq_false (by have:=P0 n.toNat (by omega);rw[hl] at this;omega)];by_cases h48:b=48
    ·have hz:=Uc n.toNat (by rw[hl,h48];rfl);rw[hz,Dl (by omega)] at hl;rw[<- hl];rfl
    ·simp[h48]
   have hall:=Ki n.toNat;have hval:=NI n.toNat;rw[hl] at hall hval;unfold LW;rw[hno,e2,e1,hall,hval];simp;omega
theorem OK (l:List UInt8) (n:Int) (h:LW l=(n,true)):l=itoa n/\ -999999999999999<=n/\n<=999999999999999:=by
 unfold LW at h;cases hno:Oc l with
 | true=>rw[hno] at h;simp at h
 | false=>
  rw[hno] at h;cases hall:(digitsOf l).all BJ with
  | false=>rw[hall] at h;simp at h
  | true=>
   rw[hall] at h;simp only[Bool.false_eq_true,if_false,if_true,Prod.mk.injEq,and_true] at h;unfold Oc at hno;simp only[Bool.or_eq_false_iff,Bool.and_eq_false_iff,decide_eq_false_iff_not,beq_eq_false_iff_ne,Bool.not_eq_false',beq_iff_eq] at hno;obtain⟨hne,hlen,hz⟩:=hno;have hne2:digitsOf l≠[]:=fun e=>by rw[e] at hne;cases hne
   have hb:=XV (by omega) hall;cases l with
   | nil=>exact absurd rfl hne2
   | cons b t=>
    by_cases h45:b=45
    ·subst h45;obtain⟨e1,e2⟩:=KD t;rw[e2] at hne2 hall hz hb h;rw[e1] at h;have hz2:t.getD 0 0≠48:=by
      rcases hz with hz | hz
      ·exact hz
      ·cases hz
     have hu:=JA t.length t Nr hne2 hall (fun e=>absurd e hz2);have hpos:1<=DL t:=by
      rcases Int.lt_or_le (DL t) 1 with hlt | hle
      ·have e0:(DL t).toNat=0:=by omega
       rw[e0] at hu;rw[hu,Dl (by omega)] at hz2;exact absurd rfl hz2
      ·exact hle
     simp only[if_true] at h;subst h;refine⟨?_,by omega,by omega⟩;unfold itoa;rw[if_pos (by omega),show(-DL t).natAbs=(DL t).toNat by omega,<- hu]
    ·obtain⟨e1,e2⟩:=Kv (t:=t) h45;rw[e2] at hne2 hall hz hb h;rw[e1] at h;have hz2:(b::t).getD 0 0=48->b::t=[48]:=by
      intro e;rcases hz with hz | hz
      ·exact absurd e hz
      ·exact hz
     have hu:=JA (b::t).length (b::t) Nr hne2 hall hz2;simp only[Bool.false_eq_true,if_false] at h;subst h;refine⟨?_,by omega,by omega⟩;unfold itoa;rw[if_neg (by omega),<- hu]
def Ws (acc:Nat) (l:List UInt8):Nat:=l.foldl (fun n c=>n*10+(c.toNat - 48)) acc
theorem X3:∀ (l:List UInt8) (acc:Nat),acc<=Ws acc l
 | [],acc=>Nat.le_refl _
 | c::r,acc=>Nat.le_trans (by omega) (X3 r (acc*10+(c.toNat - 48)))
theorem RJ:∀ (l:List UInt8) (acc:Nat),l.all BJ=true->Ws acc l<1844674407370955162->parseUint10 acc l=.ok (Ws acc l)
 | [],acc,_,_=>rfl
 | c::r,acc,h,hv=>by
  rw[List.all_cons,Bool.and_eq_true] at h;have hc:=V3 h.1;have hg:=X3 r (acc*10+(c.toNat - 48));have hv':Ws (acc*10+(c.toNat - 48)) r<1844674407370955162:=hv;unfold parseUint10;rw[if_pos (by omega),if_neg (by omega),if_neg (by omega)];exact RJ r _ h.2 hv'
theorem Pu:∀ (l:List UInt8) (acc:Nat),l.all BJ=true->((Ws acc l:Nat):Int)=l.foldl (fun n c=>10*n+((c.toNat:Int) - 48)) (acc:Int)
 | [],acc,_=>rfl
 | c::r,acc,h=>by
  rw[List.all_cons,Bool.and_eq_true] at h;have hc:=V3 h.1;have:=Pu r (acc*10+(c.toNat - 48)) h.2;show((Ws (acc*10+(c.toNat - 48)) r:Nat):Int)=r.foldl _ (10*(acc:Int)+((c.toNat:Int) - 48));rw[this];congr 1;omega
theorem Pa (u:Nat) (h:u<=999999999999999):parseMag (decDigits u)=.ok u:=by
 have hv:Ws 0 (decDigits u)=u:=by
  have:=Pu (decDigits u) 0 (Ki u);have h2:=NI u;unfold DL at h2;rw[show((0:Nat):Int)=0 from rfl,h2] at this;omega
 unfold parseMag;rw[if_neg (J4 u),RJ _ _ (Ki u) (by omega),hv]
theorem Y6 (n:Int) (h0: -999999999999999<=n) (h1:n<=999999999999999):atoiAll (itoa n)=.ok n:=by
 unfold itoa;by_cases hn:n<0
 ·rw[if_pos hn,atoiAll_minus,Pa _ (by omega)];unfold signed;simp only
  rw[if_neg (by omega)];congr 1;omega
 ·rw[if_neg hn];have hd:=V3 (Ty n.toNat);have hp:=Pa n.toNat (by omega);cases hl:decDigits n.toNat with
  | nil=>exact absurd hl (J4 _)
  | cons b t=>
   rw[hl] at hd hp;have hb:((b::t).getD 0 0)=b:=rfl;rw[hb] at hd;rw[atoiAll_plain b t (by omega) (by omega),hp];unfold signless;simp only
   rw[if_neg (by omega)];congr 1;omega
theorem Aga (l:List UInt8):Io l=if (LW l).2 then .iface 3 (I J (LW l).1) else GI:=by
 obtain⟨⟨n,ok⟩,hx⟩:∃ x,LW l=x:=⟨_,rfl⟩
 rw[hx];cases ok with
 | true=>
  obtain⟨rfl,h0,h1⟩:=OK l n hx;unfold Io;rw[Y6 n h0 h1];simp only[if_true]
  rw[if_pos ⟨trivial,h0,h1⟩]
 | false=>
  simp only[Bool.false_eq_true,if_false]
  unfold Io;cases ha:atoiAll l with
  | ok m=>
   simp only
   by_cases hc:itoa m=l/\ -999999999999999<=m/\m<=999999999999999
   ·have:=Y4 m hc.2.1 hc.2.2;rw[hc.1,hx] at this;cases this
   ·rw[if_neg hc]
  | _=>rfl
theorem F6 {s:ByteArray} {l:List UInt8} (h:s.data.toList=l):s=⟨l.toArray⟩:=by subst h;rfl
theorem F9 {s:ByteArray} {l:List UInt8} (h:¬s.data.toList=l):(s==(⟨l.toArray⟩:ByteArray))=false:=by
 show(s.data==l.toArray)=false;rw[<- Bool.not_eq_true,beq_iff_eq];intro e;exact h (by rw[e])
theorem Im {l m:List UInt8} (h:¬l=m):(l==m)=false:=by simpa using h
theorem Ae8 (s:ByteArray):(NG s.data.toList).getD (JS s)=Gv (DD s):=by
 by_cases h0:s.data.toList=[]
 ·rw[F6 h0];kernel_rfl
 by_cases h1:s.data.toList=[110,117,108,108]
 ·rw[F6 h1];kernel_rfl
 by_cases h2:s.data.toList=[126]
 ·rw[F6 h2];kernel_rfl
 by_cases h3:s.data.toList=[116,114,117,101]
 ·rw[F6 h3];kernel_rfl
 by_cases h4:s.data.toList=[102,97,108,115,101]
 ·rw[F6 h4];kernel_rfl
 by_cases h5:s.data.toList=[46,105,110,102]
 ·rw[F6 h5];kernel_rfl
 by_cases h6:s.data.toList=[43,46,105,110,102]
 ·rw[F6 h6];kernel_rfl
 by_cases h7:s.data.toList=[45,46,105,110,102]
 ·rw[F6 h7];kernel_rfl
 by_cases h8:s.data.toList=[46,110,97,110]
 ·rw[F6 h8];kernel_rfl
 have hw:NG s.data.toList=O:=by
  unfold NG;have he:s.data.toList.isEmpty=false:=by rw[<- Bool.not_eq_true,List.isEmpty_iff];exact h0
  rw[he,Im h1,Im h2,Im h3,Im h4,Im h5,Im h6,Im h7,Im h8];rfl
 have ha:B5 s EI=O:=by
  unfold EI;simp only[B5]
  rw[show(s==_)=false from F9 h0,show(s==_)=false from F9 h1,show(s==_)=false from F9 h2,show(s==_)=false from F9 h3,show(s==_)=false from F9 h4,show(s==_)=false from F9 h5,show(s==_)=false from F9 h6,show(s==_)=false from F9 h7,show(s==_)=false from F9 h8];rfl
 rw[hw];unfold DD;rw[ha];simp only[Option.getD_none]
 unfold JS;rw[ZM];cases hn:K7 s.data.toList with
 | false=>rfl
 | true=>
  simp only[Bool.not_true,Bool.false_eq_true,if_false,if_true]
  rw[Aga];obtain⟨⟨n,ok⟩,hx⟩:∃ x,LW s.data.toList=x:=⟨_,rfl⟩
  rw[hx];cases ok<;>rfl
theorem Wv (s:ByteArray):N8 s=Ay s:=by
 unfold N8 Ay;rw[Mk,Ae8]
theorem XX (l:List UInt8) (flow:Bool) (h:Cm l flow=true):validD l=true:=by
 unfold Cm at h;simp only[Bool.and_eq_true] at h;exact h.1.1.2
theorem Ww (s:ByteArray) (hv:validD s.data.toList=true):A4 (JS s).1=true/\((JS s).2=0\/(JS s).1=AJ)/\((JS s).1.kind≠3\/(JS s).1.str=s):=by
 unfold JS;cases Qx s.data.toList with
 | false=>refine⟨?_,.inl rfl,.inr rfl⟩;unfold A4;simpa using hv
 | true=>
  obtain⟨⟨n,ok⟩,hx⟩:∃ x,LW s.data.toList=x:=⟨_,rfl⟩
  rw[hx];cases ok with
  | false=>exact⟨rfl,.inr rfl,.inl (show AJ.kind≠3 by decide)⟩
  | true=>
   obtain⟨_,h0,h1⟩:=OK _ n hx;refine⟨?_,.inl rfl,.inl (show(2:Int)≠3 by decide)⟩;unfold A4;simp;omega
theorem U1 (l:List UInt8) (p:Sc×Int) (h:NG l=F p):A4 p.1=true/\(p.2=0\/p.1=AJ)/\p.1.kind≠3:=by
 unfold NG at h
 repeat' split at h
 all_goals first
  | (injection h with h;subst h;first | exact⟨rfl,.inl rfl,by decide⟩ | exact⟨rfl,.inr rfl,by decide⟩)
  | cases h
theorem Jg (s:ByteArray):A4 (Ay s).1=true/\((Ay s).2=0\/(Ay s).1=AJ)/\((Ay s).1.kind≠3\/(Ay s).1.str=s):=by
 rw[<- Wv];unfold N8;by_cases hc:(!s.data.toList.isEmpty&& !RF s.data.toList false)=true
 ·rw[if_pos hc];exact⟨rfl,.inr rfl,.inl (by decide)⟩
 ·rw[if_neg hc];cases hw:NG s.data.toList with
  | some p=>
   have:=U1 _ p hw;exact⟨this.1,this.2.1,.inl this.2.2⟩
  | none=>
   refine Ww s ?_;by_cases he:s.data.toList.isEmpty=true
   ·rw[List.isEmpty_iff.1 he];rfl
   ·have hm:RF s.data.toList false=true:=by
     cases hm:RF s.data.toList false with
     | true=>rfl
     | false=>rw[hm] at hc;simp at hc;exact absurd (by rw[hc];rfl) he
    rw[Mk] at hm;exact XX _ _ hm
end
section
set_option maxHeartbeats 4000000
set_option maxRecDepth 100000
def Fm (t:C8):Pc:=⟨t.kind,t.str⟩
theorem Pt (t:C8) (w:Y) (ht:t.str.length<=1000000) (hT:BU w):
  Calls Tryz.prog 227 #[.agg (Eo t).toArray] w fun e w'=>e=.returned (.tuple #[Ev (B3 (Fm t)).1,I J (B3 (Fm t)).2])/\Below w.heap.size w w':=by
 have hs:(⟨t.str.toArray⟩:ByteArray).size<=1000000:=by rw[Lib.size_eq];exact ht
 have hR:=fun w' (hb:Below w.heap.size w w')=>LP ⟨t.str.toArray⟩ w' hs (hT.below hb);have hQ:=fun w' (hb:Below w.heap.size w w')=>Cz ⟨t.str.toArray⟩ w' hs (hT.below hb);have hF:=(Jg ⟨t.str.toArray⟩).2.1;refine V.enter _ Tryz.func227 (Mem.start (C:=A5) w) ?_;refine W ?_;refine R.new fun b1 h1=>?_;refine R.new fun b2 h2=>?_
 repeat refine W ?_
 refine V.ifp (fun h1=>?_) (fun h1=>?_)
 ·have hk:B3 (Fm t)=Ay ⟨t.str.toArray⟩:=by
   unfold B3;rw[if_pos (show(Fm t).kind=1 from h1)];by_cases e:(Ay ⟨t.str.toArray⟩).2=0
   ·exact if_pos e
   ·rw[show(Fm t).str=t.str from rfl,if_neg e];exact Prod.ext ((hF.resolve_left e).symm) rfl
  rw[hk]
  repeat refine W ?_
  refine R.c (fun w' h'=>hR w' h'.1.below) ?_
  repeat refine W ?_
  refine V.end (fun w' h'=>?_) (hv:=.agg rfl (by(repeat (first | exact List.Mem.head _ | apply List.Mem.tail))) (by intro w;kernel_rfl) (by intro w;simp;try rfl) (.tmp rfl .nil));exact⟨rfl,h'.1.below⟩
 ·repeat refine W ?_
  refine V.ifp (fun h2=>?_) (fun h2=>?_)
  ·have hk:B3 (Fm t)=if Lib.validD t.str then (⟨3,0,⟨t.str.toArray⟩⟩,0) else (AJ,40):=by
    unfold B3;rw[if_neg (show ¬(Fm t).kind=1 from h1),if_pos (show(Fm t).kind=2 from h2)];rfl
   rw[hk]
   repeat refine W ?_
   refine R.c (fun w' h'=>hQ w' h'.1.below) ?_;cases hv:Lib.validD t.str with
   | true=>
    repeat refine W ?_
    refine V.end (fun w' h'=>?_) (hv:=.agg rfl (by(repeat (first | exact List.Mem.head _ | apply List.Mem.tail))) (by intro w;kernel_rfl) (by intro w;simp;try rfl) (.tmp rfl .nil));exact⟨rfl,h'.1.below⟩
   | false=>
    repeat refine W ?_
    refine V.end (fun w' h'=>?_) (hv:=.agg rfl (by(repeat (first | exact List.Mem.head _ | apply List.Mem.tail))) (by intro w;kernel_rfl) (by intro w;simp;try rfl) (.tmp rfl .nil));exact⟨rfl,h'.1.below⟩
  ·have hk:B3 (Fm t)=(AJ,91):=by
    unfold B3;rw[if_neg (show ¬(Fm t).kind=1 from h1),if_neg (show ¬(Fm t).kind=2 from h2)]
   rw[hk]
   repeat refine W ?_
   refine V.end (fun w' h'=>?_) (hv:=.agg rfl (by(repeat (first | exact List.Mem.head _ | apply List.Mem.tail))) (by intro w;kernel_rfl) (by intro w;simp;try rfl) (.tmp rfl .nil));exact⟨rfl,h'.1.below⟩
def fwV (e:Int):Value:=.iface 418 (.agg #[I J e])
def Us (e:Int):Value:=.iface 403 (.agg #[fwV e])
theorem CZ (e:Int) (w:Y):Calls Tryz.prog 278 #[I J e] w fun ev w'=>ev=.returned (Us e)/\Below w.heap.size w w':=by
 refine V.enter _ Tryz.func278 (Mem.start (C:=A5) w) ?_
 repeat refine W ?_
 refine V.end fun w' h'=>?_;exact⟨rfl,h'.1.below⟩
def E2 (l:List C8) (p:Nat):Sc×Int:=match l[p]? with
 | some t=>B3 (Fm t)
 | none=>(AJ,91)
theorem Add {t:Pc} (h:(B3 t).2≠0):(B3 t).1=AJ:=by
 unfold B3 at h |-;split
 ·rename_i h1;rw[if_pos h1] at h;split
  ·rename_i h2;rw[if_pos h2] at h;exact absurd h2 h
  ·rfl
 ·rename_i h1;rw[if_neg h1] at h;split
  ·rename_i h2;rw[if_pos h2] at h;split
   ·rename_i h3;rw[if_pos h3] at h;exact absurd rfl h
   ·rfl
  ·rfl
theorem Ph {wB:Y} {A:Option Addr} {c:Nat} {l:List C8} (hP:Ok wB A l) (r p:Nat) (w:Y) (hB:Below wB.heap.size wB w) (hp:p<=l.length):
  Dm Tryz.prog 282 #[.pointer (F ⟨r,0,O⟩)] w (Cv A c l r p) (Hx wB) (fun _:Unit=>.tuple #[Ev (E2 l p).1,if (E2 l p).2=0 then .nilIface else fwV (E2 l p).2]) (fun _=>Cv A c l r (if (E2 l p).2=0 then p+1 else p)):=by
 intro Fz hX hF hQ;have hlen:=hP.len;refine V.enter _ Tryz.func282 (Mem.startX hX hF) ?_;unfold Cv;refine W ?_;refine R.new fun b2 h2=>?_
 repeat refine W ?_
 refine V.ifp (fun hge=>?_) (fun hlt=>?_)
 ·have hk:E2 l p=(AJ,91):=by unfold E2;rw[List.getElem?_eq_none (by omega)]
  repeat refine W ?_
  refine V.end (fun w' h'=>?_) (hv:=.agg rfl (by(repeat (first | exact List.Mem.head _ | apply List.Mem.tail))) (by intro w;kernel_rfl) (by intro w;simp;try rfl) (.tmp rfl .nil));rw[hk];exact⟨(),rfl,Mem.toW (h'.sel:Mem Fz w [blk r _ _] w')⟩
 ·have hlt2:p<l.length:=by omega
  obtain⟨t,ht⟩:∃ t,l[p]? =F t:=⟨_,List.getElem?_eq_getElem hlt2⟩
  have hk:E2 l p=B3 (Fm t):=by unfold E2;rw[ht]
  rw[hk];obtain⟨b,o,rfl,hb,hc0⟩:=hP.tks p t ht;have hc:Cs w b (o+p*3) (Eo t):=fun j u hj=>cell_below (hc0 j u hj) hB;have hn:¬Fz b:=fun e=>by have:=hQ b e;omega
  have hts:=hP.small t (List.mem_of_getElem? ht);have hcl:=fun w' (h':B4 Fz w w')=>Pt t w' hts (hP.tabs.below (B4.belowB hB hQ h'));obtain⟨kr,hkr⟩:∃ x,B3 (Fm t)=x:=⟨_,rfl⟩
  have hbad:=Add (t:=Fm t);rw[hkr] at hcl hbad;rw[hkr];clear hkr hk;refine V.regT [12,13,14,15,16,17,18] [0,1,2,3,4,5,6,7,8,9,10,11] (Mem Fz w [blk r [Z (F ⟨b,o,O⟩) l.length c,I J p] 398]) ?_;iterate 10 refine Wy ?_
  refine Zz.ix hlt2 ?_;refine Zz.lo 0 hc ?_ hn;refine Zz.last (ι:=Nat) (Si:=fun b4=>Mem Fz w [blk b4 (Fl (kr).1) 36,blk b2 [I J 0,I J 0,Q .empty] 36,blk r [Z (F ⟨b,o,O⟩) l.length c,I J p] 398]) (li:=fun b4=>[(0,.pointer (F ⟨r,0,O⟩)),(2,.pointer (F ⟨b2,0,O⟩)),(3,.nilIface),(4,.pointer (F ⟨b4,0,O⟩)),(5,I J (kr).2)]) (fun hV=>?_) (fun b4=>?_)
  ·refine Zz.ncc 16 12 (T1:=[12,13,14,15,17,18]) (T2:=[13,14,15,16,17,18]) (fun w' h'=>hcl w' h'.1) (cs:=[I J 0,I J 0,Q .empty]) (bt:=36) ?_ (fun b4 h4=>?_) ?_
   ·intro ρ w';simp[go_sem];try rfl
   ·refine Zz.c (fun w' h'=>hcl w' h'.1) ?_;iterate 5 refine Wy ?_
    refine Zz.off (fun w' h'=>h'.sel) ?_;exact R.z (V.less (hV b4) (fun w' h'=>h'.sel))
   ·iterate 3 refine Wy ?_
    refine Zz.new fun b4 h4=>?_;iterate 2 refine Wy ?_
    refine Zz.off (fun w' h'=>h'.sel) ?_;exact R.z (V.less (hV b4) (fun w' h'=>h'.sel))
  dsimp only
  repeat refine W ?_
  by_cases he:(kr).2=0
  ·rw[if_pos he,if_pos he];refine V.re 38 (v:=.bool (kr.2 !=0)) (v':=.bool false) (by simp[he]) ?_
   repeat refine W ?_
   refine V.end (fun w' h'=>?_) (hv:=.agg rfl (by(repeat (first | exact List.Mem.head _ | apply List.Mem.tail))) (by intro w;kernel_rfl) (by intro w;simp;try rfl) (.tmp rfl .nil));exact⟨(),rfl,Mem.toW (h'.sel:Mem Fz w [blk r _ _] w')⟩
  ·rw[if_neg he,if_neg he];refine V.re 38 (v:=.bool (kr.2 !=0)) (v':=.bool true) (by simp[he]) ?_
   repeat refine W ?_
   have h0:kr.1=AJ:=hbad he;rw[h0];refine V.end (fun w' h'=>?_) (hv:=.agg rfl (by(repeat (first | exact List.Mem.head _ | apply List.Mem.tail))) (by intro w;kernel_rfl) (by intro w;simp;try rfl) (.tmp rfl .nil));exact⟨(),rfl,Mem.toW (h'.sel:Mem Fz w [blk r _ _] w')⟩
def MF (r:FR) (y:TY):Value:=match r with
 | .ok _ _=>.iface 439 (.agg (AM y).toArray)
 | .bad e=>Us e
def Ur (A:Option Addr) (c:Nat) (l:List C8) (r:Nat) (res:FR) (x:TY×Nat):Aw:=match res with
 | .ok t rest=>star [Cv A c l r x.2,A9 (AM x.1) t,pr (x.2<=l.length/\rest=(l.drop x.2).map Fm)]
 | .bad _=>pr True
def Zs (wB:Y) (A:Option Addr) (c:Nat) (l:List C8) (f:FuncId) (p d:Nat) (res:FR):Prop:=∀ (r:Nat) (w:Y),Below wB.heap.size wB w->Dm Tryz.prog f #[.pointer (F ⟨r,0,O⟩),I J d] w (Cv A c l r p) (Hx wB) (fun x:TY×Nat=>MF res x.1) (Ur A c l r res)
theorem P7 {A:Option Addr} {c:Nat} {l:List C8} {r p:Nat} {Fz:Nat->Prop} {w w':Y} {t:Tr} {rest:List Pc} {y:TY} (h:Mem Fz w [Cv A c l r p,A9 (AM y) t] w') (hp:p<=l.length) (hr:rest=(l.drop p).map Fm):∃ F':Nat->Prop,B4 Fz w w'/\(∀ b,F' b->b<w'.heap.size/\(Fz b\/w.heap.size<=b))/\(Ur A c l r (.ok t rest) (y,p)).is F' w':=
 Mem.toW (Mem.toStar (B:=[_,_,_]) (A:=[]) ((h.pr (p:=p<=l.length/\rest=(l.drop p).map Fm) ⟨hp,hr⟩).sel))
def GE (x:Sc):TY:=(0,⟨#[]⟩,x,(O,0,0),(O,0,0))
theorem Mem.tree0 {C:Nat->Prop} {w0 w:Y} {Zz:List Aw} {k:Int} {nm:ByteArray} {x:Sc} (h:Mem C w0 Zz w):Mem C w0 (A9 (AM (k,nm,x,(O,0,0),(O,0,0))) (.mk k nm x [] [])::Zz) w:=
 ⟨h.1,fun _=>False,by
  show D7 w _ (.mk k nm x [] []) _;unfold D7 D7.TsV;exact⟨O,0,O,0,rfl,(fun j x hj=>by cases hj),trivial⟩,fun _ e=>e.elim,h.2.mono (fun b hb=>⟨hb,fun e=>e⟩) (fun _ _=>rfl)⟩
theorem My {l:List C8} {p:Nat} {t:C8} (h:l[p]? =F t):(l.drop p).map Fm=Fm t::(l.drop (p+1)).map Fm:=by
 have hlt:=(List.getElem?_eq_some_iff.1 h).1;rw[List.drop_eq_getElem_cons hlt,List.map_cons];rw[List.getElem?_eq_getElem hlt] at h;cases h;rfl
theorem Rx {wB:Y} {A:Option Addr} {c:Nat} {l:List C8} (hP:Ok wB A l) (p d:Nat) (t:C8) (ht:l[p]? =F t):Zs wB A c l 273 p d (if (B3 (Fm t)).2=0 then .ok (BX (B3 (Fm t)).1) ((l.drop (p+1)).map Fm) else .bad (B3 (Fm t)).2):=by
 intro r w hB Fz hX hF hQ;have hlt:=(List.getElem?_eq_some_iff.1 ht).1;have hlen:=hP.len;have hkey:=fun w' (h:Below wB.heap.size wB w')=>Ph (c:=c) hP r p w' h (Nat.le_of_lt hlt);have hk:E2 l p=B3 (Fm t):=by unfold E2;rw[ht]
 rw[hk] at hkey;obtain⟨kr,hkr⟩:∃ x,B3 (Fm t)=x:=⟨_,rfl⟩
 rw[hkr] at hkey |-;clear hkr hk;refine V.enter _ Tryz.func273 (Mem.startX hX hF) ?_
 repeat refine W ?_
 refine R.cq (fun w' h'=>hkey w' (B4.belowB hB hQ h'.1)) (fun G hG=>Hx.of hB hQ G hG) (fun _=>?_);by_cases he:kr.2=0
 ·rw[if_pos he,if_pos he,if_pos he];iterate 3 refine W ?_
  refine R.new fun b5 h5=>?_
  repeat refine W ?_
  refine V.end fun w' h'=>?_;exact⟨(GE kr.1,p+1),rfl,P7 (Mem.sel (Mem.tree0 (k:=0) (nm:=⟨#[]⟩) (x:=kr.1) h')) hlt rfl⟩
 ·rw[if_neg he,if_neg he,if_neg he];iterate 3 refine W ?_
  refine R.new fun b5 h5=>?_
  repeat refine W ?_
  refine V.end fun w' h'=>?_;exact⟨(GE kr.1,p),rfl,Mem.toW (h'.pr (p:=True) trivial).sel⟩
end
section
set_option maxHeartbeats 8000000
set_option maxRecDepth 100000
def at_ (l:List C8) (p:Nat):List Pc:=(l.drop p).map Fm
theorem Wf {l:List C8} {p:Nat} {ks:List Int} (h0:ks.any (fun y=>(0:Int)==y)=false):Eg l p ks=ks.any fun y=>hk (at_ l p)==y:=by
 unfold Eg;cases h:l[p]? with
 | none=>
  have:l.drop p=[]:=List.drop_eq_nil_iff.2 (List.getElem?_eq_none_iff.1 h);unfold at_;rw[this];exact h0.symm
 | some t=>unfold at_;rw[My h];rfl
theorem Ai0 {l:List C8} {p:Nat} {k:Int} (h0:k≠0):Eg l p [k]=decide (hk (at_ l p)=k):=by
 rw[Wf (by simp;omega)];simp[List.any];rfl
theorem Mu (l:List C8) (p:Nat):(at_ l p).tail=at_ l (p+1):=by unfold at_;rw[<- List.map_tail,List.tail_drop]
theorem Agx {C:Nat->Prop} {w0 w:Y} {Z0:List Aw} {y:TY} {t:Tr} {s:List UInt8} (h:Mem C w0 (A9 (AM y) t::Z0) w):Mem C w0 (A9 (AM (y.1,⟨s.toArray⟩,y.2.2)) (t.named s)::Z0) w:=
 ⟨h.1,h.2.as fun Fz w hs=>by
  cases t with
  | mk k nm x ks ts=>
   have hs:D7 w Fz (.mk k nm x ks ts) (AM y):=hs;show D7 w Fz (Tr.named (.mk k nm x ks ts) s) (AM (y.1,⟨s.toArray⟩,y.2.2));unfold Tr.named;unfold D7 AM at hs |-;obtain⟨KA,kc,A,c,e,h1,h2⟩:=hs;injection e with e0 e;injection e with e1 e;injection e with e2 e;injection e with e3 e;injection e with e4 e;injection e with e5 e;injection e with e6 _;exact⟨KA,kc,A,c,by dsimp only;rw[e0,e2,e3,e4,e5,e6],h1,h2⟩⟩
theorem isRow {w:Y} {b:Nat} {ks:List Int} (h:Cs w b 0 (ks.map (I J))):Ja w (fun _=>True) (F ⟨b,0,O⟩) ks:=fun j i hj=>⟨b,0,rfl,trivial,Cs.at h (by rw[List.getElem?_map,hj];rfl)⟩
section
variable {wB:Y} {A:Option Addr} {c:Nat} {l:List C8}
theorem YG (hP:Ok wB A l) (p d:Nat) (t:C8) (ht:l[p]? =F t):Zs wB A c l 275 p d (.ok (Fd t.str) (at_ l (p+1))):=by
 intro r w hB Fz hX hF hQ;have hlt:=(List.getElem?_eq_some_iff.1 ht).1;have hlen:=hP.len;obtain⟨b,o,rfl,hb,hc0⟩:=hP.tks p t ht;have hc:Cs w b (o+p*3) (Eo t):=fun j u hj=>cell_below (hc0 j u hj) hB;have hn:¬Fz b:=fun e=>by have:=hQ b e;omega
 refine V.enter _ Tryz.func275 (Mem.startX hX hF) ?_;unfold Cv
 repeat refine W ?_
 refine R.re 24 (v:=I J ((p:Int)+1 - 1)) (v':=I J (p:Int)) (congrArg (Value.int .i64) (by omega)) ?_;refine R.ix hlt ?_
 repeat refine W ?_
 refine R.lo 1 hc ?_ hn
 repeat refine W ?_
 refine V.end fun w' h'=>?_;exact⟨((3,⟨t.str.toArray⟩,AJ,(O,0,0),(O,0,0)),p+1),rfl,P7 (Mem.sel (Mem.tree0 (k:=3) (nm:=⟨t.str.toArray⟩) (x:=AJ) h')) hlt rfl⟩
theorem Tn (hP:Ok wB A l) (p d n:Nat) (t:C8) (ht:l[p]? =F t) (hd:¬24<d) (h3:t.kind=3) (hV:Zs wB A c l 257 (p+1) d (AB n d (at_ l (p+1)))):Zs wB A c l 274 p d (AB (n+1) d (at_ l p)):=by
 intro r w hB Fz hX hF hQ;have hlt:=(List.getElem?_eq_some_iff.1 ht).1;have hlen:=hP.len;have hval:AB (n+1) d (at_ l p)=if Eg l (p+1) [3,4] then .bad 91 else match AB n d (at_ l (p+1)) with
    | .ok v rest=>.ok (v.named t.str) rest
    | .bad e=>.bad e:=by
  rw[show at_ l p=Fm t::at_ l (p+1) from My ht,Wf (by decide),AB,if_neg hd];generalize at_ l (p+1)=q;rw[if_pos (show(Fm t).kind=3 from h3)];by_cases e:hk q=3\/hk q=4
  ·rw[if_pos e,if_pos (by rcases e with e | e<;>simp[e])]
  ·rw[if_neg e,if_neg (by rw[not_or] at e;simp[e.1,e.2])];rfl
 rw[hval];obtain⟨rv,hrv⟩:∃ x,AB n d (at_ l (p+1))=x:=⟨_,rfl⟩
 rw[hrv] at hV |-;clear hrv hval;obtain⟨b,o,rfl,hb,hc0⟩:=hP.tks p t ht;have hc:Cs w b (o+p*3) (Eo t):=fun j u hj=>cell_below (hc0 j u hj) hB;have hn:¬Fz b:=fun e=>by have:=hQ b e;omega
 refine V.enter _ Tryz.func274 (Mem.startX hX hF) ?_;unfold Cv
 repeat refine W ?_
 refine R.ix hlt ?_
 repeat refine W ?_
 refine R.lo 1 hc ?_ hn
 repeat refine W ?_
 refine R.bs (m:=2) (cs:=[I J 3,I J 4]) (bt:=3) (fun bk hb=>?_);refine R.c (fun w' h'=>JM (fun b=>b<wB.heap.size) (fun _=>True) r (F ⟨b,o,O⟩) (F ⟨bk,0,O⟩) c 2 l (p+1) [3,4] w' (Cs.of_blk (h'.blk (List.Mem.tail _ (List.Mem.head _)))) (hP.at hB hQ h'.1) (isRow (Cs.of_blk (h'.blk (List.Mem.head _)))) (by simp)) ?_
 repeat refine W ?_
 refine V.if (fun he=>?_) (fun he=>?_)
 ·rw[he,if_pos rfl]
  repeat refine W ?_
  refine R.c (fun w' h'=>CZ 91 w') ?_
  repeat refine W ?_
  refine V.end fun w' h'=>?_;exact⟨(GE AJ,p),rfl,Mem.toW (h'.pr (p:=True) trivial).sel⟩
 ·rw[he,if_neg (by simp)]
  repeat refine W ?_
  refine R.cq (fun w' h'=>hV r w' (B4.belowB hB hQ h'.1)) (fun G hG=>Hx.of hB hQ G hG) (fun x=>?_);cases rv with
  | bad e=>
   dsimp only[Ur,MF,Us]
   repeat (first | refine W ?_ | refine R.new fun _ _=>?_)
   refine V.end fun w' h'=>?_;exact⟨x,rfl,Mem.toW h'.sel⟩
  | ok v rest=>
   dsimp only[Ur,MF]
   iterate 2 refine W ?_
   refine V.star ?_;refine V.prop (fun hp=>?_) (hp:=.tail _ (.tail _ (.head _)))
   repeat (first | refine W ?_ | refine R.new fun _ _=>?_)
   refine V.end fun w' h'=>?_;have h1:Mem Fz w [A9 (AM x.1) v,Cv (F ⟨b,o,O⟩) c l r x.2] w':=h'.sel;exact⟨((x.1.1,⟨t.str.toArray⟩,x.1.2.2),x.2),rfl,P7 (Mem.sel (Agx (s:=t.str) h1)) hp.1 hp.2⟩
end
end
end Go.Proofs.YtdpppepmkeinaaaGreatDoor
