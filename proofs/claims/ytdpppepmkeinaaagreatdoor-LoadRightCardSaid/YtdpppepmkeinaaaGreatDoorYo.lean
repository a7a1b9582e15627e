/- What is proved: a part of the walk of the program and of its plain laws; no condition beside those that each theorem names. -/
import Derived.Test.YtdpppepmkeinaaaGreatDoorYb
import Derived.Test.YtdpppepmkeinaaaGreatDoorYn
import Derived.Test.YtdpppepmkeinaaaGreatDoorYl
import Derived.Test.YtdpppepmkeinaaaGreatDoorYa
import Derived.Lib.AtoiAllCases
import Derived.Test.YtdpppepmkeinaaaGreatDoorProg
import Derived.Laws.Externs
namespace Go.Proofs.YtdpppepmkeinaaaGreatDoor
open Go Go.RowKit Go.Lib
open Go.Value renaming int->I,string->Q,slice->Z
open Go.IntKind renaming i64->J
open Option renaming none->O,some->F
open _root_.Go renaming World->Y
set_option linter.unusedSimpArgs false
set_option linter.unusedVariables false
set_option linter.unusedSectionVars false
section
theorem Kg (r:Nat) (h:128<=r):Ck r=true:=by
 have h1:Bw [46,101,69,43,45,95] (r:Int)=false:=by
  rw[<- Bool.not_eq_true];unfold Bw;simp;omega
 unfold Ck;rw[h1];simp;omega
theorem Ks (b:UInt8):Ck b.toNat= !okN b:=by
 have h1:Bw [46,101,69,43,45,95] (b.toNat:Int)=Av [46,101,69,43,45,95] b:=by
  rw[Bool.eq_iff_iff];unfold Bw Av;simp[<- UInt8.toNat_inj,List.contains_cons];omega
 unfold Ck okN AX;rw[h1];cases Av [46,101,69,43,45,95] b<;>simp
theorem Aas (b:UInt8) (h:128<=b.toNat):okN b=false:=by
 have:=Ks b;rw[Kg _ h] at this;simpa using this.symm
theorem VN (s:ByteArray):∀ (f pos:Nat),s.size - pos<=f->(!decide (0<=idxFuncFrom Ck true s f pos))=(s.data.toList.drop pos).all okN
 | 0,pos,h=>by
  rw[List.drop_eq_nil_of_le (by rw[<- Lib.size_eq];omega)];simp[idxFuncFrom]
 | f+1,pos,h=>by
  unfold idxFuncFrom;by_cases hp:pos<s.size
  ·rw[if_pos hp];have hlt:pos<s.data.toList.length:=by rw[<- Lib.size_eq];exact hp
   have hd:=List.drop_eq_getElem_cons hlt;obtain⟨b,hb⟩:∃ b,s.data.toList[pos]=b:=⟨_,rfl⟩
   rw[hb] at hd;rw[hd,List.all_cons,<- Lib.decodeL_drop,hd];by_cases hb128:b.toNat<128
   ·rw[decodeL_ascii b _ hb128];simp only
    rw[Ks];cases hok:okN b with
    | true=>
     simp only[Bool.not_true,Bool.false_eq_true,if_false,Bool.true_and]
     exact VN s f (pos+1) (by omega)
    | false=>simp
   ·rw[Kg _ (Em b _ (by omega)),Aas b (by omega)];simp
  ·rw[if_neg hp,List.drop_eq_nil_of_le (by rw[<- Lib.size_eq];omega)];simp
theorem CI (a b:UInt8) (t:List UInt8):trimPrefix (b::t) [a]=if b=a then t else b::t:=by
 unfold trimPrefix hasPrefix;by_cases h:b=a
 ·subst h;simp
 ·have:¬a=b:=fun e=>h e.symm;simp[this,h]
theorem G7 (a:UInt8):trimPrefix [] [a]=[]:=by simp[trimPrefix,hasPrefix]
theorem X7 (l:List UInt8):TH l=trimPrefix l [46]:=by
 unfold TH Af6;cases l with
 | nil=>rw[G7];rfl
 | cons b t=>
  rw[CI];by_cases h:b=46
  ·simp[h]
  ·simp[h]
theorem Acw (l:List UInt8):YB l=(!l.isEmpty&&(AX (l.headD 0)&& !(decide (0<=Lib.idxFunc Ck true ⟨l.toArray⟩)))):=by
 unfold YB Lib.idxFunc;rw[VN ⟨l.toArray⟩ _ 0 (by omega),LM];simp
theorem YI (l:List UInt8):OD l=IU l:=by
 have e1:∀ r:List UInt8,hasPrefix r [43,45]=match r with | b::c::_=>b==43&&c==45 | _=>false:=by
  intro r;unfold hasPrefix
  match r with
  | []=>rfl
  | [b]=>simp[List.isPrefixOf]
  | b::c::t=>
   simp only[List.isPrefixOf,Bool.and_true]
   rw[Bool.eq_iff_iff];simp;intros;constructor<;>(rintro⟨h1,h2⟩;exact⟨h1.symm,h2.symm⟩)
 unfold OD IU;rw[Acw,X7];cases l with
 | nil=>rfl
 | cons b t=>
  by_cases hb:b=43
  ·subst hb;have hs:HW (43::t)=t:=by unfold HW UF Av;simp
   rw[hs];unfold Fn;rw[CI,if_pos rfl];cases t with
   | nil=>rw[G7,e1,G7,G7];rfl
   | cons c t'=>
    by_cases hc:c=45
    ·subst hc;rw[e1,CI,if_neg (by decide)];simp[AX]
    ·have hcb:(c==45)=false:=by simpa using hc
     rw[e1,CI 45,if_neg hc];simp[hcb,Bool.and_assoc]
  ·have h43:(b==43)=false:=by simpa using hb
   have hpre:hasPrefix (b::t) [43,45]=false:=by
    rw[e1];cases t with
    | nil=>rfl
    | cons c t'=>simp[hb]
   rw[hpre];unfold Fn;rw[CI,if_neg hb];by_cases hm:b=45
   ·subst hm;have hs:HW (45::t)=t:=by unfold HW UF Av;simp
    rw[hs,CI,if_pos rfl];simp[Bool.and_assoc]
   ·have hs:HW (b::t)=b::t:=by unfold HW UF Av;simp[hb,hm]
    rw[hs,CI 45,if_neg hm];simp[Bool.and_assoc]
theorem BZ {u:Nat} (h:u<10):decDigits u=[UInt8.ofNat (48+u)]:=by rw[decDigits,dif_pos h]
theorem GI {u:Nat} (h:¬u<10):decDigits u=decDigits (u / 10)++[UInt8.ofNat (48+u%10)]:=by rw[decDigits,dif_neg h]
theorem II {k:Nat} (h:k<10):(UInt8.ofNat (48+k)).toNat=48+k:=by rw[UInt8.toNat_ofNat'];omega
theorem Aao {k:Nat} (h:k<10):AX (UInt8.ofNat (48+k))=true:=by unfold AX;rw[II h];simp;omega
theorem L6 (u:Nat):C5 (decDigits u)=u:=by
 induction u using Nat.strongRecOn with
 | _ u ih=>
  by_cases h:u<10
  ·rw[BZ h];show 10*0+(((UInt8.ofNat (48+u)).toNat:Int) - 48)=u;rw[II h];omega
  ·rw[GI h,Jn,ih (u / 10) (by omega),II (by omega)];omega
theorem IG (u:Nat):(decDigits u).all AX=true:=by
 induction u using Nat.strongRecOn with
 | _ u ih=>
  by_cases h:u<10
  ·rw[BZ h,List.all_cons,Aao h];rfl
  ·rw[GI h,List.all_append,ih (u / 10) (by omega),List.all_cons,Aao (show u%10<10 by omega)];rfl
theorem Hl (u:Nat):decDigits u≠[]:=by
 by_cases h:u<10
 ·rw[BZ h];simp
 ·rw[GI h];simp
theorem Rh (l m:List UInt8) (h:l≠[]):(l++m).getD 0 0=l.getD 0 0:=by
 cases l with
 | nil=>exact absurd rfl h
 | cons b t=>rfl
theorem RO (u:Nat):(decDigits u).getD 0 0=48->u=0:=by
 induction u using Nat.strongRecOn with
 | _ u ih=>
  by_cases h:u<10
  ·rw[BZ h];intro h2;have h3:UInt8.ofNat (48+u)=48:=h2;have:=II h;rw[h3] at this;have h4:(48:UInt8).toNat=48:=rfl;omega
  ·rw[GI h,Rh _ _ (Hl _)];intro h2;have:=ih (u / 10) (by omega) h2;omega
theorem Aem (u:Nat):1<=u->10 ^ ((decDigits u).length - 1)<=u:=by
 induction u using Nat.strongRecOn with
 | _ u ih=>
  intro h1;by_cases h:u<10
  ·rw[BZ h];simpa using h1
  ·rw[GI h,List.length_append];have:=ih (u / 10) (by omega) (by omega);have hl:1<=(decDigits (u / 10)).length:=List.length_pos_iff.2 (Hl _);have e:(decDigits (u / 10)).length+[UInt8.ofNat (48+u%10)].length - 1=((decDigits (u / 10)).length - 1)+1:=by simp;omega
   rw[e,Nat.pow_succ];omega
theorem Jf (u:Nat) (h:u<=999999999999999):(decDigits u).length<=15:=by
 by_cases h0:u=0
 ·subst h0;rw[BZ (by omega)];simp
 ·have:=Aem u (by omega);by_cases hl:(decDigits u).length<=15
  ·exact hl
  ·have h2:10 ^ 15<=10 ^ ((decDigits u).length - 1):=Nat.pow_le_pow_right (by omega) (by omega);omega
theorem PQ {c:UInt8} (h:AX c=true):UInt8.ofNat (48+((c.toNat:Int) - 48).toNat)=c:=by
 have:=S8 h;apply UInt8.toNat_inj.1;rw[II (by omega)];omega
theorem XL (l:List UInt8) (h:l≠[]):∃ m c,l=m++[c]:=⟨l.dropLast,l.getLast h,(List.dropLast_concat_getLast h).symm⟩
theorem Hn:∀ (n:Nat) (d:List UInt8),d.length<=n->d≠[]->d.all AX=true->(d.getD 0 0=48->d=[48])->d=decDigits (C5 d).toNat
 | 0,d,h,hne,_,_=>absurd (List.eq_nil_of_length_eq_zero (by omega)) hne
 | n+1,d,h,hne,hall,hz=>by
  obtain⟨m,c,rfl⟩:=XL d hne;rw[List.all_append,Bool.and_eq_true] at hall;have hc:AX c=true:=by simpa using hall.2
  have hcd:=S8 hc;by_cases hm:m=[]
  ·subst hm;have:C5 ([]++[c])=(c.toNat:Int) - 48:=by rw[Jn];simp[C5]
   rw[this,BZ (by omega),PQ hc];rfl
  ·have hh:m.getD 0 0≠48:=fun e=>by
    have h3:=hz (by rw[Rh m _ hm];exact e);have h4:=congrArg List.length h3;have hl:0<m.length:=List.length_pos_iff.2 hm;rw[List.length_append] at h4;simp only[List.length_cons,List.length_nil] at h4;omega
   have ih:=Hn n m (by simp at h;omega) hm hall.1 (fun e=>absurd e hh);have hv:=V9 m hall.1;have hpos:1<=C5 m:=by
    rcases Int.lt_or_le (C5 m) 1 with hlt | hle
    ·have e0:(C5 m).toNat=0:=by omega
     rw[e0] at ih;rw[ih,BZ (by omega)] at hh;exact absurd rfl hh
    ·exact hle
   rw[Jn];have hb:¬(10*C5 m+((c.toNat:Int) - 48)).toNat<10:=by omega
   rw[GI hb,show(10*C5 m+((c.toNat:Int) - 48)).toNat / 10=(C5 m).toNat by omega,<- ih,show(10*C5 m+((c.toNat:Int) - 48)).toNat%10=((c.toNat:Int) - 48).toNat by omega,PQ hc]
theorem RY (u:Nat):AX ((decDigits u).getD 0 0)=true:=by
 have h:=IG u;cases hd:decDigits u with
 | nil=>exact absurd hd (Hl u)
 | cons b t=>rw[hd] at h;simp at h;exact h.1
theorem Ie {b:UInt8} {t:List UInt8} (h:b≠45):JH (b::t)=false/\digitsOf (b::t)=b::t:=by
 have h1:JH (b::t)=false:=by unfold JH;simp[h]
 exact⟨h1,by unfold digitsOf;rw[h1];rfl⟩
theorem Ja (t:List UInt8):JH (45::t)=true/\digitsOf (45::t)=t:=⟨rfl,rfl⟩
theorem J2 (n:Int) (h0: -999999999999999<=n) (h1:n<=999999999999999):Kx (itoa n)=(n,true):=by
 unfold itoa;by_cases hn:n<0
 ·rw[if_pos hn];obtain⟨e1,e2⟩:=Ja (decDigits n.natAbs);have hz:((decDigits n.natAbs).getD 0 0==48)=false:=by
   rw[<- Bool.not_eq_true,beq_iff_eq];intro h;have:=RO _ h;omega
  have hne:(decDigits n.natAbs).isEmpty=false:=by
   rw[<- Bool.not_eq_true,List.isEmpty_iff];exact Hl _
  have hno:L3 (45::decDigits n.natAbs)=false:=by
   unfold L3;rw[e2,hne,hz,decide_eq_false (by have:=Jf n.natAbs (by omega);omega)];rfl
  unfold Kx;rw[hno,e2,e1,IG,L6];simp;omega
 ·rw[if_neg hn];have hd:=S8 (RY n.toNat);cases hl:decDigits n.toNat with
  | nil=>exact absurd hl (Hl _)
  | cons b t=>
   have hb:b≠45:=by
    rintro rfl;rw[hl] at hd;have h4:((([45]:List UInt8)++t).getD 0 0).toNat=45:=rfl;have h5:(((45::t:List UInt8)).getD 0 0).toNat=45:=rfl;omega
   obtain⟨e1,e2⟩:=Ie (t:=t) hb;have hno:L3 (b::t)=false:=by
    unfold L3;rw[e2,decide_eq_false (by have:=Jf n.toNat (by omega);rw[hl] at this;omega)];by_cases h48:b=48
    ·have hz:=RO n.toNat (by rw[hl,h48];rfl);rw[hz,BZ (by omega)] at hl;rw[<- hl];rfl
    ·simp[h48]
   have hall:=IG n.toNat;have hval:=L6 n.toNat;rw[hl] at hall hval;unfold Kx;rw[hno,e2,e1,hall,hval];simp;omega
theorem NX (l:List UInt8) (n:Int) (h:Kx l=(n,true)):l=itoa n/\ -999999999999999<=n/\n<=999999999999999:=by
 unfold Kx at h;cases hno:L3 l with
 | true=>rw[hno] at h;simp at h
 | false=>
  rw[hno] at h;cases hall:(digitsOf l).all AX with
  | false=>rw[hall] at h;simp at h
  | true=>
   rw[hall] at h;simp only[Bool.false_eq_true,if_false,if_true,Prod.mk.injEq,and_true] at h;unfold L3 at hno;simp only[Bool.or_eq_false_iff,Bool.and_eq_false_iff,decide_eq_false_iff_not,beq_eq_false_iff_ne,Bool.not_eq_false',beq_iff_eq] at hno;obtain⟨hne,hlen,hz⟩:=hno;have hne2:digitsOf l≠[]:=fun e=>by rw[e] at hne;cases hne
   have hb:=Xh (by omega) hall;cases l with
   | nil=>exact absurd rfl hne2
   | cons b t=>
    by_cases h45:b=45
    ·subst h45;obtain⟨e1,e2⟩:=Ja t;rw[e2] at hne2 hall hz hb h;rw[e1] at h;have hz2:t.getD 0 0≠48:=by
      rcases hz with hz | hz
      ·exact hz
      ·cases hz
     have hu:=Hn t.length t Nr hne2 hall (fun e=>absurd e hz2);have hpos:1<=C5 t:=by
      rcases Int.lt_or_le (C5 t) 1 with hlt | hle
      ·have e0:(C5 t).toNat=0:=by omega
       rw[e0] at hu;rw[hu,BZ (by omega)] at hz2;exact absurd rfl hz2
      ·exact hle
     simp only[if_true] at h;subst h;refine⟨?_,by omega,by omega⟩;unfold itoa;rw[if_pos (by omega),show(-C5 t).natAbs=(C5 t).toNat by omega,<- hu]
    ·obtain⟨e1,e2⟩:=Ie (t:=t) h45;rw[e2] at hne2 hall hz hb h;rw[e1] at h;have hz2:(b::t).getD 0 0=48->b::t=[48]:=by
      intro e;rcases hz with hz | hz
      ·exact absurd e hz
      ·exact hz
     have hu:=Hn (b::t).length (b::t) Nr hne2 hall hz2;simp only[Bool.false_eq_true,if_false] at h;subst h;refine⟨?_,by omega,by omega⟩;unfold itoa;rw[if_neg (by omega),<- hu]
def T6 (acc:Nat) (l:List UInt8):Nat:=l.foldl (fun n c=>n*10+(c.toNat - 48)) acc
theorem UH:∀ (l:List UInt8) (acc:Nat),acc<=T6 acc l
 | [],acc=>Nat.le_refl _
 | c::r,acc=>Nat.le_trans (by omega) (UH r (acc*10+(c.toNat - 48)))
theorem QM:∀ (l:List UInt8) (acc:Nat),l.all AX=true->T6 acc l<1844674407370955162->parseUint10 acc l=.ok (T6 acc l)
 | [],acc,_,_=>rfl
 | c::r,acc,h,hv=>by
  rw[List.all_cons,Bool.and_eq_true] at h;have hc:=S8 h.1;have hg:=UH r (acc*10+(c.toNat - 48));have hv':T6 (acc*10+(c.toNat - 48)) r<1844674407370955162:=hv;unfold parseUint10;rw[if_pos (by omega),if_neg (by omega),if_neg (by omega)];exact QM r _ h.2 hv'
theorem Og:∀ (l:List UInt8) (acc:Nat),l.all AX=true->((T6 acc l:Nat):Int)=l.foldl (fun n c=>10*n+((c.toNat:Int) - 48)) (acc:Int)
 | [],acc,_=>rfl
 | c::r,acc,h=>by
  rw[List.all_cons,Bool.and_eq_true] at h;have hc:=S8 h.1;have:=Og r (acc*10+(c.toNat - 48)) h.2;show((T6 (acc*10+(c.toNat - 48)) r:Nat):Int)=r.foldl _ (10*(acc:Int)+((c.toNat:Int) - 48));rw[this];congr 1;omega
theorem NB (u:Nat) (h:u<=999999999999999):parseMag (decDigits u)=.ok u:=by
 have hv:T6 0 (decDigits u)=u:=by
  have:=Og (decDigits u) 0 (IG u);have h2:=L6 u;unfold C5 at h2;rw[show((0:Nat):Int)=0 from rfl,h2] at this;omega
 unfold parseMag;rw[if_neg (Hl u),QM _ _ (IG u) (by omega),hv]
theorem Wc (n:Int) (h0: -999999999999999<=n) (h1:n<=999999999999999):atoiAll (itoa n)=.ok n:=by
 unfold itoa;by_cases hn:n<0
 ·rw[if_pos hn,atoiAll_minus,NB _ (by omega)];unfold signed;simp only
  rw[if_neg (by omega)];congr 1;omega
 ·rw[if_neg hn];have hd:=S8 (RY n.toNat);have hp:=NB n.toNat (by omega);cases hl:decDigits n.toNat with
  | nil=>exact absurd hl (Hl _)
  | cons b t=>
   rw[hl] at hd hp;have hb:((b::t).getD 0 0)=b:=rfl;rw[hb] at hd;rw[atoiAll_plain b t (by omega) (by omega),hp];unfold signless;simp only
   rw[if_neg (by omega)];congr 1;omega
theorem Aez (l:List UInt8):Ge l=if (Kx l).2 then .iface 3 (I J (Kx l).1) else Fg:=by
 obtain⟨⟨n,ok⟩,hx⟩:∃ x,Kx l=x:=⟨_,rfl⟩
 rw[hx];cases ok with
 | true=>
  obtain⟨rfl,h0,h1⟩:=NX l n hx;unfold Ge;rw[Wc n h0 h1];simp only[if_true]
  rw[if_pos ⟨trivial,h0,h1⟩]
 | false=>
  simp only[Bool.false_eq_true,if_false]
  unfold Ge;cases ha:atoiAll l with
  | ok m=>
   simp only
   by_cases hc:itoa m=l/\ -999999999999999<=m/\m<=999999999999999
   ·have:=J2 m hc.2.1 hc.2.2;rw[hc.1,hx] at this;cases this
   ·rw[if_neg hc]
  | _=>rfl
theorem Ei {s:ByteArray} {l:List UInt8} (h:s.data.toList=l):s=⟨l.toArray⟩:=by subst h;rfl
theorem Ej {s:ByteArray} {l:List UInt8} (h:¬s.data.toList=l):(s==(⟨l.toArray⟩:ByteArray))=false:=by
 show(s.data==l.toArray)=false;rw[<- Bool.not_eq_true,beq_iff_eq];intro e;exact h (by rw[e])
theorem Gj {l m:List UInt8} (h:¬l=m):(l==m)=false:=by simpa using h
theorem Adu (s:ByteArray):(KY s.data.toList).getD (Ih s)=Fs (Cw s):=by
 by_cases h0:s.data.toList=[]
 ·rw[Ei h0];kernel_rfl
 by_cases h1:s.data.toList=[110,117,108,108]
 ·rw[Ei h1];kernel_rfl
 by_cases h2:s.data.toList=[126]
 ·rw[Ei h2];kernel_rfl
 by_cases h3:s.data.toList=[116,114,117,101]
 ·rw[Ei h3];kernel_rfl
 by_cases h4:s.data.toList=[102,97,108,115,101]
 ·rw[Ei h4];kernel_rfl
 by_cases h5:s.data.toList=[46,105,110,102]
 ·rw[Ei h5];kernel_rfl
 by_cases h6:s.data.toList=[43,46,105,110,102]
 ·rw[Ei h6];kernel_rfl
 by_cases h7:s.data.toList=[45,46,105,110,102]
 ·rw[Ei h7];kernel_rfl
 by_cases h8:s.data.toList=[46,110,97,110]
 ·rw[Ei h8];kernel_rfl
 have hw:KY s.data.toList=O:=by
  unfold KY;have he:s.data.toList.isEmpty=false:=by rw[<- Bool.not_eq_true,List.isEmpty_iff];exact h0
  rw[he,Gj h1,Gj h2,Gj h3,Gj h4,Gj h5,Gj h6,Gj h7,Gj h8];rfl
 have ha:AN s Dx=O:=by
  unfold Dx;simp only[AN]
  rw[show(s==_)=false from Ej h0,show(s==_)=false from Ej h1,show(s==_)=false from Ej h2,show(s==_)=false from Ej h3,show(s==_)=false from Ej h4,show(s==_)=false from Ej h5,show(s==_)=false from Ej h6,show(s==_)=false from Ej h7,show(s==_)=false from Ej h8];rfl
 rw[hw];unfold Cw;rw[ha];simp only[Option.getD_none]
 unfold Ih;rw[YI];cases hn:IU s.data.toList with
 | false=>rfl
 | true=>
  simp only[Bool.not_true,Bool.false_eq_true,if_false,if_true]
  rw[Aez];obtain⟨⟨n,ok⟩,hx⟩:∃ x,Kx s.data.toList=x:=⟨_,rfl⟩
  rw[hx];cases ok<;>rfl
theorem SA (s:ByteArray):Mm s=AM s:=by
 unfold Mm AM;rw[UY,Adu]
theorem XC (l:List UInt8) (flow:Bool) (h:Fl l flow=true):validD l=true:=by
 unfold Fl at h;simp only[Bool.and_eq_true] at h;exact h.1.1.2
theorem TO (s:ByteArray) (hv:validD s.data.toList=true):Ap (Ih s).1=true/\((Ih s).2=0\/(Ih s).1=A4)/\((Ih s).1.kind≠3\/(Ih s).1.str=s):=by
 unfold Ih;cases OD s.data.toList with
 | false=>refine⟨?_,.inl rfl,.inr rfl⟩;unfold Ap;simpa using hv
 | true=>
  obtain⟨⟨n,ok⟩,hx⟩:∃ x,Kx s.data.toList=x:=⟨_,rfl⟩
  rw[hx];cases ok with
  | false=>exact⟨rfl,.inr rfl,.inl (show A4.kind≠3 by decide)⟩
  | true=>
   obtain⟨_,h0,h1⟩:=NX _ n hx;refine⟨?_,.inl rfl,.inl (show(2:Int)≠3 by decide)⟩;unfold Ap;simp;omega
theorem U4 (l:List UInt8) (p:Sc×Int) (h:KY l=F p):Ap p.1=true/\(p.2=0\/p.1=A4)/\p.1.kind≠3:=by
 unfold KY at h
 repeat' split at h
 all_goals first
  | (injection h with h;subst h;first | exact⟨rfl,.inl rfl,by decide⟩ | exact⟨rfl,.inr rfl,by decide⟩)
  | cases h
theorem MZ (s:ByteArray):Ap (AM s).1=true/\((AM s).2=0\/(AM s).1=A4)/\((AM s).1.kind≠3\/(AM s).1.str=s):=by
 rw[<- SA];unfold Mm;by_cases hc:(!s.data.toList.isEmpty&& !Xi s.data.toList false)=true
 ·rw[if_pos hc];exact⟨rfl,.inr rfl,.inl (by decide)⟩
 ·rw[if_neg hc];cases hw:KY s.data.toList with
  | some p=>
   have:=U4 _ p hw;exact⟨this.1,this.2.1,.inl this.2.2⟩
  | none=>
   refine TO s ?_;by_cases he:s.data.toList.isEmpty=true
   ·rw[List.isEmpty_iff.1 he];rfl
   ·have hm:Xi s.data.toList false=true:=by
     cases hm:Xi s.data.toList false with
     | true=>rfl
     | false=>rw[hm] at hc;simp at hc;exact absurd (by rw[hc];rfl) he
    rw[UY] at hm;exact XC _ _ hm
end
section
set_option maxHeartbeats 4000000
set_option maxRecDepth 100000
def DP (t:BX):Pc:=⟨t.kind,t.str⟩
theorem Oc (t:BX) (w:Y) (ht:t.str.length<=1000000) (hT:Bf w):
  Calls Tryz.prog 227 #[.agg (CY t).toArray] w fun e w'=>e=.returned (.tuple #[Di (Bd (DP t)).1,I J (Bd (DP t)).2])/\Below w.heap.size w w':=by
 have hs:(⟨t.str.toArray⟩:ByteArray).size<=1000000:=by rw[Lib.size_eq];exact ht
 have hR:=fun w' (hb:Below w.heap.size w w')=>RB ⟨t.str.toArray⟩ w' hs (hT.below hb);have hQ:=fun w' (hb:Below w.heap.size w w')=>B2 ⟨t.str.toArray⟩ w' hs (hT.below hb);have hF:=(MZ ⟨t.str.toArray⟩).2.1;refine V.enter _ Tryz.func227 (Mem.start (C:=Ao) w) ?_;refine W ?_;refine R.new fun b1 h1=>?_;refine R.new fun b2 h2=>?_
 repeat refine W ?_
 refine V.ifp (fun h1=>?_) (fun h1=>?_)
 ·have hk:Bd (DP t)=AM ⟨t.str.toArray⟩:=by
   unfold Bd;rw[if_pos (show(DP t).kind=1 from h1)];by_cases e:(AM ⟨t.str.toArray⟩).2=0
   ·exact if_pos e
   ·rw[show(DP t).str=t.str from rfl,if_neg e];exact Prod.ext ((hF.resolve_left e).symm) rfl
  rw[hk]
  repeat refine W ?_
  refine R.c (fun w' h'=>hR w' h'.1.below) ?_
  repeat refine W ?_
  refine V.end (fun w' h'=>?_) (hv:=.agg rfl (by(repeat (first | exact List.Mem.head _ | apply List.Mem.tail))) (by intro w;kernel_rfl) (by intro w;simp;try rfl) (.tmp rfl .nil));exact⟨rfl,h'.1.below⟩
 ·repeat refine W ?_
  refine V.ifp (fun h2=>?_) (fun h2=>?_)
  ·have hk:Bd (DP t)=if Lib.validD t.str then (⟨3,0,⟨t.str.toArray⟩⟩,0) else (A4,40):=by
    unfold Bd;rw[if_neg (show ¬(DP t).kind=1 from h1),if_pos (show(DP t).kind=2 from h2)];rfl
   rw[hk]
   repeat refine W ?_
   refine R.c (fun w' h'=>hQ w' h'.1.below) ?_;cases hv:Lib.validD t.str with
   | true=>
    repeat refine W ?_
    refine V.end (fun w' h'=>?_) (hv:=.agg rfl (by(repeat (first | exact List.Mem.head _ | apply List.Mem.tail))) (by intro w;kernel_rfl) (by intro w;simp;try rfl) (.tmp rfl .nil));exact⟨rfl,h'.1.below⟩
   | false=>
    repeat refine W ?_
    refine V.end (fun w' h'=>?_) (hv:=.agg rfl (by(repeat (first | exact List.Mem.head _ | apply List.Mem.tail))) (by intro w;kernel_rfl) (by intro w;simp;try rfl) (.tmp rfl .nil));exact⟨rfl,h'.1.below⟩
  ·have hk:Bd (DP t)=(A4,91):=by
    unfold Bd;rw[if_neg (show ¬(DP t).kind=1 from h1),if_neg (show ¬(DP t).kind=2 from h2)]
   rw[hk]
   repeat refine W ?_
   refine V.end (fun w' h'=>?_) (hv:=.agg rfl (by(repeat (first | exact List.Mem.head _ | apply List.Mem.tail))) (by intro w;kernel_rfl) (by intro w;simp;try rfl) (.tmp rfl .nil));exact⟨rfl,h'.1.below⟩
def fwV (e:Int):Value:=.iface 418 (.agg #[I J e])
def Sn (e:Int):Value:=.iface 403 (.agg #[fwV e])
theorem BS (e:Int) (w:Y):Calls Tryz.prog 278 #[I J e] w fun ev w'=>ev=.returned (Sn e)/\Below w.heap.size w w':=by
 refine V.enter _ Tryz.func278 (Mem.start (C:=Ao) w) ?_
 repeat refine W ?_
 refine V.end fun w' h'=>?_;exact⟨rfl,h'.1.below⟩
def Dp (l:List BX) (p:Nat):Sc×Int:=match l[p]? with
 | some t=>Bd (DP t)
 | none=>(A4,91)
theorem Abk {t:Pc} (h:(Bd t).2≠0):(Bd t).1=A4:=by
 unfold Bd at h |-;split
 ·rename_i h1;rw[if_pos h1] at h;split
  ·rename_i h2;rw[if_pos h2] at h;exact absurd h2 h
  ·rfl
 ·rename_i h1;rw[if_neg h1] at h;split
  ·rename_i h2;rw[if_pos h2] at h;split
   ·rename_i h3;rw[if_pos h3] at h;exact absurd rfl h
   ·rfl
  ·rfl
theorem Oe {wB:Y} {A:Option Addr} {c:Nat} {l:List BX} (hP:M5 wB A l) (r p:Nat) (w:Y) (hB:Below wB.heap.size wB w) (hp:p<=l.length):
  BT Tryz.prog 282 #[.pointer (F ⟨r,0,O⟩)] w (Bv A c l r p) (FG wB) (fun _:Unit=>.tuple #[Di (Dp l p).1,if (Dp l p).2=0 then .nilIface else fwV (Dp l p).2]) (fun _=>Bv A c l r (if (Dp l p).2=0 then p+1 else p)):=by
 intro Fz hX hF hQ;have hlen:=hP.len;refine V.enter _ Tryz.func282 (Mem.startX hX hF) ?_;unfold Bv;refine W ?_;refine R.new fun b2 h2=>?_
 repeat refine W ?_
 refine V.ifp (fun hge=>?_) (fun hlt=>?_)
 ·have hk:Dp l p=(A4,91):=by unfold Dp;rw[List.getElem?_eq_none (by omega)]
  repeat refine W ?_
  refine V.end (fun w' h'=>?_) (hv:=.agg rfl (by(repeat (first | exact List.Mem.head _ | apply List.Mem.tail))) (by intro w;kernel_rfl) (by intro w;simp;try rfl) (.tmp rfl .nil));rw[hk];exact⟨(),rfl,Mem.toW (h'.sel:Mem Fz w [blk r _ _] w')⟩
 ·have hlt2:p<l.length:=by omega
  obtain⟨t,ht⟩:∃ t,l[p]? =F t:=⟨_,List.getElem?_eq_getElem hlt2⟩
  have hk:Dp l p=Bd (DP t):=by unfold Dp;rw[ht]
  rw[hk];obtain⟨b,o,rfl,hb,hc0⟩:=hP.tks p t ht;have hc:Cs w b (o+p*3) (CY t):=fun j u hj=>cell_below (hc0 j u hj) hB;have hn:¬Fz b:=fun e=>by have:=hQ b e;omega
  have hts:=hP.small t (List.mem_of_getElem? ht);have hcl:=fun w' (h':AI Fz w w')=>Oc t w' hts (hP.tabs.below (AI.belowB hB hQ h'));obtain⟨kr,hkr⟩:∃ x,Bd (DP t)=x:=⟨_,rfl⟩
  have hbad:=Abk (t:=DP t);rw[hkr] at hcl hbad;rw[hkr];clear hkr hk;refine V.regT [12,13,14,15,16,17,18] [0,1,2,3,4,5,6,7,8,9,10,11] (Mem Fz w [blk r [Z (F ⟨b,o,O⟩) l.length c,I J p] 398]) ?_;iterate 10 refine Wy ?_
  refine Zz.ix hlt2 ?_;refine Zz.lo 0 hc ?_ hn;refine Zz.last (ι:=Nat) (Si:=fun b4=>Mem Fz w [blk b4 (DO (kr).1) 36,blk b2 [I J 0,I J 0,Q .empty] 36,blk r [Z (F ⟨b,o,O⟩) l.length c,I J p] 398]) (li:=fun b4=>[(0,.pointer (F ⟨r,0,O⟩)),(2,.pointer (F ⟨b2,0,O⟩)),(3,.nilIface),(4,.pointer (F ⟨b4,0,O⟩)),(5,I J (kr).2)]) (fun hV=>?_) (fun b4=>?_)
  ·refine Zz.ncc 16 12 (T1:=[12,13,14,15,17,18]) (T2:=[13,14,15,16,17,18]) (fun w' h'=>hcl w' h'.1) (cs:=[I J 0,I J 0,Q .empty]) (bt:=36) ?_ (fun b4 h4=>?_) ?_
   ·intro ρ w';simp[go_sem];try rfl
   ·refine Zz.c (fun w' h'=>hcl w' h'.1) ?_;iterate 5 refine Wy ?_
    refine Zz.off (fun w' h'=>h'.sel) ?_;exact R.z (V.less (hV b4) (fun w' h'=>h'.sel))
   ·iterate 3 refine Wy ?_
    refine Zz.new fun b4 h4=>?_;iterate 2 refine Wy ?_
    refine Zz.off (fun w' h'=>h'.sel) ?_;exact R.z (V.less (hV b4) (fun w' h'=>h'.sel))
  dsimp only
  repeat refine W ?_
  by_cases he:(kr).2=0
  ·rw[if_pos he,if_pos he];refine V.re 38 (v:=.bool (kr.2 !=0)) (v':=.bool false) (by simp[he]) ?_
   repeat refine W ?_
   refine V.end (fun w' h'=>?_) (hv:=.agg rfl (by(repeat (first | exact List.Mem.head _ | apply List.Mem.tail))) (by intro w;kernel_rfl) (by intro w;simp;try rfl) (.tmp rfl .nil));exact⟨(),rfl,Mem.toW (h'.sel:Mem Fz w [blk r _ _] w')⟩
  ·rw[if_neg he,if_neg he];refine V.re 38 (v:=.bool (kr.2 !=0)) (v':=.bool true) (by simp[he]) ?_
   repeat refine W ?_
   have h0:kr.1=A4:=hbad he;rw[h0];refine V.end (fun w' h'=>?_) (hv:=.agg rfl (by(repeat (first | exact List.Mem.head _ | apply List.Mem.tail))) (by intro w;kernel_rfl) (by intro w;simp;try rfl) (.tmp rfl .nil));exact⟨(),rfl,Mem.toW (h'.sel:Mem Fz w [blk r _ _] w')⟩
def Lf (r:FR) (y:TY):Value:=match r with
 | .ok _ _=>.iface 439 (.agg (As y).toArray)
 | .bad e=>Sn e
def Sf (A:Option Addr) (c:Nat) (l:List BX) (r:Nat) (res:FR) (x:TY×Nat):Aj:=match res with
 | .ok t rest=>star [Bv A c l r x.2,Aq (As x.1) t,pr (x.2<=l.length/\rest=(l.drop x.2).map DP)]
 | .bad _=>pr True
def XW (wB:Y) (A:Option Addr) (c:Nat) (l:List BX) (f:FuncId) (p d:Nat) (res:FR):Prop:=∀ (r:Nat) (w:Y),Below wB.heap.size wB w->BT Tryz.prog f #[.pointer (F ⟨r,0,O⟩),I J d] w (Bv A c l r p) (FG wB) (fun x:TY×Nat=>Lf res x.1) (Sf A c l r res)
theorem NV {A:Option Addr} {c:Nat} {l:List BX} {r p:Nat} {Fz:Nat->Prop} {w w':Y} {t:Tr} {rest:List Pc} {y:TY} (h:Mem Fz w [Bv A c l r p,Aq (As y) t] w') (hp:p<=l.length) (hr:rest=(l.drop p).map DP):∃ F':Nat->Prop,AI Fz w w'/\(∀ b,F' b->b<w'.heap.size/\(Fz b\/w.heap.size<=b))/\(Sf A c l r (.ok t rest) (y,p)).is F' w':=
 Mem.toW (Mem.toStar (B:=[_,_,_]) (A:=[]) ((h.pr (p:=p<=l.length/\rest=(l.drop p).map DP) ⟨hp,hr⟩).sel))
def EO (x:Sc):TY:=(0,⟨#[]⟩,x,(O,0,0),(O,0,0))
theorem Mem.tree0 {C:Nat->Prop} {w0 w:Y} {Zz:List Aj} {k:Int} {nm:ByteArray} {x:Sc} (h:Mem C w0 Zz w):Mem C w0 (Aq (As (k,nm,x,(O,0,0),(O,0,0))) (.mk k nm x [] [])::Zz) w:=
 ⟨h.1,fun _=>False,by
  show Cm w _ (.mk k nm x [] []) _;unfold Cm Cm.TsV;exact⟨O,0,O,0,rfl,(fun j x hj=>by cases hj),trivial⟩,fun _ e=>e.elim,h.2.mono (fun b hb=>⟨hb,fun e=>e⟩) (fun _ _=>rfl)⟩
theorem KC {l:List BX} {p:Nat} {t:BX} (h:l[p]? =F t):(l.drop p).map DP=DP t::(l.drop (p+1)).map DP:=by
 have hlt:=(List.getElem?_eq_some_iff.1 h).1;rw[List.drop_eq_getElem_cons hlt,List.map_cons];rw[List.getElem?_eq_getElem hlt] at h;cases h;rfl
theorem Om {wB:Y} {A:Option Addr} {c:Nat} {l:List BX} (hP:M5 wB A l) (p d:Nat) (t:BX) (ht:l[p]? =F t):XW wB A c l 273 p d (if (Bd (DP t)).2=0 then .ok (LU (Bd (DP t)).1) ((l.drop (p+1)).map DP) else .bad (Bd (DP t)).2):=by
 intro r w hB Fz hX hF hQ;have hlt:=(List.getElem?_eq_some_iff.1 ht).1;have hlen:=hP.len;have hkey:=fun w' (h:Below wB.heap.size wB w')=>Oe (c:=c) hP r p w' h (Nat.le_of_lt hlt);have hk:Dp l p=Bd (DP t):=by unfold Dp;rw[ht]
 rw[hk] at hkey;obtain⟨kr,hkr⟩:∃ x,Bd (DP t)=x:=⟨_,rfl⟩
 rw[hkr] at hkey |-;clear hkr hk;refine V.enter _ Tryz.func273 (Mem.startX hX hF) ?_
 repeat refine W ?_
 refine R.cq (fun w' h'=>hkey w' (AI.belowB hB hQ h'.1)) (fun G hG=>FG.of hB hQ G hG) (fun _=>?_);by_cases he:kr.2=0
 ·rw[if_pos he,if_pos he,if_pos he];iterate 3 refine W ?_
  refine R.new fun b5 h5=>?_
  repeat refine W ?_
  refine V.end fun w' h'=>?_;exact⟨(EO kr.1,p+1),rfl,NV (Mem.sel (Mem.tree0 (k:=0) (nm:=⟨#[]⟩) (x:=kr.1) h')) hlt rfl⟩
 ·rw[if_neg he,if_neg he,if_neg he];iterate 3 refine W ?_
  refine R.new fun b5 h5=>?_
  repeat refine W ?_
  refine V.end fun w' h'=>?_;exact⟨(EO kr.1,p),rfl,Mem.toW (h'.pr (p:=True) trivial).sel⟩
end
section
set_option maxHeartbeats 8000000
set_option maxRecDepth 100000
def at_ (l:List BX) (p:Nat):List Pc:=(l.drop p).map DP
theorem T7 {l:List BX} {p:Nat} {ks:List Int} (h0:ks.any (fun y=>(0:Int)==y)=false):CQ l p ks=ks.any fun y=>hk (at_ l p)==y:=by
 unfold CQ;cases h:l[p]? with
 | none=>
  have:l.drop p=[]:=List.drop_eq_nil_iff.2 (List.getElem?_eq_none_iff.1 h);unfold at_;rw[this];exact h0.symm
 | some t=>unfold at_;rw[KC h];rfl
theorem Ahs {l:List BX} {p:Nat} {k:Int} (h0:k≠0):CQ l p [k]=decide (hk (at_ l p)=k):=by
 rw[T7 (by simp;omega)];simp[List.any];rfl
theorem KG (l:List BX) (p:Nat):(at_ l p).tail=at_ l (p+1):=by unfold at_;rw[<- List.map_tail,List.tail_drop]
theorem Afb {C:Nat->Prop} {w0 w:Y} {Z0:List Aj} {y:TY} {t:Tr} {s:List UInt8} (h:Mem C w0 (Aq (As y) t::Z0) w):Mem C w0 (Aq (As (y.1,⟨s.toArray⟩,y.2.2)) (t.named s)::Z0) w:=
 ⟨h.1,h.2.as fun Fz w hs=>by
  cases t with
  | mk k nm x ks ts=>
   have hs:Cm w Fz (.mk k nm x ks ts) (As y):=hs;show Cm w Fz (Tr.named (.mk k nm x ks ts) s) (As (y.1,⟨s.toArray⟩,y.2.2));unfold Tr.named;unfold Cm As at hs |-;obtain⟨KA,kc,A,c,e,h1,h2⟩:=hs;injection e with e0 e;injection e with e1 e;injection e with e2 e;injection e with e3 e;injection e with e4 e;injection e with e5 e;injection e with e6 _;exact⟨KA,kc,A,c,by dsimp only;rw[e0,e2,e3,e4,e5,e6],h1,h2⟩⟩
theorem isRow {w:Y} {b:Nat} {ks:List Int} (h:Cs w b 0 (ks.map (I J))):GT w (fun _=>True) (F ⟨b,0,O⟩) ks:=fun j i hj=>⟨b,0,rfl,trivial,Cs.at h (by rw[List.getElem?_map,hj];rfl)⟩
section
variable {wB:Y} {A:Option Addr} {c:Nat} {l:List BX}
theorem Wk (hP:M5 wB A l) (p d:Nat) (t:BX) (ht:l[p]? =F t):XW wB A c l 275 p d (.ok (LJ t.str) (at_ l (p+1))):=by
 intro r w hB Fz hX hF hQ;have hlt:=(List.getElem?_eq_some_iff.1 ht).1;have hlen:=hP.len;obtain⟨b,o,rfl,hb,hc0⟩:=hP.tks p t ht;have hc:Cs w b (o+p*3) (CY t):=fun j u hj=>cell_below (hc0 j u hj) hB;have hn:¬Fz b:=fun e=>by have:=hQ b e;omega
 refine V.enter _ Tryz.func275 (Mem.startX hX hF) ?_;unfold Bv
 repeat refine W ?_
 refine R.re 24 (v:=I J ((p:Int)+1 - 1)) (v':=I J (p:Int)) (congrArg (Value.int .i64) (by omega)) ?_;refine R.ix hlt ?_
 repeat refine W ?_
 refine R.lo 1 hc ?_ hn
 repeat refine W ?_
 refine V.end fun w' h'=>?_;exact⟨((3,⟨t.str.toArray⟩,A4,(O,0,0),(O,0,0)),p+1),rfl,NV (Mem.sel (Mem.tree0 (k:=3) (nm:=⟨t.str.toArray⟩) (x:=A4) h')) hlt rfl⟩
theorem Qx (hP:M5 wB A l) (p d n:Nat) (t:BX) (ht:l[p]? =F t) (hd:¬24<d) (h3:t.kind=3) (hV:XW wB A c l 257 (p+1) d (Bl n d (at_ l (p+1)))):XW wB A c l 274 p d (Bl (n+1) d (at_ l p)):=by
 intro r w hB Fz hX hF hQ;have hlt:=(List.getElem?_eq_some_iff.1 ht).1;have hlen:=hP.len;have hval:Bl (n+1) d (at_ l p)=if CQ l (p+1) [3,4] then .bad 91 else match Bl n d (at_ l (p+1)) with
    | .ok v rest=>.ok (v.named t.str) rest
    | .bad e=>.bad e:=by
  rw[show at_ l p=DP t::at_ l (p+1) from KC ht,T7 (by decide),Bl,if_neg hd];generalize at_ l (p+1)=q;rw[if_pos (show(DP t).kind=3 from h3)];by_cases e:hk q=3\/hk q=4
  ·rw[if_pos e,if_pos (by rcases e with e | e<;>simp[e])]
  ·rw[if_neg e,if_neg (by rw[not_or] at e;simp[e.1,e.2])];rfl
 rw[hval];obtain⟨rv,hrv⟩:∃ x,Bl n d (at_ l (p+1))=x:=⟨_,rfl⟩
 rw[hrv] at hV |-;clear hrv hval;obtain⟨b,o,rfl,hb,hc0⟩:=hP.tks p t ht;have hc:Cs w b (o+p*3) (CY t):=fun j u hj=>cell_below (hc0 j u hj) hB;have hn:¬Fz b:=fun e=>by have:=hQ b e;omega
 refine V.enter _ Tryz.func274 (Mem.startX hX hF) ?_;unfold Bv
 repeat refine W ?_
 refine R.ix hlt ?_
 repeat refine W ?_
 refine R.lo 1 hc ?_ hn
 repeat refine W ?_
 refine R.bs (m:=2) (cs:=[I J 3,I J 4]) (bt:=3) (fun bk hb=>?_);refine R.c (fun w' h'=>Ig (fun b=>b<wB.heap.size) (fun _=>True) r (F ⟨b,o,O⟩) (F ⟨bk,0,O⟩) c 2 l (p+1) [3,4] w' (Cs.of_blk (h'.blk (List.Mem.tail _ (List.Mem.head _)))) (hP.at hB hQ h'.1) (isRow (Cs.of_blk (h'.blk (List.Mem.head _)))) (by simp)) ?_
 repeat refine W ?_
 refine V.if (fun he=>?_) (fun he=>?_)
 ·rw[he,if_pos rfl]
  repeat refine W ?_
  refine R.c (fun w' h'=>BS 91 w') ?_
  repeat refine W ?_
  refine V.end fun w' h'=>?_;exact⟨(EO A4,p),rfl,Mem.toW (h'.pr (p:=True) trivial).sel⟩
 ·rw[he,if_neg (by simp)]
  repeat refine W ?_
  refine R.cq (fun w' h'=>hV r w' (AI.belowB hB hQ h'.1)) (fun G hG=>FG.of hB hQ G hG) (fun x=>?_);cases rv with
  | bad e=>
   dsimp only[Sf,Lf,Sn]
   repeat (first | refine W ?_ | refine R.new fun _ _=>?_)
   refine V.end fun w' h'=>?_;exact⟨x,rfl,Mem.toW h'.sel⟩
  | ok v rest=>
   dsimp only[Sf,Lf]
   iterate 2 refine W ?_
   refine V.star ?_;refine V.prop (fun hp=>?_) (hp:=.tail _ (.tail _ (.head _)))
   repeat (first | refine W ?_ | refine R.new fun _ _=>?_)
   refine V.end fun w' h'=>?_;have h1:Mem Fz w [Aq (As x.1) v,Bv (F ⟨b,o,O⟩) c l r x.2] w':=h'.sel;exact⟨((x.1.1,⟨t.str.toArray⟩,x.1.2.2),x.2),rfl,NV (Mem.sel (Afb (s:=t.str) h1)) hp.1 hp.2⟩
end
end
section
set_option maxHeartbeats 16000000
set_option maxRecDepth 100000
section
variable {wB:Y} {A:Option Addr} {c:Nat} {l:List BX}
theorem JV (hP:M5 wB A l) (r p:Nat) (k:Int) (y:TY) (w:Y) (hB:Below wB.heap.size wB w) (hp:p<=l.length):
  BT Tryz.prog 286 #[.pointer (F ⟨r,0,O⟩),I J k,.agg (As y).toArray] w (Bv A c l r p) (FG wB) (fun _:Unit=>if CQ l p [k] then .iface 439 (.agg (As y).toArray) else Sn 91) (fun _=>Bv A c l r (if CQ l p [k] then p+1 else p)):=by
 intro Fz hX hF hQ;refine V.enter _ Tryz.func286 (Mem.startX hX hF) ?_;refine W ?_;refine R.new fun b5 h5=>?_
 repeat refine W ?_
 refine R.cq (fun w' h'=>Gb (c:=c) hP r p k w' (AI.belowB hB hQ h'.1) hp) (fun G hG=>FG.of hB hQ G hG) (fun _=>?_)
 repeat refine W ?_
 cases CQ l p [k] with
 | true=>
  repeat refine W ?_
  refine V.end fun w' h'=>?_;exact⟨(),rfl,Mem.toW h'.sel⟩
 | false=>
  repeat refine W ?_
  refine R.c (fun w' h'=>BS 91 w') ?_
  repeat refine W ?_
  refine V.end fun w' h'=>?_;exact⟨(),rfl,Mem.toW h'.sel⟩
theorem Kq (r:Nat) (k:Int) (f:FuncId) (cap:Array Value) (w:Y):Calls Tryz.prog 285 #[.pointer (F ⟨r,0,O⟩),I J k,.func (.func f) #[] cap] w fun e w'=>∃ q:Nat×Nat×Nat,e=.returned (.func (.func 293) #[] #[.pointer (F ⟨q.1,0,O⟩),.pointer (F ⟨q.2.1,0,O⟩),.pointer (F ⟨q.2.2,0,O⟩)])/\Fr w w' [blk q.1 [.pointer (F ⟨r,0,O⟩)] 394,blk q.2.1 [I J k] 3,blk q.2.2 [.func (.func f) #[] cap] 442]:=by
 refine V.enter _ Tryz.func285 (Mem.start (C:=Ao) w) ?_;refine W ?_;refine R.new fun b3 h3=>?_;refine R.new fun b4 h4=>?_;refine R.new fun b5 h5=>?_
 repeat refine W ?_
 refine V.end fun w' h'=>?_;exact⟨(b3,b4,b5),rfl,(h'.sel:Mem Ao w [_,_,_] w').to_fr⟩
end
abbrev G3:=Sc×FR×TY×Nat
def Z1 (T:Bool) (x:Sc) (r:FR) (y:TY):Value:=match r with
 | .ok _ _=>if T then .iface 448 (.agg (DO x++As y).toArray) else .iface 439 (.agg (As y).toArray)
 | .bad e=>Sn e
def frT (r:FR) (y:TY):List Aj:=match r with
 | .ok t _=>[Aq (As y) t]
 | .bad _=>[]
structure ItP (wB:Y) (A:Option Addr) (c:Nat) (l:List BX) (r:Nat) (f:FuncId) (caps:List Value) (Yz:Aj) (T:Bool) (k:Int) (p0 n0:Nat) (step:Nat->Nat->Sc×FR):Prop where
 rd:M5 wB A l
 hf:∀ args w,(callFunc f args).run Tryz.prog w=.ok (.enter f args) w
 hp0:p0<=l.length
 hn0:2*(l.length - p0)+2<=n0
 len:∀ i q t rest,(step i q).2=.ok t rest->rest.length<=l.length - q
 one:∀ i q w,Below wB.heap.size wB w->q<=l.length->2*(l.length - q)+2+i<=n0->BT Tryz.prog f caps.toArray w (star [Yz,Bv A c l r q]) (FG wB) (fun x:TY×Nat=>Z1 T (step i q).1 (step i q).2 x.1) (fun x=>star [Yz,Sf A c l r (step i q).2 x])
section
variable (A:Option Addr) (c:Nat) (l:List BX) (r:Nat) (k:Int) (p0:Nat) (step:Nat->Nat->Sc×FR)
def ItX (i q:Nat) (x:G3):Prop:=(x.1,x.2.1)=step i q/\∀ t rest,x.2.1=.ok t rest->x.2.2.2<=l.length/\rest=at_ l x.2.2.2
inductive Ch:List G3->Nat->Prop
 | nil:Ch [] p0
 | snoc (pre:List G3) (q:Nat) (x:G3) (h:Ch pre q) (he:CQ l q [k]=false) (hx:ItX l step pre.length q x) (ho:∃ t rest,x.2.1=.ok t rest) (hc:CQ l x.2.2.2 [7]=true):Ch (pre++[x]) (x.2.2.2+1)
def rdX (xs:List G3):Aj:=match xs.getLast? with
 | none=>Bv A c l r p0
 | some x=>match x.2.1 with
  | .ok _ _=>Bv A c l r (if CQ l x.2.2.2 [7] then x.2.2.2+1 else x.2.2.2)
  | .bad _=>pr True
def ItF (xs:List G3):Prop:=(∃ q,Ch l k p0 step xs q/\CQ l q [k]=true)\/∃ pre x q,xs=pre++[x]/\Ch l k p0 step pre q/\CQ l q [k]=false/\ItX l step pre.length q x/\((∃ e,x.2.1=.bad e)\/CQ l x.2.2.2 [7]=false)
def ItA (pre:List G3) (x:G3):Prop:=∃ q,Ch l k p0 step pre q/\CQ l q [k]=false/\ItX l step pre.length q x
end
theorem Ye {C:Nat->Prop} {w0 w:Y} {Zz:List Aj} {A:Option Addr} {c:Nat} {l:List BX} {r p:Nat} (h:Mem C w0 Zz w) (hx:Bv A c l r p∈Zz):Cs w r 0 [Z A l.length c,I J p]:=Cs.of_blk (h.blk hx)
theorem J6 {l:List BX} {p:Nat} {ks:List Int} (h:CQ l p ks=true):p<l.length:=by
 unfold CQ at h;cases hp:l[p]? with
 | none=>rw[hp] at h;cases h
 | some t=>exact(List.getElem?_eq_some_iff.1 hp).1
theorem JG (l:List BX) (p:Nat):(at_ l p).length=l.length - p:=by unfold at_;simp
theorem Ch.rd {A:Option Addr} {c:Nat} {l:List BX} {r:Nat} {k:Int} {p0:Nat} {step:Nat->Nat->Sc×FR} {xs:List G3} {q:Nat} (h:Ch l k p0 step xs q):rdX A c l r p0 xs=Bv A c l r q:=by
 cases h with
 | nil=>rfl
 | snoc pre q x h he hx ho hc=>
  obtain⟨t,rest,ho⟩:=ho;unfold rdX;rw[List.getLast?_concat];dsimp only
  rw[ho];dsimp only
  rw[hc,if_pos rfl]
theorem Ab6 {A:Option Addr} {c:Nat} {l:List BX} {r p0:Nat} {xs:List G3} {sx:Sc} {e:Int} {x:TY×Nat}:rdX A c l r p0 (xs++[(sx,.bad e,x)])=pr True:=by
 unfold rdX;rw[List.getLast?_concat]
theorem ZD {A:Option Addr} {c:Nat} {l:List BX} {r p0:Nat} {xs:List G3} {sx:Sc} {t:Tr} {rest:List Pc} {x:TY×Nat}:rdX A c l r p0 (xs++[(sx,.ok t rest,x)])=Bv A c l r (if CQ l x.2 [7] then x.2+1 else x.2):=by
 unfold rdX;rw[List.getLast?_concat]
theorem Ch.fu {wB:Y} {A:Option Addr} {c:Nat} {l:List BX} {r:Nat} {f:FuncId} {caps:List Value} {Yz:Aj} {T:Bool} {k:Int} {p0 n0:Nat} {step:Nat->Nat->Sc×FR} (hP:ItP wB A c l r f caps Yz T k p0 n0 step) {xs:List G3} {q:Nat} (h:Ch l k p0 step xs q):q<=l.length/\2*(l.length - q)+2+xs.length<=n0:=by
 induction h with
 | nil=>exact⟨hP.hp0,hP.hn0⟩
 | snoc pre q x h he hx ho hc ih=>
  obtain⟨t,rest,ho⟩:=ho;have h1:=hP.len pre.length q t rest (by rw[<- hx.1];exact ho);obtain⟨h2,h3⟩:=hx.2 t rest ho;rw[h3,JG] at h1;have:=J6 hc;rw[List.length_append,List.length_singleton];omega
theorem ZF {wB:Y} {A:Option Addr} {c:Nat} {l:List BX} {r:Nat} {f:FuncId} {caps:List Value} {Yz:Aj} {T:Bool} {k:Int} {p0 n0:Nat} {step:Nat->Nat->Sc×FR} (hP:ItP wB A c l r f caps Yz T k p0 n0 step) (b3 b4 b5:Nat):
  FH Tryz.prog 293 #[.pointer (F ⟨b3,0,O⟩),.pointer (F ⟨b4,0,O⟩),.pointer (F ⟨b5,0,O⟩)] (fun(x:G3)=>[Z1 T x.1 x.2.1 x.2.2.1]) (fun x=>frT x.2.1 x.2.2.1) (fun xs=>[blk b3 [.pointer (F ⟨r,0,O⟩)] 394,blk b4 [I J k] 3,blk b5 [.func (.func f) #[] caps.toArray] 442,Yz,rdX A c l r p0 xs])
   (ItA l k p0 step) (ItF l k p0 step) (fun w G=>Below wB.heap.size wB w/\FG wB G):=by
 refine FH.of fun lp Jz Jx w G hSt hG hY hM=>?_;obtain⟨hB,hQ⟩:=hSt;refine V.enter _ Tryz.func293 hM ?_;refine V.loop (ι:=List G3×Nat) (fun x=>Ch l k p0 step x.1 x.2) (fun x=>Mem G w ([blk b3 [.pointer (F ⟨r,0,O⟩)] 394,blk b4 [I J k] 3,blk b5 [.func (.func f) #[] caps.toArray] 442,Yz,Bv A c l r x.2,Jz x.1])) (fun x=>[(0,.func (.yield lp) #[] #[]),(1,.pointer (F ⟨b3,0,O⟩)),(2,.pointer (F ⟨b4,0,O⟩)),(3,.pointer (F ⟨b5,0,O⟩))]) (fun x=>l.length+1 - x.2) ([],p0) .nil (fun w h=>h.sel) ⟨rfl,rfl,rfl,rfl,trivial⟩ ?_;rintro⟨xs,q⟩ hxs;dsimp only at hxs;have hfu:=hxs.fu hP
 repeat refine W ?_
 refine R.bs (m:=1) (cs:=[I J k]) (bt:=3) (fun bk hb=>?_);refine R.c (fun w' h'=>Ig (fun b=>b<wB.heap.size) (fun _=>True) r A (F ⟨bk,0,O⟩) c 1 l q [k] w' (Ye h' (by simp)) (hP.rd.at hB hQ h'.1) (isRow (Cs.of_blk (h'.blk (List.Mem.head _)))) (by simp)) ?_
 repeat refine W ?_
 cases he:CQ l q [k] with
 | true=>
  repeat refine W ?_
  refine V.end fun w' h'=>?_;exact⟨⟨_,rfl⟩,.inl ⟨xs,.inl ⟨q,hxs,he⟩,by dsimp only;rw[hxs.rd];exact h'.sel⟩⟩
 | false=>
  refine W ?_;refine V.pre (S':=Mem G w [star [Yz,Bv A c l r q],Jz xs,blk b3 [.pointer (F ⟨r,0,O⟩)] 394,blk b4 [I J k] 3,blk b5 [.func (.func f) #[] caps.toArray] 442]) ?_ (by intro w' h';exact Mem.toStar (B:=[Yz,Bv A c l r q]) h'.sel)
  repeat refine W ?_
  refine R.cq (fun w' h'=>hP.one xs.length q w' (AI.belowB hB hQ h'.1) hfu.1 hfu.2) (fun G hG=>FG.of hB hQ G hG) (fun x=>?_) (hr:=hP.hf);iterate 2 refine W ?_
  refine V.star ?_;obtain⟨⟨sx,sr⟩,hst⟩:∃ s,step xs.length q=s:=⟨_,rfl⟩
  rw[hst];cases sr with
  | bad e=>
   dsimp only[Sf,Z1,Sn]
   have hxi:ItX l step xs.length q (sx,.bad e,x):=⟨hst.symm,fun t rest h=>by cases h⟩
   repeat (first | refine W ?_ | refine R.new fun _ _=>?_)
   refine R.y (Jz:=Jz xs) (J':=Jz (xs++[(sx,.bad e,x)])) (Jx:=Jx (xs++[(sx,.bad e,x)])) (hY xs (sx,.bad e,x) ⟨q,hxs,he,hxi⟩) ?_ ?_
   ·repeat refine W ?_
    refine V.end fun w' h'=>?_;exact⟨⟨_,rfl⟩,.inl ⟨xs++[(sx,.bad e,x)],.inr ⟨xs,_,q,rfl,hxs,he,hxi,.inl ⟨e,rfl⟩⟩,by dsimp only;rw[Ab6];exact(h'.pr (p:=True) trivial).sel⟩⟩
   ·repeat refine W ?_
    refine V.end fun w' h'=>?_;exact⟨⟨_,rfl⟩,.inr ⟨_,h'.sel⟩⟩
  | ok t rest=>
   dsimp only[Sf,Z1]
   refine V.pre (S':=Mem G w [star [Bv A c l r x.2,Aq (As x.1) t,pr (x.2<=l.length/\rest=(l.drop x.2).map DP)],Yz,Jz xs,blk b3 [.pointer (F ⟨r,0,O⟩)] 394,blk b4 [I J k] 3,blk b5 [.func (.func f) #[] caps.toArray] 442]) ?_ (by intro w' h';exact h'.sel);refine V.star ?_;refine V.prop (fun hp=>?_) (hp:=.tail _ (.tail _ (.head _)));refine V.pre (S':=Mem G w [star [Aq (As x.1) t,Jz xs],Bv A c l r x.2,Yz,blk b3 [.pointer (F ⟨r,0,O⟩)] 394,blk b4 [I J k] 3,blk b5 [.func (.func f) #[] caps.toArray] 442]) ?_ (by intro w' h';exact Mem.toStar (B:=[Aq (As x.1) t,Jz xs]) (Mem.sel h'));have hxi:ItX l step xs.length q (sx,.ok t rest,x):=⟨hst.symm,fun t rest h=>by cases h;exact hp⟩
   cases T
   all_goals
    repeat (first | refine W ?_ | refine R.new fun _ _=>?_)
    refine R.y (Jz:=star [Aq (As x.1) t,Jz xs]) (J':=Jz (xs++[(sx,.ok t rest,x)])) (Jx:=Jx (xs++[(sx,.ok t rest,x)])) (hY xs (sx,.ok t rest,x) ⟨q,hxs,he,hxi⟩) ?_ ?_
    ·repeat refine W ?_
     refine R.cq (fun w' h'=>Gb (c:=c) hP.rd r x.2 7 w' (AI.belowB hB hQ h'.1) hp.1) (fun G hG=>FG.of hB hQ G hG) (fun _=>?_)
     repeat refine W ?_
     cases hc:CQ l x.2 [7] with
     | true=>
      repeat refine W ?_
      have:=J6 hc;have h5:rest.length<=l.length - q:=hP.len xs.length q t rest (by rw[hst]);have h6:rest.length=l.length - x.2:=by rw[hp.2];simp
      exact V.again (xs++[(sx,.ok t rest,x)],x.2+1) rfl (.snoc xs q _ hxs he hxi ⟨t,rest,rfl⟩ hc)
     | false=>
      repeat refine W ?_
      refine V.end fun w' h'=>?_;exact⟨⟨_,rfl⟩,.inl ⟨xs++[(sx,.ok t rest,x)],.inr ⟨xs,_,q,rfl,hxs,he,hxi,.inr hc⟩,by dsimp only;rw[ZD,hc];exact h'.sel⟩⟩
    ·repeat refine W ?_
     refine V.end fun w' h'=>?_;exact⟨⟨_,rfl⟩,.inr ⟨_,h'.sel⟩⟩
end
section
open Go Go.RowKit Go.Extern.Stop Go.Stop Go.Extern
set_option maxRecDepth 100000
namespace Ea
abbrev rt (t:TypeId):Value:=.iface 233 (.agg #[.pointer (F ⟨10,t,O⟩)])
abbrev rv (t:TypeId) (b:Nat) (fl:Int):Value:=.agg #[.pointer (F ⟨10,t,O⟩),.pointer (F ⟨b,0,O⟩),.int .u64 fl]
structure T4 (T PT:TypeId) (k:Nat):Prop where
 valueOfP:∀ (t:Addr) w,(ReflectliteValue.unpack (.iface PT (.pointer (F t)))).run Tryz.prog w=.ok (rv PT w.heap.size 150) (w.alloc (.cells #[.pointer (F t)] PT))
 typeP:∀ b w,(ReflectliteValue.methodAny (ReflectliteValue.valueError "reflectlite.Value.Type" 0) (fun t _ _ _=>ReflectliteType.toType t) #[rv PT b 150]).run Tryz.prog w=.ok (rt PT) w
 kindP:∀ w,((ReflectliteType.abiMethod fun t=>(fun a:Nat=>Value.int IntKind.u8 (a:Int))<$>Rtype.kind t) #[.pointer (F ⟨10,PT,O⟩)]).run Tryz.prog w=.ok (.int .u8 22) w
 kindE:∀ w,((ReflectliteType.abiMethod fun t=>(fun a:Nat=>Value.int IntKind.u8 (a:Int))<$>Rtype.kind t) #[.pointer (F ⟨10,T,O⟩)]).run Tryz.prog w=.ok (.int .u8 25) w
 partsP:∀ b w,(ReflectliteValue.parts (rv PT b 150)).run Tryz.prog w=.ok (F (PT,⟨b,0,O⟩,150)) w
 undP:Tryz.prog.underlying PT=F (.pointer T)
 elemP:∀ w,(ReflectliteType.method ReflectliteType.elem #[.agg #[.pointer (F ⟨10,PT,O⟩)]]).run Tryz.prog w=.ok (rt T) w
 impE:∀ w,(ReflectliteType.relation "Implements" ReflectliteType.implements_ #[.agg #[.pointer (F ⟨10,T,O⟩)],rt 61]).run Tryz.prog w=.ok (.bool true) w
 typeOfE:∀ v w,(ReflectliteType.typeOf #[.iface T v]).run Tryz.prog w=.ok (rt T) w
 assE:∀ w,(ReflectliteType.relation "AssignableTo" ReflectliteType.assignableTo #[.agg #[.pointer (F ⟨10,T,O⟩)],rt T]).run Tryz.prog w=.ok (.bool true) w
 valueOfE:∀ (vs:List Value) w,vs.length=k->(ReflectliteValue.unpack (.iface T (.agg vs.toArray))).run Tryz.prog w=.ok (rv T w.heap.size 153) (w.alloc (.cells vs.toArray T))
 elemOfP:∀ w,(Rtype.elem? PT).run Tryz.prog w=.ok (F T) w
 mkE:∀ b w,(ReflectliteValue.mk T ⟨b,0,O⟩ ReflectliteValue.flagAddr).run Tryz.prog w=.ok (rv T b 409) w
 partsA:∀ b w,(ReflectliteValue.parts (rv T b 409)).run Tryz.prog w=.ok (F (T,⟨b,0,O⟩,409)) w
 partsE:∀ b w,(ReflectliteValue.parts (rv T b 153)).run Tryz.prog w=.ok (F (T,⟨b,0,O⟩,153)) w
 dirE:∀ w,(Rtype.directlyAssignable T T).run Tryz.prog w=.ok true w
 sizeE:∀ w,(sizeOf T).run Tryz.prog w=.ok k w
 aggE:∀ w,(isAgg T).run Tryz.prog w=.ok true w
theorem Af7 (h:Value) (w:Y):(Go.method 587 233 (.agg #[h]) "Kind").run Tryz.prog w=.ok (315,h) w:=by kernel_rfl
theorem Ajw (h:Value) (w:Y):(Go.method 587 233 (.agg #[h]) "Elem").run Tryz.prog w=.ok (332,.agg #[h]) w:=by kernel_rfl
theorem Ak9 (h:Value) (w:Y):(Go.method 587 233 (.agg #[h]) "Implements").run Tryz.prog w=.ok (333,.agg #[h]) w:=by kernel_rfl
theorem Aky (h:Value) (w:Y):(Go.method 587 233 (.agg #[h]) "AssignableTo").run Tryz.prog w=.ok (330,.agg #[h]) w:=by kernel_rfl
theorem Ni (args:Array Value) (w:Y):(callFunc 76 args).run Tryz.prog w=(((fun args=>ReflectliteValue.unpack (args.getD 0 (.tuple #[]))) args).run Tryz.prog w).andThen (fun v w'=>.ok (.value v) w'):=run_callFunc_extern (e:=(fun args=>ReflectliteValue.unpack (args.getD 0 (.tuple #[])))) Tryz.func76 (by kernel_rfl) (by kernel_rfl) (by kernel_rfl) (by kernel_rfl) args w
theorem Ag8 (args:Array Value) (w:Y):(callFunc 77 args).run Tryz.prog w=(((ReflectliteValue.methodAny (ReflectliteValue.valueError "reflectlite.Value.Type" 0) (fun t _ _ _=>ReflectliteType.toType t)) args).run Tryz.prog w).andThen (fun v w'=>.ok (.value v) w'):=run_callFunc_extern (e:=(ReflectliteValue.methodAny (ReflectliteValue.valueError "reflectlite.Value.Type" 0) (fun t _ _ _=>ReflectliteType.toType t))) Tryz.func77 (by kernel_rfl) (by kernel_rfl) (by kernel_rfl) (by kernel_rfl) args w
theorem Aeb (args:Array Value) (w:Y):(callFunc 78 args).run Tryz.prog w=(((ReflectliteValue.method (ReflectliteValue.valueError "reflectlite.Value.IsNil" 0) ReflectliteValue.isNil) args).run Tryz.prog w).andThen (fun v w'=>.ok (.value v) w'):=run_callFunc_extern (e:=(ReflectliteValue.method (ReflectliteValue.valueError "reflectlite.Value.IsNil" 0) ReflectliteValue.isNil)) Tryz.func78 (by kernel_rfl) (by kernel_rfl) (by kernel_rfl) (by kernel_rfl) args w
theorem Aal (args:Array Value) (w:Y):(callFunc 315 args).run Tryz.prog w=(((ReflectliteType.abiMethod fun t=>do pure (.int .u8 (<- Rtype.kind t))) args).run Tryz.prog w).andThen (fun v w'=>.ok (.value v) w'):=run_callFunc_extern (e:=(ReflectliteType.abiMethod fun t=>do pure (.int .u8 (<- Rtype.kind t)))) Tryz.func315 (by kernel_rfl) (by kernel_rfl) (by kernel_rfl) (by kernel_rfl) args w
theorem Agn (args:Array Value) (w:Y):(callFunc 332 args).run Tryz.prog w=(((ReflectliteType.method ReflectliteType.elem) args).run Tryz.prog w).andThen (fun v w'=>.ok (.value v) w'):=run_callFunc_extern (e:=(ReflectliteType.method ReflectliteType.elem)) Tryz.func332 (by kernel_rfl) (by kernel_rfl) (by kernel_rfl) (by kernel_rfl) args w
theorem Ajr (args:Array Value) (w:Y):(callFunc 333 args).run Tryz.prog w=(((ReflectliteType.relation "Implements" ReflectliteType.implements_) args).run Tryz.prog w).andThen (fun v w'=>.ok (.value v) w'):=run_callFunc_extern (e:=(ReflectliteType.relation "Implements" ReflectliteType.implements_)) Tryz.func333 (by kernel_rfl) (by kernel_rfl) (by kernel_rfl) (by kernel_rfl) args w
theorem QW (args:Array Value) (w:Y):(callFunc 117 args).run Tryz.prog w=(((ReflectliteType.typeOf) args).run Tryz.prog w).andThen (fun v w'=>.ok (.value v) w'):=run_callFunc_extern (e:=(ReflectliteType.typeOf)) Tryz.func117 (by kernel_rfl) (by kernel_rfl) (by kernel_rfl) (by kernel_rfl) args w
theorem Aj3 (args:Array Value) (w:Y):(callFunc 330 args).run Tryz.prog w=(((ReflectliteType.relation "AssignableTo" ReflectliteType.assignableTo) args).run Tryz.prog w).andThen (fun v w'=>.ok (.value v) w'):=run_callFunc_extern (e:=(ReflectliteType.relation "AssignableTo" ReflectliteType.assignableTo)) Tryz.func330 (by kernel_rfl) (by kernel_rfl) (by kernel_rfl) (by kernel_rfl) args w
theorem Adn (args:Array Value) (w:Y):(callFunc 118 args).run Tryz.prog w=(((ReflectliteValue.method (ReflectliteValue.valueError "reflectlite.Value.Elem" 0) ReflectliteValue.elem) args).run Tryz.prog w).andThen (fun v w'=>.ok (.value v) w'):=run_callFunc_extern (e:=(ReflectliteValue.method (ReflectliteValue.valueError "reflectlite.Value.Elem" 0) ReflectliteValue.elem)) Tryz.func118 (by kernel_rfl) (by kernel_rfl) (by kernel_rfl) (by kernel_rfl) args w
theorem Aj5 (args:Array Value) (w:Y):(callFunc 119 args).run Tryz.prog w=(((ReflectliteValue.set) args).run Tryz.prog w).andThen (fun v w'=>.ok (.value v) w'):=run_callFunc_extern (e:=(ReflectliteValue.set)) Tryz.func119 (by kernel_rfl) (by kernel_rfl) (by kernel_rfl) (by kernel_rfl) args w
theorem rlm (z:Sem Value) (f:TypeId->Addr->Nat->Nat->Sem Value) (v:Value):ReflectliteValue.method z f #[v]=(do match <- ReflectliteValue.parts v with | none=>z | some (t,a,fl)=>f t a fl (fl%32)):=rfl
section
variable {T PT:TypeId} {k:Nat} (H:T4 T PT k)
include H
theorem Th {b tb:Nat} {w:Y} (hc:w.cell? ⟨b,0,O⟩=F (.pointer (F ⟨tb,0,O⟩))):(ReflectliteValue.method (ReflectliteValue.valueError "reflectlite.Value.IsNil" 0) ReflectliteValue.isNil #[rv PT b 150]).run Tryz.prog w=.ok (.bool false) w:=by
 rw[rlm];simp only[Sem.run_bind,H.partsP,Result.andThen]
 simp[ReflectliteValue.isNil,loadVar,isAgg,underlying,H.undP,hc,Result.andThen]
theorem U2 {b tb:Nat} {w:Y} (hc:w.cell? ⟨b,0,O⟩=F (.pointer (F ⟨tb,0,O⟩))):(ReflectliteValue.method (ReflectliteValue.valueError "reflectlite.Value.Elem" 0) ReflectliteValue.elem #[rv PT b 150]).run Tryz.prog w=.ok (rv T tb 409) w:=by
 rw[rlm];simp only[Sem.run_bind,H.partsP,Result.andThen]
 simp[ReflectliteValue.elem,loadVar,isAgg,underlying,H.undP,hc,Result.andThen,H.elemOfP,H.mkE]
theorem Agk {tb b:Nat} {vs os:List Value} {w:Y} (hvl:vs.length=k) (hol:os.length=k) (h1:vs.all Value.oneCell'=true) (hb:Cs w b 0 vs) (ht:w.heap[tb]? =F (.cells os.toArray T)):
  ∃ w',(ReflectliteValue.set #[rv T tb 409,rv T b 153]).run Tryz.prog w=.ok (.tuple #[]) w'/\w'.heap[tb]? =F (.cells vs.toArray T)/\AI (fun k=>k=tb) w w'/\w'.heap.size=w.heap.size:=by
 have hset:AC os 0 vs=F vs:=by
  subst hvl;clear hb ht h1 H;induction vs generalizing os with
  | nil=>cases os with
   | nil=>rfl
   | cons _ _=>cases hol
  | cons v vs ih=>cases os with
   | nil=>cases hol
   | cons o os=>
    have:=ih (os:=os) (by simpa using hol);show(match AC os 0 vs with | some r=>F (v::r) | none=>O)=_;rw[this]
 obtain⟨w',k1,k2,k3,k4⟩:=F7 (P:=Tryz.prog) (b:=tb) (o:=0) vs 0 os vs w ht hset h1;refine⟨w',?_,k2,k3,k4⟩;have hld:(loadCells ⟨b,0,O⟩ k).run Tryz.prog w=.ok vs.toArray w:=by
  have:=Ju (P:=Tryz.prog) vs 0 #[] hb;rw[hvl] at this;simpa[loadCells] using this
 have hst:(storeVar T ⟨tb,0,O⟩ (.agg vs.toArray)).run Tryz.prog w=.ok () w':=by
  unfold storeVar;have hcz:(Value.agg vs.toArray).cells=vs.toArray:=rfl;simp[Sem.run_bind,H.sizeE,hcz,hvl,k1]
 have hset2:ReflectliteValue.set #[rv T tb 409,rv T b 153]=(do
  let (F (dst,a,fl),F (src,b,_)):=(<- ReflectliteValue.parts (rv T tb 409),<- ReflectliteValue.parts (rv T b 153))
   | unsupported (.noEntry "extern/(internal/reflectlite.Value).Set.zeroValue")
  if fl / ReflectliteValue.flagAddr%2==0 then unsupported (.noEntry "extern/(internal/reflectlite.Value).Set.unaddressable")
  let val <- loadVar src b
  if <- Rtype.directlyAssignable dst src then storeVar dst a val
  else if <- Rtype.implements dst src then
   if (<- Rtype.kind src)==20 then
    match val with
    | .nilIface=>unsupported (.noEntry "extern/reflectlite: a nil value of one interface type handed on as a value of another")
    | _=>storeVar dst a val
   else storeVar dst a (.iface src val)
  else panicString ("reflectlite.Set: value of type "++(<- Rtype.spelt src)++ " is not assignable to type "++(<- Rtype.spelt dst))
  pure (.tuple #[])):=rfl
 rw[hset2];simp only[Sem.run_bind,H.partsA,H.partsE,Result.andThen]
 simp[ReflectliteValue.flagAddr,loadVar,H.aggE,H.sizeE,hld,Result.andThen,H.dirE,hst]
end
end Ea
end
end Go.Proofs.YtdpppepmkeinaaaGreatDoor
