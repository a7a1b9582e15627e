/- What is proved: a part of the walk of the program and of its plain laws; no condition beside those that each theorem names. -/
import Derived.Test.YtdpppepmkeinaaaGreatDoorYg
import Derived.Test.YtdpppepmkeinaaaGreatDoorYa
import Derived.Deep.QuietTactic
import Derived.BigQuiet
import Derived.Deep.RegionHeld3
import Derived.Lib.SlBytesConst
import Derived.Deep.DeepCutAuto
import Derived.Deep.CutRange
import Derived.Deep.LoopGhost
namespace Go.Proofs.YtdpppepmkeinaaaGreatDoor
open Go Go.RowKit Go.Lib
open Go.Value renaming int->I,string->Q,slice->Z
open Go.IntKind renaming i64->J
open Option renaming none->O,some->F
open _root_.Go renaming World->Y
set_option linter.unusedSimpArgs false
set_option linter.unusedVariables false
set_option linter.unusedSectionVars false
section
def Cg (l:List UInt8) (i:Nat) (bs:List UInt8):Bool:=decide (i<l.length)&&Ar bs (l.getD i 0)
def BI (l:List UInt8) (i:Nat):Bool:=decide (l.length<=i)||Cg l i [32]
def BA (l:List UInt8) (i:Nat):Bool:=Cg l i [35]&&(i==0||Cg l (i - 1) [32])
def AC (l:List UInt8) (i d:Nat):Bool:=BI l i||(decide (0<d)&&Cg l i Cc)
def EO (l:List UInt8) (i d:Nat):Bool:=decide (l.length<=i)||(BA l i||((Cg l i [58]&&AC l (i+1) d)||(decide (0<d)&&Cg l i Cc)))
def L1 (l:List UInt8) (d:Nat):Nat->Nat->Nat
 | 0,p=>p
 | f+1,p=>if EO l p d then p else L1 l d f (p+1)
def Fz (l:List UInt8) (p d:Nat):Nat:=L1 l d (l.length - p) p
def Cd (c:UInt8):Bool:=(decide (65<=c.toNat)&&decide (c.toNat<=90))||((decide (97<=c.toNat)&&decide (c.toNat<=122))||(BJ c||(c.toNat==95||c.toNat==45)))
def CG (l:List UInt8):Bool:=l.all Cd&&(!l.isEmpty&&decide (l.length<=20))
def Dt (l:List UInt8):List UInt8:=(l.reverse.dropWhile (·==32)).reverse
inductive TR
 | ok (k:Nat) (t:List UInt8) (tq d:Nat)
 | bad (e:Nat)
deriving Inhabited
def CM (l:List UInt8) (p d:Nat):TR:=
 if Cm (Dt ((l.take (Fz l p d)).drop p)) (decide (0<d)) then .ok 1 (Dt ((l.take (Fz l p d)).drop p)) (Fz l p d) d else .bad 51
def Ht (l:List UInt8) (p d:Nat):TR:=
 if (D1 ⟨l.toArray⟩ p).2.2=0 then
  (if AC l (D1 ⟨l.toArray⟩ p).2.1 d||Cg l (D1 ⟨l.toArray⟩ p).2.1 [58] then .ok 2 (D1 ⟨l.toArray⟩ p).1 (D1 ⟨l.toArray⟩ p).2.1 d else .bad 90)
 else .bad (D1 ⟨l.toArray⟩ p).2.2.toNat
def nameOf (l:List UInt8) (p:Nat):List UInt8:=(l.drop (p+1)).takeWhile Cd
def Jv (l:List UInt8) (p d:Nat):TR:=
 if CG (nameOf l p)&&AC l (p+1+(nameOf l p).length) d then .ok (if Cg l p [42] then 4 else 3) (nameOf l p) (p+1+(nameOf l p).length) d else .bad 90
def Hw (l:List UInt8) (p d:Nat):TR:=if BI l (p+1) then (if 0<d then .bad 90 else .ok 5 [] (p+1) d) else CM l p d
def Fp (l:List UInt8) (p d:Nat):TR:=if AC l (p+1) d then .ok 6 [] (p+1) d else CM l p d
def Eu (c:UInt8) (p d:Nat):TR:=if d=0 then .bad 90 else if c=44 then .ok 7 [] (p+1) d else .ok (if c=93 then 9 else 11) [] (p+1) (d - 1)
def Ql (l:List UInt8) (p d:Nat) (c:UInt8):TR:=
 if c=34\/c=39 then Ht l p d
 else if c=38\/c=42 then Jv l p d
 else if c=45 then Hw l p d
 else if c=58 then Fp l p d
 else if c=91\/c=123 then .ok (if c=91 then 8 else 10) [] (p+1) (d+1)
 else if c=44\/c=93\/c=125 then Eu c p d
 else CM l p d
def Dx (l:List UInt8) (p d:Nat):TR:=Ql l p d (l.getD p 0)
inductive TP
 | tok (k:Nat) (t:List UInt8) (p:Nat)
 | bad (e p:Nat)
deriving Inhabited
def DI (l:List UInt8):Nat->Nat->Nat->List TP
 | 0,_,_=>[]
 | f+1,p,d=>
  if l.length<=p then [] else if Cg l p [32] then DI l f (p+1) d else if BA l p then [] else
   match Dx l p d with
   | .ok k t tq d'=>.tok k t p::DI l f tq d'
   | .bad e=>[.bad e p]
def BH (l:List UInt8) (p d:Nat):List TP:=DI l (l.length+1 - p) p d
structure Tk where
 kind:Nat
 str:List UInt8
 at_:Nat
deriving DecidableEq
def Jb:List TP->List Tk->List Tk×Nat×Nat
 | [],acc=>(acc,0,0)
 | .tok k t p::r,acc=>Jb r (acc++[⟨k,t,p⟩])
 | .bad e p::_,_=>([],p,e)
def BP (l:List UInt8):List Tk×Nat×Nat:=
 if validD l then (if (Ag l).all Ac then Jb (BH l 0 0) [] else ([],0,80)) else ([],0,40)
theorem WL (l:List UInt8) (d:Nat):∀ f p,p<=L1 l d f p/\L1 l d f p<=p+f
 | 0,p=>by simp[L1]
 | f+1,p=>by
  unfold L1;split
  ·omega
  ·have:=WL l d f (p+1);omega
theorem Af7 {l:List UInt8} {p:Nat} (d:Nat) (h:p<=l.length):p<=Fz l p d/\Fz l p d<=l.length:=by
 have:=WL l d (l.length - p) p;unfold Fz;omega
theorem OT (l:List UInt8) (d:Nat):∀ f g p,l.length - p<=f->l.length - p<=g->L1 l d f p=L1 l d g p
 | 0,0,_,_,_=>rfl
 | 0,g+1,p,hf,_=>by
  unfold L1;rw[if_pos (by unfold EO;simp;left;omega)]
 | f+1,0,p,_,hg=>by
  unfold L1;rw[if_pos (by unfold EO;simp;left;omega)]
 | f+1,g+1,p,hf,hg=>by
  unfold L1;split
  ·rfl
  ·exact OT l d f g (p+1) (by omega) (by omega)
theorem Ni {l:List UInt8} {p d:Nat} (h:EO l p d=true):Fz l p d=p:=by
 unfold Fz;cases hn:l.length - p with
 | zero=>rfl
 | succ n=>unfold L1;rw[if_pos h]
theorem KU {l:List UInt8} {p d:Nat} (h:EO l p d=false):Fz l p d=Fz l (p+1) d:=by
 have hp:p<l.length:=by
  rcases Nat.lt_or_ge p l.length with h1 | h1
  ·exact h1
  ·unfold EO at h;simp at h;omega
 unfold Fz;obtain⟨n,hn⟩:∃ n,l.length - p=n+1:=⟨l.length - p - 1,by omega⟩
 rw[hn];show(if EO l p d=true then p else L1 l d n (p+1))=_;rw[h,if_neg (by decide)];exact OT l d _ _ _ (by omega) (by omega)
theorem Yu {l:List UInt8} {p d k tq d':Nat} {t:List UInt8} (hp:p<=l.length) (h:CM l p d=.ok k t tq d'):k=1/\d'=d/\tq=Fz l p d/\t=Dt ((l.take tq).drop p)/\Cm t (decide (0<d))=true/\p<tq/\tq<=l.length:=by
 have he:=Af7 d hp;unfold CM at h;split at h
 ·rename_i hm;injection h with h1 h2 h3 h4;subst h1 h2 h3 h4;refine⟨rfl,rfl,rfl,rfl,hm,?_,he.2⟩;rcases Nat.lt_or_ge p (Fz l p d) with h1 | h1
  ·exact h1
  ·have h2:Fz l p d=p:=by omega
   rw[h2,List.drop_take,Nat.sub_self,List.take_zero] at hm;cases hm
 ·cases h
def K2 (n:Nat):QP->QP
 | .sign r tq=>.sign r (n+tq)
 | .fin tq=>.fin (n+tq)
 | .bad e=>.bad e
theorem Qo (a b:Nat) (p:QP):K2 a (K2 b p)=K2 (a+b) p:=by
 cases p<;>simp[K2,Nat.add_assoc]
def BV (l:List UInt8):Int:=if l=[] then 65533 else ((decodeL l).1:Int)
theorem Nf (s:ByteArray) (i:Nat):Bw s i=BV (s.data.toList.drop i):=by
 rcases Nat.lt_or_ge i s.size with h | h
 ·rw[GX s i h,<- Lib.decodeL_drop];unfold BV;rw[if_neg (Ej s i h)]
 ·rw[PE s i h,List.drop_eq_nil_of_le (by rw[<- Lib.size_eq];exact h)];rfl
def Fj (l:List UInt8) (k:Nat):QP:=match Jq l k with
 | some v=>.sign v k
 | none=>.bad 41
theorem Z5 (s:ByteArray) (p k:Nat):GG s p k=K2 p (Fj (s.data.toList.drop p) k):=by
 unfold GG Fj;cases Jq (s.data.toList.drop p) k<;>rfl
def Me (l:List UInt8):QP:=
 if l.length=0 then .bad 41
 else if BC [34,92,47] (BV l) then .sign (BV l) 1
 else if BV l=48 then .sign 0 1
 else if BV l=120 then K2 1 (Fj (l.drop 1) 2)
 else if BV l=117 then K2 1 (Fj (l.drop 1) 4)
 else match Cr (BV l) with
 | some y=>.sign y 1
 | none=>.bad 41
theorem TC (s:ByteArray) (i:Nat):(s.data.toList.drop i).length=s.size - i:=by rw[List.length_drop,<- Lib.size_eq]
theorem Ah2 (s:ByteArray) (p:Nat):O0 s p=K2 p (Me (s.data.toList.drop p)):=by
 unfold O0 O6 Me;rw[Nf,TC,Z5,Z5,<- List.drop_drop];by_cases h:s.size<=p
 ·have h2:s.size - p=0:=by omega
  rw[if_pos h,if_pos h2];rfl
 ·have h2:¬s.size - p=0:=by omega
  rw[if_neg h,if_neg h2];by_cases h3:BC [34,92,47] (BV (s.data.toList.drop p))=true
  ·rw[if_pos h3,if_pos h3];rfl
  ·rw[if_neg h3,if_neg h3];by_cases h4:BV (s.data.toList.drop p)=48
   ·rw[if_pos h4,if_pos h4];rfl
   ·rw[if_neg h4,if_neg h4];by_cases h5:BV (s.data.toList.drop p)=120
    ·rw[if_pos h5,if_pos h5];rw[Qo]
    ·rw[if_neg h5,if_neg h5];by_cases h6:BV (s.data.toList.drop p)=117
     ·rw[if_pos h6,if_pos h6];rw[Qo]
     ·rw[if_neg h6,if_neg h6];cases Cr (BV (s.data.toList.drop p))<;>rfl
def FB (q:Int) (l:List UInt8):QP:=
 if l.length=0 then .bad 42
 else if BV l=q then (if BV l=39/\BV (l.drop 1)=39/\1<l.length then .sign 39 2 else .fin 1)
 else if BV l=92/\q=34 then K2 1 (Me (l.drop 1))
 else if BW (BV l) then .sign (BV l) (decodeL l).2 else .bad 42
theorem Abl (s:ByteArray) (q:Int) (i:Nat):Ek s q i=K2 i (FB q (s.data.toList.drop i)):=by
 unfold Ek UW FB;rw[Nf,Nf,<- Lib.decodeL_drop,TC,Ah2,List.drop_drop];by_cases h:s.size<=i
 ·have h2:s.size - i=0:=by omega
  rw[if_pos h,if_pos h2];rfl
 ·have h2:¬s.size - i=0:=by omega
  rw[if_neg h,if_neg h2];by_cases h3:BV (s.data.toList.drop i)=q
  ·rw[if_pos h3,if_pos h3];by_cases h4:BV (s.data.toList.drop i)=39/\BV (s.data.toList.drop (i+1))=39/\i+1<s.size
   ·rw[if_pos h4,if_pos ⟨h4.1,h4.2.1,by omega⟩];rfl
   ·rw[if_neg h4,if_neg (fun h5=>h4 ⟨h5.1,h5.2.1,by omega⟩)];rfl
  ·rw[if_neg h3,if_neg h3];by_cases h4:BV (s.data.toList.drop i)=92/\q=34
   ·rw[if_pos h4,if_pos h4];rw[Qo]
   ·rw[if_neg h4,if_neg h4];by_cases h5:BW (BV (s.data.toList.drop i))=true
    ·rw[if_pos h5,if_pos h5];rfl
    ·rw[if_neg h5,if_neg h5];rfl
def Dw (q:Int):Nat->List UInt8->List UInt8->Nat->List UInt8×Nat×Int
 | 0,_,_,_=>([],0,42)
 | f+1,l,acc,n=>match FB q l with
  | .sign r k=>Dw q f (l.drop k) (acc++encodeRune r) (n+k)
  | .fin k=>(acc,n+k,0)
  | .bad e=>([],0,e)
theorem Aa0 (s:ByteArray) (q:Int):∀ (f i:Nat) (acc:List UInt8),DF (C7 s q f i) acc=Dw q f (s.data.toList.drop i) acc i
 | 0,i,acc=>rfl
 | f+1,i,acc=>by
  unfold C7 Dw;rw[Abl];cases FB q (s.data.toList.drop i) with
  | sign r k=>
   show DF (C7 s q f (i+k)) (acc++encodeRune r)=_;rw[Aa0 s q f (i+k),<- List.drop_drop]
  | fin k=>rfl
  | bad e=>rfl
theorem LQ (l:List UInt8) (k:Nat):(∃ v:Nat,Fj l k=.sign v k)\/Fj l k=.bad 41:=by
 unfold Fj;cases Jq l k with
 | some v=>exact .inl ⟨v,rfl⟩
 | none=>exact .inr rfl
theorem N4 (l:List UInt8):(∃ r k,Me l=.sign r k/\1<=k)\/Me l=.bad 41:=by
 unfold Me;split
 ·exact .inr rfl
 ·split
  ·exact .inl ⟨_,_,rfl,by omega⟩
  ·split
   ·exact .inl ⟨_,_,rfl,by omega⟩
   ·split
    ·rcases LQ (l.drop 1) 2 with ⟨v,h⟩ | h
     ·rw[h];exact .inl ⟨_,_,rfl,by omega⟩
     ·rw[h];exact .inr rfl
    ·split
     ·rcases LQ (l.drop 1) 4 with ⟨v,h⟩ | h
      ·rw[h];exact .inl ⟨_,_,rfl,by omega⟩
      ·rw[h];exact .inr rfl
     ·cases Cr (BV l) with
      | some y=>exact .inl ⟨_,_,rfl,by omega⟩
      | none=>exact .inr rfl
theorem JE (q:Int) (l:List UInt8):(l≠[]/\((∃ r k,FB q l=.sign r k/\1<=k)\/FB q l=.fin 1\/FB q l=.bad 41))\/FB q l=.bad 42:=by
 unfold FB;split
 ·exact .inr rfl
 ·rename_i hne;have hne:l≠[]:=fun e=>hne (by rw[e];rfl);split
  ·split
   ·exact .inl ⟨hne,.inl ⟨_,_,rfl,by omega⟩⟩
   ·exact .inl ⟨hne,.inr (.inl rfl)⟩
  ·split
   ·rcases N4 (l.drop 1) with ⟨r,k,h,hk⟩ | h
    ·rw[h];exact .inl ⟨hne,.inl ⟨_,_,rfl,by omega⟩⟩
    ·rw[h];exact .inl ⟨hne,.inr (.inr rfl)⟩
   ·split
    ·exact .inl ⟨hne,.inl ⟨_,_,rfl,decodeL_width l⟩⟩
    ·exact .inr rfl
theorem EC (l m:List UInt8) (hne:l≠[]) (hv:validD l=true):decodeL (l++m)=decodeL l:=by
 have hb:¬((decodeL l).1=65533/\(decodeL l).2=1):=fun h=>by rw[validD_step l hne,if_pos h] at hv;cases hv
 have he:=encode_decode l hne hb;have hvr:=ER l hne hb;have hsg:PH ((decodeL l).1:Int)=true:=by
  unfold Lib.validRune at hvr;rw[decide_eq_true_eq] at hvr;rw[GT];omega
 have h1:=Gy ((decodeL l).1:Int) hsg (l.drop (decodeL l).2++m);rw[he,<- List.append_assoc,List.take_append_drop,List.length_take,Nat.min_eq_left (decodeL_le l hne)] at h1;rw[h1];rfl
theorem Cu (l:List UInt8) (hne:l≠[]) (hv:validD l=true):validD (l.drop (decodeL l).2)=true:=by
 rw[validD_step l hne] at hv;split at hv
 ·cases hv
 ·exact hv
theorem Bj:∀ (n:Nat) (l m:List UInt8),l.length<=n->validD l=true->validD (l++m)=validD m
 | n,[],m,_,_=>rfl
 | 0,c::t,m,h,_=>by simp at h
 | n+1,c::t,m,h,hv=>by
  have hne:c::t≠[]:=by simp
  have hb:¬((decodeL (c::t)).1=65533/\(decodeL (c::t)).2=1):=fun h=>by rw[validD_step _ hne,if_pos h] at hv;cases hv
  have hw:=decodeL_width (c::t);rw[validD_step (c::t++m) (by simp),EC _ m hne hv,if_neg hb,List.drop_append_of_le_length (decodeL_le _ hne)];exact Bj n _ m (by rw[List.length_drop];simp at h |-;omega) (Cu _ hne hv)
theorem DT (c:UInt8) (m:List UInt8) (h:c.toNat<128):BV (c::m)=(c.toNat:Int):=by
 unfold BV;rw[if_neg (by simp),decodeL_ascii c m h]
theorem Dk (l:List UInt8):(⟨l.toArray⟩:ByteArray).data.toList=l:=by simp
theorem size_mk (l:List UInt8):(⟨l.toArray⟩:ByteArray).size=l.length:=by rw[Lib.size_eq,Dk]
theorem UR {l:List UInt8} (hne:l≠[]) (hv:validD l=true) (hb:BV l<128):∃ c t,l=c::t/\c.toNat<128/\BV l=(c.toNat:Int)/\validD t=true:=by
 obtain⟨c,t,rfl⟩:∃ c t,l=c::t:=by cases l with | nil=>exact absurd rfl hne | cons c t=>exact⟨c,t,rfl⟩
 have hlt:c.toNat<128:=by
  rcases Nat.lt_or_ge c.toNat 128 with h | h
  ·exact h
  ·have:=E7 c t h;unfold BV at hb;rw[if_neg (by simp)] at hb;omega
 refine⟨c,t,rfl,hlt,DT c t hlt,?_⟩;rw[validD_cons c t hlt] at hv;exact hv
theorem YY {q:Int} {l:List UInt8} {r:Int} {k:Nat} (hv:validD l=true) (h:FB q l=.sign r k):l≠[]/\1<=k/\k<=l.length/\validD (l.drop k)=true/\Lib.validRune r=true:=by
 have h0:Ek ⟨l.toArray⟩ q 0=.sign r k:=by rw[Abl,Dk,List.drop_zero,h];simp[K2]
 obtain⟨h1,h2,h3,h4,h5⟩:=GS (by omega) (fun _=>by rw[Dk,List.drop_zero];exact hv) h0;rw[size_mk] at h1 h3 h4;refine⟨fun e=>by rw[e] at h1;simp at h1,by omega,h3,?_,h5⟩;rcases Nat.lt_or_ge k l.length with h6 | h6
 ·have:=h4 h6;rwa [Dk] at this
 ·rw[List.drop_eq_nil_of_le h6];rfl
theorem Tg (q:Int) (hq128:q<128):∀ (f:Nat) (l acc:List UInt8) (n:Nat),validD l=true->(Dw q f l acc n).2.2=0->n<(Dw q f l acc n).2.1/\(Dw q f l acc n).2.1<=n+l.length/\validD (l.drop ((Dw q f l acc n).2.1 - n))=true
 | 0,l,acc,n,_,h=>by simp[Dw] at h
 | f+1,l,acc,n,hv,h=>by
  unfold Dw at h |-;cases ho:FB q l with
  | sign r k=>
   rw[ho] at h;obtain⟨_,h2,h3,h4,_⟩:=YY hv ho;have:=Tg q hq128 f (l.drop k) _ _ h4 h;rw[List.length_drop,List.drop_drop] at this;dsimp only
   refine⟨by omega,by omega,?_⟩;rw[show(Dw q f (List.drop k l) (acc++encodeRune r) (n+k)).2.1 - n=k+((Dw q f (List.drop k l) (acc++encodeRune r) (n+k)).2.1 - (n+k)) by omega];exact this.2.2
  | fin k=>
   rw[ho] at h;have hlen:l≠[]/\k=1:=by
    rcases JE q l with ⟨hne,⟨r,k,h,hk⟩ | h | h⟩ | h<;>rw[ho] at h<;>first | (injection h with h;exact⟨hne,h⟩) | cases h
   have hl:0<l.length:=List.length_pos_iff.2 hlen.1;dsimp only
   refine⟨by omega,by omega,?_⟩;rw[show n+k - n=1 by omega];have hq:BV l=q:=by
    unfold FB at ho;split at ho
    ·cases ho
    ·split at ho
     ·assumption
     ·split at ho
      ·rcases N4 (l.drop 1) with ⟨r,k,h,hk⟩ | h<;>rw[h] at ho<;>cases ho
      ·split at ho<;>cases ho
   obtain⟨c,t,rfl,_,_,hvt⟩:=UR hlen.1 hv (by omega);exact hvt
  | bad e=>
   rw[ho] at h;simp at h;rcases JE q l with ⟨hne,⟨r,k,h2,hk⟩ | h2 | h2⟩ | h2<;>rw[ho] at h2<;>first | (injection h2 with h2;omega) | cases h2
def Iv (l:List UInt8) (p:Nat) (q:Int):Prop:=p<l.length/\((l.getD p 0=34/\q=34)\/(l.getD p 0=39/\q=39))
theorem PN {l:List UInt8} {p:Nat} (hp:p<l.length) (h:l.getD p 0=34\/l.getD p 0=39):∃ q,Iv l p q/\q<128:=by
 rcases h with h | h
 ·exact⟨34,⟨hp,.inl ⟨h,rfl⟩⟩,by decide⟩
 ·exact⟨39,⟨hp,.inr ⟨h,rfl⟩⟩,by decide⟩
theorem Ae0 (l:List UInt8) (p:Nat) (h:p<(⟨l.toArray⟩:ByteArray).size):(⟨l.toArray⟩:ByteArray)[p]'h=l.getD p 0:=by
 have:=DB ⟨l.toArray⟩ p h;rw[Dk] at this;exact this.symm
theorem Zh {l:List UInt8} {p:Nat} {q:Int} (h:Iv l p q):F8 ⟨l.toArray⟩ p=F q:=by
 have hlt:p<(⟨l.toArray⟩:ByteArray).size:=by rw[size_mk];exact h.1
 unfold F8;rw[if_neg (by omega),dif_pos (by simpa using hlt)];have hg:=Ae0 l p hlt;have hg':(⟨l.toArray⟩:ByteArray)[((p:Nat):Int).toNat]'(by simpa using hlt)=l.getD p 0:=by simpa using hg
 rw[hg'];rcases h.2 with ⟨h1,rfl⟩ | ⟨h1,rfl⟩<;>rw[h1]<;>rfl
theorem Mm {l:List UInt8} {p:Nat} {q:Int} (h:Iv l p q) (hv:validD l=true):D1 ⟨l.toArray⟩ p=Dw q (l.length+1 - (p+1)) (l.drop (p+1)) [] (p+1):=by
 unfold D1;rw[Dk,hv,if_pos rfl,Zh h];show DF (B1 ⟨l.toArray⟩ q (((p:Nat):Int).toNat+1)) []=_;rw[show((p:Nat):Int).toNat=p by omega];unfold B1;rw[Aa0,Dk,size_mk]
theorem R7 {l:List UInt8} {p:Nat} {q:Int} (h:Iv l p q) (hv:validD l=true):validD (l.drop (p+1))=true:=by
 refine I4 _ l p Nr hv h.1 ?_;have:l[p]'h.1=l.getD p 0:=by simp[List.getD,List.getElem?_eq_getElem h.1]
 rw[this];rcases h.2 with ⟨h1,_⟩ | ⟨h1,_⟩<;>rw[h1]<;>decide
theorem Ug {l:List UInt8} {p:Nat} {q:Int} (h:Iv l p q) (hq:q<128) (hv:validD l=true) (he:(D1 ⟨l.toArray⟩ p).2.2=0):p+1<(D1 ⟨l.toArray⟩ p).2.1/\(D1 ⟨l.toArray⟩ p).2.1<=l.length:=by
 rw[Mm h hv] at he |-;have:=Tg q hq _ (l.drop (p+1)) [] (p+1) (R7 h hv) he;rw[List.length_drop] at this;have h1:=h.1;omega
theorem Pd (q:Int):∀ (f:Nat) (l acc:List UInt8) (n:Nat),(Dw q f l acc n).2.2=0\/(Dw q f l acc n).2.2=41\/(Dw q f l acc n).2.2=42
 | 0,l,acc,n=>.inr (.inr rfl)
 | f+1,l,acc,n=>by
  unfold Dw;rcases JE q l with ⟨hne,⟨r,k,h,hk⟩ | h | h⟩ | h
  ·rw[h];exact Pd q f _ _ _
  ·rw[h];exact .inl rfl
  ·rw[h];exact .inr (.inl rfl)
  ·rw[h];exact .inr (.inr rfl)
theorem XW {l:List UInt8} {p:Nat} {q:Int} (h:Iv l p q) (hv:validD l=true):(D1 ⟨l.toArray⟩ p).2.2=0\/(D1 ⟨l.toArray⟩ p).2.2=41\/(D1 ⟨l.toArray⟩ p).2.2=42:=by
 rw[Mm h hv];exact Pd q _ _ _ _
end
section
set_option maxRecDepth 100000
def Ael (bs:List UInt8) (c:UInt8) (w:Y) (e:Ending) (w':Y):Prop:=∃ k:Int,e=.returned (I J k)/\decide (0<=k)=Ar bs c/\w'=w
theorem Z6 (bs:List UInt8) (c:UInt8) (b cap:Nat) (w:Y) (hs:bs.length<=1000) (hc:∀ i,i<bs.length->w.cell? ⟨b,i,O⟩=F (.int .u8 (((bs.getD i 0).toNat:Nat):Int))):
  Calls Tryz.prog 249 #[Z (F ⟨b,0,O⟩) bs.length cap,.int .u8 ((c.toNat:Nat):Int)] w (Ael bs c w):=by
 obtain⟨n,hn⟩:∃ n,bs.length=n:=⟨_,rfl⟩
 rw[hn] at hs hc |-;have HN:=hid hn;clear hn;have hcb:(c.toNat:Int)<256:=by have:=c.toNat_lt;omega
 go_enter Tryz.func249,Tryz.ntmps249;go_wp2;go_loop [8] (fun i=>∃ k:Nat,k<=n/\i=I J k/\Hid (Ar (bs.take k) c=false)) (fun i=>n - (intOf i).toNat)
 case atStart=>exact⟨0,by omega,rfl,hid rfl⟩
 case round=>
  obtain⟨k,hk,rfl,HF⟩:=hrel;by_cases hlt:k<n
  ·have hck:=hc k hlt;obtain⟨d,hd⟩:∃ d,bs.getD k 0=d:=⟨_,rfl⟩
   rw[hd] at hck;have HT:=hid (show Ar (bs.take (k+1)) c=(Ar (bs.take k) c||c==d) by
    rw[OF (by rw[HN.out];exact hlt),<- hd,List.getD,List.getElem?_eq_getElem (by rw[HN.out];exact hlt)];rfl)
   have HA:=hid (show c=d->Ar bs c=true from fun e=>U8.2 (by rw[e,<- hd,List.getD,List.getElem?_eq_getElem (by rw[HN.out];exact hlt)];exact List.getElem_mem _));clear hc hd;by_cases hcd:c=d
   ·have HA':=hid (HA.out hcd);subst hcd;clear HA HT;go_wp2;go_ret;exact⟨k,rfl,by rw[HA'.out];simp,rfl⟩
   ·have hne:((c.toNat:Int)==(d.toNat:Int))=false:=by
     rw[<- Bool.not_eq_true,beq_iff_eq];intro h;exact hcd (UInt8.toNat_inj.1 (by omega))
    have HF':=hid (show Ar (bs.take (k+1)) c=false by rw[HT.out,HF.out,Bool.false_or,beq_eq_false_iff_ne];exact hcd);clear hcd HA HT;go_wp2;go_round
    case rel=>exact⟨k+1,by omega,by go_num,HF'⟩
    case measure=>simp[intOf];omega
  ·go_wp2;go_ret;have h:=HF.out;rw[List.take_of_length_le (by rw[HN.out];omega)] at h;exact⟨-1,rfl,by rw[h];rfl,rfl⟩
theorem Ud (bs:List UInt8) (c:UInt8) (b cap:Nat) (w:Y) (hs:bs.length<=1000) (hc:∀ i,i<bs.length->w.cell? ⟨b,i,O⟩=F (.int .u8 (((bs.getD i 0).toNat:Nat):Int))):
  Calls Tryz.prog 222 #[Z (F ⟨b,0,O⟩) bs.length cap,.int .u8 ((c.toNat:Nat):Int)] w fun e w'=>e=.returned (.bool (Ar bs c))/\w'=w:=by
 have hI:=Z6 bs c b cap w hs hc;clear hc;go_enter Tryz.func222,Tryz.ntmps222;go_wp2_with fail;refine hI.mono ?_;rintro e w1 ⟨k,rfl,hk,hw⟩;subst w1;have HK:=hid hk;clear hk;go_wp2;go_ret;exact⟨by rw[<- HK.out];rfl,rfl⟩
def RA (w:Y) (R:Nat) (s:ByteArray) (p d:Nat):Prop:=w.heap[R]? =F (.cells #[Q s,I J p,I J d] 282)
theorem RA.below {w w':Y} {R:Nat} {s:ByteArray} {p d:Nat} (h:RA w R s p d) (hb:Below w.heap.size w w'):RA w' R s p d:=AW h hb
theorem RA.cells {w:Y} {R:Nat} {s:ByteArray} {p d:Nat} (h:RA w R s p d):w.cell? ⟨R,0,O⟩=F (Q s)/\w.cell? ⟨R,1,O⟩=F (I J p)/\w.cell? ⟨R,2,O⟩=F (I J d)/\w.frozen? ⟨R,0,O⟩=false/\w.frozen? ⟨R,1,O⟩=false/\w.frozen? ⟨R,2,O⟩=false:=EM h
theorem RA.alloc {w:Y} {R:Nat} {s:ByteArray} {p d:Nat} (h:RA w R s p d) (o:Obj):RA (w.alloc o) R s p d:=h.below ((Bq _ w).alloc Nr o)
theorem RA.lt {w:Y} {R:Nat} {s:ByteArray} {p d:Nat} (h:RA w R s p d):R<w.heap.size:=(Gl h)
theorem Aio {s:ByteArray} {i:Nat} (hlt:i<s.size) (bs:List UInt8):Cg s.data.toList i bs=Ar bs (s[i]'hlt):=by
 unfold Cg;rw[DB s i hlt,<- Lib.size_eq];simp[hlt]
theorem Aix {s:ByteArray} {i:Nat} (hlt:¬i<s.size) (bs:List UInt8):Cg s.data.toList i bs=false:=by
 unfold Cg;rw[<- Lib.size_eq];simp[hlt]
theorem Qa (w:Y) (bs:List UInt8) (fz:Nat×Nat) (i:Nat) (hi:i<bs.length):(w.alloc (.cells (bs.map fun c=>Value.int .u8 ((c.toNat:Nat):Int)).toArray 5 fz)).cell? ⟨w.heap.size,i,O⟩=F (.int .u8 (((bs.getD i 0).toNat:Nat):Int)):=by
 have h:=Wn w (.cells (bs.map fun c=>Value.int .u8 ((c.toNat:Nat):Int)).toArray 5 fz);unfold World.cell?;rw[h];simp[List.getD,hi]
theorem VG (R:Nat) (s:ByteArray) (p d:Nat) (z:Int) (i:Nat) (bs:List UInt8) (b cap:Nat) (w:Y) (hs:s.size<=1000000) (hz:(p:Int)+z=(i:Int)) (hi:i<=2000000) (hbs:bs.length<=1000) (hR:RA w R s p d)
  (hc:∀ i,i<bs.length->w.cell? ⟨b,i,O⟩=F (.int .u8 (((bs.getD i 0).toNat:Nat):Int))):
  Calls Tryz.prog 187 #[.pointer (F ⟨R,0,O⟩),I J z,Z (F ⟨b,0,O⟩) bs.length cap] w fun e w'=>e=.returned (.bool (Cg s.data.toList i bs))/\w'=w:=by
 obtain⟨r0,r1,_,_⟩:=hR.cells;obtain⟨L,hL⟩:∃ L,bs.length=L:=⟨_,rfl⟩
 by_cases hlt:i<s.size
 ·obtain⟨c,hcc⟩:∃ c,s[i]'hlt=c:=⟨_,rfl⟩
  have hC:=Ud bs c b cap w hbs hc;have hV:Cg s.data.toList i bs=Ar bs c:=by rw[Aio hlt,hcc]
  rw[hV];rw[hL] at hC |-;have hlti:(i:Int)<(s.size:Int):=by omega
  clear hc hV hR hL;go_enter Tryz.func187,Tryz.ntmps187;go_wp2_with fail;refine hC.mono ?_;rintro e w1 ⟨rfl,hw⟩;subst w1;go_wp2;go_ret;exact⟨rfl,rfl⟩
 ·rw[Aix hlt];have hge:¬(i:Int)<(s.size:Int):=by omega
  clear hc hR hL;go_enter Tryz.func187,Tryz.ntmps187;go_wp2;go_ret;exact⟨rfl,rfl⟩
theorem FD (R:Nat) (s:ByteArray) (p d:Nat) (z:Int) (i:Nat) (bs:List UInt8) (n cap:Nat) (fz:Nat×Nat) (w:Y) (hs:s.size<=1000000) (hz:(p:Int)+z=(i:Int)) (hi:i<=2000000) (hn:bs.length=n) (hbs:n<=1000) (hR:RA w R s p d):
  Calls Tryz.prog 187 #[.pointer (F ⟨R,0,O⟩),I J z,Z (F ⟨w.heap.size,0,O⟩) n cap] (w.alloc (.cells (bs.map fun c=>Value.int .u8 ((c.toNat:Nat):Int)).toArray 5 fz)) fun e w'=>e=.returned (.bool (Cg s.data.toList i bs))/\Below w.heap.size w w':=by
 subst hn;refine(VG R s p d z i bs w.heap.size cap _ hs hz hi hbs (hR.alloc _) (Qa w bs fz)).mono ?_;rintro e w' ⟨rfl,hw⟩;subst w';exact⟨rfl,(Bq _ w).alloc Nr _⟩
theorem FM (R:Nat) (s:ByteArray) (p d:Nat) (z:Int) (i:Nat) (bs:List UInt8) (n cap:Nat) (w:Y) (hs:s.size<=1000000) (hz:(p:Int)+z=(i:Int)) (hi:i<=2000000) (hn:bs.length=n) (hbs:n<=1000) (hR:RA w R s p d):
  Calls Tryz.prog 187 #[.pointer (F ⟨R,0,O⟩),I J z,Z (F ⟨w.heap.size,0,O⟩) n cap] (w.alloc (.cells (bs.map fun c=>Value.int .u8 ((c.toNat:Nat):Int)).toArray 5)) fun e w'=>e=.returned (.bool (Cg s.data.toList i bs))/\Below w.heap.size w w':=
 FD R s p d z i bs n cap (0,0) w hs hz hi hn hbs hR
def Ah (w:Y) (R:Nat) (s:ByteArray) (p d:Nat) (w':Y):Prop:=Below w.heap.size w w'/\RA w' R s p d
theorem Ah.refl {w:Y} {R:Nat} {s:ByteArray} {p d:Nat} (h:RA w R s p d):Ah w R s p d w.drew:=⟨(Bq _ w).drew,h⟩
theorem Ah.step {w:Y} {R:Nat} {s:ByteArray} {p d:Nat} {w1 w2:Y} (h:Ah w R s p d w1) (hb:Below w1.heap.size w1 w2):Ah w R s p d w2:=
 ⟨h.1.trans (hb.mono h.1.size),h.2.below hb⟩
theorem Ah.alloc {w:Y} {R:Nat} {s:ByteArray} {p d:Nat} {w1:Y} (h:Ah w R s p d w1) (o:Obj):Ah w R s p d (w1.alloc o):=h.step ((Bq _ w1).alloc Nr o)
theorem Ah.all {w:Y} {R:Nat} {s:ByteArray} {p d:Nat} {w':Y} (h:Ah w R s p d w'):w'.cell? ⟨R,0,O⟩=F (Q s)/\w'.cell? ⟨R,1,O⟩=F (I J p)/\w'.cell? ⟨R,2,O⟩=F (I J d):=⟨h.2.cells.1,h.2.cells.2.1,h.2.cells.2.2.1⟩
theorem LC (R:Nat) (s:ByteArray) (p d:Nat) (z i:Nat) (w:Y) (hs:s.size<=1000000) (hz:p+z=i) (hi:i<=2000000) (hR:RA w R s p d):
  Calls Tryz.prog 271 #[.pointer (F ⟨R,0,O⟩),I J z] w fun e w'=>e=.returned (.bool (BI s.data.toList i))/\Below w.heap.size w w':=by
 obtain⟨r0,r1,r2,_⟩:=hR.cells;have hz':(p:Int)+(z:Int)=(i:Int):=by omega
 by_cases hlt:i<s.size
 ·have hV:BI s.data.toList i=Cg s.data.toList i [32]:=by unfold BI;rw[<- Lib.size_eq,decide_eq_false (by omega)];rfl
  rw[hV];have hd:decide ((s.size:Int)<=(i:Int))=false:=by simp;omega
  have hd2:decide (s.size<=i)=false:=by simp;omega
  have hw:IntKind.i64.wrap (i:Int)=(i:Int):=IntWalk.i64_in _ (by omega);have hH:=Ah.refl hR;go_enter Tryz.func271,Tryz.ntmps271;go_wp2;go_region_held3 (fun w'=>w'.cell? ⟨R,0,O⟩=F (Q s)/\w'.cell? ⟨R,1,O⟩=F (I J p)/\w'.cell? ⟨R,2,O⟩=F (I J d)) (first | exact Ah.all (by assumption) | exact Ah.all (Ah.alloc (by assumption) _)) (first | (go_at_call 187;refine(FM R s p d z i [32] 1 _ _ hs hz' hi rfl (by omega) (And.right (a:=Below w.heap.size w _) (by assumption))).mono ?_;rintro e wz ⟨rfl,hb⟩;have hz:Ah w R s p d wz:=Ah.step (by assumption) hb));go_wp2;go_ret;exact⟨rfl,hz.1⟩
 ·have hV:BI s.data.toList i=true:=by unfold BI;rw[<- Lib.size_eq,decide_eq_true (by omega)];rfl
  rw[hV];have hd:decide ((s.size:Int)<=(i:Int))=true:=by simp;omega
  have hd2:decide (s.size<=i)=true:=by simp;omega
  have hw:IntKind.i64.wrap (i:Int)=(i:Int):=IntWalk.i64_in _ (by omega);have hH:=Ah.refl hR;go_enter Tryz.func271,Tryz.ntmps271;go_wp2;go_quiet (fail);go_wp2;go_ret;exact⟨rfl,below_drewN (Bq _ _)⟩
theorem DV (R:Nat) (s:ByteArray) (p d:Nat) (w:Y) (hs:s.size<=1000000) (hp:p<=1000000) (hR:RA w R s p d):
  Calls Tryz.prog 188 #[.pointer (F ⟨R,0,O⟩)] w fun e w'=>e=.returned (.bool (BA s.data.toList p))/\Below w.heap.size w w':=by
 have hI1:=fun wx hx=>FM R s p d 0 p [35] 1 1 wx hs (by omega) (by omega) rfl (by omega) hx;cases h1:Cg s.data.toList p [35] with
 | false=>
  rw[h1] at hI1;have HV:=hid (show BA s.data.toList p=false by unfold BA;rw[h1];rfl);clear h1;go_enter Tryz.func188,Tryz.ntmps188;go_wp2_with fail;refine(hI1 _ hR).mono ?_;rintro e w1 ⟨rfl,hb1⟩;clear hI1;go_wp2;go_ret;exact⟨by rw[HV.out];rfl,hb1⟩
 | true=>
  rw[h1] at hI1;by_cases h0:p=0
  ·have HV:=hid (show BA s.data.toList p=true by unfold BA;rw[h1,h0];rfl);subst h0;clear h1;go_enter Tryz.func188,Tryz.ntmps188;go_wp2_with fail;refine(hI1 _ hR).mono ?_;rintro e w1 ⟨rfl,hb1⟩;clear hI1;obtain⟨r0,r1,r2,_⟩:=(hR.below hb1).cells;go_wp2;go_ret;exact⟨by rw[HV.out];rfl,hb1⟩
  ·obtain⟨k,rfl⟩:∃ k,p=k+1:=⟨p - 1,by omega⟩
   have hI2:=fun wx hx=>FM R s (k+1) d (-1) k [32] 1 1 wx hs (by omega) (by omega) rfl (by omega) hx;have HV:=hid (show BA s.data.toList (k+1)=Cg s.data.toList k [32] by unfold BA;rw[h1,show k+1 - 1=k from rfl];simp);have hne:(((k+1:Nat):Int)==0)=false:=by rw[beq_eq_false_iff_ne];omega
   clear h0 h1;obtain⟨q,hq⟩:∃ q,k+1=q:=⟨_,rfl⟩
   rw[hq] at hI1 hI2 HV hR hne hp |-;clear hq;go_enter Tryz.func188,Tryz.ntmps188;go_wp2_with fail;refine(hI1 _ hR).mono ?_;rintro e w1 ⟨rfl,hb1⟩;clear hI1;have hR1:=hR.below hb1;obtain⟨r0,r1,r2,_⟩:=hR1.cells;go_wp2_with fail;refine(hI2 _ hR1).mono ?_;rintro e w2 ⟨rfl,hb2⟩;clear hI2;go_wp2;go_ret;exact⟨by rw[HV.out];rfl,hb1.trans (hb2.mono hb1.size)⟩
theorem BQ (R:Nat) (s:ByteArray) (p d:Nat) (z i:Nat) (w:Y) (hs:s.size<=1000000) (hz:p+z=i) (hi:i<=2000000) (hR:RA w R s p d):
  Calls Tryz.prog 269 #[.pointer (F ⟨R,0,O⟩),I J z] w fun e w'=>e=.returned (.bool (AC s.data.toList i d))/\Below w.heap.size w w':=by
 have hB:=fun wx hx=>LC R s p d z i wx hs hz hi hx;have hI:=fun wx hx=>FD R s p d z i Cc 5 5 (5,6) wx hs (by omega) hi rfl (by omega) hx;have hcv:=fun(w:Y) (C:Array Value) (n c:Nat)=>Lib.run_convert_bytes_const (P:=Tryz.prog) w 71 5 C n c Tryz.underlying71 Tryz.underlying5;cases hb:BI s.data.toList i with
 | true=>
  rw[hb] at hB;have HV:=hid (show AC s.data.toList i d=true by unfold AC;rw[hb];rfl);clear hb hz;go_enter Tryz.func269,Tryz.ntmps269;go_wp2_with fail;refine(hB _ hR).mono ?_;rintro e w1 ⟨rfl,hb1⟩;clear hB hI;go_wp2;go_ret;exact⟨by rw[HV.out];rfl,hb1⟩
 | false=>
  rw[hb] at hB;have HV:=hid (show AC s.data.toList i d=(decide (0<d)&&Cg s.data.toList i Cc) by unfold AC;rw[hb];rfl);clear hb hz;by_cases hd:0<d
  ·have hdi:(0:Int)<(d:Int):=by omega
   rw[show decide (0<d)=true by simpa using hd] at HV;go_enter Tryz.func269,Tryz.ntmps269;go_wp2_with fail;refine(hB _ hR).mono ?_;rintro e w1 ⟨rfl,hb1⟩;clear hB;have hR1:=hR.below hb1;obtain⟨r0,r1,r2,_⟩:=hR1.cells;go_wp2_with fail;refine(hI _ hR1).mono ?_;rintro e w2 ⟨rfl,hb2⟩;clear hI;go_wp2;go_ret;exact⟨by rw[HV.out];rfl,hb1.trans (hb2.mono hb1.size)⟩
  ·have hdi:¬(0:Int)<(d:Int):=by omega
   rw[show decide (0<d)=false by simpa using hd] at HV;go_enter Tryz.func269,Tryz.ntmps269;go_wp2_with fail;refine(hB _ hR).mono ?_;rintro e w1 ⟨rfl,hb1⟩;clear hB hI;obtain⟨r0,r1,r2,_⟩:=(hR.below hb1).cells;go_wp2;go_ret;exact⟨by rw[HV.out];rfl,hb1⟩
end
section
theorem XJ (c d:UInt8):Ar [d] c=((c.toNat:Int)==(d.toNat:Int)):=by
 rw[PO];unfold Ar;rw[Bool.eq_iff_iff];simp
theorem Aea {s:ByteArray} {i:Nat} (hlt:i<s.size) {c:UInt8} (hc:s[i]'hlt=c) (d:UInt8):Cg s.data.toList i [d]=((c.toNat:Int)==(d.toNat:Int)):=by
 unfold Cg;rw[DB s i hlt,<- Lib.size_eq,hc,XJ];simp[hlt]
theorem Yr {p:UInt8->Bool} {l:List UInt8} {k:Nat} (h:k<l.length):(l.take (k+1)).all p=((l.take k).all p&&p (l.getD k 0)):=by
 rw[List.take_succ_eq_append_getElem h,List.all_append];simp[List.getD,List.getElem?_eq_getElem h]
theorem VH {p:UInt8->Bool} {l:List UInt8} {k:Nat} (h:k<l.length) (hz:p (l.getD k 0)=false):l.all p=false:=by
 rw[List.all_eq_false];refine⟨l[k],List.getElem_mem h,?_⟩;simpa[List.getD,List.getElem?_eq_getElem h] using hz
def CQ (t:Tk):List Value:=[I J t.kind,Q ⟨t.str.toArray⟩,I J t.at_]
def CJ (t:Tk):Value:=.agg #[I J t.kind,Q ⟨t.str.toArray⟩,I J t.at_]
def Ii (w:Y) (v:Value) (ts:List Tk):Prop:=
 ∃ (A:Option Addr) (cap:Nat),v=Z A ts.length cap/\∀ k,k<ts.length->∃ (b o:Nat),A=F ⟨b,o,O⟩/\b<w.heap.size∧
  w.cell? ⟨b,o+k*3,O⟩=F (I J (ts.getD k ⟨0,[],0⟩).kind)/\w.cell? ⟨b,o+k*3+1,O⟩=F (Q ⟨(ts.getD k ⟨0,[],0⟩).str.toArray⟩)/\w.cell? ⟨b,o+k*3+2,O⟩=F (I J (ts.getD k ⟨0,[],0⟩).at_)
theorem Ii.nil (w:Y):Ii w (Z O 0 0) []:=⟨O,0,rfl,fun k h=>by simp at h⟩
theorem Ii.below {w w':Y} {v:Value} {ts:List Tk} (h:Ii w v ts) (hb:Below w.heap.size w w'):Ii w' v ts:=by
 obtain⟨A,cap,hv,hc⟩:=h;refine⟨A,cap,hv,fun k hk=>?_⟩;obtain⟨b,o,ha,hlt,h0,h1,h2⟩:=hc k hk;exact⟨b,o,ha,Nat.lt_of_lt_of_le hlt hb.size,(hb.cell (p:=⟨b,o+k*3,O⟩) hlt).trans h0,(hb.cell (p:=⟨b,o+k*3+1,O⟩) hlt).trans h1,(hb.cell (p:=⟨b,o+k*3+2,O⟩) hlt).trans h2⟩
end
end Go.Proofs.YtdpppepmkeinaaaGreatDoor
