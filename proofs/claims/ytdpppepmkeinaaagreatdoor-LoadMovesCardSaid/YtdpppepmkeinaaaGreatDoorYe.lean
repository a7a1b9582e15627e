/- What is proved: a part of the walk of the program and of its plain laws; no condition beside those that each theorem names. -/
import Derived.Test.YtdpppepmkeinaaaGreatDoorYd
import Derived.Test.YtdpppepmkeinaaaGreatDoorYa
import Derived.Lib.MapLaws
namespace Go.Proofs.YtdpppepmkeinaaaGreatDoor
open Go Go.RowKit Go.Lib
open Go.Value renaming int->I,string->Q,slice->Z
open Go.IntKind renaming i64->J
open Option renaming none->O,some->F
open _root_.Go renaming World->Y
set_option linter.unusedSimpArgs false
set_option linter.unusedVariables false
set_option linter.unusedSectionVars false
section
set_option maxHeartbeats 4000000
set_option maxRecDepth 100000
inductive QP
 | sign (r:Int) (tq:Nat)
 | fin (tq:Nat)
 | bad (e:Int)
def GF:QP->Value
 | .sign r tq=>.iface 431 (.agg #[.int .i32 r,I J tq])
 | .fin tq=>.iface 433 (.agg #[I J tq])
 | .bad e=>.iface 435 (.agg #[I J e])
def Jq (l:List UInt8) (k:Nat):Option Nat:=
 if l.length<k then O else match Ds 0 (l.take k) with
 | none=>O
 | some v=>if Lib.validRune (v:Int) then F v else O
def GG (s:ByteArray) (p k:Nat):QP:=match Jq (s.data.toList.drop p) k with
 | some v=>.sign v (p+k)
 | none=>.bad 41
theorem YZ {l:List UInt8} {c:UInt8} (h:c=43\/c=45) (acc:Nat):Ds acc (c::l)=O:=by
 rcases h with rfl | rfl<;>rfl
theorem OR {l:List UInt8} {k:Nat} (h:l.length<k):Jq l k=O:=by unfold Jq;rw[if_pos h]
theorem PY (s:ByteArray) (p k:Nat):(s.extract p (p+k)).data.toList=(s.data.toList.drop p).take k:=by rw[<- Lib.toList_data];exact Sq s p k
theorem LL (s:ByteArray) (i:Nat) (h:i<s.size) (x:Int) (hx:Bw s i=x) (h0:x<128):x=((s[i]'h).toNat:Int):=by
 rw[GX s i h,<- Lib.decodeL_drop] at hx;have hne:=Ej s i h;have hd:s.data.toList.drop i=s[i]'h::s.data.toList.drop (i+1):=by
  rw[List.drop_eq_getElem_cons (by rw[<- Lib.size_eq];exact h)];rfl
 rw[hd] at hx;by_cases hb:(s[i]'h).toNat<128
 ·rw[decodeL_ascii _ _ hb] at hx;omega
 ·have:=E7 (s[i]'h) (s.data.toList.drop (i+1)) (by omega);omega
theorem VR (s:ByteArray) (p k:Nat) (hk:0<k) (h:BC [43,45] (Bw s p)=true):Jq (s.data.toList.drop p) k=O:=by
 by_cases hl:p<s.size
 ·unfold BC at h;have h':Bw s p=43\/Bw s p=45:=by simpa using h
  have hb:=LL s p hl _ rfl (by omega);have hc:s[p]'hl=43\/s[p]'hl=45:=by
   rcases h' with h' | h'
   ·left;exact UInt8.toNat_inj.1 (by show _=43;omega)
   ·right;exact UInt8.toNat_inj.1 (by show _=45;omega)
  have hd:s.data.toList.drop p=s[p]'hl::s.data.toList.drop (p+1):=by
   rw[List.drop_eq_getElem_cons (by rw[<- Lib.size_eq];exact hl)];rfl
  unfold Jq;split
  ·rfl
  ·obtain⟨k',rfl⟩:∃ k',k=k'+1:=⟨k - 1,by omega⟩
   rw[hd,List.take_succ_cons,YZ hc]
 ·exact OR (by rw[List.length_drop,<- Lib.size_eq];omega)
def Ez (w:Y) (b:Nat) (s:ByteArray) (q:Int):Prop:=w.heap[b]? =F (.cells #[Q s,.int .i32 q] 426)
theorem Ez.below {w w':Y} {b:Nat} {s:ByteArray} {q:Int} (h:Ez w b s q) (hb:Below w.heap.size w w'):Ez w' b s q:=AW h hb
theorem Ez.cells {w:Y} {b:Nat} {s:ByteArray} {q:Int} (h:Ez w b s q):w.cell? ⟨b,0,O⟩=F (Q s)/\w.cell? ⟨b,1,O⟩=F (.int .i32 q):=by
 unfold Ez at h;simp[World.cell?,h]
theorem Ez.new {w w':Y} {s:ByteArray} {q:Int} (hb:Below (w.alloc (.cells #[Q s,.int .i32 q] 426)).heap.size (w.alloc (.cells #[Q s,.int .i32 q] 426)) w'):Ez w' w.heap.size s q:=Eq _ _ hb
theorem MA (s:ByteArray) (q:Int) (p k:Nat) (w:Y) (hs:s.size<=1000000) (hk:k=2\/k=4) (hp:p<=1000002) (hT:BU w):
  Calls Tryz.prog 299 #[rdV s q,I J p,I J k] w fun e w'=>e=.returned (GF (GG s p k))/\Below w.heap.size w w':=by
 have hkb:k<=4/\2<=k:=by omega
 obtain⟨hk4,hk2⟩:=hkb;clear hk;have hb0:Below w.heap.size w (w.alloc (.cells #[Q s,.int .i32 q] 426)):=(Bq _ w).alloc Nr _;by_cases hlen:s.size<p+k
 ·have hgt:(s.size:Int)<(p:Int)+(k:Int):=by omega
  have hN:GG s p k=.bad 41:=by unfold GG;rw[OR (by rw[List.length_drop,<- Lib.size_eq];omega)]
  rw[hN];clear hN hlen;go_enter Tryz.func299,Tryz.ntmps299;go_wp2;go_ret;exact⟨rfl,hb0⟩
 have hle:(p:Int)+(k:Int)<=(s.size:Int):=by omega
 have hm:∀ b,BC [43,45] (Bw s p)=b->Hid (BC [43,45] (Bw s p)=b):=fun _ h=>hid h;cases hmm:BC [43,45] (Bw s p) with
 | true=>
  have hN:GG s p k=.bad 41:=by unfold GG;rw[VR s p k (by omega) hmm]
  rw[hN];have HM:=hm _ hmm;clear hN hlen hm hmm;go_enter Tryz.func299,Tryz.ntmps299;go_wp2_with fail;refine(Hd s q p _ hs (by omega) (hT.below hb0)).mono ?_;rintro e w1 ⟨rfl,hb1⟩;have hb2:=hb0.trans (hb1.mono hb0.size);go_wp2_with fail;refine(FU (Bw s p) [43,45] 2 2 _ rfl (by decide)).mono ?_;rintro e w2 ⟨rfl,hb3⟩;rw[HM.out];have hb4:=hb2.trans (hb3.mono hb2.size);go_wp2;go_ret;exact⟨rfl,hb4⟩
 | false=>
  have HM:=hm _ hmm;obtain⟨t,ht⟩:∃ t,s.extract p (p+k)=t:=⟨_,rfl⟩
  have hts:t.size=k:=by rw[<- ht,ByteArray.size_extract];omega
  have htl:t.data.toList=(s.data.toList.drop p).take k:=by rw[<- ht];exact PY s p k
  have hN:Jq (s.data.toList.drop p) k=match Ds 0 t.data.toList with | none=>O | some v=>if Lib.validRune (v:Int) then F v else O:=by
   unfold Jq;rw[if_neg (by rw[List.length_drop,<- Lib.size_eq];omega),htl]
  have HS:=hid ht;have hsl:∀ wx:Y,(Instr.slice 9 (Q s) (F (I J p)) (F (I J ((p:Int)+(k:Int)))) O).run Tryz.prog wx=.ok (Q t) wx:=fun wx=>by
   have h:=run_slice_string (P:=Tryz.prog) wx 9 s .i64 .i64 p ((p:Int)+(k:Int)) (by kernel_rfl) (by omega) (by omega) (by omega);rw[show((p:Int)).toNat=p by omega,show((p:Int)+(k:Int)).toNat=p+k by omega,ht] at h;exact h
  clear hm hmm ht htl hlen;cases hx:Ds 0 t.data.toList with
  | none=>
   rw[hx] at hN;have hQ:GG s p k=.bad 41:=by unfold GG;rw[hN]
   rw[hQ];have hP:=fun wx hx'=>QN t (by omega) (by omega) hx wx hx';clear hN hQ hx;go_enter Tryz.func299,Tryz.ntmps299;go_wp2_with fail;refine(Hd s q p _ hs (by omega) (hT.below hb0)).mono ?_;rintro e w1 ⟨rfl,hb1⟩;have hb2:=hb0.trans (hb1.mono hb0.size);have hr1:Ez w1 w.heap.size s q:=Ez.new hb1;clear hb1;go_wp2_with fail;refine(FU (Bw s p) [43,45] 2 2 _ rfl (by decide)).mono ?_;rintro e w2 ⟨rfl,hb3⟩;rw[HM.out];have hb4:=hb2.trans (hb3.mono hb2.size);have hr2:=hr1.below hb3;obtain⟨a0,a1⟩:=hr2.cells;clear hb3 hr1 hr2 hb2;go_wp2_with fail;refine(hP _ (hT.below hb4)).mono ?_;rintro e w3 ⟨N,rfl,hb5⟩;have hb6:=hb4.trans (hb5.mono hb4.size);clear hP hb5;go_wp2;go_ret;exact⟨rfl,hb6⟩
  | some v=>
   rw[hx] at hN;have hP:=fun wx=>Uj t (by omega) (by omega) v hx wx;have hv:v<=65535:=by
    have h1:=Xt _ _ _ hx;have h2:16 ^ t.data.toList.length<=16 ^ 4:=Nat.pow_le_pow_right (by omega) (by rw[<- Lib.size_eq];omega);omega
   have hv0:(0:Int)<=(v:Int):=by omega
   have hv1:(v:Int)<=65535:=by omega
   cases hva:Lib.validRune (v:Int) with
   | true=>
    have hQ:GG s p k=.sign v (p+k):=by unfold GG;rw[hN];dsimp only;rw[hva];rfl
    rw[hQ];have hV:=fun wx=>Tryz.utf8_ValidRune (v:Int) wx;rw[hva] at hV;clear hN hQ hx hva;go_enter Tryz.func299,Tryz.ntmps299;go_wp2_with fail;refine(Hd s q p _ hs (by omega) (hT.below hb0)).mono ?_;rintro e w1 ⟨rfl,hb1⟩;have hb2:=hb0.trans (hb1.mono hb0.size);have hr1:Ez w1 w.heap.size s q:=Ez.new hb1;clear hb1;go_wp2_with fail;refine(FU (Bw s p) [43,45] 2 2 _ rfl (by decide)).mono ?_;rintro e w2 ⟨rfl,hb3⟩;rw[HM.out];have hb4:=hb2.trans (hb3.mono hb2.size);have hr2:=hr1.below hb3;obtain⟨a0,a1⟩:=hr2.cells;clear hb3 hr1 hr2 hb2;go_wp2_with fail;refine(hP _).mono ?_;rintro e w3 ⟨rfl,hb5⟩;have hb6:=hb4.trans (hb5.mono hb4.size);clear hP hb5;go_wp2_with fail;refine(hV _).mono ?_;rintro e w4 ⟨rfl,hw⟩;subst w4;clear hV;go_wp2;go_ret;exact⟨rfl,hb6⟩
   | false=>
    have hQ:GG s p k=.bad 41:=by unfold GG;rw[hN];dsimp only;rw[hva];rfl
    rw[hQ];have hV:=fun wx=>Tryz.utf8_ValidRune (v:Int) wx;rw[hva] at hV;clear hN hQ hx hva;go_enter Tryz.func299,Tryz.ntmps299;go_wp2_with fail;refine(Hd s q p _ hs (by omega) (hT.below hb0)).mono ?_;rintro e w1 ⟨rfl,hb1⟩;have hb2:=hb0.trans (hb1.mono hb0.size);have hr1:Ez w1 w.heap.size s q:=Ez.new hb1;clear hb1;go_wp2_with fail;refine(FU (Bw s p) [43,45] 2 2 _ rfl (by decide)).mono ?_;rintro e w2 ⟨rfl,hb3⟩;rw[HM.out];have hb4:=hb2.trans (hb3.mono hb2.size);have hr2:=hr1.below hb3;obtain⟨a0,a1⟩:=hr2.cells;clear hb3 hr1 hr2 hb2;go_wp2_with fail;refine(hP _).mono ?_;rintro e w3 ⟨rfl,hb5⟩;have hb6:=hb4.trans (hb5.mono hb4.size);clear hP hb5;go_wp2_with fail;refine(hV _).mono ?_;rintro e w4 ⟨rfl,hw⟩;subst w4;clear hV;go_wp2;go_ret;exact⟨rfl,hb6⟩
def Cr (x:Int):Option Int:=if x=110 then F 10 else if x=116 then F 9 else if x=114 then F 13 else O
def O6 (s:ByteArray) (p:Nat) (x:Int):QP:=
 if s.size<=p then .bad 41
 else if BC [34,92,47] x then .sign x (p+1)
 else if x=48 then .sign 0 (p+1)
 else if x=120 then GG s (p+1) 2
 else if x=117 then GG s (p+1) 4
 else match Cr x with
 | some y=>.sign y (p+1)
 | none=>.bad 41
def O0 (s:ByteArray) (p:Nat):QP:=O6 s p (Bw s p)
def Bu:Array MapEntry:=#[{key:=.int .i32 10,val:=.int .i32 110,born:=0},{key:=.int .i32 9,val:=.int .i32 116,born:=1},{key:=.int .i32 13,val:=.int .i32 114,born:=2}]
theorem TN:BL 3=.map Bu 3:=rfl
theorem YH {e:MapEntry} (h:e∈Bu.toList):∃ y l:Int,e.key=.int .i32 y/\e.val=.int .i32 l/\Cr l=F y:=by
 simp[Bu] at h;rcases h with rfl | rfl | rfl
 ·exact⟨10,110,rfl,rfl,rfl⟩
 ·exact⟨9,116,rfl,rfl,rfl⟩
 ·exact⟨13,114,rfl,rfl,rfl⟩
theorem YC {x:Int} (h:∀ e∈Bu.toList,e.val≠ .int .i32 x):Cr x=O:=by
 have h0:=h _ (show({key:=.int .i32 10,val:=.int .i32 110,born:=0}:MapEntry)∈Bu.toList by simp[Bu]);have h1:=h _ (show({key:=.int .i32 9,val:=.int .i32 116,born:=1}:MapEntry)∈Bu.toList by simp[Bu]);have h2:=h _ (show({key:=.int .i32 13,val:=.int .i32 114,born:=2}:MapEntry)∈Bu.toList by simp[Bu]);unfold Cr;rw[if_neg (fun e=>h0 (by rw[e])),if_neg (fun e=>h1 (by rw[e])),if_neg (fun e=>h2 (by rw[e]))]
theorem GA:MapKept.Stamped Bu 3:=by
 refine⟨fun x hx=>?_,by simp[Bu],by simp[Bu]⟩;simp[Bu] at hx;rcases hx with rfl | rfl | rfl<;>decide
theorem Aad {es:Array MapEntry} {clock:Nat} (hst:MapKept.Stamped es clock) {a b:MapEntry} (ha:a∈es.toList) (hb:b∈es.toList) (h:a.born=b.born):a=b:=by
 have h1:=find_born a es.toList hst.2.1 ha;have h2:=find_born b es.toList hst.2.1 hb;rw[h,h2] at h1;exact(Option.some.inj h1).symm
theorem Ac2 {s:ByteArray} {p:Nat} {x:Int} (h:s.size<=p):O6 s p x=.bad 41:=by unfold O6;rw[if_pos h]
theorem UV (s:ByteArray) (q:Int) (p:Nat) (w:Y) (hs:s.size<=1000000) (hp:p<=1000001) (hT:BU w):
  Calls Tryz.prog 296 #[rdV s q,I J p] w fun e w'=>e=.returned (GF (O0 s p))/\Below w.heap.size w w':=by
 have hb0:Below w.heap.size w (w.alloc (.cells #[Q s,.int .i32 q] 426)):=(Bq _ w).alloc Nr _;obtain⟨x,hx⟩:∃ x,Bw s p=x:=⟨_,rfl⟩
 have hA:=fun wx hx'=>Hd s q p wx hs (by omega) hx';rw[hx] at hA;have hE:O0 s p=O6 s p x:=by unfold O0;rw[hx]
 obtain⟨V,hV⟩:∃ V,GF (O0 s p)=V:=⟨_,rfl⟩
 rw[hV];rw[hE] at hV;clear hE hx;by_cases hlen:s.size<=p
 ·have hle:(s.size:Int)<=(p:Int):=by omega
  rw[Ac2 hlen] at hV;have HV:=hid hV;clear hlen hV;go_enter Tryz.func296,Tryz.ntmps296;go_wp2_with fail;refine(hA _ (hT.below hb0)).mono ?_;rintro e w1 ⟨rfl,hb1⟩;have hb2:=hb0.trans (hb1.mono hb0.size);obtain⟨a0,a1⟩:=(Ez.new hb1).cells;clear hb1 hA;go_wp2;go_ret;exact⟨by rw[<- HV.out];rfl,hb2⟩
 have hlt:(p:Int)<(s.size:Int):=by omega
 have HV:=hid hV;clear hV;go_enter Tryz.func296,Tryz.ntmps296;go_wp2_with fail;refine(hA _ (hT.below hb0)).mono ?_;rintro e w1 ⟨rfl,hb1⟩;have hb2:=hb0.trans (hb1.mono hb0.size);have hr1:Ez w1 w.heap.size s q:=Ez.new hb1;obtain⟨a0,a1⟩:=hr1.cells;clear hb1 hA hb0;go_wp2_with fail;refine(FU x [34,92,47] 3 3 _ rfl (by decide)).mono ?_;rintro e w2 ⟨rfl,hb3⟩;have hb4:=hb2.trans (hb3.mono hb2.size);have hr2:=hr1.below hb3;clear hb3 hr1 hb2 a0 a1;obtain⟨a0,a1⟩:=hr2.cells;cases hm:BC [34,92,47] x with
 | true=>
  have hQ:O6 s p x=.sign x (p+1):=by unfold O6;rw[if_neg hlen,if_pos hm]
  have HQ:=hid (HV.out.symm.trans (congrArg GF hQ));clear hQ hm;go_wp2;go_ret;exact⟨by rw[HQ.out];rfl,hb4⟩
 | false=>
  have hQ:O6 s p x=if x=48 then .sign 0 (p+1) else if x=120 then GG s (p+1) 2 else if x=117 then GG s (p+1) 4 else match Cr x with | some y=>.sign y (p+1) | none=>.bad 41:=by unfold O6;rw[if_neg hlen,hm];rfl
  have HQ:=hid (HV.out.symm.trans (congrArg GF hQ));clear hQ hm hlen HV;by_cases h48:x=48
  ·have HR:=hid (HQ.out.trans (congrArg GF (if_pos h48)));subst h48;clear HQ;go_wp2;go_ret;exact⟨by rw[HR.out];rfl,hb4⟩
  have HR:=hid (HQ.out.trans (congrArg GF (if_neg h48)));have b48:(x==48)=false:=by simpa using h48
  clear h48 HQ;by_cases h120:x=120
  ·have HQ:=hid (HR.out.trans (congrArg GF (if_pos h120)));subst h120;clear HR;go_wp2_with fail;refine(MA s q (p+1) 2 _ hs (.inl rfl) (by omega) (hT.below hb4)).mono ?_;rintro e w3 ⟨rfl,hb5⟩;have hb6:=hb4.trans (hb5.mono hb4.size);clear hb5;rw[<- HQ.out];go_wp2;go_ret;exact⟨rfl,hb6⟩
  have HQ:=hid (HR.out.trans (congrArg GF (if_neg h120)));have b120:(x==120)=false:=by simpa using h120
  clear h120 HR;by_cases h117:x=117
  ·have HR:=hid (HQ.out.trans (congrArg GF (if_pos h117)));subst h117;clear HQ;go_wp2_with fail;refine(MA s q (p+1) 4 _ hs (.inr rfl) (by omega) (hT.below hb4)).mono ?_;rintro e w3 ⟨rfl,hb5⟩;have hb6:=hb4.trans (hb5.mono hb4.size);clear hb5;rw[<- HR.out];go_wp2;go_ret;exact⟨rfl,hb6⟩
  have HR:=hid (HQ.out.trans (congrArg GF (if_neg h117)));have b117:(x==117)=false:=by simpa using h117
  clear h117 HQ;go_wp2_with fail;refine(KT _).mono ?_;rintro e w3 ⟨rfl,hw3⟩;obtain⟨bm,hbm⟩:∃ bm,w2.heap.size=bm:=⟨_,rfl⟩
  have hb5:Below w2.heap.size w2 w3:=by rw[hw3];exact(Bq _ w2).alloc Nr _
  have hm3:w3.heap[bm]? =F (.map Bu 3):=by rw[hw3,<- hbm,Wn,TN]
  rw[hbm];clear hw3;have hb6:=hb4.trans (hb5.mono hb4.size);clear hb5 hbm;have hrg:=run_range_map (P:=Tryz.prog) w3 79 21 21 bm Bu 3 Tryz.underlying79 hm3;go_wp2;clear hrg;go_loopw [6] (fun _ wr=>∃ (w1:Y) (seen:Array Nat),wr=w1.alloc (.mapIter (F bm) 3 seen 3)/\w1.heap=w3.heap/\Below w.heap.size w w1/\Hid (∀ e∈Bu.toList,seen.contains e.born=true->e.val≠ .int .i32 x)) (fun _ wr=>(leftOf Bu (wr.iterSeen w3.heap.size)).size)
  case atStart=>exact⟨w3,#[],rfl,rfl,hb6,hid (fun e _ h=>by simp at h)⟩
  case round=>
   obtain⟨w5,seen,rfl,hh,hb7,HS⟩:=hrel;have hsz:w5.heap.size=w3.heap.size:=by rw[hh]
   have hm5:w5.heap[bm]? =F (.map Bu 3):=by rw[hh];exact hm3
   have hb8:Below w.heap.size w (w5.alloc (.mapIter (F bm) 3 seen 3)):=hb7.alloc hb7.size _;have law:=OA (P:=Tryz.prog) w5 0 bm 3 3 seen Bu 3 hm5 GA.1 Nr;rw[hsz] at law;rcases law with ⟨h0,hrun⟩ | ⟨e,he,w6,hal,hrun⟩
   ·have hnone:Cr x=O:=YC (fun e he=>HS.out e he (by
     have h2:leftOf Bu seen=#[]:=Array.eq_empty_of_size_eq_zero h0;cases hc:seen.contains e.born with
     | true=>rfl
     | false=>
      have:e∈leftOf Bu seen:=Array.mem_filter.2 ⟨Array.mem_toList_iff.1 he,by rw[hc];rfl⟩;rw[h2] at this;simp at this))
    have HQ:=hid (HR.out);rw[hnone] at HQ;have hnx:∀ ty,(Instr.next (.pointer (F ⟨w3.heap.size,0,O⟩)) false ty).run Tryz.prog (w5.alloc (.mapIter (F bm) 3 seen 3))=_:=fun _=>hrun;clear hrun hnone HR HS;go_wp2;go_ret;exact⟨by rw[HQ.out];rfl,hb8⟩
   ·have hsz6:w6.heap=w5.heap:=by rcases hal with rfl | rfl<;>rfl
    have hb9:Below w.heap.size w w6:=by rcases hal with rfl | rfl;exact hb7;exact hb7.drew
    obtain⟨y,l,hkey,hval,hq⟩:=YH (mem_left he).1;have hen:=run_entry_map (P:=Tryz.prog) w6 bm 3 seen Bu 3 e (by rw[hsz6];exact hm5) (mem_left he).1 GA.2.1;rw[show w6.heap.size=w3.heap.size by rw[hsz6,hsz],hkey,hval] at hen;rw[hkey,hval] at hrun;have hnx:∀ ty,(Instr.next (.pointer (F ⟨w3.heap.size,0,O⟩)) false ty).run Tryz.prog (w5.alloc (.mapIter (F bm) 3 seen 3))=_:=fun _=>hrun;have hb10:Below w.heap.size w (w6.alloc (.mapIter (F bm) 3 (seen.push e.born) 3)):=hb9.alloc hb9.size _;have hms:(leftOf Bu ((w6.alloc (.mapIter (F bm) 3 (seen.push e.born) 3)).iterSeen w3.heap.size)).size<(leftOf Bu ((w5.alloc (.mapIter (F bm) 3 seen 3)).iterSeen w3.heap.size)).size:=by
     rw[show w3.heap.size=w6.heap.size by rw[hsz6,hsz],World.iterSeen_alloc,show w6.heap.size=w5.heap.size by rw[hsz6],World.iterSeen_alloc];exact left_shrinks Bu seen e he
    have HM:=hid hms;have HE:=hid (Ai (mem_left he).1 (Ai hval hsz6));have HK:=hid (Ai hq hal);clear hrun hms hval hkey hq he hal hsz6;by_cases hxl:x=l
    ·subst hxl;have HQ:=hid (HR.out);rw[HK.out.1] at HQ;clear HR;go_wp2;go_ret;exact⟨by rw[HQ.out];rfl,hb10⟩
    ·have bxl:(x==l)=false:=by simpa using hxl
     clear hxl;go_wp2;go_roundw
     case rel=>
      refine⟨w6,seen.push e.born,rfl,HE.out.2.2.trans hh,hb9,hid (fun e2 he2 hc=>?_)⟩;rw[contains_push,Bool.or_eq_true] at hc;rcases hc with hc | hc
      ·exact HS.out e2 he2 hc
      ·intro hv;have:=Aad GA he2 HE.out.1 (by simpa using hc);subst this;rw[HE.out.2.1] at hv;injection hv with _ hv;simp[hv] at bxl
     case measure=>exact HM.out
end
section
set_option maxHeartbeats 4000000
set_option maxRecDepth 100000
theorem EW (l:List UInt8) (hne:l≠[]) (h:¬((decodeL l).1=65533/\(decodeL l).2=1)):runeLen ((decodeL l).1:Int)=((decodeL l).2:Int):=by
 by_cases h1:(decodeL l).1=65533
 ·have henc:=encode_decode l hne h;have hle:=decodeL_le l hne;have h3:=MG ((decodeL l).1:Int) (by omega);have:=congrArg List.length henc;rw[h3,List.length_take] at this;rw[h1,show(decodeL l).2=3 by omega];rfl
 ·exact runeLen_decode l h1
def UW (s:ByteArray) (q:Int) (i:Nat) (x:Int) (k:Nat):QP:=
 if s.size<=i then .bad 42
 else if x=q then
  (if x=39/\Bw s (i+1)=39/\i+1<s.size then .sign 39 (i+2) else .fin (i+1))
 else if x=92/\q=34 then O0 s (i+1)
 else if BW x then .sign x (i+k) else .bad 42
def Ek (s:ByteArray) (q:Int) (i:Nat):QP:=UW s q i (Bw s i) (Utf8.decode s i).2
theorem ZI {s:ByteArray} {q x:Int} {i k:Nat} (h:s.size<=i):UW s q i x k=.bad 42:=by unfold UW;rw[if_pos h]
theorem Acr (s:ByteArray) (q:Int) (i:Nat) (w:Y) (hs:s.size<=1000000) (hi:i<=1000000) (hlen:s.size<=i) (hT:BU w):
  Calls Tryz.prog 291 #[rdV s q,I J i] w fun e w'=>e=.returned (GF (Ek s q i))/\Below w.heap.size w w':=by
 have hb0:Below w.heap.size w (w.alloc (.cells #[Q s,.int .i32 q] 426)):=(Bq _ w).alloc Nr _;have hA:=fun wx hx'=>Hd s q i wx hs (by omega) hx';have HV:=hid (show GF (Ek s q i)=GF (.bad 42) by unfold Ek;rw[ZI hlen]);have hle:(s.size:Int)<=(i:Int):=by omega
 clear hlen;obtain⟨V,hV⟩:∃ V,GF (Ek s q i)=V:=⟨_,rfl⟩
 rw[hV] at HV |-;clear hV;go_enter Tryz.func291,Tryz.ntmps291;go_wp2_with fail;refine(hA _ (hT.below hb0)).mono ?_;rintro e w1 ⟨rfl,hb1⟩;have hb2:=hb0.trans (hb1.mono hb0.size);obtain⟨a0,a1⟩:=(Ez.new hb1).cells;clear hb1 hA;go_wp2;go_ret;exact⟨by rw[HV.out];rfl,hb2⟩
theorem Aft (s:ByteArray) (i:Nat) (w:Y) (hs:s.size<=1000000) (hlen:i<s.size) (hv:validD (s.data.toList.drop i)=true) (hT:BU w):
  Calls Tryz.prog 291 #[rdV s 34,I J i] w fun e w'=>e=.returned (GF (Ek s 34 i))/\Below w.heap.size w w':=by
 have hb0:Below w.heap.size w (w.alloc (.cells #[Q s,.int .i32 34] 426)):=(Bq _ w).alloc Nr _;obtain⟨x,hx⟩:∃ x,Bw s i=x:=⟨_,rfl⟩
 obtain⟨k,hk⟩:∃ k,(Utf8.decode s i).2=k:=⟨_,rfl⟩
 have hA:=fun wx hx'=>Hd s 34 i wx hs (by omega) hx';have hb:¬((Utf8.decode s i).1=65533/\(Utf8.decode s i).2=1):=fun hbad=>by
  rw[DN s i hlen hbad.1 hbad.2] at hv;cases hv
 have hrl:runeLen x=(k:Int):=by
  have:=EW (s.data.toList.drop i) (Ej s i hlen) (by rw[Lib.decodeL_drop];exact hb);rw[Lib.decodeL_drop,<- GX s i hlen,hx,hk] at this;exact this
 have hk4:1<=k/\i+k<=s.size:=by have:=decode_le s i hlen;rw[hk] at this;omega
 have hR:=fun wx=>Tryz.utf8_RuneLen x wx;rw[hrl] at hR;rw[hx] at hA;have hE:GF (Ek s 34 i)=GF (if x=34 then .fin (i+1) else if x=92 then O0 s (i+1) else if BW x then .sign x (i+k) else .bad 42):=by
  unfold Ek UW;rw[hx,hk,if_neg (by omega)];by_cases h34:x=34
  ·rw[if_pos h34,if_pos h34,if_neg (by omega)]
  ·rw[if_neg h34,if_neg h34];simp
 have HV:=hid hE;obtain⟨k1,k2⟩:=hk4;clear hE hx hk hb hrl hv;obtain⟨V,hV⟩:∃ V,GF (Ek s 34 i)=V:=⟨_,rfl⟩
 rw[hV] at HV |-;clear hV;have hlt:(i:Int)<(s.size:Int):=by omega
 have k1i:(1:Int)<=(k:Int):=by omega
 have k2i:(i:Int)+(k:Int)<=(s.size:Int):=by omega
 go_enter Tryz.func291,Tryz.ntmps291;go_wp2_with fail;refine(hA _ (hT.below hb0)).mono ?_;rintro e w1 ⟨rfl,hb1⟩;have hb2:=hb0.trans (hb1.mono hb0.size);obtain⟨a0,a1⟩:=(Ez.new hb1).cells;clear hb1 hA hb0;by_cases h34:x=34
 ·have HR:=hid (HV.out.trans (congrArg GF (if_pos h34)));subst h34;clear HV;go_wp2;go_ret;exact⟨by rw[HR.out];rfl,hb2⟩
 have HR:=hid (HV.out.trans (congrArg GF (if_neg h34)));have b34:(x==34)=false:=by simpa using h34
 clear h34 HV;by_cases h92:x=92
 ·have HQ:=hid (HR.out.trans (congrArg GF (if_pos h92)));subst h92;clear HR;go_wp2_with fail;refine(UV s 34 (i+1) _ hs (by omega) (hT.below hb2)).mono ?_;rintro e w3 ⟨rfl,hb5⟩;have hb6:=hb2.trans (hb5.mono hb2.size);clear hb5;rw[<- HQ.out];go_wp2;go_ret;exact⟨rfl,hb6⟩
 have HQ:=hid (HR.out.trans (congrArg GF (if_neg h92)));have b92:(x==92)=false:=by simpa using h92
 clear h92 HR;have hPl:=fun wx=>Hf x wx;cases hp:BW x with
 | true=>
  rw[hp] at hPl HQ;rw[if_pos rfl] at HQ;clear hp;go_wp2_with fail;refine(hPl _).mono ?_;rintro e w3 ⟨rfl,hw⟩;subst w3;clear hPl;go_wp2_with fail;refine(hR _).mono ?_;rintro e w3 ⟨rfl,hw⟩;subst w3;clear hR;go_wp2;go_ret;exact⟨by rw[HQ.out];rfl,hb2⟩
 | false=>
  rw[hp] at hPl HQ;rw[if_neg (by decide)] at HQ;clear hp;go_wp2_with fail;refine(hPl _).mono ?_;rintro e w3 ⟨rfl,hw⟩;subst w3;clear hPl;go_wp2;go_ret;exact⟨by rw[HQ.out];rfl,hb2⟩
theorem Agu (s:ByteArray) (i:Nat) (w:Y) (hs:s.size<=1000000) (hlen:i<s.size) (hv:validD (s.data.toList.drop i)=true) (hT:BU w):
  Calls Tryz.prog 291 #[rdV s 39,I J i] w fun e w'=>e=.returned (GF (Ek s 39 i))/\Below w.heap.size w w':=by
 have hb0:Below w.heap.size w (w.alloc (.cells #[Q s,.int .i32 39] 426)):=(Bq _ w).alloc Nr _;obtain⟨x,hx⟩:∃ x,Bw s i=x:=⟨_,rfl⟩
 obtain⟨k,hk⟩:∃ k,(Utf8.decode s i).2=k:=⟨_,rfl⟩
 have hA:=fun wx hx'=>Hd s 39 i wx hs (by omega) hx';have hb:¬((Utf8.decode s i).1=65533/\(Utf8.decode s i).2=1):=fun hbad=>by
  rw[DN s i hlen hbad.1 hbad.2] at hv;cases hv
 have hrl:runeLen x=(k:Int):=by
  have:=EW (s.data.toList.drop i) (Ej s i hlen) (by rw[Lib.decodeL_drop];exact hb);rw[Lib.decodeL_drop,<- GX s i hlen,hx,hk] at this;exact this
 have hk4:1<=k/\i+k<=s.size:=by have:=decode_le s i hlen;rw[hk] at this;omega
 have hR:=fun wx=>Tryz.utf8_RuneLen x wx;rw[hrl] at hR;rw[hx] at hA;obtain⟨y,hy⟩:∃ y,Bw s (i+1)=y:=⟨_,rfl⟩
 have hA2:=fun wx hx'=>Hd s 39 (i+1) wx hs (by omega) hx';rw[hy] at hA2;have hy2:y=39->(i:Int)+1<(s.size:Int):=fun h=>by
  rcases Nat.lt_or_ge (i+1) s.size with h2 | h2
  ·omega
  ·rw[PE s (i+1) h2] at hy;omega
 have hE:GF (Ek s 39 i)=GF (if x=39 then (if y=39 then .sign 39 (i+2) else .fin (i+1)) else if BW x then .sign x (i+k) else .bad 42):=by
  unfold Ek UW;rw[hx,hk,if_neg (by omega),hy];by_cases h34:x=39
  ·rw[if_pos h34,if_pos h34];by_cases hy9:y=39
   ·rw[if_pos hy9,if_pos ⟨h34,hy9,by have:=hy2 hy9;omega⟩]
   ·rw[if_neg hy9,if_neg (fun h=>hy9 h.2.1)]
  ·rw[if_neg h34,if_neg h34,if_neg (by omega)]
 have HV:=hid hE;obtain⟨k1,k2⟩:=hk4;clear hE hx hk hb hrl hv hy;obtain⟨V,hV⟩:∃ V,GF (Ek s 39 i)=V:=⟨_,rfl⟩
 rw[hV] at HV |-;clear hV;have hlt:(i:Int)<(s.size:Int):=by omega
 have k1i:(1:Int)<=(k:Int):=by omega
 have k2i:(i:Int)+(k:Int)<=(s.size:Int):=by omega
 go_enter Tryz.func291,Tryz.ntmps291;go_wp2_with fail;refine(hA _ (hT.below hb0)).mono ?_;rintro e w1 ⟨rfl,hb1⟩;have hb2:=hb0.trans (hb1.mono hb0.size);have hr1:Ez w1 w.heap.size s 39:=Ez.new hb1;obtain⟨a0,a1⟩:=hr1.cells;clear hb1 hA hb0;by_cases h39:x=39
 ·have HR:=hid (HV.out.trans (congrArg GF (if_pos h39)));subst h39;clear HV;by_cases hy9:y=39
  ·have HQ:=hid (HR.out.trans (congrArg GF (if_pos hy9)));have hlt1:=hy2 hy9;clear HR;subst hy9;clear hy2;go_wp2_with fail;refine(hA2 _ (hT.below hb2)).mono ?_;rintro e w2 ⟨rfl,hb3⟩;have hb4:=hb2.trans (hb3.mono hb2.size);obtain⟨c0,c1⟩:=(hr1.below hb3).cells;clear hb3 hA2 a0 a1;go_wp2;go_ret;exact⟨by rw[HQ.out];rfl,hb4⟩
  ·have HQ:=hid (HR.out.trans (congrArg GF (if_neg hy9)));have by9:(y==39)=false:=by simpa using hy9
   clear HR hy2 hy9;go_wp2_with fail;refine(hA2 _ (hT.below hb2)).mono ?_;rintro e w2 ⟨rfl,hb3⟩;have hb4:=hb2.trans (hb3.mono hb2.size);obtain⟨c0,c1⟩:=(hr1.below hb3).cells;clear hb3 hA2 a0 a1;go_wp2;go_ret;exact⟨by rw[HQ.out];rfl,hb4⟩
 have HQ:=hid (HV.out.trans (congrArg GF (if_neg h39)));have b39:(x==39)=false:=by simpa using h39
 clear h39 HV hA2 hy2;by_cases h92:x=92
 ·subst h92;have hPl:=fun wx=>Hf 92 wx;rw[show BW 92=true from rfl] at hPl HQ;rw[if_pos rfl] at HQ;go_wp2_with fail;refine(hPl _).mono ?_;rintro e w3 ⟨rfl,hw⟩;subst w3;clear hPl;go_wp2_with fail;refine(hR _).mono ?_;rintro e w3 ⟨rfl,hw⟩;subst w3;clear hR;go_wp2;go_ret;exact⟨by rw[HQ.out];rfl,hb2⟩
 have b92:(x==92)=false:=by simpa using h92
 clear h92;have hPl:=fun wx=>Hf x wx;cases hp:BW x with
 | true=>
  rw[hp] at hPl HQ;rw[if_pos rfl] at HQ;clear hp;go_wp2_with fail;refine(hPl _).mono ?_;rintro e w3 ⟨rfl,hw⟩;subst w3;clear hPl;go_wp2_with fail;refine(hR _).mono ?_;rintro e w3 ⟨rfl,hw⟩;subst w3;clear hR;go_wp2;go_ret;exact⟨by rw[HQ.out];rfl,hb2⟩
 | false=>
  rw[hp] at hPl HQ;rw[if_neg (by decide)] at HQ;clear hp;go_wp2_with fail;refine(hPl _).mono ?_;rintro e w3 ⟨rfl,hw⟩;subst w3;clear hPl;go_wp2;go_ret;exact⟨by rw[HQ.out];rfl,hb2⟩
theorem Acs (s:ByteArray) (q:Int) (hq:q=34\/q=39) (i:Nat) (w:Y) (hs:s.size<=1000000) (hi:i<=1000000) (hv:i<s.size->validD (s.data.toList.drop i)=true) (hT:BU w):
  Calls Tryz.prog 291 #[rdV s q,I J i] w fun e w'=>e=.returned (GF (Ek s q i))/\Below w.heap.size w w':=by
 rcases Nat.lt_or_ge i s.size with h | h
 ·rcases hq with rfl | rfl
  ·exact Aft s i w hs h (hv h) hT
  ·exact Agu s i w hs h (hv h) hT
 ·exact Acr s q i w hs hi h hT
theorem WA {s:ByteArray} {i:Nat} (hi:i<s.size) (hv:validD (s.data.toList.drop i)=true):validD (s.data.toList.drop (i+(Utf8.decode s i).2))=true:=by
 rw[<- Lc s i hi (fun hbad=>by rw[DN s i hi hbad.1 hbad.2] at hv;cases hv)];exact hv
theorem IV (s:ByteArray) (i:Nat) (hi:i<s.size):s.data.toList.drop i=s[i]'hi::s.data.toList.drop (i+1):=by
 rw[List.drop_eq_getElem_cons (by rw[<- Lib.size_eq];exact hi)];rfl
theorem EZ {s:ByteArray} {i:Nat} (hi:i<s.size) (hv:validD (s.data.toList.drop i)=true) (hb:Bw s i<128):validD (s.data.toList.drop (i+1))=true:=by
 have h:=LL s i hi _ rfl hb;rw[IV s i hi,validD_cons _ _ (by omega)] at hv;exact hv
theorem U0 {c:UInt8} {d:Nat} (h:OD c=F d):c.toNat<128:=by
 have hall:∀ n:Fin 256,(OD (UInt8.ofNat n.val)).isSome=true->n.val<128:=by decide+kernel
 have:=hall ⟨c.toNat,c.toNat_lt⟩;simp only[UInt8.ofNat_toNat] at this;exact this (by rw[h];rfl)
theorem Px:∀ (k:Nat) (l:List UInt8) (acc v:Nat),Ds acc (l.take k)=F v->k<=l.length->validD l=true->validD (l.drop k)=true
 | 0,_,_,_,_,_,hv=>hv
 | k+1,[],_,_,_,hk,_=>by simp at hk
 | k+1,c::t,acc,v,h,hk,hv=>by
  rw[List.take_succ_cons] at h;unfold Ds at h;split at h
  ·cases h
  ·rename_i d hd;rw[validD_cons c t (U0 hd)] at hv;exact Px k t _ v h (by simpa using hk) hv
theorem XU {s:ByteArray} {p k:Nat} {r:Int} {tq:Nat} (hp:p<=s.size) (hv:p<s.size->validD (s.data.toList.drop p)=true) (hk:0<k) (h:GG s p k=.sign r tq):tq=p+k/\tq<=s.size/\(tq<s.size->validD (s.data.toList.drop tq)=true)/\Lib.validRune r=true:=by
 unfold GG Jq at h;by_cases hl:(s.data.toList.drop p).length<k
 ·rw[if_pos hl] at h;cases h
 ·rw[if_neg hl] at h;cases hx:Ds 0 ((s.data.toList.drop p).take k) with
  | none=>rw[hx] at h;cases h
  | some v=>
   rw[hx] at h;dsimp only at h;cases hvr:Lib.validRune (v:Int) with
   | false=>rw[hvr] at h;cases h
   | true=>
    rw[hvr] at h;injection h with h1 h2;have hlen:p+k<=s.size:=by rw[List.length_drop,<- Lib.size_eq] at hl;omega
    subst h2;refine⟨rfl,hlen,fun hlt=>?_,by rw[<- h1];exact hvr⟩;have:=Px k _ 0 v hx (by omega) (hv (by omega));rw[List.drop_drop] at this;exact this
theorem VT {x:Int} (h:BC [34,92,47] x=true):x=34\/x=92\/x=47:=by
 unfold BC at h;simpa using h
theorem Abg {x y:Int} (h:Cr x=F y):(x=110/\y=10)\/(x=116/\y=9)\/(x=114/\y=13):=by
 unfold Cr at h;split at h
 ·injection h with h;omega
 ·split at h
  ·injection h with h;omega
  ·split at h
   ·injection h with h;omega
   ·cases h
theorem XP {s:ByteArray} {p:Nat} {r:Int} {tq:Nat} (hp:p<=s.size) (hv:p<s.size->validD (s.data.toList.drop p)=true) (h:O0 s p=.sign r tq):p<tq/\tq<=s.size/\(tq<s.size->validD (s.data.toList.drop tq)=true)/\Lib.validRune r=true:=by
 unfold O0 O6 at h;split at h
 ·cases h
 ·rename_i hlt;have hlt:p<s.size:=by omega
  have key:Bw s p<128->tq=p+1->p<tq/\tq<=s.size/\(tq<s.size->validD (s.data.toList.drop tq)=true):=fun hb e=>by
   subst e;exact⟨by omega,by omega,fun _=>EZ hlt (hv hlt) hb⟩
  have knum:Bw s p<128->∀ k,0<k->GG s (p+1) k=.sign r tq->p<tq/\tq<=s.size/\(tq<s.size->validD (s.data.toList.drop tq)=true)/\Lib.validRune r=true:=fun hb k hk e=>by
   obtain⟨h1,h2,h3,h4⟩:=XU (by omega) (fun _=>EZ hlt (hv hlt) hb) hk e;exact⟨by omega,h2,h3,h4⟩
  split at h
  ·rename_i hm;injection h with h1 h2;rcases VT hm with e | e | e<;>(have:=key (by omega) h2.symm;exact⟨this.1,this.2.1,this.2.2,by rw[<- h1,e];rfl⟩)
  ·split at h
   ·rename_i e;injection h with h1 h2;have:=key (by omega) h2.symm;exact⟨this.1,this.2.1,this.2.2,by rw[<- h1];rfl⟩
   ·split at h
    ·exact knum (by omega) 2 (by omega) h
    ·split at h
     ·exact knum (by omega) 4 (by omega) h
     ·split at h
      ·rename_i y hy;injection h with h1 h2;subst h1;rcases Abg hy with ⟨e,rfl⟩ | ⟨e,rfl⟩ | ⟨e,rfl⟩<;>(have:=key (by omega) h2.symm;exact⟨this.1,this.2.1,this.2.2,rfl⟩)
      ·cases h
theorem ER (l:List UInt8) (hne:l≠[]) (h:¬((decodeL l).1=65533/\(decodeL l).2=1)):Lib.validRune ((decodeL l).1:Int)=true:=by
 have h1:=decodeL_rune l;have h2:=EW l hne h;have h3:=decodeL_width l;unfold runeLen at h2;unfold Lib.validRune;rw[decide_eq_true_eq];split at h2
 ·omega
 ·split at h2
  ·omega
  ·split at h2
   ·omega
   ·split at h2
    ·omega
    ·omega
theorem QI {s:ByteArray} {i:Nat} (hi:i<s.size) (hv:validD (s.data.toList.drop i)=true):Lib.validRune (Bw s i)=true:=by
 rw[GX s i hi,<- Lib.decodeL_drop];exact ER _ (Ej s i hi) (fun hbad=>by rw[Lib.decodeL_drop] at hbad;rw[DN s i hi hbad.1 hbad.2] at hv;cases hv)
theorem GS {s:ByteArray} {q:Int} {i:Nat} {r:Int} {tq:Nat} (hi:i<=s.size) (hv:i<s.size->validD (s.data.toList.drop i)=true) (h:Ek s q i=.sign r tq):i<s.size/\i<tq/\tq<=s.size/\(tq<s.size->validD (s.data.toList.drop tq)=true)/\Lib.validRune r=true:=by
 unfold Ek UW at h;split at h
 ·cases h
 ·rename_i hlt;have hlt:i<s.size:=by omega
  refine⟨hlt,?_⟩;split at h
  ·rename_i hq;split at h
   ·rename_i h39;injection h with h1 h2;subst h2;have hv1:=EZ hlt (hv hlt) (by omega);have hv2:=EZ h39.2.2 hv1 (by omega);exact⟨by omega,by omega,fun _=>hv2,by rw[<- h1];rfl⟩
   ·cases h
  ·split at h
   ·rename_i h92;obtain⟨h1,h2,h3,h4⟩:=XP (by omega) (fun _=>EZ hlt (hv hlt) (by omega)) h;exact⟨by omega,h2,h3,h4⟩
   ·split at h
    ·injection h with h1 h2;subst h2;have:=decode_le s i hlt;exact⟨by omega,by omega,fun _=>WA hlt (hv hlt),by rw[<- h1];exact QI hlt (hv hlt)⟩
    ·cases h
def C7 (s:ByteArray) (q:Int):Nat->Nat->List QP
 | 0,_=>[]
 | f+1,i=>match Ek s q i with
  | .sign r tq=>.sign r tq::C7 s q f tq
  | .fin tq=>[.fin tq]
  | .bad e=>[.bad e]
def B1 (s:ByteArray) (q:Int) (i:Nat):List QP:=C7 s q (s.size+1 - i) i
theorem KF (s:ByteArray) (q:Int):∀ (f g i:Nat),i<=s.size->(i<s.size->validD (s.data.toList.drop i)=true)->s.size+1 - i<=f->s.size+1 - i<=g->C7 s q f i=C7 s q g i
 | 0,_,i,hi,_,hf,_=>by omega
 | _+1,0,i,hi,_,_,hg=>by omega
 | f+1,g+1,i,hi,hv,hf,hg=>by
  unfold C7;cases ho:Ek s q i with
  | fin tq=>rfl
  | bad e=>rfl
  | sign r tq=>
   obtain⟨h1,h2,h3,h4,_⟩:=GS hi hv ho;exact congrArg _ (KF s q f g tq h3 h4 (by omega) (by omega))
theorem Ro {s:ByteArray} {q:Int} {i:Nat} {r:Int} {tq:Nat} (hi:i<=s.size) (hv:i<s.size->validD (s.data.toList.drop i)=true) (h:Ek s q i=.sign r tq):B1 s q i=.sign r tq::B1 s q tq:=by
 obtain⟨h1,h2,h3,h4,_⟩:=GS hi hv h;unfold B1;obtain⟨n,hn⟩:∃ n,s.size+1 - i=n+1:=⟨s.size - i,by omega⟩
 rw[hn];show(match Ek s q i with | .sign r tq=>QP.sign r tq::C7 s q n tq | .fin tq=>[QP.fin tq] | .bad e=>[QP.bad e])=_;rw[h];exact congrArg _ (KF s q _ _ tq h3 h4 (by omega) (by omega))
theorem SF {s:ByteArray} {q:Int} {i:Nat} {tq:Nat} (hi:i<=s.size) (h:Ek s q i=.fin tq):B1 s q i=[.fin tq]:=by
 unfold B1;obtain⟨n,hn⟩:∃ n,s.size+1 - i=n+1:=⟨s.size - i,by omega⟩
 rw[hn];show(match Ek s q i with | .sign r tq=>QP.sign r tq::C7 s q n tq | .fin tq=>[QP.fin tq] | .bad e=>[QP.bad e])=_;rw[h]
theorem Se {s:ByteArray} {q:Int} {i:Nat} {e:Int} (hi:i<=s.size) (h:Ek s q i=.bad e):B1 s q i=[.bad e]:=by
 unfold B1;obtain⟨n,hn⟩:∃ n,s.size+1 - i=n+1:=⟨s.size - i,by omega⟩
 rw[hn];show(match Ek s q i with | .sign r tq=>QP.sign r tq::C7 s q n tq | .fin tq=>[QP.fin tq] | .bad e=>[QP.bad e])=_;rw[h]
def DF:List QP->List UInt8->List UInt8×Nat×Int
 | [],_=>([],0,42)
 | .sign r _::t,acc=>DF t (acc++encodeRune r)
 | .fin tq::_,acc=>(acc,tq,0)
 | .bad e::_,_=>([],0,e)
def F8 (s:ByteArray) (p:Int):Option Int:=if p<0 then O else if h:p.toNat<s.size then (if s[p.toNat]'h=34 then F 34 else if s[p.toNat]'h=39 then F 39 else O) else O
def D1 (s:ByteArray) (p:Int):List UInt8×Nat×Int:=
 if validD s.data.toList then match F8 s p with
  | some q=>DF (B1 s q (p.toNat+1)) []
  | none=>([],0,42)
 else ([],0,40)
end
end Go.Proofs.YtdpppepmkeinaaaGreatDoor
