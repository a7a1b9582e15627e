/- What is proved: a part of the walk of the program and of its plain laws; no condition beside those that each theorem names. -/
import Derived.Test.YtdpppepmkeinaaaGreatDoorYb
import Derived.Test.YtdpppepmkeinaaaGreatDoorYa
import Derived.Lib.MapLaws
import Derived.Laws.EntriesVeiled
namespace Go.Proofs.YtdpppepmkeinaaaGreatDoor
open Go Go.RowKit Go.Lib
open Go.Value renaming int->I,string->Q,slice->Z
open Go.IntKind renaming i64->J
open Option renaming none->O,some->F
open _root_.Go renaming World->Y
set_option linter.unusedSimpArgs false
set_option linter.unusedVariables false
set_option linter.unusedSectionVars false
section
set_option maxHeartbeats 4000000
set_option maxRecDepth 100000
inductive QP
 | sign (r:Int) (tq:Nat)
 | fin (tq:Nat)
 | bad (e:Int)
def EN:QP->Value
 | .sign r tq=>.iface 431 (.agg #[.int .i32 r,I J tq])
 | .fin tq=>.iface 433 (.agg #[I J tq])
 | .bad e=>.iface 435 (.agg #[I J e])
def KX (l:List UInt8) (k:Nat):Option Nat:=
 if l.length<k then O else match D2 0 (l.take k) with
 | none=>O
 | some v=>if Lib.validRune (v:Int) then F v else O
def ES (s:ByteArray) (p k:Nat):QP:=match KX (s.data.toList.drop p) k with
 | some v=>.sign v (p+k)
 | none=>.bad 41
theorem XG {l:List UInt8} {c:UInt8} (h:c=43\/c=45) (acc:Nat):D2 acc (c::l)=O:=by
 rcases h with rfl | rfl<;>rfl
theorem N3 {l:List UInt8} {k:Nat} (h:l.length<k):KX l k=O:=by unfold KX;rw[if_pos h]
theorem OS (s:ByteArray) (p k:Nat):(s.extract p (p+k)).data.toList=(s.data.toList.drop p).take k:=by rw[<- Lib.toList_data];exact Ps s p k
theorem JM (s:ByteArray) (i:Nat) (h:i<s.size) (x:Int) (hx:AF s i=x) (h0:x<128):x=((s[i]'h).toNat:Int):=by
 rw[EX s i h,<- Lib.decodeL_drop] at hx;have hne:=CS s i h;have hd:s.data.toList.drop i=s[i]'h::s.data.toList.drop (i+1):=by
  rw[List.drop_eq_getElem_cons (by rw[<- Lib.size_eq];exact h)];rfl
 rw[hd] at hx;by_cases hb:(s[i]'h).toNat<128
 ·rw[decodeL_ascii _ _ hb] at hx;omega
 ·have:=Em (s[i]'h) (s.data.toList.drop (i+1)) (by omega);omega
theorem S9 (s:ByteArray) (p k:Nat) (hk:0<k) (h:Bw [43,45] (AF s p)=true):KX (s.data.toList.drop p) k=O:=by
 by_cases hl:p<s.size
 ·unfold Bw at h;have h':AF s p=43\/AF s p=45:=by simpa using h
  have hb:=JM s p hl _ rfl (by omega);have hc:s[p]'hl=43\/s[p]'hl=45:=by
   rcases h' with h' | h'
   ·left;exact UInt8.toNat_inj.1 (by show _=43;omega)
   ·right;exact UInt8.toNat_inj.1 (by show _=45;omega)
  have hd:s.data.toList.drop p=s[p]'hl::s.data.toList.drop (p+1):=by
   rw[List.drop_eq_getElem_cons (by rw[<- Lib.size_eq];exact hl)];rfl
  unfold KX;split
  ·rfl
  ·obtain⟨k',rfl⟩:∃ k',k=k'+1:=⟨k - 1,by omega⟩
   rw[hd,List.take_succ_cons,XG hc]
 ·exact N3 (by rw[List.length_drop,<- Lib.size_eq];omega)
def Dl (w:Y) (b:Nat) (s:ByteArray) (q:Int):Prop:=w.heap[b]? =F (.cells #[Q s,.int .i32 q] 426)
theorem Dl.below {w w':Y} {b:Nat} {s:ByteArray} {q:Int} (h:Dl w b s q) (hb:Below w.heap.size w w'):Dl w' b s q:=Ay h hb
theorem Dl.cells {w:Y} {b:Nat} {s:ByteArray} {q:Int} (h:Dl w b s q):w.cell? ⟨b,0,O⟩=F (Q s)/\w.cell? ⟨b,1,O⟩=F (.int .i32 q):=by
 unfold Dl at h;simp[World.cell?,h]
theorem Dl.new {w w':Y} {s:ByteArray} {q:Int} (hb:Below (w.alloc (.cells #[Q s,.int .i32 q] 426)).heap.size (w.alloc (.cells #[Q s,.int .i32 q] 426)) w'):Dl w' w.heap.size s q:=DI _ _ hb
theorem Ln (s:ByteArray) (q:Int) (p k:Nat) (w:Y) (hs:s.size<=1000000) (hk:k=2\/k=4) (hp:p<=1000002) (hT:Bf w):
  Calls Tryz.prog 299 #[rdV s q,I J p,I J k] w fun e w'=>e=.returned (EN (ES s p k))/\Below w.heap.size w w':=by
 have hkb:k<=4/\2<=k:=by omega
 obtain⟨hk4,hk2⟩:=hkb;clear hk;have hb0:Below w.heap.size w (w.alloc (.cells #[Q s,.int .i32 q] 426)):=(Bq _ w).alloc Nr _;by_cases hlen:s.size<p+k
 ·have hgt:(s.size:Int)<(p:Int)+(k:Int):=by omega
  have hN:ES s p k=.bad 41:=by unfold ES;rw[N3 (by rw[List.length_drop,<- Lib.size_eq];omega)]
  rw[hN];clear hN hlen;go_enter Tryz.func299,Tryz.ntmps299;go_wp2;go_ret;exact⟨rfl,hb0⟩
 have hle:(p:Int)+(k:Int)<=(s.size:Int):=by omega
 have hm:∀ b,Bw [43,45] (AF s p)=b->Hid (Bw [43,45] (AF s p)=b):=fun _ h=>hid h;cases hmm:Bw [43,45] (AF s p) with
 | true=>
  have hN:ES s p k=.bad 41:=by unfold ES;rw[S9 s p k (by omega) hmm]
  rw[hN];have HM:=hm _ hmm;clear hN hlen hm hmm;go_enter Tryz.func299,Tryz.ntmps299;go_wp2_with fail;refine(F9 s q p _ hs (by omega) (hT.below hb0)).mono ?_;rintro e w1 ⟨rfl,hb1⟩;have hb2:=hb0.trans (hb1.mono hb0.size);go_wp2_with fail;refine(E2 (AF s p) [43,45] 2 2 _ rfl (by decide)).mono ?_;rintro e w2 ⟨rfl,hb3⟩;rw[HM.out];have hb4:=hb2.trans (hb3.mono hb2.size);go_wp2;go_ret;exact⟨rfl,hb4⟩
 | false=>
  have HM:=hm _ hmm;obtain⟨t,ht⟩:∃ t,s.extract p (p+k)=t:=⟨_,rfl⟩
  have hts:t.size=k:=by rw[<- ht,ByteArray.size_extract];omega
  have htl:t.data.toList=(s.data.toList.drop p).take k:=by rw[<- ht];exact OS s p k
  have hN:KX (s.data.toList.drop p) k=match D2 0 t.data.toList with | none=>O | some v=>if Lib.validRune (v:Int) then F v else O:=by
   unfold KX;rw[if_neg (by rw[List.length_drop,<- Lib.size_eq];omega),htl]
  have HS:=hid ht;have hsl:∀ wx:Y,(Instr.slice 9 (Q s) (F (I J p)) (F (I J ((p:Int)+(k:Int)))) O).run Tryz.prog wx=.ok (Q t) wx:=fun wx=>by
   have h:=run_slice_string (P:=Tryz.prog) wx 9 s .i64 .i64 p ((p:Int)+(k:Int)) (by kernel_rfl) (by omega) (by omega) (by omega);rw[show((p:Int)).toNat=p by omega,show((p:Int)+(k:Int)).toNat=p+k by omega,ht] at h;exact h
  clear hm hmm ht htl hlen;cases hx:D2 0 t.data.toList with
  | none=>
   rw[hx] at hN;have hQ:ES s p k=.bad 41:=by unfold ES;rw[hN]
   rw[hQ];have hP:=fun wx hx'=>Oy t (by omega) (by omega) hx wx hx';clear hN hQ hx;go_enter Tryz.func299,Tryz.ntmps299;go_wp2_with fail;refine(F9 s q p _ hs (by omega) (hT.below hb0)).mono ?_;rintro e w1 ⟨rfl,hb1⟩;have hb2:=hb0.trans (hb1.mono hb0.size);have hr1:Dl w1 w.heap.size s q:=Dl.new hb1;clear hb1;go_wp2_with fail;refine(E2 (AF s p) [43,45] 2 2 _ rfl (by decide)).mono ?_;rintro e w2 ⟨rfl,hb3⟩;rw[HM.out];have hb4:=hb2.trans (hb3.mono hb2.size);have hr2:=hr1.below hb3;obtain⟨a0,a1⟩:=hr2.cells;clear hb3 hr1 hr2 hb2;go_wp2_with fail;refine(hP _ (hT.below hb4)).mono ?_;rintro e w3 ⟨N,rfl,hb5⟩;have hb6:=hb4.trans (hb5.mono hb4.size);clear hP hb5;go_wp2;go_ret;exact⟨rfl,hb6⟩
  | some v=>
   rw[hx] at hN;have hP:=fun wx=>RR t (by omega) (by omega) v hx wx;have hv:v<=65535:=by
    have h1:=VA _ _ _ hx;have h2:16 ^ t.data.toList.length<=16 ^ 4:=Nat.pow_le_pow_right (by omega) (by rw[<- Lib.size_eq];omega);omega
   have hv0:(0:Int)<=(v:Int):=by omega
   have hv1:(v:Int)<=65535:=by omega
   cases hva:Lib.validRune (v:Int) with
   | true=>
    have hQ:ES s p k=.sign v (p+k):=by unfold ES;rw[hN];dsimp only;rw[hva];rfl
    rw[hQ];have hV:=fun wx=>Tryz.utf8_ValidRune (v:Int) wx;rw[hva] at hV;clear hN hQ hx hva;go_enter Tryz.func299,Tryz.ntmps299;go_wp2_with fail;refine(F9 s q p _ hs (by omega) (hT.below hb0)).mono ?_;rintro e w1 ⟨rfl,hb1⟩;have hb2:=hb0.trans (hb1.mono hb0.size);have hr1:Dl w1 w.heap.size s q:=Dl.new hb1;clear hb1;go_wp2_with fail;refine(E2 (AF s p) [43,45] 2 2 _ rfl (by decide)).mono ?_;rintro e w2 ⟨rfl,hb3⟩;rw[HM.out];have hb4:=hb2.trans (hb3.mono hb2.size);have hr2:=hr1.below hb3;obtain⟨a0,a1⟩:=hr2.cells;clear hb3 hr1 hr2 hb2;go_wp2_with fail;refine(hP _).mono ?_;rintro e w3 ⟨rfl,hb5⟩;have hb6:=hb4.trans (hb5.mono hb4.size);clear hP hb5;go_wp2_with fail;refine(hV _).mono ?_;rintro e w4 ⟨rfl,hw⟩;subst w4;clear hV;go_wp2;go_ret;exact⟨rfl,hb6⟩
   | false=>
    have hQ:ES s p k=.bad 41:=by unfold ES;rw[hN];dsimp only;rw[hva];rfl
    rw[hQ];have hV:=fun wx=>Tryz.utf8_ValidRune (v:Int) wx;rw[hva] at hV;clear hN hQ hx hva;go_enter Tryz.func299,Tryz.ntmps299;go_wp2_with fail;refine(F9 s q p _ hs (by omega) (hT.below hb0)).mono ?_;rintro e w1 ⟨rfl,hb1⟩;have hb2:=hb0.trans (hb1.mono hb0.size);have hr1:Dl w1 w.heap.size s q:=Dl.new hb1;clear hb1;go_wp2_with fail;refine(E2 (AF s p) [43,45] 2 2 _ rfl (by decide)).mono ?_;rintro e w2 ⟨rfl,hb3⟩;rw[HM.out];have hb4:=hb2.trans (hb3.mono hb2.size);have hr2:=hr1.below hb3;obtain⟨a0,a1⟩:=hr2.cells;clear hb3 hr1 hr2 hb2;go_wp2_with fail;refine(hP _).mono ?_;rintro e w3 ⟨rfl,hb5⟩;have hb6:=hb4.trans (hb5.mono hb4.size);clear hP hb5;go_wp2_with fail;refine(hV _).mono ?_;rintro e w4 ⟨rfl,hw⟩;subst w4;clear hV;go_wp2;go_ret;exact⟨rfl,hb6⟩
def E8 (x:Int):Option Int:=if x=110 then F 10 else if x=116 then F 9 else if x=114 then F 13 else O
def MY (s:ByteArray) (p:Nat) (x:Int):QP:=
 if s.size<=p then .bad 41
 else if Bw [34,92,47] x then .sign x (p+1)
 else if x=48 then .sign 0 (p+1)
 else if x=120 then ES s (p+1) 2
 else if x=117 then ES s (p+1) 4
 else match E8 x with
 | some y=>.sign y (p+1)
 | none=>.bad 41
def MS (s:ByteArray) (p:Nat):QP:=MY s p (AF s p)
def AD:Array MapEntry:=#[{key:=.int .i32 10,val:=.int .i32 110,born:=0},{key:=.int .i32 9,val:=.int .i32 116,born:=1},{key:=.int .i32 13,val:=.int .i32 114,born:=2}]
theorem QY:AW 3=.map AD 3:=rfl
theorem X8 {e:MapEntry} (h:e∈AD.toList):∃ y l:Int,e.key=.int .i32 y/\e.val=.int .i32 l/\E8 l=F y:=by
 simp[AD] at h;rcases h with rfl | rfl | rfl
 ·exact⟨10,110,rfl,rfl,rfl⟩
 ·exact⟨9,116,rfl,rfl,rfl⟩
 ·exact⟨13,114,rfl,rfl,rfl⟩
theorem X9 {x:Int} (h:∀ e∈AD.toList,e.val≠ .int .i32 x):E8 x=O:=by
 have h0:=h _ (show({key:=.int .i32 10,val:=.int .i32 110,born:=0}:MapEntry)∈AD.toList by simp[AD]);have h1:=h _ (show({key:=.int .i32 9,val:=.int .i32 116,born:=1}:MapEntry)∈AD.toList by simp[AD]);have h2:=h _ (show({key:=.int .i32 13,val:=.int .i32 114,born:=2}:MapEntry)∈AD.toList by simp[AD]);unfold E8;rw[if_neg (fun e=>h0 (by rw[e])),if_neg (fun e=>h1 (by rw[e])),if_neg (fun e=>h2 (by rw[e]))]
theorem EL:MapKept.Stamped AD 3:=by
 refine⟨fun x hx=>?_,by simp[AD],by simp[AD]⟩;simp[AD] at hx;rcases hx with rfl | rfl | rfl<;>decide
theorem YM {es:Array MapEntry} {clock:Nat} (hst:MapKept.Stamped es clock) {a b:MapEntry} (ha:a∈es.toList) (hb:b∈es.toList) (h:a.born=b.born):a=b:=by
 have h1:=find_born a es.toList hst.2.1 ha;have h2:=find_born b es.toList hst.2.1 hb;rw[h,h2] at h1;exact(Option.some.inj h1).symm
theorem Zm {s:ByteArray} {p:Nat} {x:Int} (h:s.size<=p):MY s p x=.bad 41:=by unfold MY;rw[if_pos h]
theorem Tp (s:ByteArray) (q:Int) (p:Nat) (w:Y) (hs:s.size<=1000000) (hp:p<=1000001) (hT:Bf w):
  Calls Tryz.prog 296 #[rdV s q,I J p] w fun e w'=>e=.returned (EN (MS s p))/\Below w.heap.size w w':=by
 have hb0:Below w.heap.size w (w.alloc (.cells #[Q s,.int .i32 q] 426)):=(Bq _ w).alloc Nr _;obtain⟨x,hx⟩:∃ x,AF s p=x:=⟨_,rfl⟩
 have hA:=fun wx hx'=>F9 s q p wx hs (by omega) hx';rw[hx] at hA;have hE:MS s p=MY s p x:=by unfold MS;rw[hx]
 obtain⟨V,hV⟩:∃ V,EN (MS s p)=V:=⟨_,rfl⟩
 rw[hV];rw[hE] at hV;clear hE hx;by_cases hlen:s.size<=p
 ·have hle:(s.size:Int)<=(p:Int):=by omega
  rw[Zm hlen] at hV;have HV:=hid hV;clear hlen hV;go_enter Tryz.func296,Tryz.ntmps296;go_wp2_with fail;refine(hA _ (hT.below hb0)).mono ?_;rintro e w1 ⟨rfl,hb1⟩;have hb2:=hb0.trans (hb1.mono hb0.size);obtain⟨a0,a1⟩:=(Dl.new hb1).cells;clear hb1 hA;go_wp2;go_ret;exact⟨by rw[<- HV.out];rfl,hb2⟩
 have hlt:(p:Int)<(s.size:Int):=by omega
 have HV:=hid hV;clear hV;go_enter Tryz.func296,Tryz.ntmps296;go_wp2_with fail;refine(hA _ (hT.below hb0)).mono ?_;rintro e w1 ⟨rfl,hb1⟩;have hb2:=hb0.trans (hb1.mono hb0.size);have hr1:Dl w1 w.heap.size s q:=Dl.new hb1;obtain⟨a0,a1⟩:=hr1.cells;clear hb1 hA hb0;go_wp2_with fail;refine(E2 x [34,92,47] 3 3 _ rfl (by decide)).mono ?_;rintro e w2 ⟨rfl,hb3⟩;have hb4:=hb2.trans (hb3.mono hb2.size);have hr2:=hr1.below hb3;clear hb3 hr1 hb2 a0 a1;obtain⟨a0,a1⟩:=hr2.cells;cases hm:Bw [34,92,47] x with
 | true=>
  have hQ:MY s p x=.sign x (p+1):=by unfold MY;rw[if_neg hlen,if_pos hm]
  have HQ:=hid (HV.out.symm.trans (congrArg EN hQ));clear hQ hm;go_wp2;go_ret;exact⟨by rw[HQ.out];rfl,hb4⟩
 | false=>
  have hQ:MY s p x=if x=48 then .sign 0 (p+1) else if x=120 then ES s (p+1) 2 else if x=117 then ES s (p+1) 4 else match E8 x with | some y=>.sign y (p+1) | none=>.bad 41:=by unfold MY;rw[if_neg hlen,hm];rfl
  have HQ:=hid (HV.out.symm.trans (congrArg EN hQ));clear hQ hm hlen HV;by_cases h48:x=48
  ·have HR:=hid (HQ.out.trans (congrArg EN (if_pos h48)));subst h48;clear HQ;go_wp2;go_ret;exact⟨by rw[HR.out];rfl,hb4⟩
  have HR:=hid (HQ.out.trans (congrArg EN (if_neg h48)));have b48:(x==48)=false:=by simpa using h48
  clear h48 HQ;by_cases h120:x=120
  ·have HQ:=hid (HR.out.trans (congrArg EN (if_pos h120)));subst h120;clear HR;go_wp2_with fail;refine(Ln s q (p+1) 2 _ hs (.inl rfl) (by omega) (hT.below hb4)).mono ?_;rintro e w3 ⟨rfl,hb5⟩;have hb6:=hb4.trans (hb5.mono hb4.size);clear hb5;rw[<- HQ.out];go_wp2;go_ret;exact⟨rfl,hb6⟩
  have HQ:=hid (HR.out.trans (congrArg EN (if_neg h120)));have b120:(x==120)=false:=by simpa using h120
  clear h120 HR;by_cases h117:x=117
  ·have HR:=hid (HQ.out.trans (congrArg EN (if_pos h117)));subst h117;clear HQ;go_wp2_with fail;refine(Ln s q (p+1) 4 _ hs (.inr rfl) (by omega) (hT.below hb4)).mono ?_;rintro e w3 ⟨rfl,hb5⟩;have hb6:=hb4.trans (hb5.mono hb4.size);clear hb5;rw[<- HR.out];go_wp2;go_ret;exact⟨rfl,hb6⟩
  have HR:=hid (HQ.out.trans (congrArg EN (if_neg h117)));have b117:(x==117)=false:=by simpa using h117
  clear h117 HQ;go_wp2_with fail;refine(JI _).mono ?_;rintro e w3 ⟨rfl,hw3⟩;obtain⟨bm,hbm⟩:∃ bm,w2.heap.size=bm:=⟨_,rfl⟩
  have hb5:Below w2.heap.size w2 w3:=by rw[hw3];exact(Bq _ w2).alloc Nr _
  have hm3:w3.heap[bm]? =F (.map AD 3):=by rw[hw3,<- hbm,Wn,QY]
  rw[hbm];clear hw3;have hb6:=hb4.trans (hb5.mono hb4.size);clear hb5 hbm;have hrg:=run_range_map (P:=Tryz.prog) w3 79 21 21 bm AD 3 Tryz.underlying79 hm3;go_wp2;clear hrg;go_loopw [6] (fun _ wr=>∃ (w1:Y) (seen:Array Nat),wr=w1.alloc (.mapIter (F bm) 3 seen 3)/\w1.heap=w3.heap/\Below w.heap.size w w1/\Hid (∀ e∈AD.toList,seen.contains e.born=true->e.val≠ .int .i32 x)) (fun _ wr=>(leftOf AD (wr.iterSeen w3.heap.size)).size)
  case atStart=>exact⟨w3,#[],rfl,rfl,hb6,hid (fun e _ h=>by simp at h)⟩
  case round=>
   obtain⟨w5,seen,rfl,hh,hb7,HS⟩:=hrel;have hsz:w5.heap.size=w3.heap.size:=by rw[hh]
   have hm5:w5.heap[bm]? =F (.map AD 3):=by rw[hh];exact hm3
   have hb8:Below w.heap.size w (w5.alloc (.mapIter (F bm) 3 seen 3)):=hb7.alloc hb7.size _;have law:=MN (P:=Tryz.prog) w5 0 bm 3 3 seen AD 3 hm5 EL.1 Nr;rw[hsz] at law;rcases law with ⟨h0,hrun⟩ | ⟨e,he,w6,hal,hrun⟩
   ·have hnone:E8 x=O:=X9 (fun e he=>HS.out e he (by
     have h2:leftOf AD seen=#[]:=Array.eq_empty_of_size_eq_zero h0;cases hc:seen.contains e.born with
     | true=>rfl
     | false=>
      have:e∈leftOf AD seen:=Array.mem_filter.2 ⟨Array.mem_toList_iff.1 he,by rw[hc];rfl⟩;rw[h2] at this;simp at this))
    have HQ:=hid (HR.out);rw[hnone] at HQ;have hnx:∀ ty,(Instr.next (.pointer (F ⟨w3.heap.size,0,O⟩)) false ty).run Tryz.prog (w5.alloc (.mapIter (F bm) 3 seen 3))=_:=fun _=>hrun;clear hrun hnone HR HS;go_wp2;go_ret;exact⟨by rw[HQ.out];rfl,hb8⟩
   ·have hsz6:w6.heap=w5.heap:=by rcases hal with rfl | rfl<;>rfl
    have hb9:Below w.heap.size w w6:=by rcases hal with rfl | rfl;exact hb7;exact hb7.drew
    obtain⟨y,l,hkey,hval,hq⟩:=X8 (mem_left he).1;have hen:=run_entry_map (P:=Tryz.prog) w6 bm 3 seen AD 3 e (by rw[hsz6];exact hm5) (mem_left he).1 EL.2.1;rw[show w6.heap.size=w3.heap.size by rw[hsz6,hsz],hkey,hval] at hen;rw[hkey,hval] at hrun;have hnx:∀ ty,(Instr.next (.pointer (F ⟨w3.heap.size,0,O⟩)) false ty).run Tryz.prog (w5.alloc (.mapIter (F bm) 3 seen 3))=_:=fun _=>hrun;have hb10:Below w.heap.size w (w6.alloc (.mapIter (F bm) 3 (seen.push e.born) 3)):=hb9.alloc hb9.size _;have hms:(leftOf AD ((w6.alloc (.mapIter (F bm) 3 (seen.push e.born) 3)).iterSeen w3.heap.size)).size<(leftOf AD ((w5.alloc (.mapIter (F bm) 3 seen 3)).iterSeen w3.heap.size)).size:=by
     rw[show w3.heap.size=w6.heap.size by rw[hsz6,hsz],World.iterSeen_alloc,show w6.heap.size=w5.heap.size by rw[hsz6],World.iterSeen_alloc];exact left_shrinks AD seen e he
    have HM:=hid hms;have HE:=hid (Ai (mem_left he).1 (Ai hval hsz6));have HK:=hid (Ai hq hal);clear hrun hms hval hkey hq he hal hsz6;by_cases hxl:x=l
    ·subst hxl;have HQ:=hid (HR.out);rw[HK.out.1] at HQ;clear HR;go_wp2;go_ret;exact⟨by rw[HQ.out];rfl,hb10⟩
    ·have bxl:(x==l)=false:=by simpa using hxl
     clear hxl;go_wp2;go_roundw
     case rel=>
      refine⟨w6,seen.push e.born,rfl,HE.out.2.2.trans hh,hb9,hid (fun e2 he2 hc=>?_)⟩;rw[contains_push,Bool.or_eq_true] at hc;rcases hc with hc | hc
      ·exact HS.out e2 he2 hc
      ·intro hv;have:=YM EL he2 HE.out.1 (by simpa using hc);subst this;rw[HE.out.2.1] at hv;injection hv with _ hv;simp[hv] at bxl
     case measure=>exact HM.out
end
section
set_option maxHeartbeats 4000000
set_option maxRecDepth 100000
theorem DD (l:List UInt8) (hne:l≠[]) (h:¬((decodeL l).1=65533/\(decodeL l).2=1)):runeLen ((decodeL l).1:Int)=((decodeL l).2:Int):=by
 by_cases h1:(decodeL l).1=65533
 ·have henc:=encode_decode l hne h;have hle:=decodeL_le l hne;have h3:=YJ ((decodeL l).1:Int) (by omega);have:=congrArg List.length henc;rw[h3,List.length_take] at this;rw[h1,show(decodeL l).2=3 by omega];rfl
 ·exact runeLen_decode l h1
def SS (s:ByteArray) (q:Int) (i:Nat) (x:Int) (k:Nat):QP:=
 if s.size<=i then .bad 42
 else if x=q then
  (if x=39/\AF s (i+1)=39/\i+1<s.size then .sign 39 (i+2) else .fin (i+1))
 else if x=92/\q=34 then MS s (i+1)
 else if BA x then .sign x (i+k) else .bad 42
def CX (s:ByteArray) (q:Int) (i:Nat):QP:=SS s q i (AF s i) (Utf8.decode s i).2
theorem Aaz {s:ByteArray} {q x:Int} {i k:Nat} (h:s.size<=i):SS s q i x k=.bad 42:=by unfold SS;rw[if_pos h]
theorem Yp (s:ByteArray) (q:Int) (i:Nat) (w:Y) (hs:s.size<=1000000) (hi:i<=1000000) (hlen:s.size<=i) (hT:Bf w):
  Calls Tryz.prog 291 #[rdV s q,I J i] w fun e w'=>e=.returned (EN (CX s q i))/\Below w.heap.size w w':=by
 have hb0:Below w.heap.size w (w.alloc (.cells #[Q s,.int .i32 q] 426)):=(Bq _ w).alloc Nr _;have hA:=fun wx hx'=>F9 s q i wx hs (by omega) hx';have HV:=hid (show EN (CX s q i)=EN (.bad 42) by unfold CX;rw[Aaz hlen]);have hle:(s.size:Int)<=(i:Int):=by omega
 clear hlen;obtain⟨V,hV⟩:∃ V,EN (CX s q i)=V:=⟨_,rfl⟩
 rw[hV] at HV |-;clear hV;go_enter Tryz.func291,Tryz.ntmps291;go_wp2_with fail;refine(hA _ (hT.below hb0)).mono ?_;rintro e w1 ⟨rfl,hb1⟩;have hb2:=hb0.trans (hb1.mono hb0.size);obtain⟨a0,a1⟩:=(Dl.new hb1).cells;clear hb1 hA;go_wp2;go_ret;exact⟨by rw[HV.out];rfl,hb2⟩
theorem Adl (s:ByteArray) (i:Nat) (w:Y) (hs:s.size<=1000000) (hlen:i<s.size) (hv:validD (s.data.toList.drop i)=true) (hT:Bf w):
  Calls Tryz.prog 291 #[rdV s 34,I J i] w fun e w'=>e=.returned (EN (CX s 34 i))/\Below w.heap.size w w':=by
 have hb0:Below w.heap.size w (w.alloc (.cells #[Q s,.int .i32 34] 426)):=(Bq _ w).alloc Nr _;obtain⟨x,hx⟩:∃ x,AF s i=x:=⟨_,rfl⟩
 obtain⟨k,hk⟩:∃ k,(Utf8.decode s i).2=k:=⟨_,rfl⟩
 have hA:=fun wx hx'=>F9 s 34 i wx hs (by omega) hx';have hb:¬((Utf8.decode s i).1=65533/\(Utf8.decode s i).2=1):=fun hbad=>by
  rw[C6 s i hlen hbad.1 hbad.2] at hv;cases hv
 have hrl:runeLen x=(k:Int):=by
  have:=DD (s.data.toList.drop i) (CS s i hlen) (by rw[Lib.decodeL_drop];exact hb);rw[Lib.decodeL_drop,<- EX s i hlen,hx,hk] at this;exact this
 have hk4:1<=k/\i+k<=s.size:=by have:=decode_le s i hlen;rw[hk] at this;omega
 have hR:=fun wx=>Tryz.utf8_RuneLen x wx;rw[hrl] at hR;rw[hx] at hA;have hE:EN (CX s 34 i)=EN (if x=34 then .fin (i+1) else if x=92 then MS s (i+1) else if BA x then .sign x (i+k) else .bad 42):=by
  unfold CX SS;rw[hx,hk,if_neg (by omega)];by_cases h34:x=34
  ·rw[if_pos h34,if_pos h34,if_neg (by omega)]
  ·rw[if_neg h34,if_neg h34];simp
 have HV:=hid hE;obtain⟨k1,k2⟩:=hk4;clear hE hx hk hb hrl hv;obtain⟨V,hV⟩:∃ V,EN (CX s 34 i)=V:=⟨_,rfl⟩
 rw[hV] at HV |-;clear hV;have hlt:(i:Int)<(s.size:Int):=by omega
 have k1i:(1:Int)<=(k:Int):=by omega
 have k2i:(i:Int)+(k:Int)<=(s.size:Int):=by omega
 go_enter Tryz.func291,Tryz.ntmps291;go_wp2_with fail;refine(hA _ (hT.below hb0)).mono ?_;rintro e w1 ⟨rfl,hb1⟩;have hb2:=hb0.trans (hb1.mono hb0.size);obtain⟨a0,a1⟩:=(Dl.new hb1).cells;clear hb1 hA hb0;by_cases h34:x=34
 ·have HR:=hid (HV.out.trans (congrArg EN (if_pos h34)));subst h34;clear HV;go_wp2;go_ret;exact⟨by rw[HR.out];rfl,hb2⟩
 have HR:=hid (HV.out.trans (congrArg EN (if_neg h34)));have b34:(x==34)=false:=by simpa using h34
 clear h34 HV;by_cases h92:x=92
 ·have HQ:=hid (HR.out.trans (congrArg EN (if_pos h92)));subst h92;clear HR;go_wp2_with fail;refine(Tp s 34 (i+1) _ hs (by omega) (hT.below hb2)).mono ?_;rintro e w3 ⟨rfl,hb5⟩;have hb6:=hb2.trans (hb5.mono hb2.size);clear hb5;rw[<- HQ.out];go_wp2;go_ret;exact⟨rfl,hb6⟩
 have HQ:=hid (HR.out.trans (congrArg EN (if_neg h92)));have b92:(x==92)=false:=by simpa using h92
 clear h92 HR;have hPl:=fun wx=>F8 x wx;cases hp:BA x with
 | true=>
  rw[hp] at hPl HQ;rw[if_pos rfl] at HQ;clear hp;go_wp2_with fail;refine(hPl _).mono ?_;rintro e w3 ⟨rfl,hw⟩;subst w3;clear hPl;go_wp2_with fail;refine(hR _).mono ?_;rintro e w3 ⟨rfl,hw⟩;subst w3;clear hR;go_wp2;go_ret;exact⟨by rw[HQ.out];rfl,hb2⟩
 | false=>
  rw[hp] at hPl HQ;rw[if_neg (by decide)] at HQ;clear hp;go_wp2_with fail;refine(hPl _).mono ?_;rintro e w3 ⟨rfl,hw⟩;subst w3;clear hPl;go_wp2;go_ret;exact⟨by rw[HQ.out];rfl,hb2⟩
theorem Aca (s:ByteArray) (i:Nat) (w:Y) (hs:s.size<=1000000) (hlen:i<s.size) (hv:validD (s.data.toList.drop i)=true) (hT:Bf w):
  Calls Tryz.prog 291 #[rdV s 39,I J i] w fun e w'=>e=.returned (EN (CX s 39 i))/\Below w.heap.size w w':=by
 have hb0:Below w.heap.size w (w.alloc (.cells #[Q s,.int .i32 39] 426)):=(Bq _ w).alloc Nr _;obtain⟨x,hx⟩:∃ x,AF s i=x:=⟨_,rfl⟩
 obtain⟨k,hk⟩:∃ k,(Utf8.decode s i).2=k:=⟨_,rfl⟩
 have hA:=fun wx hx'=>F9 s 39 i wx hs (by omega) hx';have hb:¬((Utf8.decode s i).1=65533/\(Utf8.decode s i).2=1):=fun hbad=>by
  rw[C6 s i hlen hbad.1 hbad.2] at hv;cases hv
 have hrl:runeLen x=(k:Int):=by
  have:=DD (s.data.toList.drop i) (CS s i hlen) (by rw[Lib.decodeL_drop];exact hb);rw[Lib.decodeL_drop,<- EX s i hlen,hx,hk] at this;exact this
 have hk4:1<=k/\i+k<=s.size:=by have:=decode_le s i hlen;rw[hk] at this;omega
 have hR:=fun wx=>Tryz.utf8_RuneLen x wx;rw[hrl] at hR;rw[hx] at hA;obtain⟨y,hy⟩:∃ y,AF s (i+1)=y:=⟨_,rfl⟩
 have hA2:=fun wx hx'=>F9 s 39 (i+1) wx hs (by omega) hx';rw[hy] at hA2;have hy2:y=39->(i:Int)+1<(s.size:Int):=fun h=>by
  rcases Nat.lt_or_ge (i+1) s.size with h2 | h2
  ·omega
  ·rw[NF s (i+1) h2] at hy;omega
 have hE:EN (CX s 39 i)=EN (if x=39 then (if y=39 then .sign 39 (i+2) else .fin (i+1)) else if BA x then .sign x (i+k) else .bad 42):=by
  unfold CX SS;rw[hx,hk,if_neg (by omega),hy];by_cases h34:x=39
  ·rw[if_pos h34,if_pos h34];by_cases hy9:y=39
   ·rw[if_pos hy9,if_pos ⟨h34,hy9,by have:=hy2 hy9;omega⟩]
   ·rw[if_neg hy9,if_neg (fun h=>hy9 h.2.1)]
  ·rw[if_neg h34,if_neg h34,if_neg (by omega)]
 have HV:=hid hE;obtain⟨k1,k2⟩:=hk4;clear hE hx hk hb hrl hv hy;obtain⟨V,hV⟩:∃ V,EN (CX s 39 i)=V:=⟨_,rfl⟩
 rw[hV] at HV |-;clear hV;have hlt:(i:Int)<(s.size:Int):=by omega
 have k1i:(1:Int)<=(k:Int):=by omega
 have k2i:(i:Int)+(k:Int)<=(s.size:Int):=by omega
 go_enter Tryz.func291,Tryz.ntmps291;go_wp2_with fail;refine(hA _ (hT.below hb0)).mono ?_;rintro e w1 ⟨rfl,hb1⟩;have hb2:=hb0.trans (hb1.mono hb0.size);have hr1:Dl w1 w.heap.size s 39:=Dl.new hb1;obtain⟨a0,a1⟩:=hr1.cells;clear hb1 hA hb0;by_cases h39:x=39
 ·have HR:=hid (HV.out.trans (congrArg EN (if_pos h39)));subst h39;clear HV;by_cases hy9:y=39
  ·have HQ:=hid (HR.out.trans (congrArg EN (if_pos hy9)));have hlt1:=hy2 hy9;clear HR;subst hy9;clear hy2;go_wp2_with fail;refine(hA2 _ (hT.below hb2)).mono ?_;rintro e w2 ⟨rfl,hb3⟩;have hb4:=hb2.trans (hb3.mono hb2.size);obtain⟨c0,c1⟩:=(hr1.below hb3).cells;clear hb3 hA2 a0 a1;go_wp2;go_ret;exact⟨by rw[HQ.out];rfl,hb4⟩
  ·have HQ:=hid (HR.out.trans (congrArg EN (if_neg hy9)));have by9:(y==39)=false:=by simpa using hy9
   clear HR hy2 hy9;go_wp2_with fail;refine(hA2 _ (hT.below hb2)).mono ?_;rintro e w2 ⟨rfl,hb3⟩;have hb4:=hb2.trans (hb3.mono hb2.size);obtain⟨c0,c1⟩:=(hr1.below hb3).cells;clear hb3 hA2 a0 a1;go_wp2;go_ret;exact⟨by rw[HQ.out];rfl,hb4⟩
 have HQ:=hid (HV.out.trans (congrArg EN (if_neg h39)));have b39:(x==39)=false:=by simpa using h39
 clear h39 HV hA2 hy2;by_cases h92:x=92
 ·subst h92;have hPl:=fun wx=>F8 92 wx;rw[show BA 92=true from rfl] at hPl HQ;rw[if_pos rfl] at HQ;go_wp2_with fail;refine(hPl _).mono ?_;rintro e w3 ⟨rfl,hw⟩;subst w3;clear hPl;go_wp2_with fail;refine(hR _).mono ?_;rintro e w3 ⟨rfl,hw⟩;subst w3;clear hR;go_wp2;go_ret;exact⟨by rw[HQ.out];rfl,hb2⟩
 have b92:(x==92)=false:=by simpa using h92
 clear h92;have hPl:=fun wx=>F8 x wx;cases hp:BA x with
 | true=>
  rw[hp] at hPl HQ;rw[if_pos rfl] at HQ;clear hp;go_wp2_with fail;refine(hPl _).mono ?_;rintro e w3 ⟨rfl,hw⟩;subst w3;clear hPl;go_wp2_with fail;refine(hR _).mono ?_;rintro e w3 ⟨rfl,hw⟩;subst w3;clear hR;go_wp2;go_ret;exact⟨by rw[HQ.out];rfl,hb2⟩
 | false=>
  rw[hp] at hPl HQ;rw[if_neg (by decide)] at HQ;clear hp;go_wp2_with fail;refine(hPl _).mono ?_;rintro e w3 ⟨rfl,hw⟩;subst w3;clear hPl;go_wp2;go_ret;exact⟨by rw[HQ.out];rfl,hb2⟩
theorem Aa0 (s:ByteArray) (q:Int) (hq:q=34\/q=39) (i:Nat) (w:Y) (hs:s.size<=1000000) (hi:i<=1000000) (hv:i<s.size->validD (s.data.toList.drop i)=true) (hT:Bf w):
  Calls Tryz.prog 291 #[rdV s q,I J i] w fun e w'=>e=.returned (EN (CX s q i))/\Below w.heap.size w w':=by
 rcases Nat.lt_or_ge i s.size with h | h
 ·rcases hq with rfl | rfl
  ·exact Adl s i w hs h (hv h) hT
  ·exact Aca s i w hs h (hv h) hT
 ·exact Yp s q i w hs hi h hT
theorem SG {s:ByteArray} {i:Nat} (hi:i<s.size) (hv:validD (s.data.toList.drop i)=true):validD (s.data.toList.drop (i+(Utf8.decode s i).2))=true:=by
 rw[<- J7 s i hi (fun hbad=>by rw[C6 s i hi hbad.1 hbad.2] at hv;cases hv)];exact hv
theorem G6 (s:ByteArray) (i:Nat) (hi:i<s.size):s.data.toList.drop i=s[i]'hi::s.data.toList.drop (i+1):=by
 rw[List.drop_eq_getElem_cons (by rw[<- Lib.size_eq];exact hi)];rfl
theorem DH {s:ByteArray} {i:Nat} (hi:i<s.size) (hv:validD (s.data.toList.drop i)=true) (hb:AF s i<128):validD (s.data.toList.drop (i+1))=true:=by
 have h:=JM s i hi _ rfl hb;rw[G6 s i hi,validD_cons _ _ (by omega)] at hv;exact hv
theorem Uo {c:UInt8} {d:Nat} (h:MG c=F d):c.toNat<128:=by
 have hall:∀ n:Fin 256,(MG (UInt8.ofNat n.val)).isSome=true->n.val<128:=by decide+kernel
 have:=hall ⟨c.toNat,c.toNat_lt⟩;simp only[UInt8.ofNat_toNat] at this;exact this (by rw[h];rfl)
theorem Nm:∀ (k:Nat) (l:List UInt8) (acc v:Nat),D2 acc (l.take k)=F v->k<=l.length->validD l=true->validD (l.drop k)=true
 | 0,_,_,_,_,_,hv=>hv
 | k+1,[],_,_,_,hk,_=>by simp at hk
 | k+1,c::t,acc,v,h,hk,hv=>by
  rw[List.take_succ_cons] at h;unfold D2 at h;split at h
  ·cases h
  ·rename_i d hd;rw[validD_cons c t (Uo hd)] at hv;exact Nm k t _ v h (by simpa using hk) hv
theorem VU {s:ByteArray} {p k:Nat} {r:Int} {tq:Nat} (hp:p<=s.size) (hv:p<s.size->validD (s.data.toList.drop p)=true) (hk:0<k) (h:ES s p k=.sign r tq):tq=p+k/\tq<=s.size/\(tq<s.size->validD (s.data.toList.drop tq)=true)/\Lib.validRune r=true:=by
 unfold ES KX at h;by_cases hl:(s.data.toList.drop p).length<k
 ·rw[if_pos hl] at h;cases h
 ·rw[if_neg hl] at h;cases hx:D2 0 ((s.data.toList.drop p).take k) with
  | none=>rw[hx] at h;cases h
  | some v=>
   rw[hx] at h;dsimp only at h;cases hvr:Lib.validRune (v:Int) with
   | false=>rw[hvr] at h;cases h
   | true=>
    rw[hvr] at h;injection h with h1 h2;have hlen:p+k<=s.size:=by rw[List.length_drop,<- Lib.size_eq] at hl;omega
    subst h2;refine⟨rfl,hlen,fun hlt=>?_,by rw[<- h1];exact hvr⟩;have:=Nm k _ 0 v hx (by omega) (hv (by omega));rw[List.drop_drop] at this;exact this
theorem S4 {x:Int} (h:Bw [34,92,47] x=true):x=34\/x=92\/x=47:=by
 unfold Bw at h;simpa using h
theorem ZU {x y:Int} (h:E8 x=F y):(x=110/\y=10)\/(x=116/\y=9)\/(x=114/\y=13):=by
 unfold E8 at h;split at h
 ·injection h with h;omega
 ·split at h
  ·injection h with h;omega
  ·split at h
   ·injection h with h;omega
   ·cases h
theorem W8 {s:ByteArray} {p:Nat} {r:Int} {tq:Nat} (hp:p<=s.size) (hv:p<s.size->validD (s.data.toList.drop p)=true) (h:MS s p=.sign r tq):p<tq/\tq<=s.size/\(tq<s.size->validD (s.data.toList.drop tq)=true)/\Lib.validRune r=true:=by
 unfold MS MY at h;split at h
 ·cases h
 ·rename_i hlt;have hlt:p<s.size:=by omega
  have key:AF s p<128->tq=p+1->p<tq/\tq<=s.size/\(tq<s.size->validD (s.data.toList.drop tq)=true):=fun hb e=>by
   subst e;exact⟨by omega,by omega,fun _=>DH hlt (hv hlt) hb⟩
  have knum:AF s p<128->∀ k,0<k->ES s (p+1) k=.sign r tq->p<tq/\tq<=s.size/\(tq<s.size->validD (s.data.toList.drop tq)=true)/\Lib.validRune r=true:=fun hb k hk e=>by
   obtain⟨h1,h2,h3,h4⟩:=VU (by omega) (fun _=>DH hlt (hv hlt) hb) hk e;exact⟨by omega,h2,h3,h4⟩
  split at h
  ·rename_i hm;injection h with h1 h2;rcases S4 hm with e | e | e<;>(have:=key (by omega) h2.symm;exact⟨this.1,this.2.1,this.2.2,by rw[<- h1,e];rfl⟩)
  ·split at h
   ·rename_i e;injection h with h1 h2;have:=key (by omega) h2.symm;exact⟨this.1,this.2.1,this.2.2,by rw[<- h1];rfl⟩
   ·split at h
    ·exact knum (by omega) 2 (by omega) h
    ·split at h
     ·exact knum (by omega) 4 (by omega) h
     ·split at h
      ·rename_i y hy;injection h with h1 h2;subst h1;rcases ZU hy with ⟨e,rfl⟩ | ⟨e,rfl⟩ | ⟨e,rfl⟩<;>(have:=key (by omega) h2.symm;exact⟨this.1,this.2.1,this.2.2,rfl⟩)
      ·cases h
theorem Ha (l:List UInt8) (hne:l≠[]) (h:¬((decodeL l).1=65533/\(decodeL l).2=1)):Lib.validRune ((decodeL l).1:Int)=true:=by
 have h1:=decodeL_rune l;have h2:=DD l hne h;have h3:=decodeL_width l;unfold runeLen at h2;unfold Lib.validRune;rw[decide_eq_true_eq];split at h2
 ·omega
 ·split at h2
  ·omega
  ·split at h2
   ·omega
   ·split at h2
    ·omega
    ·omega
theorem OU {s:ByteArray} {i:Nat} (hi:i<s.size) (hv:validD (s.data.toList.drop i)=true):Lib.validRune (AF s i)=true:=by
 rw[EX s i hi,<- Lib.decodeL_drop];exact Ha _ (CS s i hi) (fun hbad=>by rw[Lib.decodeL_drop] at hbad;rw[C6 s i hi hbad.1 hbad.2] at hv;cases hv)
theorem Fh {s:ByteArray} {q:Int} {i:Nat} {r:Int} {tq:Nat} (hi:i<=s.size) (hv:i<s.size->validD (s.data.toList.drop i)=true) (h:CX s q i=.sign r tq):i<s.size/\i<tq/\tq<=s.size/\(tq<s.size->validD (s.data.toList.drop tq)=true)/\Lib.validRune r=true:=by
 unfold CX SS at h;split at h
 ·cases h
 ·rename_i hlt;have hlt:i<s.size:=by omega
  refine⟨hlt,?_⟩;split at h
  ·rename_i hq;split at h
   ·rename_i h39;injection h with h1 h2;subst h2;have hv1:=DH hlt (hv hlt) (by omega);have hv2:=DH h39.2.2 hv1 (by omega);exact⟨by omega,by omega,fun _=>hv2,by rw[<- h1];rfl⟩
   ·cases h
  ·split at h
   ·rename_i h92;obtain⟨h1,h2,h3,h4⟩:=W8 (by omega) (fun _=>DH hlt (hv hlt) (by omega)) h;exact⟨by omega,h2,h3,h4⟩
   ·split at h
    ·injection h with h1 h2;subst h2;have:=decode_le s i hlt;exact⟨by omega,by omega,fun _=>SG hlt (hv hlt),by rw[<- h1];exact OU hlt (hv hlt)⟩
    ·cases h
def B3 (s:ByteArray) (q:Int):Nat->Nat->List QP
 | 0,_=>[]
 | f+1,i=>match CX s q i with
  | .sign r tq=>.sign r tq::B3 s q f tq
  | .fin tq=>[.fin tq]
  | .bad e=>[.bad e]
def AG (s:ByteArray) (q:Int) (i:Nat):List QP:=B3 s q (s.size+1 - i) i
theorem IX (s:ByteArray) (q:Int):∀ (f g i:Nat),i<=s.size->(i<s.size->validD (s.data.toList.drop i)=true)->s.size+1 - i<=f->s.size+1 - i<=g->B3 s q f i=B3 s q g i
 | 0,_,i,hi,_,hf,_=>by omega
 | _+1,0,i,hi,_,_,hg=>by omega
 | f+1,g+1,i,hi,hv,hf,hg=>by
  unfold B3;cases ho:CX s q i with
  | fin tq=>rfl
  | bad e=>rfl
  | sign r tq=>
   obtain⟨h1,h2,h3,h4,_⟩:=Fh hi hv ho;exact congrArg _ (IX s q f g tq h3 h4 (by omega) (by omega))
theorem O4 {s:ByteArray} {q:Int} {i:Nat} {r:Int} {tq:Nat} (hi:i<=s.size) (hv:i<s.size->validD (s.data.toList.drop i)=true) (h:CX s q i=.sign r tq):AG s q i=.sign r tq::AG s q tq:=by
 obtain⟨h1,h2,h3,h4,_⟩:=Fh hi hv h;unfold AG;obtain⟨n,hn⟩:∃ n,s.size+1 - i=n+1:=⟨s.size - i,by omega⟩
 rw[hn];show(match CX s q i with | .sign r tq=>QP.sign r tq::B3 s q n tq | .fin tq=>[QP.fin tq] | .bad e=>[QP.bad e])=_;rw[h];exact congrArg _ (IX s q _ _ tq h3 h4 (by omega) (by omega))
theorem Q0 {s:ByteArray} {q:Int} {i:Nat} {tq:Nat} (hi:i<=s.size) (h:CX s q i=.fin tq):AG s q i=[.fin tq]:=by
 unfold AG;obtain⟨n,hn⟩:∃ n,s.size+1 - i=n+1:=⟨s.size - i,by omega⟩
 rw[hn];show(match CX s q i with | .sign r tq=>QP.sign r tq::B3 s q n tq | .fin tq=>[QP.fin tq] | .bad e=>[QP.bad e])=_;rw[h]
theorem Rr {s:ByteArray} {q:Int} {i:Nat} {e:Int} (hi:i<=s.size) (h:CX s q i=.bad e):AG s q i=[.bad e]:=by
 unfold AG;obtain⟨n,hn⟩:∃ n,s.size+1 - i=n+1:=⟨s.size - i,by omega⟩
 rw[hn];show(match CX s q i with | .sign r tq=>QP.sign r tq::B3 s q n tq | .fin tq=>[QP.fin tq] | .bad e=>[QP.bad e])=_;rw[h]
def CB:List QP->List UInt8->List UInt8×Nat×Int
 | [],_=>([],0,42)
 | .sign r _::t,acc=>CB t (acc++encodeRune r)
 | .fin tq::_,acc=>(acc,tq,0)
 | .bad e::_,_=>([],0,e)
def Ec (s:ByteArray) (p:Int):Option Int:=if p<0 then O else if h:p.toNat<s.size then (if s[p.toNat]'h=34 then F 34 else if s[p.toNat]'h=39 then F 39 else O) else O
def C2 (s:ByteArray) (p:Int):List UInt8×Nat×Int:=
 if validD s.data.toList then match Ec s p with
  | some q=>CB (AG s q (p.toNat+1)) []
  | none=>([],0,42)
 else ([],0,40)
end
section
set_option maxRecDepth 100000
set_option maxHeartbeats 2000000
attribute [local go_sem] Oper.semAt_some
theorem LF (v:Value) (w:Y):(Instr.typeAssert (.iface 431 v) 429 431 true).run Tryz.prog w=.ok (.tuple #[v,.bool true]) w:=by kernel_rfl
theorem Nt (v:Value) (w:Y):(Instr.typeAssert (.iface 433 v) 429 431 true).run Tryz.prog w=.ok (.tuple #[.agg #[.int .i32 0,I J 0],.bool false]) w:=by kernel_rfl
theorem N1 (v:Value) (w:Y):(Instr.typeAssert (.iface 435 v) 429 431 true).run Tryz.prog w=.ok (.tuple #[.agg #[.int .i32 0,I J 0],.bool false]) w:=by kernel_rfl
theorem PS (n:Nat) (r tq:Int) (w:Y):(method (n+1) 431 (.agg #[.int .i32 r,I J tq]) "sigillary/quote.next").run Tryz.prog w=.ok (351,.agg #[.int .i32 r,I J tq]) w:=by kernel_rfl
theorem X3 (r tq:Int) (w:Y):
  Calls Tryz.prog 351 #[.agg #[.int .i32 r,I J tq]] w fun e w'=>e=.returned (I J tq)/\w'=w.alloc (.cells #[.int .i32 r,I J tq] 431):=by
 go_enter Tryz.func351,Tryz.ntmps351;go_wp2;go_ret;exact⟨rfl,rfl⟩
theorem SQ (s:ByteArray) (q:Int) (i:Nat) (w:Y):
  Calls Tryz.prog 281 #[rdV s q,I J i] w fun e w'=>e=.returned (.func (.func 290) #[] #[.pointer (F ⟨w.heap.size,0,O⟩),.pointer (F ⟨w.heap.size+1,0,O⟩)])/\w'=(w.alloc (.cells #[Q s,.int .i32 q] 426)).alloc (.cells #[I J i] 3):=by
 go_enter Tryz.func281,Tryz.ntmps281;go_wp2;go_ret;exact⟨by simp,rfl⟩
abbrev Aea (p:QP):Array Value:=#[EN p]
def Zw (w:Y) (b:Nat):Nat:=match w.cell? ⟨b,0,O⟩ with | some (.int _ n)=>n.toNat | _=>0
theorem PO {w:Y} {b:Nat} {t:TypeId} {i:Nat} (h:Boxed w b t (I J i)):Zw w b=i:=by
 unfold Zw;rw[h.cell];simp
theorem RM (s:ByteArray) (q:Int) (hq:q=34\/q=39) (i0 Br Bi n₀:Nat) (w0:Y) (hT0:Bf w0) (hN:w0.heap.size<=n₀) (hBi:w0.heap.size<=Bi) (hne:Br≠Bi) (hs:s.size<=1000000) (hi0:i0<=s.size) (hv0:i0<s.size->validD (s.data.toList.drop i0)=true):
  Ac4 Tryz.prog 290 #[.pointer (F ⟨Br,0,O⟩),.pointer (F ⟨Bi,0,O⟩)] Aea (fun k=>k=Br\/k=Bi) n₀ (AG s q i0) (fun W=>Dl W Br s q/\Boxed W Bi 3 (I J i0)/\Below w0.heap.size w0 W):=by
 intro l Jz Jx W ⟨hr,hc,hbl⟩ hJ hJx hY h0;refine callsIn_of_wp Tryz.func290 rfl trivial ?_ rfl;simp only[Tryz.ntmps290,List.size_toArray,List.length_cons,List.length_nil,Nat.reduceAdd,Nat.reduceSub,Array.replicate_succ,Array.replicate_zero,List.push_toArray,List.append_toArray,List.nil_append,List.cons_append]
 have HV0:=hid hv0;clear hv0
 gi_wp2
 refine Ey ?_
 gi_wp2
 refine wpIn_label ?_
 gi_wp2
 gi_loopw [4] (fun _ wr=>∃ (i:Nat) (pre:List QP),Dl wr Br s q/\Boxed wr Bi 3 (I J i)/\Below w0.heap.size w0 wr/\W.heap.size<=wr.heap.size/\Jz pre wr/\i<=s.size/\Hid (i<s.size->validD (s.data.toList.drop i)=true)/\Hid (AG s q i0=pre++AG s q i)) (fun _ wr=>s.size+1 - Zw wr Bi)
 case atStart=>exact⟨i0,[],hr,hc,hbl,Nat.le_refl _,h0,hi0,HV0,hid rfl⟩
 case round=>
  obtain⟨i,pre,hr1,hc1,hb1,hz1,hJ1,hi1,HV1,HP⟩:=hrel;clear hr hc hbl h0 HV0;obtain⟨r0,r1⟩:=hr1.cells;have k0:=hc1.cell;have HM:=hid (PO hc1)
  gi_wp2_with fail
  refine⟨trivial,rfl,(callsIn_wide.2 (Aa0 s q hq i _ hs (by omega) HV1.out (hT0.below hb1))).mono ?_⟩;rintro e w2 ⟨rfl,hb2⟩;have hb3:=hb1.trans (hb2.mono hb1.size);have hr2:=hr1.below hb2;have hc2:Boxed w2 Bi 3 (I J i):=Ab hc1 hb2;have hJ2:=hJ _ _ _ hJ1 (Ah.of_below hb2);have hz2:=Nat.le_trans hz1 hb2.size;clear r0 r1 k0 hr1 hc1 hJ1;cases ho:CX s q i with
  | sign r tq=>
   obtain⟨g1,g2,g3,g4,_⟩:=Fh hi1 HV1.out ho;have hps:=O4 hi1 HV1.out ho;have HS:=hid (show AG s q i0=(pre++[.sign r tq])++AG s q tq by rw[HP.out,hps,List.append_assoc];rfl);have hta:=LF (.agg #[.int .i32 r,I J tq]);have HG:=hid g4;unfold EN;have hJ3:Jz pre (w2.alloc (.cells #[.int .i32 r,I J tq] 431)):=hJ _ _ _ hJ2 (Ah.alloc _ _);have hr3:Dl (w2.alloc (.cells #[.int .i32 r,I J tq] 431)) Br s q:=hr2.below ((Bq _ _).alloc Nr _);have hc3:Boxed (w2.alloc (.cells #[.int .i32 r,I J tq] 431)) Bi 3 (I J i):=hc2.alloc _;have hb4:Below w0.heap.size w0 (w2.alloc (.cells #[.int .i32 r,I J tq] 431)):=hb3.alloc hb3.size _;have hz3:W.heap.size<=(w2.alloc (.cells #[.int .i32 r,I J tq] 431)).heap.size:=by simp;omega
   have hpre:pre++[QP.sign r tq]<+:AG s q i0:=⟨_,HS.out.symm⟩
   obtain⟨fn,tmps,assign,body,hy,hR⟩:=hY pre (QP.sign r tq) _ hJ3 hpre;dsimp only[Aea,EN] at hy;have HPR:=hid hpre;clear ho hps g4 HV1 HP hb1 hb2 hpre hJ2 hr2 hc2 hb3 hz2
   gi_wp2
   refine⟨rfl,hR.mono ?_⟩;rintro e W3 (⟨rfl,hJ4,hk4⟩ | ⟨rfl,hJ4,hk4⟩)
   ·have hr4:Dl W3 Br s q:=hk4.heap hr3 (.inr (.inl (.inl rfl)));have hc4:Boxed W3 Bi 3 (I J i):=Gm hc3 hk4 (.inr (.inr rfl));have hb5:Below w0.heap.size w0 W3:=hk4.below hb4 hN Nr;have hz4:=Nat.le_trans hz3 hk4.size;have k4:=hc4.cell;have f4:=hc4.frozen;clear hy hJ3 hr3 hc3 hb4 hz3 hk4;have hme:=fun n=>PS n r tq W3
    gi_wp2_with fail
    refine⟨trivial,rfl,(callsIn_wide.2 (X3 r tq W3)).mono ?_⟩;rintro e W4 ⟨rfl,rfl⟩;have hr5:Dl ((W3.alloc (.cells #[.int .i32 r,I J tq] 431)).setCell ⟨Bi,0,O⟩ (I J tq)) Br s q:=(Bh _ _ _ Br hne).trans (hr4.below ((Bq _ _).alloc Nr _));have hc5:Boxed ((W3.alloc (.cells #[.int .i32 r,I J tq] 431)).setCell ⟨Bi,0,O⟩ (I J tq)) Bi 3 (I J tq):=(hc4.alloc _).set _;have hb6:Below w0.heap.size w0 ((W3.alloc (.cells #[.int .i32 r,I J tq] 431)).setCell ⟨Bi,0,O⟩ (I J tq)):=(hb5.alloc hb5.size _).setCell (p:=⟨Bi,0,O⟩) hBi _;have hJ5:Jz (pre++[QP.sign r tq]) ((W3.alloc (.cells #[.int .i32 r,I J tq] 431)).setCell ⟨Bi,0,O⟩ (I J tq)):=hJ _ _ _ (hJ _ _ _ hJ4 (Ah.alloc _ _)) (Ah.setCell _ _ _ (.inr rfl));have hz5:W.heap.size<=((W3.alloc (.cells #[.int .i32 r,I J tq] 431)).setCell ⟨Bi,0,O⟩ (I J tq)).heap.size:=by simp[World.setCell];omega
    have HM2:=hid (PO hc5);have k5:=(hc4.alloc (.cells #[.int .i32 r,I J tq] 431)).cell;have f5:=(hc4.alloc (.cells #[.int .i32 r,I J tq] 431)).frozen;clear k4 f4;clear hr4 hc4 hb5 hJ4 hz4 hme
    gi_wp2
    go_roundw
    case rel=>exact⟨tq,_,hr5,hc5,hb6,hz5,hJ5,g3,HG,HS⟩
    case measure=>rw[HM.out,HM2.out];omega
   ·clear hy hJ3 hr3 hc3 hb4 hz3 hk4
    gi_wp2
    try simp only[Exit.noGoto_normal]
    go_end0;exact⟨⟨_,rfl⟩,.inr ⟨_,HPR.out,hJ4⟩⟩
  | fin tq=>
   have hps:=Q0 hi1 ho;have HS:=hid (show AG s q i0=pre++[QP.fin tq] by rw[HP.out,hps]);have hta:=Nt (.agg #[I J tq]);unfold EN;have hJ3:Jz pre (w2.alloc (.cells #[.int .i32 0,I J 0] 431)):=hJ _ _ _ hJ2 (Ah.alloc _ _);have hpre:pre++[QP.fin tq]<+:AG s q i0:=⟨[],by rw[HS.out,List.append_nil]⟩
   obtain⟨fn,tmps,assign,body,hy,hR⟩:=hY pre (QP.fin tq) _ hJ3 hpre;dsimp only[Aea,EN] at hy;have HPR:=hid hpre;clear ho hps HV1 HP hb1 hb2 hpre hJ2 hr2 hc2 hb3 hz2
   gi_wp2
   refine⟨rfl,hR.mono ?_⟩;rintro e W3 (⟨rfl,hJ4,hk4⟩ | ⟨rfl,hJ4,hk4⟩)
   ·clear hy hJ3 hk4
    gi_wp2
    try simp only[Exit.noGoto_normal]
    go_end0;exact⟨⟨_,rfl⟩,.inl (by rw[HS.out];exact hJ4)⟩
   ·clear hy hJ3 hk4
    gi_wp2
    try simp only[Exit.noGoto_normal]
    go_end0;exact⟨⟨_,rfl⟩,.inr ⟨_,HPR.out,hJ4⟩⟩
  | bad e0=>
   have hps:=Rr hi1 ho;have HS:=hid (show AG s q i0=pre++[QP.bad e0] by rw[HP.out,hps]);have hta:=N1 (.agg #[I J e0]);unfold EN;have hJ3:Jz pre (w2.alloc (.cells #[.int .i32 0,I J 0] 431)):=hJ _ _ _ hJ2 (Ah.alloc _ _);have hpre:pre++[QP.bad e0]<+:AG s q i0:=⟨[],by rw[HS.out,List.append_nil]⟩
   obtain⟨fn,tmps,assign,body,hy,hR⟩:=hY pre (QP.bad e0) _ hJ3 hpre;dsimp only[Aea,EN] at hy;have HPR:=hid hpre;clear ho hps HV1 HP hb1 hb2 hpre hJ2 hr2 hc2 hb3 hz2
   gi_wp2
   refine⟨rfl,hR.mono ?_⟩;rintro e W3 (⟨rfl,hJ4,hk4⟩ | ⟨rfl,hJ4,hk4⟩)
   ·clear hy hJ3 hk4
    gi_wp2
    try simp only[Exit.noGoto_normal]
    go_end0;exact⟨⟨_,rfl⟩,.inl (by rw[HS.out];exact hJ4)⟩
   ·clear hy hJ3 hk4
    gi_wp2
    try simp only[Exit.noGoto_normal]
    go_end0;exact⟨⟨_,rfl⟩,.inr ⟨_,HPR.out,hJ4⟩⟩
def AT (w:Y) (k:Nat) (T:TypeId):Prop:=∃ c fz,w.heap[k]? =F (.cells c T fz)
theorem AT.turn {C:Nat->Prop} {n k:Nat} {T:TypeId} {X Yz:Y} (h:AT X k T) (ht:Ah C n X Yz):AT Yz k T:=by
 obtain⟨c,fz,h⟩:=h;exact ht.kinds k c T fz h
theorem AT.below {k:Nat} {T:TypeId} {X Yz:Y} (h:AT X k T) (hb:Below X.heap.size X Yz):AT Yz k T:=by
 obtain⟨c,fz,h⟩:=h;exact⟨c,fz,Ay h hb⟩
theorem AT.others {b k:Nat} {T:TypeId} {X Yz:Y} (h:AT X k T) (ho:Lib.OthersKept T8 (F b) X Yz) (hb:k≠b) (hT:T≠T8):AT Yz k T:=by
 obtain⟨c,fz,h⟩:=h;exact⟨c,fz,ho k _ h (fun e=>hb (Option.some.inj e)) (fun c' fz' e=>hT (by injection e))⟩
theorem AT.ne {w:Y} {k b:Nat} {T T':TypeId} {c:Array Value} {fz:Nat×Nat} (h:AT w k T) (hb:w.heap[b]? =F (.cells c T' fz)) (hT:T≠T'):k≠b:=by
 rintro rfl;obtain⟨c',fz',h⟩:=h;rw[hb] at h;injection h with h;injection h with _ h;exact hT h.symm
theorem BuilderAtF.turn {C:Nat->Prop} {n B b:Nat} {p:Value} {bs:List Value} {X Yz:Y} (h:Lib.BuilderAtF TB T8 B b p bs X) (ht:Ah C n X Yz) (hC:∀ k,C k->∃ T,T≠TB/\T≠T8/\AT X k T):Lib.BuilderAtF TB T8 B b p bs Yz:=by
 obtain⟨hB,v,hb,hown,hne⟩:=h;have hnb:¬C b:=fun hc=>by obtain⟨T,h1,_,h3⟩:=hC b hc;exact h3.ne hb h1 rfl
 refine⟨hB,v,ht.heap hb hnb rfl,⟨hown.1,?_⟩,hne⟩;rcases hown.2 with h0 | ⟨g,cap,cur,fz,hv,h1,h2,h3⟩
 ·exact .inl h0
 ·have hng:¬C g:=fun hc=>by obtain⟨T,_,h5,h6⟩:=hC g hc;exact h6.ne h2 h5 rfl
  exact .inr ⟨g,cap,cur,fz,hv,h1,ht.heap h2 hng rfl,h3⟩
theorem IsBuilderF.turn {C:Nat->Prop} {n B b:Nat} {bs:List Value} {X Yz:Y} (h:Lib.IsBuilderF TB T8 B b bs X) (ht:Ah C n X Yz) (hC:∀ k,C k->∃ T,T≠TB/\T≠T8/\AT X k T):Lib.IsBuilderF TB T8 B b bs Yz:=
 h.imp (fun h=>BuilderAtF.turn h ht hC) (fun h=>BuilderAtF.turn h ht hC)
theorem Ae.others {C:Nat->Prop} {n₀ B b:Nat} {X Yz:Y} (ho:Lib.OthersKept T8 (F b) X Yz) (hb:Below B X Yz) (hn:n₀<=B) (hbb:AT X b TB) (hC:∀ k,C k->k≠b/\∃ T,T≠T8/\AT X k T):Ae Ar C n₀ X Yz:=
 ⟨hb.os,hb.tape,hb.output,hb.size,fun k o hk hc=>by
  rcases hc with hc | hc | hc
  ·exact(hb.block k (by omega)).trans hk
  ·obtain⟨h1,T,h2,c,fz,h3⟩:=hC k hc;rw[hk] at h3;injection h3 with h3;subst h3;exact ho k _ hk (fun e=>h1 (Option.some.inj e)) (fun c' fz' e=>h2 (by injection e))
  ·by_cases hkb:k=b
   ·subst hkb;obtain⟨c,fz,h3⟩:=hbb;rw[hk] at h3;injection h3 with h3;subst h3;cases hc
   ·exact ho k o hk (fun e=>hkb (Option.some.inj e)) (fun c fz e=>by subst e;cases hc)⟩
theorem Ox {s:ByteArray} {p:Int} (h:Ec s p=O):p<0\/(s.size:Int)<=p\/∃ (n:Nat) (hn:n<s.size),p=n/\Bw [34,39] (((s[n]'hn).toNat:Nat):Int)=false:=by
 unfold Ec at h;by_cases h0:p<0
 ·exact .inl h0
 ·rw[if_neg h0] at h;by_cases h1:p.toNat<s.size
  ·rw[dif_pos h1] at h;refine .inr (.inr ⟨p.toNat,h1,by omega,?_⟩);by_cases h2:s[p.toNat]'h1=34
   ·rw[if_pos h2] at h;cases h
   ·rw[if_neg h2] at h;by_cases h3:s[p.toNat]'h1=39
    ·rw[if_pos h3] at h;cases h
    ·have e2:(s[p.toNat]'h1).toNat≠34:=fun e=>h2 (UInt8.toNat_inj.1 (by simpa using e));have e3:(s[p.toNat]'h1).toNat≠39:=fun e=>h3 (UInt8.toNat_inj.1 (by simpa using e));unfold Bw;simp;omega
  ·exact .inr (.inl (by omega))
theorem Oi {s:ByteArray} {p q:Int} (h:Ec s p=F q):∃ (n:Nat) (hn:n<s.size),p=n/\(((s[n]'hn).toNat:Nat):Int)=q/\(q=34\/q=39):=by
 unfold Ec at h;by_cases h0:p<0
 ·rw[if_pos h0] at h;cases h
 ·rw[if_neg h0] at h;by_cases h1:p.toNat<s.size
  ·rw[dif_pos h1] at h;refine⟨p.toNat,h1,by omega,?_⟩;by_cases h2:s[p.toNat]'h1=34
   ·rw[if_pos h2] at h;injection h with h;rw[h2];exact⟨h,.inl h.symm⟩
   ·rw[if_neg h2] at h;by_cases h3:s[p.toNat]'h1=39
    ·rw[if_pos h3] at h;injection h with h;rw[h3];exact⟨h,.inr h.symm⟩
    ·rw[if_neg h3] at h;cases h
  ·rw[dif_neg h1] at h;cases h
theorem FS (w:Y) (t0 t1 t2:TypeId) (v0 v1 v2:Value):Boxed (((w.alloc (.cells #[v0] t0)).alloc (.cells #[v1] t1)).alloc (.cells #[v2] t2)) w.heap.size t0 v0/\Boxed (((w.alloc (.cells #[v0] t0)).alloc (.cells #[v1] t1)).alloc (.cells #[v2] t2)) (w.heap.size+1) t1 v1/\Boxed (((w.alloc (.cells #[v0] t0)).alloc (.cells #[v1] t1)).alloc (.cells #[v2] t2)) (w.heap.size+1+1) t2 v2:=by
 refine⟨((Boxed.new w t0 v0).alloc _).alloc _,?_,?_⟩
 ·have:=(Boxed.new (w.alloc (.cells #[v0] t0)) t1 v1).alloc (.cells #[v2] t2)
  rwa [World.size_alloc] at this
 ·have:=Boxed.new ((w.alloc (.cells #[v0] t0)).alloc (.cells #[v1] t1)) t2 v2
  rwa [World.size_alloc,World.size_alloc] at this
theorem Ag {X:Y} {k b:Nat} {t:TypeId} {v:Value} (h:Boxed X k t v) (hne:k≠b) (u:Value):Boxed (X.setCell ⟨b,0,O⟩ u) k t v:=(Bh X ⟨b,0,O⟩ u k hne).trans h
theorem TV {w W:Y} {N n:Nat} {t0 t1 t2:TypeId} {u0 u1 u2:Value} (hb:Below n w W) (b0:Boxed W N t0 u0) (b1:Boxed W (N+1) t1 u1) (b2:Boxed W (N+1+1) t2 u2) (hn:n<=N) (v0 v1 v2:Value):
  (((W.setCell ⟨N,0,O⟩ v0).setCell ⟨N+1,0,O⟩ v1).setCell ⟨N+1+1,0,O⟩ v2).cell? ⟨N,0,O⟩=F v0/\(((W.setCell ⟨N,0,O⟩ v0).setCell ⟨N+1,0,O⟩ v1).setCell ⟨N+1+1,0,O⟩ v2).cell? ⟨N+1,0,O⟩=F v1/\(((W.setCell ⟨N,0,O⟩ v0).setCell ⟨N+1,0,O⟩ v1).setCell ⟨N+1+1,0,O⟩ v2).cell? ⟨N+1+1,0,O⟩=F v2∧
  Below n w (((W.setCell ⟨N,0,O⟩ v0).setCell ⟨N+1,0,O⟩ v1).setCell ⟨N+1+1,0,O⟩ v2):=by
 refine⟨(Ag (Ag (b0.set v0) (by simp) v1) (by simp;omega) v2).cell,(Ag ((Ag b1 (by simp) v0).set v1) (by simp) v2).cell,((Ag (Ag b2 (by simp;omega) v0) (by simp) v1).set v2).cell,?_⟩;exact((hb.setCell (p:=⟨N,0,O⟩) hn _).setCell (p:=⟨N+1,0,O⟩) (by simp;omega) _).setCell (p:=⟨N+1+1,0,O⟩) (by simp;omega) _
def FK (x:List UInt8×Nat×Int):Value:=.tuple #[Q ⟨x.1.toArray⟩,I J x.2.1,I J x.2.2]
theorem Aar (s:ByteArray) (p:Int) (w:Y) (hs:s.size<=1000000) (hv:validD s.data.toList=false) (hT:Bf w):
  Calls Tryz.prog 268 #[Q s,I J p] w fun e w'=>e=.returned (FK ([],0,40))/\Below w.heap.size w w':=by
 have hR:=fun wx hx=>B2 s wx hs hx;rw[hv] at hR;clear hv;refine(callsIn_wide (n:=0)).1 ?_;refine callsIn_of_wp_marks Tryz.func268 rfl trivial ?_ rfl;refine wpIn_wide.2 ?_;simp only[Tryz.ntmps268,List.size_toArray,List.length_cons,List.length_nil,Nat.reduceAdd,Nat.reduceSub,Array.replicate_succ,Array.replicate_zero,List.push_toArray,List.append_toArray,List.nil_append,List.cons_append]
 obtain⟨N,hN⟩:∃ N,w.heap.size=N:=⟨_,rfl⟩
 have hb0:Below N w (((w.alloc (.cells #[Q ⟨#[]⟩] 9)).alloc (.cells #[I J 0] 3)).alloc (.cells #[I J 0] 27)):=(((Bq N w).alloc (by omega) _).alloc (by simp;omega) _).alloc (by simp;omega) _;go_wp2_with fail;refine(hR _ (hT.below (hN▸hb0))).mono ?_;rintro e w1 ⟨rfl,hb1⟩;obtain⟨b0,b1,b2⟩:=FS w 9 3 27 (Q ⟨#[]⟩) (I J 0) (I J 0);rw[hN] at b0 b1 b2;replace b0:=Ab b0 hb1;replace b1:=Ab b1 hb1;replace b2:=Ab b2 hb1;have hb2:=hb0.trans (hb1.mono (by have:=hb0.size;omega));have c0:=b0.cell;have f0:=b0.frozen;have c1:=b1.cell;have f1:=b1.frozen;have c2:=b2.cell;have f2:=b2.frozen;go_wp2;obtain⟨e1,e2,e3,hb3⟩:=TV hb2 b0 b1 b2 (by omega) (Q ⟨#[]⟩) (I J 0) (I J 40);refine⟨FK ([],0,40),by simp[results,Tryz.f268,go_sem,e1,e2,e3,FK],rfl,?_⟩;rw[hN];exact hb3
theorem WL (s:ByteArray) (p:Int) (w:Y) (hs:s.size<=1000000) (hv:validD s.data.toList=true) (hq:Ec s p=O) (hT:Bf w):
  Calls Tryz.prog 268 #[Q s,I J p] w fun e w'=>e=.returned (FK ([],0,42))/\Below w.heap.size w w':=by
 have hR:=fun wx hx=>B2 s wx hs hx;rw[hv] at hR;clear hv;refine(callsIn_wide (n:=0)).1 ?_;refine callsIn_of_wp_marks Tryz.func268 rfl trivial ?_ rfl;refine wpIn_wide.2 ?_;simp only[Tryz.ntmps268,List.size_toArray,List.length_cons,List.length_nil,Nat.reduceAdd,Nat.reduceSub,Array.replicate_succ,Array.replicate_zero,List.push_toArray,List.append_toArray,List.nil_append,List.cons_append]
 obtain⟨N,hN⟩:∃ N,w.heap.size=N:=⟨_,rfl⟩
 have hb0:Below N w (((w.alloc (.cells #[Q ⟨#[]⟩] 9)).alloc (.cells #[I J 0] 3)).alloc (.cells #[I J 0] 27)):=(((Bq N w).alloc (by omega) _).alloc (by simp;omega) _).alloc (by simp;omega) _;go_wp2_with fail;refine(hR _ (hT.below (hN▸hb0))).mono ?_;rintro e w1 ⟨rfl,hb1⟩;obtain⟨b0,b1,b2⟩:=FS w 9 3 27 (Q ⟨#[]⟩) (I J 0) (I J 0);rw[hN] at b0 b1 b2;replace b0:=Ab b0 hb1;replace b1:=Ab b1 hb1;replace b2:=Ab b2 hb1;have hb2:=hb0.trans (hb1.mono (by have:=hb0.size;omega));have c0:=b0.cell;have f0:=b0.frozen;have c1:=b1.cell;have f1:=b1.frozen;have c2:=b2.cell;have f2:=b2.frozen;rcases Ox hq with h | h | ⟨n,hn,rfl,hm⟩
 ·clear hq;go_wp2;obtain⟨e1,e2,e3,hb3⟩:=TV hb2 b0 b1 b2 (by omega) (Q ⟨#[]⟩) (I J 0) (I J 42);refine⟨FK ([],0,42),by simp[results,Tryz.f268,go_sem,e1,e2,e3,FK],rfl,?_⟩;rw[hN];exact hb3
 ·clear hq;have h0:¬p<0:=by omega
  go_wp2;obtain⟨e1,e2,e3,hb3⟩:=TV hb2 b0 b1 b2 (by omega) (Q ⟨#[]⟩) (I J 0) (I J 42);refine⟨FK ([],0,42),by simp[results,Tryz.f268,go_sem,e1,e2,e3,FK],rfl,?_⟩;rw[hN];exact hb3
 ·clear hq;have h0:¬(n:Int)<0:=by omega
  have h1:(n:Int)<(s.size:Int):=by omega
  have hQ:=fun wx=>E2 (((s[n]'hn).toNat:Nat):Int) [34,39] 2 2 wx rfl (by decide);rw[hm] at hQ;obtain⟨c,hc⟩:∃ c,s[n]'hn=c:=⟨_,rfl⟩
  rw[hc] at hQ;have hc256:(c.toNat:Int)<256:=by have:=c.toNat_lt;omega
  clear hm;go_wp2_with fail;refine(hQ _).mono ?_;rintro e w2 ⟨rfl,hb3⟩;replace b0:=Ab b0 hb3;replace b1:=Ab b1 hb3;replace b2:=Ab b2 hb3;have hb4:=hb2.trans (hb3.mono (by have:=hb2.size;omega));clear hb2 c0 c1 c2 f0 f1 f2;have c0:=b0.cell;have f0:=b0.frozen;have c1:=b1.cell;have f1:=b1.frozen;have c2:=b2.cell;have f2:=b2.frozen;go_wp2;obtain⟨e1,e2,e3,hb3⟩:=TV hb4 b0 b1 b2 (by omega) (Q ⟨#[]⟩) (I J 0) (I J 42);refine⟨FK ([],0,42),by simp[results,Tryz.f268,go_sem,e1,e2,e3,FK],rfl,?_⟩;rw[hN];exact hb3
end
end Go.Proofs.YtdpppepmkeinaaaGreatDoor
