/- What is proved: a part of the walk of the program and of its plain laws; no condition beside those that each theorem names. -/
import Derived.Test.YtdpppepmkeinaaaGreatDoorYa
import Derived.Lib.ValidLaws
import Derived.Lib.TrimByte
import Derived.Lib.Bytealg
import Derived.Shelf.GgClosure.StringsIndexFunc
import Derived.Lib.AtoiAll
import Derived.Lib.Itoa
import Derived.Deep.QuietTactic
import Derived.BigQuiet
import Derived.WalkMore
namespace Go.Proofs.YtdpppepmkeinaaaGreatDoor
open Go Go.RowKit Go.Lib
open Go.Value renaming int->I,string->Q,slice->Z
open Go.IntKind renaming i64->J
open Option renaming none->O,some->F
open _root_.Go renaming World->Y
set_option linter.unusedSimpArgs false
set_option linter.unusedVariables false
set_option linter.unusedSectionVars false
section
set_option maxHeartbeats 1000000
set_option maxRecDepth 100000
open Go Go.Lib
def G3:Nat->List UInt8->List Nat
 | 0,_=>[]
 | n+1,l=>if l=[] then [] else (decodeL l).1::G3 n (l.drop (decodeL l).2)
def Ag (l:List UInt8):List Nat:=G3 l.length l
theorem Hi:∀ n,G3 n []=[]
 | 0=>rfl
 | _+1=>by simp[G3]
theorem LG:∀ (n m:Nat) (l:List UInt8),l.length<=n->l.length<=m->G3 n l=G3 m l
 | 0,m,l,hn,_=>by
  have:l=[]:=List.eq_nil_of_length_eq_zero (by omega);subst this;rw[Hi,Hi]
 | n+1,0,l,_,hm=>by
  have:l=[]:=List.eq_nil_of_length_eq_zero (by omega);subst this;rw[Hi,Hi]
 | n+1,m+1,l,hn,hm=>by
  unfold G3;by_cases hne:l=[]
  ·simp[hne]
  ·have hw:=decodeL_width l;have hl:0<l.length:=List.length_pos_iff.2 hne;rw[if_neg hne,if_neg hne,LG n m (l.drop (decodeL l).2) (by rw[List.length_drop];omega) (by rw[List.length_drop];omega)]
theorem GQ:Ag []=[]:=rfl
theorem Av (l:List UInt8) (hne:l≠[]):Ag l=(decodeL l).1::Ag (l.drop (decodeL l).2):=by
 have hl:0<l.length:=List.length_pos_iff.2 hne;have hw:=decodeL_width l;obtain⟨n,hn⟩:∃ n,l.length=n+1:=⟨l.length - 1,by omega⟩
 unfold Ag;rw[hn];show(if l=[] then [] else _)=_;rw[if_neg hne,LG n (l.drop (decodeL l).2).length _ (by rw[List.length_drop];omega) Nr]
def BC (zs:List Int) (r:Int):Bool:=zs.contains r
theorem OY {zs:List Int} {k:Nat} {r:Int} (h:k<zs.length):BC (zs.take (k+1)) r=(BC (zs.take k) r||r==zs[k]):=by
 unfold BC;rw[Bool.eq_iff_iff,List.contains_iff_mem,List.take_succ_eq_append_getElem h,List.mem_append,List.mem_singleton,Bool.or_eq_true,List.contains_iff_mem,beq_iff_eq]
theorem TG {zs:List Int} {k:Nat} {r:Int} (h:k<zs.length) (hx:(r==zs[k])=true):BC zs r=true:=by
 unfold BC;rw[eq_of_beq hx];simp
theorem Uf {nx:Nat} {b:Bool} (h:BC [0,32] (nx:Int)=b):(nx==0||nx==32)=b:=by
 rw[<- h];unfold BC;rw[Bool.eq_iff_iff];simp;omega
def C4:Nat->List Nat->List (Nat×Nat×Nat)
 | _,[]=>[]
 | last,[r]=>[(r,last,0)]
 | last,r::q::rest=>(r,last,q)::C4 r (q::rest)
theorem Pj:∀ (n:Nat) (l:List UInt8),∀ r∈G3 n l,r<=1114111
 | 0,_,_,h=>by simp[G3] at h
 | n+1,l,r,h=>by
  unfold G3 at h;split at h
  ·simp at h
  ·rcases List.mem_cons.1 h with rfl | h
   ·exact decodeL_rune l
   ·exact Pj n _ r h
theorem L8:∀ (last:Nat) (rs:List Nat) (x:Nat×Nat×Nat),x∈C4 last rs->x.1∈rs
 | _,[],_,h=>by simp[C4] at h
 | last,[r],x,h=>by simp[C4] at h;simp[h]
 | last,r::q::rest,x,h=>by
  rcases List.mem_cons.1 h with rfl | h
  ·simp
  ·exact List.mem_cons_of_mem _ (L8 r (q::rest) x h)
theorem V1 {l:List UInt8} {pre:List (Nat×Nat×Nat)} {r la nx:Nat} (h:pre++[(r,la,nx)]<+:C4 0 (Ag l)):r<=1114111:=
 Pj _ l r (L8 0 (Ag l) (r,la,nx) (h.subset (by simp)))
def Er (flow:Bool) (x:Nat×Nat×Nat):Bool:=
 decide (x.1<32)||x.1==127||(flow&&(x.1==44||x.1==91||x.1==93||x.1==123||x.1==125))||(x.1==58&&(x.2.2==0||x.2.2==32))||(x.1==35&&x.2.1==32)
def Dj (flow:Bool) (xs:List (Nat×Nat×Nat)):Bool:=xs.all fun x=> !Er flow x
def Ju (l:List UInt8) (flow:Bool):Bool:=Dj flow (C4 0 (Ag l))
theorem N0 (flow:Bool) (xs:List (Nat×Nat×Nat)) (x:Nat×Nat×Nat):Dj flow (xs++[x])=(Dj flow xs&& !Er flow x):=by simp[Dj]
theorem VK {flow:Bool} {xs ys:List (Nat×Nat×Nat)} (h:xs<+:ys) (hx:Dj flow xs=false):Dj flow ys=false:=by
 obtain⟨zs,rfl⟩:=h;unfold Dj at*
 rw[List.all_append,hx];rfl
def ET:List UInt8:=[44,91,93,123,125,35,38,42,33,124,62,39,34,37,64,96]
def Dv (l:List UInt8):Bool:=
 (Lib.trimB l 32==l)&& !(decide (0<=Lib.indexByte ET (l.headD 0)))&&(!(BC [45,63,58] (l.headD 0).toNat)||(!l.tail.isEmpty&& !(l.tail.headD 0==32)))
def Cm (l:List UInt8) (flow:Bool):Bool:= !l.isEmpty&&validD l&&Dv l&&Ju l flow
def D4 (r:Nat):Bool:= !(decide (48<=r)&&decide (r<=57))&& !(BC [46,101,69,43,45,95] r)
def BJ (c:UInt8):Bool:=decide (48<=c.toNat)&&decide (c.toNat<=57)
def Hm (l:List UInt8):List UInt8:=Lib.trimPrefix (Lib.trimPrefix (Lib.trimPrefix l [43]) [45]) [46]
def K7 (l:List UInt8):Bool:=
 !(Lib.hasPrefix l [43,45])&&(!(Hm l).isEmpty&&BJ ((Hm l).headD 0)&& !(decide (0<=Lib.idxFunc D4 true ⟨(Hm l).toArray⟩)))
theorem WF {l:List UInt8} {v:Int} (h:Lib.atoiAll l=.ok v): -9223372036854775808<=v/\v<=9223372036854775807:=by
 unfold Lib.atoiAll at h;split at h
 ·cases h
 ·simp only[] at h;split at h
  ·cases h
  ·cases h
  ·split at h
   ·cases h
   ·split at h
    ·cases h
    ·injection h with h;subst h;split<;>omega
theorem FN (s:ByteArray) (w:Y) (hT:BU w):
  Calls Tryz.prog 53 #[Q s] w fun e w'=>e=.returned (.tuple #[.int .i32 (Lib.decodeGo s).1,I J (Lib.decodeGo s).2])/\Below w.heap.size w w':=
 Tryz.utf8_DecodeRuneInString s w hT.u8
theorem Jn (s:ByteArray) (pos:Nat) (h:pos<s.size):Lib.decodeGo (s.extract pos s.size)=Utf8.decode s pos:=by
 have h0:(s.extract pos s.size).size≠0:=by simp[ByteArray.size_extract];omega
 unfold Lib.decodeGo;rw[if_neg h0,<- Lib.decodeL_drop,<- Lib.decodeL_drop,List.drop_zero,Lib.extract_data,List.take_of_length_le (by rw[List.length_drop,<- Lib.size_eq];omega)]
theorem decode_le (s:ByteArray) (pos:Nat) (h:pos<s.size):pos+(Utf8.decode s pos).2<=s.size/\1<=(Utf8.decode s pos).2:=by
 have hne:s.data.toList.drop pos≠[]:=by
  intro e;have:=congrArg List.length e;rw[List.length_drop,<- Lib.size_eq] at this;simp at this;omega
 have h1:=Lib.decodeL_le _ hne;have h2:=Lib.decodeL_width (s.data.toList.drop pos);rw[Lib.decodeL_drop] at h1 h2;rw[List.length_drop,<- Lib.size_eq] at h1;omega
theorem Ej (s:ByteArray) (pos:Nat) (h:pos<s.size):s.data.toList.drop pos≠[]:=by
 intro e;have:=congrArg List.length e;rw[List.length_drop,<- Lib.size_eq] at this;simp at this;omega
theorem DN (s:ByteArray) (pos:Nat) (h:pos<s.size) (h1:(Utf8.decode s pos).1=65533) (h2:(Utf8.decode s pos).2=1):Lib.validD (s.data.toList.drop pos)=false:=by
 rw[validD_step _ (Ej s pos h),Lib.decodeL_drop,if_pos ⟨h1,h2⟩]
theorem Lc (s:ByteArray) (pos:Nat) (h:pos<s.size) (h1:¬((Utf8.decode s pos).1=65533/\(Utf8.decode s pos).2=1)):Lib.validD (s.data.toList.drop pos)=Lib.validD (s.data.toList.drop (pos+(Utf8.decode s pos).2)):=by
 rw[validD_step _ (Ej s pos h),Lib.decodeL_drop,if_neg h1,List.drop_drop]
theorem C3 {w:Y} {k:Nat} {s:ByteArray} {pos:Nat} (h:w.heap[k]? =F (.stringIter s pos)):w.iterPos k=pos:=by
 unfold World.iterPos;rw[h]
theorem Cz (s:ByteArray) (w:Y) (hs:s.size<=1000000) (hT:BU w):
  Calls Tryz.prog 32 #[Q s] w fun e w'=>e=.returned (.bool (Lib.validD s.data.toList))/\Below w.heap.size w w':=by
 go_enter Tryz.func32,Tryz.ntmps32;go_wp2;go_loopw [2] (fun r wr=>r=.bool false/\∃ pos,pos<=s.size/\wr.heap[w.heap.size]? =F (.stringIter s pos)/\Below w.heap.size w wr/\Hid (Lib.validD (s.data.toList.drop pos)=Lib.validD s.data.toList)) (fun _ wr=>s.size - wr.iterPos w.heap.size)
 case atStart=>exact⟨rfl,0,by omega,World.iter_heap _ _ _,(Bq _ w).alloc Nr _,hid rfl⟩
 case round=>
  obtain⟨rfl,pos,hp,hit,hb,HV⟩:=hrel;by_cases hlt:pos<s.size
  ·have hnx:=fun ty=>run_next_any_at (P:=Tryz.prog) wr w.heap.size s pos ty hit hlt;have hbi:Below w.heap.size w (wr.iterAt w.heap.size s (pos+(Utf8.decode s pos).2)):=below_iterAt hb Nr _ _;have hT1:BU (wr.iterAt w.heap.size s (pos+(Utf8.decode s pos).2)):=hT.below hbi;have hD:=Jn s pos hlt;have HD:=hid hD;clear hD;have hw:=decode_le s pos hlt;go_wp2_with fail;refine(FN _ _ hT1).mono ?_;rintro e w1 ⟨rfl,hb1⟩;rw[HD.out];have hit1:w1.heap[w.heap.size]? =F (.stringIter s (pos+(Utf8.decode s pos).2)):=(hb1.block _ (by rw[iterAt_size];exact(Gl hit))).trans (iterAt_heap _ _ _ pos _ hit);have hb2:Below w.heap.size w w1:=hbi.trans (hb1.mono hbi.size);have hm1:=C3 hit;have hm2:=C3 hit1;have HM:=hid (Ai hm1 hm2);clear hm1 hm2;clear hit;go_wp2
   ·have h1:((Utf8.decode s pos).1:Int)=65533:=by assumption
    have h2:(((Utf8.decode s pos).2:Int)==1)=true:=by assumption
    go_ret;exact⟨by rw[<- HV.out,DN s pos hlt (by omega) (by simp at h2;omega)];rfl,hb2⟩
   ·have h2:(((Utf8.decode s pos).2:Int)==1)=false:=by assumption
    go_roundw
    case rel=>exact⟨rfl,_,hw.1,hit1,hb2,hid (by rw[<- HV.out,Lc s pos hlt (by simp at h2;omega)])⟩
    case measure=>rw[HM.out.1,HM.out.2];omega
   ·have h1:¬((Utf8.decode s pos).1:Int)=65533:=by assumption
    go_roundw
    case rel=>exact⟨rfl,_,hw.1,hit1,hb2,hid (by rw[<- HV.out,Lc s pos hlt (by omega)])⟩
    case measure=>rw[HM.out.1,HM.out.2];omega
  ·have hnx:=fun ty=>run_next_end_at (P:=Tryz.prog) wr w.heap.size s pos ty hit hlt;go_wp2;go_ret;have hV:=HV.out;rw[List.drop_eq_nil_of_le (by rw[<- Lib.size_eq];omega)] at hV;exact⟨by rw[<- hV];rfl,hb⟩
def D5:ByteArray:=⟨#[44,91,93,123,125]⟩
theorem NA:D5.size=5:=rfl
theorem Zj:∀ p,p<5->(Utf8.decode D5 p).2=1/\(Utf8.decode D5 p).1<128:=by decide+kernel
theorem On (w:Y):
  Calls Tryz.prog 129 #[Q D5,.int .i32 65533] w fun e w'=>e=.returned (I J (-1))/\Below w.heap.size w w':=by
 go_enter Tryz.func129,Tryz.ntmps129;go_wp2;go_loopw [4] (fun r wr=>r=I J 0/\∃ pos,pos<=5/\wr=w.iter D5 pos) (fun _ wr=>5 - wr.iterPos w.heap.size)
 case atStart=>exact⟨rfl,0,by omega,rfl⟩
 case round=>
  obtain⟨rfl,pos,hp,rfl⟩:=hrel;by_cases hlt:pos<5
  ·have hnx:=fun ty=>run_next_any (P:=Tryz.prog) w D5 pos ty (by rw[NA];exact hlt);obtain⟨h1,h2⟩:=Zj pos hlt;have h3:((Utf8.decode D5 pos).1:Int)<128:=by omega
   rw[h1] at hnx;clear h1 h2;go_wp2;go_roundw
   case rel=>exact⟨rfl,_,hlt,rfl⟩
   case measure=>rw[World.iterPos_iter,World.iterPos_iter];omega
  ·have hnx:=fun ty=>run_next_end (P:=Tryz.prog) w D5 pos ty (by rw[NA];exact hlt);go_wp2;go_ret;exact⟨rfl,(Bq _ w).alloc Nr _⟩
theorem Qy (r:Int) (h0:128<=r) (h1:r<=1114111):∃ (l:List UInt8) (b:UInt8),Utf8.encode r=⟨(l++[b]).toArray⟩/\1<=l.length/\l.length<=3/\128<=b.toNat:=by
 have key:∀ c:Nat,128<=c->c<=1114111->∃ (l:List UInt8) (b:UInt8),(if c<0x80 then (⟨#[UInt8.ofNat c]⟩:ByteArray)
   else if c<0x800 then ⟨#[UInt8.ofNat (0xC0+c / 64),UInt8.ofNat (0x80+c%64)]⟩
   else if c<0x10000 then ⟨#[UInt8.ofNat (0xE0+c / 4096),UInt8.ofNat (0x80+c / 64%64),UInt8.ofNat (0x80+c%64)]⟩
   else ⟨#[UInt8.ofNat (0xF0+c / 262144),UInt8.ofNat (0x80+c / 4096%64),UInt8.ofNat (0x80+c / 64%64),UInt8.ofNat (0x80+c%64)]⟩)=⟨(l++[b]).toArray⟩/\1<=l.length/\l.length<=3/\128<=b.toNat:=by
  intro c hc0 hc1;have hb:128<=(UInt8.ofNat (0x80+c%64)).toNat:=by rw[UInt8.toNat_ofNat'];omega
  rw[if_neg (by omega)];split
  ·exact⟨[_],_,rfl,by simp,by simp,hb⟩
  ·split
   ·exact⟨[_,_],_,rfl,by simp,by simp,hb⟩
   ·exact⟨[_,_,_],_,rfl,by simp,by simp,hb⟩
 unfold Utf8.encode;by_cases hv:Utf8.valid r=true
 ·simp only[hv,if_true]
  exact key r.toNat (by omega) (by omega)
 ·simp only[hv]
  exact key Utf8.runeError (by decide) (by decide)
theorem indexByte_none {b:UInt8}:∀ {l:List UInt8},(∀ c∈l,c≠b)->Lib.indexByte l b= -1
 | [],_=>rfl
 | c::l,h=>by
  have h1:(c==b)=false:=by simpa using h c (by simp)
  simp[Lib.indexByte,h1,indexByte_none (l:=l) (fun d hd=>h d (by simp[hd]))]
theorem VJ (b:UInt8) (h:128<=b.toNat) (k:Nat) (_:k<=5):Lib.indexByte (D5.extract k 5).data.toList b= -1:=by
 refine indexByte_none (fun c hc=>?_);have hc':c∈D5.data.toList:=by
  rw[Lib.extract_data] at hc;exact List.mem_of_mem_drop (List.mem_of_mem_take hc)
 have:∀ c∈D5.data.toList,c.toNat<128:=by decide
 have:=this c hc';rintro rfl;omega
theorem Gm (s:ByteArray) (b:UInt8) (w:Y) (h:Lib.indexByte s.data.toList b= -1):
  Calls Tryz.prog 87 #[Q s,.int .u8 b.toNat] w fun e w'=>e=.returned (I J (-1))/\w'=w:=by
 refine(Tryz.strings_IndexByte s b.toNat w).mono ?_;rintro e w' ⟨rfl,rfl⟩;simp[h]
theorem below_drewN {B n:Nat} {w w':Y} (h:Below B w w'):Below B w (w'.drewN n):=⟨h.os,h.tape,h.output,h.size,h.block⟩
theorem Og (r:Int) (w:Y) (h0:128<=r) (h1:r<=1114111) (h2:r≠65533) (hv:Lib.validRune r=true):
  Calls Tryz.prog 129 #[Q D5,.int .i32 r] w fun e w'=>e=.returned (I J (-1))/\Below w.heap.size w w':=by
 have hr:(r==65533)=false:=by simpa using h2
 have hr0:(0:Int)<=r:=by omega
 have hr2:¬r<128:=by omega
 have HV:=hid hv;clear hv;obtain⟨l,b,he,hl1,hl3,hb⟩:=Qy r h0 h1;have HE:=hid he;clear he;go_enter Tryz.func129,Tryz.ntmps129;go_wp2_with fail;refine(Tryz.utf8_ValidRune r w).mono ?_;rintro e w1 ⟨rfl,hw1⟩;subst hw1;rw[HV.out];go_wp2;go_step3;have he:=HE.out
 match l,hl1,hl3 with
 | [a],_,_=>
  simp only[List.cons_append,List.nil_append] at he;go_wp2;refine wp_loop_rounds 1 ?_;rw[rounds_succ];clear he;have hf:((D5[1]'(by decide)).toNat:Int)=91:=rfl;have hE:(⟨#[a,b]⟩:ByteArray)[1]'(by show 1<1+1;decide)=b:=rfl;have hz:D5.size=5:=rfl;have hbb:(128:Int)<=b.toNat:=by omega
  have hw:IntKind.i64.wrap 2=2:=by decide
  have HN:=VJ b hb 2 (by omega);go_wp2;go_step3;go_wp2;go_quiet (fail);go_wp2;have hb2:=below_drewN (n:=nq) (Bq w1.heap.size w1);generalize w1.drewN nq=w2 at hb2 |-;go_quiet ((go_at_call 87;exact Calls.quiet_of_same (Gm _ _ _ HN)));go_wp2;simp only[Exit.noGoto_ret,Exit.inBlock,Exit.then]
  go_ret;exact⟨rfl,below_drewN hb2⟩
 | [a,a2],_,_=>
  simp only[List.cons_append,List.nil_append] at he;go_wp2;refine wp_loop_rounds 1 ?_;rw[rounds_succ];clear he;have hf:((D5[2]'(by decide)).toNat:Int)=93:=rfl;have hE:(⟨#[a,a2,b]⟩:ByteArray)[2]'(by show 2<2+1;decide)=b:=rfl;have hz:D5.size=5:=rfl;have hbb:(128:Int)<=b.toNat:=by omega
  have hw:IntKind.i64.wrap 3=3:=by decide
  have HN:=VJ b hb 3 (by omega);go_wp2;go_step3;go_wp2;go_quiet (fail);go_wp2;have hb2:=below_drewN (n:=nq) (Bq w1.heap.size w1);generalize w1.drewN nq=w2 at hb2 |-;go_quiet ((go_at_call 87;exact Calls.quiet_of_same (Gm _ _ _ HN)));go_wp2;simp only[Exit.noGoto_ret,Exit.inBlock,Exit.then]
  go_ret;exact⟨rfl,below_drewN hb2⟩
 | [a,a2,a3],_,_=>
  simp only[List.cons_append,List.nil_append] at he;go_wp2;refine wp_loop_rounds 1 ?_;rw[rounds_succ];clear he;have hf:((D5[3]'(by decide)).toNat:Int)=123:=rfl;have hE:(⟨#[a,a2,a3,b]⟩:ByteArray)[3]'(by show 3<3+1;decide)=b:=rfl;have hz:D5.size=5:=rfl;have hbb:(128:Int)<=b.toNat:=by omega
  have hw:IntKind.i64.wrap 4=4:=by decide
  have HN:=VJ b hb 4 (by omega);go_wp2;go_step3;go_wp2;go_quiet (fail);go_wp2;have hb2:=below_drewN (n:=nq) (Bq w1.heap.size w1);generalize w1.drewN nq=w2 at hb2 |-;go_quiet ((go_at_call 87;exact Calls.quiet_of_same (Gm _ _ _ HN)));go_wp2;simp only[Exit.noGoto_ret,Exit.inBlock,Exit.then]
  go_ret;exact⟨rfl,below_drewN hb2⟩
theorem OC (r:Int) (w:Y) (h0:128<=r) (h2:r≠65533) (hv:Lib.validRune r=false):
  Calls Tryz.prog 129 #[Q D5,.int .i32 r] w fun e w'=>e=.returned (I J (-1))/\Below w.heap.size w w':=by
 have hr:(r==65533)=false:=by simpa using h2
 have hr0:(0:Int)<=r:=by omega
 have hr2:¬r<128:=by omega
 have HV:=hid hv;clear hv;go_enter Tryz.func129,Tryz.ntmps129;go_wp2_with fail;refine(Tryz.utf8_ValidRune r w).mono ?_;rintro e w1 ⟨rfl,hw1⟩;subst hw1;rw[HV.out];go_wp2;go_ret;exact⟨rfl,Bq _ _⟩
def I3 (r:Nat):Bool:=r==44||r==91||r==93||r==123||r==125
theorem Ld (r:Nat) (w:Y) (h1:r<=1114111):
  Calls Tryz.prog 90 #[Q D5,.int .i32 r] w fun e w'=>e=.returned (.bool (I3 r))/\Below w.heap.size w w':=by
 by_cases hlt:r<128
 ·refine(Tryz.strings_ContainsRune_ascii D5 r w (by omega) (by omega)).mono ?_;rintro e w' ⟨rfl,rfl⟩;refine⟨?_,Bq _ _⟩;have:∀ r:Fin 128,decide (0<=Lib.indexByte D5.data.toList (r.val:Int).toNat.toUInt8)=I3 r.val:=by decide+kernel
  rw[this ⟨r,hlt⟩]
 ·have hno:I3 r=false:=by
   unfold I3;simp;omega
  have cI:Calls Tryz.prog 129 #[Q D5,.int .i32 r] w fun e w'=>e=.returned (I J (-1))/\Below w.heap.size w w':=by
   by_cases h2:r=65533
   ·subst h2;exact On w
   ·cases hv:Lib.validRune (r:Int) with
    | true=>exact Og r w (by omega) (by omega) (by omega) hv
    | false=>exact OC r w (by omega) (by omega) hv
  have HI:=hid hno;clear hno;go_enter Tryz.func90,Tryz.ntmps90;go_wp2_with fail;refine cI.mono ?_;rintro e w' ⟨rfl,hb⟩;go_wp2;go_ret;exact⟨by rw[HI.out];rfl,hb⟩
attribute [local go_sem] Oper.semAt_some
theorem Gk {P:Program} {c:Code} {Qz:Exit->Act->Y->Prop} {a:Act} {w:Y} (h:c.wpIn Fence.wide 0 P (Exit.noGoto Qz) a w):(Code.scope c).wpIn Fence.wide 0 P Qz a w:=
 wpIn_wide.2 (wp_scope_straight (wpIn_wide.1 h))
theorem wpIn_label {P:Program} {i:Nat} {Qz:Exit->Act->Y->Prop} {a:Act} {w:Y} (h:Qz .normal a w):(Code.label i).wpIn Fence.wide 0 P Qz a w:=
 wpIn_wide.2 (wp_label h)
abbrev Ajl (x:Nat×Nat×Nat):Array Value:=#[.int .i32 x.1,.agg #[.int .i32 x.2.1,.int .i32 x.2.2]]
def Rp (s:ByteArray) (pos last one:Nat):List (Nat×Nat×Nat):=if pos=0 then C4 0 (Ag s.data.toList) else C4 last (one::Ag (s.data.toList.drop pos))
theorem EH {s:ByteArray} (h:s.size=0):s=⟨#[]⟩:=by
 obtain⟨d⟩:=s;have h':d.size=0:=h;rw[Array.size_eq_zero_iff] at h';rw[h']
theorem VE (s:ByteArray) (h:0<s.size) (l o:Nat):Rp s 0 l o=Rp s (0+(Utf8.decode s 0).2) 0 (Utf8.decode s 0).1:=by
 have hw:=decode_le s 0 h;unfold Rp;rw[if_pos rfl,if_neg (by omega)];have:=Ej s 0 h;have e:=Av _ this;rw[Lib.decodeL_drop] at e;rw[List.drop_drop,List.drop_zero] at e;rw[e]
theorem XY (s:ByteArray) (pos:Nat) (h:pos<s.size) (h0:pos≠0) (l o:Nat):Rp s pos l o=(o,l,(Utf8.decode s pos).1)::Rp s (pos+(Utf8.decode s pos).2) o (Utf8.decode s pos).1:=by
 have hw:=decode_le s pos h;unfold Rp;rw[if_neg h0,if_neg (by omega)];have e:=Av _ (Ej s pos h);rw[Lib.decodeL_drop,List.drop_drop] at e;rw[e];rfl
theorem Acl (s:ByteArray) (pos:Nat) (h:¬pos<s.size) (h0:pos≠0) (l o:Nat):Rp s pos l o=[(o,l,0)]:=by
 unfold Rp;rw[if_neg h0,List.drop_eq_nil_of_le (by rw[<- Lib.size_eq];omega)];rfl
theorem WD (s:ByteArray) (Bs n₀:Nat) (hs:s.size<=1000000):
  Afy Tryz.prog 130 #[.pointer (F ⟨Bs,0,O⟩)] Ajl (·=Bs) n₀ (C4 0 (Ag s.data.toList)) (fun W=>W.cell? ⟨Bs,0,O⟩=F (Q s)/\W.frozen? ⟨Bs,0,O⟩=false):=by
 intro l Jz Jx W ⟨hc,hf⟩ hJ hJx hY h0;refine callsIn_of_wp Tryz.func130 rfl trivial ?_ rfl;simp only[Tryz.ntmps130,List.size_toArray,List.length_cons,List.length_nil,Nat.reduceAdd,Nat.reduceSub,Array.replicate_succ,Array.replicate_zero,List.push_toArray,List.append_toArray,List.nil_append,List.cons_append]
 have hBs:Bs<W.heap.size:=K9 hc;have hne:Bs≠W.heap.size:=by omega
 gi_wp2
 refine Gk ?_
 gi_wp2
 refine wpIn_label ?_
 gi_wp2
 gi_loopw [3,4] (fun last one wr=>∃ (la on pos:Nat) (pre:List (Nat×Nat×Nat)),last=.int .i32 la/\one=.int .i32 on/\pos<=s.size/\wr.heap[W.heap.size]? =F (.stringIter s pos)/\wr.cell? ⟨Bs,0,O⟩=F (Q s)/\wr.frozen? ⟨Bs,0,O⟩=false/\Jz pre wr/\Hid (C4 0 (Ag s.data.toList)=pre++Rp s pos la on)/\Hid (pos=0->pre=[]/\on=0))
  (fun _ _ wr=>s.size - wr.iterPos W.heap.size)
 case atStart=>
  have hb:Below W.heap.size W (W.iter s 0):=(Bq _ W).alloc Nr _;exact⟨0,0,0,[],rfl,rfl,by omega,World.iter_heap _ _ _,cell_below hc hb,(hb.frozen (p:=⟨Bs,0,O⟩) hBs).trans hf,hJ _ _ _ h0 (Au.alloc _ _),hid rfl,hid (fun _=>⟨rfl,rfl⟩)⟩
 case round=>
  obtain⟨la,on,pos,pre,rfl,rfl,hp,hit,hcs,hfs,hJs,HX,HP⟩:=hrel;by_cases hlt:pos<s.size
  ·have hJ1:Jz pre (wr.iterAt W.heap.size s (pos+(Utf8.decode s pos).2)):=hJ _ _ _ hJs (Au.putObj _ hit Nr rfl);have hit1:=iterAt_heap _ _ _ _ (pos+(Utf8.decode s pos).2) hit;have hcs1:(wr.iterAt W.heap.size s (pos+(Utf8.decode s pos).2)).cell? ⟨Bs,0,O⟩=F (Q s):=(World.cell?_of_block (a:=⟨Bs,0,O⟩) (iterAt_other _ _ _ _ _ hne)).trans hcs;have hfs1:(wr.iterAt W.heap.size s (pos+(Utf8.decode s pos).2)).frozen? ⟨Bs,0,O⟩=false:=(World.frozen?_of_block (a:=⟨Bs,0,O⟩) (iterAt_other _ _ _ _ _ hne)).trans hfs;have hw:=decode_le s pos hlt;have hm1:=C3 hit;have hm2:=C3 hit1;have HM:=hid (Ai hm1 hm2);clear hm1 hm2;by_cases hp0:pos=0
   ·subst hp0;have hnx:∀ ty,(Instr.next (.pointer (F ⟨W.heap.size,0,O⟩)) true ty).run Tryz.prog wr=.ok (.tuple #[.bool true,I J 0,.int .i32 (Utf8.decode s 0).1]) (wr.iterAt W.heap.size s (0+(Utf8.decode s 0).2)):=fun ty=>run_next_any_at (P:=Tryz.prog) wr W.heap.size s 0 ty hit hlt;clear hit hcs hfs;simp only[Nat.zero_add] at*
    gi_wp2
    refine⟨fun _ _=>trivial,?_⟩
    gi_wp2
    go_roundw
    case rel=>exact⟨on,_,_,pre,rfl,rfl,hw.1,hit1,hcs1,hfs1,hJ1,hid (by rw[HX.out,VE s hlt,(HP.out (by first | rfl | trivial)).2,Nat.zero_add]),hid (fun h=>by omega)⟩
    case measure=>rw[HM.out.1,HM.out.2];omega
   ·have hnx:=fun ty=>run_next_any_at (P:=Tryz.prog) wr W.heap.size s pos ty hit hlt;have hpz:(0:Int)<pos:=by omega
    have hx:=XY s pos hlt hp0 la on;have hpre:pre++[(on,la,(Utf8.decode s pos).1)]<+:C4 0 (Ag s.data.toList):=⟨_,by rw[HX.out,hx,List.append_assoc];rfl⟩
    obtain⟨fn,tmps,assign,body,hy,hR⟩:=hY pre (on,la,(Utf8.decode s pos).1) _ hJ1 hpre;dsimp only[Ajl] at hy;have HQ:=hid (Ai hx hpre);clear hx hpre;clear hit hcs hfs
    gi_wp2
    refine⟨rfl,hR.mono ?_⟩;rintro e W3 (⟨rfl,hJ3,hk3⟩ | ⟨rfl,hJ3,hk3⟩)
    ·have hit3:=hk3.heap hit1 (.inr (.inr rfl));have hcs3:=hk3.cell hcs1 (.inr rfl);have hfs3:=hk3.frozen hcs1 hfs1 (.inr rfl);have hm3:=C3 hit3;have HM3:=hid hm3;clear hm3;clear hit1 hcs1 hfs1 hy
     gi_wp2
     go_roundw
     case rel=>exact⟨on,_,_,_,rfl,rfl,hw.1,hit3,hcs3,hfs3,hJ3,hid (by rw[HX.out,HQ.out.1,List.append_assoc];rfl),hid (fun h=>by omega)⟩
     case measure=>rw[HM.out.1,HM3.out];omega
    ·have hcs3:=hk3.cell hcs1 (.inr rfl);have hfs3:=hk3.frozen hcs1 hfs1 (.inr rfl);have hcs4:=World.cell?_setCell_same' W3 ⟨Bs,0,O⟩ (Q ⟨#[]⟩) (by rw[hcs3];rfl);have hJ4:Jx _ (W3.setCell ⟨Bs,0,O⟩ (Q ⟨#[]⟩)):=hJx _ _ _ hJ3 (Au.setCell _ _ _ rfl);clear hit1 hcs1 hfs1 hy
     gi_wp2
     try simp only[Exit.noGoto_normal]
     go_end0;exact⟨⟨_,rfl⟩,.inr ⟨_,HQ.out.2,hJ4⟩⟩
  ·have hnx:=fun ty=>run_next_end_at (P:=Tryz.prog) wr W.heap.size s pos ty hit hlt;by_cases hp0:pos=0
   ·have hs0:s.size=0:=by omega
    obtain rfl:s=⟨#[]⟩:=EH hs0;have hpe:=(HP.out hp0).1;subst hpe
    gi_wp2
    try simp only[Exit.noGoto_normal]
    go_end0;exact⟨⟨_,rfl⟩,.inl hJs⟩
   ·have hne2:s.toList.isEmpty=false:=by
     rw[Lib.toList_data];cases h:s.data.toList with
     | nil=>exact absurd (by rw[Lib.size_eq,h];rfl) (show s.size≠0 by omega)
     | cons _ _=>rfl
    have hx:=Acl s pos hlt hp0 la on;have hall:C4 0 (Ag s.data.toList)=pre++[(on,la,0)]:=by rw[HX.out,hx]
    obtain⟨fn,tmps,assign,body,hy,hR⟩:=hY pre (on,la,0) _ hJs (by rw[hall];exact List.prefix_refl _);simp only[Ajl,Int.natCast_zero] at hy;have HA:=hid hall;clear hx hall
    gi_wp2
    refine⟨rfl,hR.mono ?_⟩;rintro e W3 (⟨rfl,hJ3,hk3⟩ | ⟨rfl,hJ3,hk3⟩)
    ·gi_wp2
     try simp only[Exit.noGoto_normal]
     go_end0;exact⟨⟨_,rfl⟩,.inl (by rw[HA.out];exact hJ3)⟩
    ·gi_wp2
     try simp only[Exit.noGoto_normal]
     go_end0;exact⟨⟨_,rfl⟩,.inr ⟨_,by rw[HA.out];exact List.prefix_refl _,hJ3⟩⟩
theorem XN (r:Int) (zs:List Int) (b n cap:Nat) (w:Y) (hn:zs.length=n) (hs:n<=1000) (hc:∀ i,i<n->w.cell? ⟨b,i,O⟩=F (.int .i32 (zs[i]?.getD 0))):
  Calls Tryz.prog 88 #[.int .i32 r,Z (F ⟨b,0,O⟩) n cap] w fun e w'=>e=.returned (.bool (BC zs r))/\w=w':=by
 subst hn;go_enter Tryz.func88,Tryz.ntmps88;go_wp2;go_loop [9] (fun i=>∃ k:Nat,k<=zs.length/\i=I J k/\Hid (BC (zs.take k) r=false)) (fun i=>zs.length - (intOf i).toNat)
 case atStart=>exact⟨0,by omega,rfl,hid rfl⟩
 case round=>
  obtain⟨k,hk,rfl,HN⟩:=hrel;by_cases hlt:k<zs.length
  ·have hck:=hc k hlt;clear hc;go_wp2
   ·have hx:(r==zs[k])=true:=by assumption
    go_ret;exact⟨by rw[TG hlt hx];rfl,rfl⟩
   ·have hx:(r==zs[k])=false:=by assumption
    go_round
    case rel=>exact⟨k+1,by omega,by go_num,hid (by rw[OY hlt,HN.out,hx];rfl)⟩
    case measure=>simp[intOf];omega
  ·go_wp2;go_ret;have h:=HN.out;rw[List.take_of_length_le (by omega)] at h;exact⟨by rw[h];rfl,rfl⟩
theorem IU (r:Int) (zs:List Int) (n cap:Nat) (w:Y) (hn:zs.length=n) (hs:n<=1000):
  Calls Tryz.prog 88 #[.int .i32 r,Z (F ⟨w.heap.size,0,O⟩) n cap] (w.alloc (.cells (zs.map (Value.int .i32)).toArray 21)) fun e w'=>e=.returned (.bool (BC zs r))/\Below w.heap.size w w':=by
 refine(XN r zs w.heap.size n cap _ hn hs (fun i hi=>?_)).mono ?_
 ·have h:=Wn w (.cells (zs.map (Value.int .i32)).toArray 21);unfold World.cell?;rw[h];simp[show i<zs.length by omega]
 ·rintro e w' ⟨rfl,rfl⟩;exact⟨rfl,(Bq _ w).alloc Nr _⟩
theorem Ru (r:Nat) (flow:Bool) (B:Nat) (w:Y) (h1:r<=1114111) (hc:w.cell? ⟨B,0,O⟩=F (.bool flow)):
  Calls Tryz.prog 89 #[.int .i32 r,.pointer (F ⟨B,0,O⟩)] w fun e w'=>e=.returned (.bool (flow&&I3 r))/\Below w.heap.size w w':=by
 cases flow with
 | false=>
  go_enter Tryz.func89,Tryz.ntmps89;go_wp2;go_ret;exact⟨rfl,Bq _ _⟩
 | true=>
  go_enter Tryz.func89,Tryz.ntmps89;go_wp2_with fail;refine(Ld r w h1).mono ?_;rintro e w' ⟨rfl,hb⟩;go_wp2;go_ret;exact⟨rfl,hb⟩
end
end Go.Proofs.YtdpppepmkeinaaaGreatDoor
