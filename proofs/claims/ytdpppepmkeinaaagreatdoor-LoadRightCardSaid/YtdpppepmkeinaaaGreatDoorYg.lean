/- What is proved: a part of the walk of the program and of its plain laws; no condition beside those that each theorem names. -/
import Derived.Test.YtdpppepmkeinaaaGreatDoorYf
import Derived.Test.YtdpppepmkeinaaaGreatDoorYb
import Derived.Test.YtdpppepmkeinaaaGreatDoorYMaps
import Derived.Test.YtdpppepmkeinaaaGreatDoorYc
import Derived.Test.YtdpppepmkeinaaaGreatDoorYd
import Derived.Test.YtdpppepmkeinaaaGreatDoorYa
import Derived.Stop.RegionWithIn
import GoSem.Core.Lib
import Derived.RowKit
import Derived.Laws.Strings
import Derived.Lib.ItoaNum
import Derived.Lib.QuietBelow
import Derived.Deep.DeepCutAuto
import Derived.Deep.CutRange
import Derived.Deep.LoopGhost
import Derived.Deep.QuietTactic
import Derived.BigQuiet
import Derived.Laws.StructEq
import Derived.RegionTactic
import Derived.ChangeAlike
namespace Go.Proofs.YtdpppepmkeinaaaGreatDoor
open Go Go.RowKit Go.Lib
open Go.Value renaming int->I,string->Q,slice->Z
open Go.IntKind renaming i64->J
open Option renaming none->O,some->F
open _root_.Go renaming World->Y
set_option linter.unusedSimpArgs false
set_option linter.unusedVariables false
set_option linter.unusedSectionVars false
section
set_option maxRecDepth 100000
set_option maxHeartbeats 4000000
attribute [local go_sem] Oper.semAt_some GA D4
def MB (w:Y):Prop:=∃ m,w.cell? ⟨4,0,O⟩=F (I J m)
theorem MB.below {w w':Y} (h:MB w) (hb:Below w.heap.size w w'):MB w':=by
 obtain⟨m,hm⟩:=h;exact⟨m,cell_below hm hb⟩
theorem MB.of_shaped {w:Y} (h:w.ShapedOpen Tryz.prog):MB w:=Tryz.laysM145.s1_3 w h
def C8:Nat->List (List UInt8)->List (Nat×List UInt8)
 | _,[]=>[]
 | k,r::rs=>(k,r)::C8 (k+1) rs
def YS (x:Nat×List UInt8):Array Value:=#[I J x.1,.agg #[Q ⟨x.2.toArray⟩]]
def Agu (W:Y) (B:Nat):Nat:=match W.cell? ⟨B,0,O⟩ with | some (Q s)=>s.size | _=>0
theorem V4 {W:Y} {B:Nat} {s:ByteArray} (h:Boxed W B 9 (Q s)):Agu W B=s.size:=by unfold Agu;rw[h.cell]
theorem Y5 (s:ByteArray) (w:Y):
  Calls Tryz.prog 68 #[Q s] w fun e w'=>e=.returned (.func (.func 103) #[] #[.pointer (F ⟨w.heap.size,0,O⟩)])/\w'=w.alloc (.cells #[Q s] 9):=by
 go_enter Tryz.func68,Tryz.ntmps68;go_wp2;go_ret;exact⟨rfl,rfl⟩
theorem Xd (s:ByteArray) (Bs n₀:Nat) (w0:Y) (hT:MB w0) (hN:w0.heap.size<=n₀) (hBs:w0.heap.size<=Bs) (hs:s.size<=1000000):
  Ac4 Tryz.prog 103 #[.pointer (F ⟨Bs,0,O⟩)] YS (fun k=>k=Bs) n₀ (C8 1 (Cc s.data.toList)) (fun W=>Boxed W Bs 9 (Q s)/\Below w0.heap.size w0 W):=by
 intro l Jz Jx W ⟨hbx,hbl⟩ hJ hJx hY h0;refine callsIn_of_wp Tryz.func103 rfl trivial ?_ rfl;simp only[Tryz.ntmps103,List.size_toArray,List.length_cons,List.length_nil,Nat.reduceAdd,Nat.reduceSub,Array.replicate_succ,Array.replicate_zero,List.push_toArray,List.append_toArray,List.nil_append,List.cons_append]
 gi_wp2
 refine Ey ?_
 gi_wp2
 refine wpIn_label ?_
 gi_wp2
 gi_loopw [3] (fun u wr=>∃ (k:Nat) (R:ByteArray) (pre:List (Nat×List UInt8)),u=I J k/\Boxed wr Bs 9 (Q R)/\Below w0.heap.size w0 wr/\W.heap.size<=wr.heap.size/\Jz pre wr/\k+R.size<=s.size+1/\Hid (C8 1 (Cc s.data.toList)=pre++C8 k (Cc R.data.toList))) (fun _ wr=>Agu wr Bs)
 case atStart=>exact⟨1,s,[],rfl,hbx,hbl,Nat.le_refl _,h0,by omega,hid rfl⟩
 case round=>
  obtain⟨k,R,pre,rfl,hc1,hb1,hz1,hJ1,Se,HP⟩:=hrel;clear hbx hbl h0;have k0:=hc1.cell;have HM:=hid (V4 hc1);have hRz:R.size<=1000001:=by omega
  by_cases hz:0<R.size
  ·have he:=Ax hz;have hne:R.data.toList≠[]:=fun e=>by rw[Lib.size_eq,e] at hz;exact absurd hz (by simp)
   have hrows:=LR hne;obtain⟨mm,hmm⟩:=hT.below hb1;have hcut:=Tryz.strings_Cut R ⟨#[10]⟩ mm wr (by omega) hmm;obtain⟨c1,c2⟩:=Aay R.data.toList;rw[show(⟨#[10]⟩:ByteArray).data.toList=[10] from rfl,c1,c2] at hcut;obtain⟨b3,hb3⟩:∃ b3,(Lib.cut R.data.toList [10]).2.2=b3:=⟨_,rfl⟩
   rw[hb3] at hcut;obtain⟨row,hrow⟩:∃ z,rowOf R.data.toList=z:=⟨_,rfl⟩
   obtain⟨S2,hS2⟩:∃ z:ByteArray,(⟨(Bz R.data.toList).toArray⟩:ByteArray)=z:=⟨_,rfl⟩
   have hlt:S2.size<R.size:=by
    have:=EP hne;rw[<- hS2,size_mk,Lib.size_eq];exact this
   have hsd:Bz R.data.toList=S2.data.toList:=by rw[<- hS2]
   have HP2:=hid (show C8 1 (Cc s.data.toList)=(pre++[(k,row)])++C8 (k+1) (Cc S2.data.toList) by rw[HP.out,hrows,hrow,hsd,List.append_assoc];rfl);rw[hrow,hS2] at hcut;clear hmm c1 c2 hb3 hrow hS2 hsd hrows HP hne
   gi_wp2_with fail
   refine(callsIn_wide.2 hcut).mono ?_;rintro e w2 ⟨rfl,nd,rfl⟩;clear hcut;have hJ2:Jz pre (wr.drewN nd):=hJ _ _ _ hJ1 (Ah.of_below (below_drewN (Bq _ _)));have hpre:pre++[(k,row)]<+:C8 1 (Cc s.data.toList):=⟨_,HP2.out.symm⟩
   obtain⟨fn,tmps,assign,body,hy,hR⟩:=hY pre (k,row) _ hJ2 hpre;dsimp only[YS] at hy;have HPR:=hid hpre;have hc2:Boxed (wr.drewN nd) Bs 9 (Q R):=Ab hc1 (below_drewN (Bq _ _));have hb2:Below w0.heap.size w0 (wr.drewN nd):=below_drewN hb1;clear hpre k0 hJ1 hc1 hb1;have hkw:IntKind.i64.wrap ((k:Int)+1)=(k:Int)+1:=by go_arith
   gi_wp2
   refine hR.mono ?_;rintro e W3 (⟨rfl,hJ4,hk4⟩ | ⟨rfl,hJ4,hk4⟩)
   ·have hc4:Boxed W3 Bs 9 (Q R):=Gm hc2 hk4 (.inr rfl);have hb5:Below w0.heap.size w0 W3:=hk4.below hb2 hN Nr;have hz4:W.heap.size<=W3.heap.size:=Nat.le_trans hz1 (Nat.le_trans (Below.size (below_drewN (Bq wr.heap.size wr))) hk4.size);have hc5:Boxed (W3.setCell ⟨Bs,0,O⟩ (Q S2)) Bs 9 (Q S2):=hc4.set _;have hb6:Below w0.heap.size w0 (W3.setCell ⟨Bs,0,O⟩ (Q S2)):=hb5.setCell (p:=⟨Bs,0,O⟩) hBs _;have hJ5:Jz (pre++[(k,row)]) (W3.setCell ⟨Bs,0,O⟩ (Q S2)):=hJ _ _ _ hJ4 (Ah.setCell _ _ _ rfl);have hz5:W.heap.size<=(W3.setCell ⟨Bs,0,O⟩ (Q S2)).heap.size:=by simp[World.setCell];omega
    have HM2:=hid (V4 hc5);have k4:=hc4.cell;have f4:=hc4.frozen;clear hy hJ2 hc2 hb2 hk4 hc4 hb5 hJ4 hz4 hY hR
    gi_wp2
    go_roundw
    case rel=>exact⟨k+1,S2,_,rfl,hc5,hb6,hz5,hJ5,by omega,HP2⟩
    case measure=>rw[HM.out,HM2.out];omega
   ·clear hy hJ2 hc2 hb2 hk4
    gi_wp2
    try simp only[Exit.noGoto_normal]
    go_end0;exact⟨⟨_,rfl⟩,.inr ⟨_,HPR.out,hJ4⟩⟩
  ·have he:=A9 hz;have hnil:R.data.toList=[]:=List.eq_nil_of_length_eq_zero (by rw[<- Lib.size_eq];omega);have HP2:=hid (show C8 1 (Cc s.data.toList)=pre by rw[HP.out,hnil,GR];simp[C8]);clear HP hnil
   gi_wp2
   try simp only[Exit.noGoto_normal]
   go_end0;exact⟨⟨_,rfl⟩,.inl (by rw[HP2.out];exact hJ1)⟩
end
section
open Go
structure Sc where
 kind:Int
 num:Int
 str:ByteArray
def Di (x:Sc):Value:=.agg #[I J x.kind,I J x.num,Q x.str]
def A4:Sc:=⟨0,0,⟨#[]⟩⟩
def Hh (x:Sc):Int×Int×List UInt8:=(x.kind,x.num,x.str.data.toList)
theorem IR {x y:Sc} (h:Hh x=Hh y):x=y:=by
 obtain⟨k,n,s⟩:=x;obtain⟨k2,n2,s2⟩:=y;simp only[Hh,Prod.mk.injEq] at h;obtain⟨rfl,rfl,h⟩:=h;have:s=s2:=by
  cases s;cases s2
  simp only at h;congr 1;exact Array.toList_inj.1 h
 rw[this]
instance:DecidableEq Sc:=fun x y=>decidable_of_iff (Hh x=Hh y) ⟨IR,fun h=>by rw[h]⟩
inductive Tr where
 | mk (kind:Int) (name:ByteArray) (x:Sc) (keys:List Sc) (kids:List Tr)
end
section
structure Good {α:Type} (c:α->α->Int):Prop where
 rng:∀ x y,c x y= -1\/c x y=0\/c x y=1
 sym:∀ x y,c y x= - c x y
 eq:∀ x y,c x y=0↔x=y
 tr:∀ x y z,c x y= -1->c y z= -1->c x z= -1
def J3 (a b:Int):Int:=if a<b then -1 else if b<a then 1 else 0
theorem ZA:Good J3:=by
 constructor
 ·intro x y;unfold J3;split;exact .inl rfl;split;exact .inr (.inr rfl);exact .inr (.inl rfl)
 ·intro x y;unfold J3;by_cases h1:x<y<;>by_cases h2:y<x<;>simp[h1,h2]<;>omega
 ·intro x y;unfold J3;by_cases h1:x<y
  ·rw[if_pos h1];constructor
   ·intro h;cases h
   ·intro h;omega
  ·by_cases h2:y<x
   ·rw[if_neg h1,if_pos h2];constructor
    ·intro h;cases h
    ·intro h;omega
   ·rw[if_neg h1,if_neg h2];constructor
    ·intro _;omega
    ·intro _;rfl
 ·intro x y z;unfold J3;intro h1 h2;by_cases a:x<y
  ·by_cases b:y<z
   ·rw[if_pos (by omega)]
   ·rw[if_neg b] at h2;split at h2<;>cases h2
  ·rw[if_neg a] at h1;split at h1<;>cases h1
def Ta {α β:Type} (c:α->α->Int) (d:β->β->Int) (x y:α×β):Int:=if c x.1 y.1=0 then d x.2 y.2 else c x.1 y.1
theorem Qy {α β:Type} {c:α->α->Int} {d:β->β->Int} (hc:Good c) (hd:Good d):Good (Ta c d):=by
 constructor
 ·intro x y;unfold Ta;split
  ·exact hd.rng _ _
  ·exact hc.rng _ _
 ·intro x y;unfold Ta;rw[hc.sym];by_cases h:c x.1 y.1=0
  ·rw[if_pos (by omega),if_pos h,hd.sym]
  ·rw[if_neg (by omega),if_neg h]
 ·intro x y;unfold Ta;by_cases h:c x.1 y.1=0
  ·rw[if_pos h,hd.eq];have:=(hc.eq _ _).1 h;constructor
   ·intro h2;exact Prod.ext this h2
   ·intro h2;rw[h2]
  ·rw[if_neg h];constructor
   ·intro h2;exact absurd h2 h
   ·intro h2;exact absurd ((hc.eq _ _).2 (by rw[h2])) h
 ·intro x y z;unfold Ta;intro h1 h2;by_cases a:c x.1 y.1=0
  ·rw[if_pos a] at h1;have ea:=(hc.eq _ _).1 a;rw[ea];by_cases b:c y.1 z.1=0
   ·rw[if_pos b] at h2 |-;exact hd.tr _ _ _ h1 h2
   ·rw[if_neg b] at h2 |-;exact h2
  ·rw[if_neg a] at h1;by_cases b:c y.1 z.1=0
   ·have eb:=(hc.eq _ _).1 b;rw[<- eb,if_neg a];exact h1
   ·rw[if_neg b] at h2;have:=hc.tr _ _ _ h1 h2;rw[if_neg (by rw[this];decide)];exact this
def cmpL:List UInt8->List UInt8->Int
 | [],[]=>0
 | [],_::_=> -1
 | _::_,[]=>1
 | a::x,b::y=>if a.toNat<b.toNat then -1 else if b.toNat<a.toNat then 1 else cmpL x y
theorem OG:Good cmpL:=by
 constructor
 ·intro x;induction x with
  | nil=>intro y;cases y;exact .inr (.inl rfl);exact .inl rfl
  | cons a x ih=>
   intro y;cases y with
   | nil=>exact .inr (.inr rfl)
   | cons b y=>
    unfold cmpL;split
    ·exact .inl rfl
    ·split
     ·exact .inr (.inr rfl)
     ·exact ih y
 ·intro x;induction x with
  | nil=>intro y;cases y<;>rfl
  | cons a x ih=>
   intro y;cases y with
   | nil=>rfl
   | cons b y=>
    show(if b.toNat<a.toNat then (-1:Int) else if a.toNat<b.toNat then 1 else cmpL y x)= -(if a.toNat<b.toNat then (-1:Int) else if b.toNat<a.toNat then 1 else cmpL x y);rcases Nat.lt_trichotomy a.toNat b.toNat with h | h | h
    ·rw[if_neg (by omega),if_pos h,if_pos h];rfl
    ·rw[if_neg (by omega),if_neg (by omega),if_neg (by omega),if_neg (by omega)];exact ih y
    ·rw[if_pos h,if_neg (by omega),if_pos h]
 ·intro x;induction x with
  | nil=>
   intro y;cases y with
   | nil=>exact⟨fun _=>rfl,fun _=>rfl⟩
   | cons b y=>exact⟨(fun h=>by cases h),(fun h=>by cases h)⟩
  | cons a x ih=>
   intro y;cases y with
   | nil=>exact⟨(fun h=>by cases h),(fun h=>by cases h)⟩
   | cons b y=>
    show(if a.toNat<b.toNat then (-1:Int) else if b.toNat<a.toNat then 1 else cmpL x y)=0↔_;rcases Nat.lt_trichotomy a.toNat b.toNat with h | h | h
    ·rw[if_pos h];exact⟨(fun e=>by cases e),(fun e=>by injection e with e1 e2;subst e1;omega)⟩
    ·rw[if_neg (by omega),if_neg (by omega),ih];have hab:a=b:=UInt8.toNat_inj.1 h;exact⟨(fun e=>by rw[hab,e]),(fun e=>by injection e)⟩
    ·rw[if_neg (by omega),if_pos h];exact⟨(fun e=>by cases e),(fun e=>by injection e with e1 e2;subst e1;omega)⟩
 ·intro x;induction x with
  | nil=>
   intro y z h1 h2;cases z with
   | nil=>cases y<;>cases h2
   | cons c z=>rfl
  | cons a x ih=>
   intro y z h1 h2;cases y with
   | nil=>cases h1
   | cons b y=>
    cases z with
    | nil=>cases h2
    | cons c z=>
     have e1:(if a.toNat<b.toNat then (-1:Int) else if b.toNat<a.toNat then 1 else cmpL x y)= -1:=h1;have e2:(if b.toNat<c.toNat then (-1:Int) else if c.toNat<b.toNat then 1 else cmpL y z)= -1:=h2;show(if a.toNat<c.toNat then (-1:Int) else if c.toNat<a.toNat then 1 else cmpL x z)= -1;rcases Nat.lt_trichotomy a.toNat b.toNat with h | h | h
     ·rcases Nat.lt_trichotomy b.toNat c.toNat with k | k | k
      ·rw[if_pos (by omega)]
      ·rw[if_pos (by omega)]
      ·rw[if_neg (by omega),if_pos k] at e2;cases e2
     ·rw[if_neg (by omega),if_neg (by omega)] at e1;rcases Nat.lt_trichotomy b.toNat c.toNat with k | k | k
      ·rw[if_pos (by omega)]
      ·rw[if_neg (by omega),if_neg (by omega)] at e2;rw[if_neg (by omega),if_neg (by omega)];exact ih y z e1 e2
      ·rw[if_neg (by omega),if_pos k] at e2;cases e2
     ·rw[if_neg (by omega),if_pos h] at e1;cases e1
theorem TK:∀ x y:List UInt8,Op.bytesLess x y=decide (cmpL x y= -1)
 | [],[]=>rfl
 | [],_::_=>rfl
 | _::_,[]=>rfl
 | a::x,b::y=>by
  show(decide (a<b)||(a==b&&Op.bytesLess x y))=decide ((if a.toNat<b.toNat then (-1:Int) else if b.toNat<a.toNat then 1 else cmpL x y)= -1);rw[TK x y];have hlt:(a<b)↔a.toNat<b.toNat:=UInt8.lt_iff_toNat_lt;rcases Nat.lt_trichotomy a.toNat b.toNat with h | h | h
  ·rw[if_pos h,decide_eq_true (hlt.2 h)];rfl
  ·have hab:a=b:=UInt8.toNat_inj.1 h;rw[if_neg (by omega),if_neg (by omega),decide_eq_false (fun e=>by have:=hlt.1 e;omega)];subst hab;simp
  ·have hne:(a==b)=false:=by rw[beq_eq_false_iff_ne];rintro rfl;omega
   rw[if_neg (by omega),if_pos h,decide_eq_false (fun e=>by have:=hlt.1 e;omega),hne];rfl
def CM (x y:Sc):Int:=Ta J3 (Ta J3 cmpL) (Hh x) (Hh y)
theorem AP:Good CM:=by
 have hg:=Qy ZA (Qy ZA OG);exact⟨fun x y=>hg.rng _ _,fun x y=>hg.sym _ _,fun x y=>⟨fun h=>IR ((hg.eq _ _).1 h),fun h=>(hg.eq _ _).2 (by rw[h])⟩,fun x y z=>hg.tr _ _ _⟩
end
section
set_option maxRecDepth 100000
set_option maxHeartbeats 400000
def Fg:Value:=.iface 193 (.float .f64 4602678819172646912)
def Dx:List (ByteArray×Value):=[(⟨#[]⟩,.nilIface),(⟨#[110,117,108,108]⟩,.nilIface),(⟨#[126]⟩,.nilIface),(⟨#[116,114,117,101]⟩,.iface 4 (.bool true)),(⟨#[102,97,108,115,101]⟩,.iface 4 (.bool false)),(⟨#[46,105,110,102]⟩,Fg),(⟨#[43,46,105,110,102]⟩,Fg),(⟨#[45,46,105,110,102]⟩,Fg),(⟨#[46,110,97,110]⟩,Fg)]
theorem ZS (w:Y) (l:List (ByteArray×Value)) (a:ByteArray) (v:Value) (h:AN a l=O):
  (Instr.mapUpdate 196 (.map (F w.heap.size)) (Q a) v).run Tryz.prog (w.alloc (AZ Value.string l))=.ok () (w.alloc (AZ Value.string (l++[(a,v)]))):=by
 have:=Ed (P:=Tryz.prog) (enc:=Value.string) Afv YR (t:=196) (k:=9) (e:=20) (w:=w.alloc (AZ Value.string l)) (l:=l) Tryz.underlying196 Tryz.underlying9 (Wn w _) a v h;rw[Fq] at this;exact this
def AA (k:Nat):Obj:=AZ Value.string (Dx.take k)
theorem B5 (w:Y) (k:Nat) (a:ByteArray) (v:Value) (h:AN a (Dx.take k)=O) (hk:Dx.take (k+1)=Dx.take k++[(a,v)]):
  (Instr.mapUpdate 196 (.map (F w.heap.size)) (Q a) v).run Tryz.prog (w.alloc (AA k))=.ok () (w.alloc (AA (k+1))):=by
 unfold AA;rw[hk];exact ZS w _ a v h
theorem Wp (w:Y):
  Calls Tryz.prog 92 #[] w fun e w'=>e=.returned (.map (F w.heap.size))/\w'=w.alloc (AA 9):=by
 have hmm:=@run_makeMap Tryz.prog;have h0:(Instr.mapUpdate 196 (.map (F w.heap.size)) (Q ⟨#[]⟩) .nilIface).run Tryz.prog (w.alloc (.map #[] 0))=.ok () (w.alloc (AA 1)):=B5 w 0 ⟨#[]⟩ .nilIface rfl rfl;have h1:(Instr.mapUpdate 196 (.map (F w.heap.size)) (Q ⟨#[110,117,108,108]⟩) .nilIface).run Tryz.prog (w.alloc (AA 1))=.ok () (w.alloc (AA 2)):=B5 w 1 ⟨#[110,117,108,108]⟩ .nilIface (by decide+kernel) rfl;have h2:(Instr.mapUpdate 196 (.map (F w.heap.size)) (Q ⟨#[126]⟩) .nilIface).run Tryz.prog (w.alloc (AA 2))=.ok () (w.alloc (AA 3)):=B5 w 2 ⟨#[126]⟩ .nilIface (by decide+kernel) rfl;have h3:(Instr.mapUpdate 196 (.map (F w.heap.size)) (Q ⟨#[116,114,117,101]⟩) (.iface 4 (.bool true))).run Tryz.prog (w.alloc (AA 3))=.ok () (w.alloc (AA 4)):=B5 w 3 ⟨#[116,114,117,101]⟩ (.iface 4 (.bool true)) (by decide+kernel) rfl;have h4:(Instr.mapUpdate 196 (.map (F w.heap.size)) (Q ⟨#[102,97,108,115,101]⟩) (.iface 4 (.bool false))).run Tryz.prog (w.alloc (AA 4))=.ok () (w.alloc (AA 5)):=B5 w 4 ⟨#[102,97,108,115,101]⟩ (.iface 4 (.bool false)) (by decide+kernel) rfl;have h5:(Instr.mapUpdate 196 (.map (F w.heap.size)) (Q ⟨#[46,105,110,102]⟩) (.iface 193 (.float .f64 4602678819172646912))).run Tryz.prog (w.alloc (AA 5))=.ok () (w.alloc (AA 6)):=B5 w 5 ⟨#[46,105,110,102]⟩ (.iface 193 (.float .f64 4602678819172646912)) (by decide+kernel) rfl;have h6:(Instr.mapUpdate 196 (.map (F w.heap.size)) (Q ⟨#[43,46,105,110,102]⟩) (.iface 193 (.float .f64 4602678819172646912))).run Tryz.prog (w.alloc (AA 6))=.ok () (w.alloc (AA 7)):=B5 w 6 ⟨#[43,46,105,110,102]⟩ (.iface 193 (.float .f64 4602678819172646912)) (by decide+kernel) rfl
 have h7:(Instr.mapUpdate 196 (.map (F w.heap.size)) (Q ⟨#[45,46,105,110,102]⟩) (.iface 193 (.float .f64 4602678819172646912))).run Tryz.prog (w.alloc (AA 7))=.ok () (w.alloc (AA 8)):=B5 w 7 ⟨#[45,46,105,110,102]⟩ (.iface 193 (.float .f64 4602678819172646912)) (by decide+kernel) rfl;have h8:(Instr.mapUpdate 196 (.map (F w.heap.size)) (Q ⟨#[46,110,97,110]⟩) (.iface 193 (.float .f64 4602678819172646912))).run Tryz.prog (w.alloc (AA 8))=.ok () (w.alloc (AA 9)):=B5 w 8 ⟨#[46,110,97,110]⟩ (.iface 193 (.float .f64 4602678819172646912)) (by decide+kernel) rfl;go_enter Tryz.func92,Tryz.ntmps92;go_wp2;go_ret;exact⟨rfl,rfl⟩
theorem Pt (r:Nat) (w:Y):
  Calls Tryz.prog 133 #[.int .i32 r] w fun e w'=>e=.returned (.bool (Ck r))/\Below w.heap.size w w':=by
 by_cases h1:(48:Int)<=r/\(r:Int)<=57
 ·obtain⟨h1,h2⟩:=h1;have h1':¬(r:Int)<48:=by omega
  have h2':¬57<(r:Int):=by omega
  go_enter Tryz.func133,Tryz.ntmps133;go_wp2;go_ret;exact⟨by rw[show Ck r=false from(by unfold Ck;rw[decide_eq_true (show 48<=r by omega),decide_eq_true (show r<=57 by omega)];rfl)];rfl,Bq _ _⟩
 ·have H1:=hid h1;by_cases hlo:(r:Int)<48
  ·clear h1;go_enter Tryz.func133,Tryz.ntmps133;go_wp2_with fail;refine(GN r [46,101,69,43,45,95] _ _ _ rfl (by decide)).mono ?_;rintro e w1 ⟨rfl,hb1⟩;go_wp2;go_ret;exact⟨by rw[show Ck r= !(Bw [46,101,69,43,45,95] r) from(by unfold Ck;rw[decide_eq_false (show ¬48<=r by omega)];simp)];rfl,hb1⟩
  ·have hhi:57<(r:Int):=by omega
   clear h1;go_enter Tryz.func133,Tryz.ntmps133;go_wp2_with fail;refine(GN r [46,101,69,43,45,95] _ _ _ rfl (by decide)).mono ?_;rintro e w1 ⟨rfl,hb1⟩;go_wp2;go_ret;exact⟨by rw[show Ck r= !(Bw [46,101,69,43,45,95] r) from(by unfold Ck;rw[decide_eq_false (show ¬r<=57 by omega)];simp)];rfl,hb1⟩
theorem MX (w:Y):PredGrows Tryz.prog 133 #[] Ck w:=fun W x _ _=>by
 refine(Pt x W).mono ?_;rintro e w' ⟨rfl,hb⟩;exact⟨rfl,hb⟩
theorem O0 (s:ByteArray) (w:Y):
  Calls Tryz.prog 93 #[Q s] w fun e w'=>e=.returned (.bool (IU s.data.toList))/\Below w.heap.size w w':=by
 go_enter Tryz.func93,Tryz.ntmps93;go_wp2_with fail;refine(Tryz.strings_TrimPrefix s ⟨#[43]⟩ _).mono ?_;rintro e w1 ⟨rfl,hw1⟩;subst hw1;go_wp2_with fail;refine(Tryz.strings_TrimPrefix ⟨(Lib.trimPrefix s.data.toList [43]).toArray⟩ ⟨#[45]⟩ _).mono ?_;rintro e w2 ⟨rfl,hw2⟩;subst hw2;go_wp2_with fail;refine(Tryz.strings_HasPrefix s ⟨#[43,45]⟩ _).mono ?_;rintro e w3 ⟨rfl,hw3⟩;subst hw3;cases hp:Lib.hasPrefix s.data.toList [43,45] with
 | true=>
  have HP:=hid hp;clear hp;go_wp2;go_ret;exact⟨by rw[show IU s.data.toList=false from(by unfold IU;rw[HP.out];rfl)];rfl,Bq _ _⟩
 | false=>
  have HP:=hid hp;clear hp;go_wp2_with fail;refine(Tryz.strings_TrimPrefix ⟨(Lib.trimPrefix (Lib.trimPrefix s.data.toList [43]) [45]).toArray⟩ ⟨#[46]⟩ _).mono ?_;rintro e w4 ⟨rfl,hw4⟩;subst hw4;obtain⟨T,hTT⟩:∃ T:ByteArray,(⟨(Fn s.data.toList).toArray⟩:ByteArray)=T:=⟨_,rfl⟩
  have hTT':(⟨(Lib.trimPrefix (Lib.trimPrefix (Lib.trimPrefix s.data.toList [43]) [45]) [46]).toArray⟩:ByteArray)=T:=hTT;rw[show(⟨(Lib.trimPrefix (⟨(Lib.trimPrefix (Lib.trimPrefix s.data.toList [43]) [45]).toArray⟩:ByteArray).data.toList (⟨#[46]⟩:ByteArray).data.toList).toArray⟩:ByteArray)=T from hTT'];clear hTT';have hTl:Fn s.data.toList=T.data.toList:=by rw[<- hTT]
  have HTT:=hid hTT;clear hTT;have HT:=hid hTl;clear hTl;by_cases hT0:0<T.size
  ·have hTe:=Ax hT0;have hTi:(0:Int)<(T.size:Int):=by omega
   have hl:=J5 T hT0;obtain⟨c,hc⟩:∃ c,T[0]'hT0=c:=⟨_,rfl⟩
   rw[hc] at hl;have HL:=hid hl;clear hl;have hemp:T.data.toList.isEmpty=false:=by rw[HL.out];rfl
   have HE:=hid hemp;clear hemp;have hhd:T.data.toList.headD 0=c:=by rw[HL.out];rfl
   have HH:=hid hhd;clear hhd;by_cases hd:(48:Int)<=c.toNat/\(c.toNat:Int)<=57
   ·obtain⟨hd1,hd2⟩:=hd;have hdig:AX c=true:=by unfold AX;simp;omega
    have HD:=hid hdig;clear hdig;go_wp2_with fail;refine(Tryz.strings_ContainsFunc_grows 133 #[] (enters_of Tryz.func133 (by kernel_rfl) rfl) Ck T _ (MX _)).mono ?_;rintro e w5 ⟨rfl,hb5⟩;go_wp2;go_ret;exact⟨by rw[show IU s.data.toList= !(decide (0<=Lib.idxFunc Ck true T)) from(by unfold IU;rw[HP.out,HTT.out,HT.out,HE.out,HH.out,HD.out];rfl)];rfl,hb5⟩
   ·have hdig:AX c=false:=by unfold AX;simp;omega
    have HD:=hid hdig;clear hdig;have hfin:IU s.data.toList=false:=by unfold IU;rw[HP.out,HT.out,HE.out,HH.out,HD.out];rfl
    have HF:=hid hfin;clear hfin;by_cases hd1:(48:Int)<=c.toNat
    ·have hd2:(57:Int)<c.toNat:=by omega
     clear hd;go_wp2;go_ret;exact⟨by rw[HF.out];rfl,Bq _ _⟩
    ·clear hd;go_wp2;go_ret;exact⟨by rw[HF.out];rfl,Bq _ _⟩
  ·have hTe:=A9 hT0;have hemp:T.data.toList.isEmpty=true:=by rw[<- Lib.toList_data];exact hTe
   have hfin:IU s.data.toList=false:=by unfold IU;rw[HP.out,HT.out,hemp];rfl
   have HF:=hid hfin;clear hfin hemp;go_wp2;go_ret;exact⟨by rw[HF.out];rfl,Bq _ _⟩
theorem FW (w:Y) (k:Nat) (os:Array Obj):Below w.heap.size w (Go.Sort.grow (w.drewN k) os):=
 ⟨rfl,rfl,rfl,by show w.heap.size<=(w.heap++os).size;simp,fun i hi=>by show(w.heap++os)[i]? =_;rw[Array.getElem?_append_left hi]⟩
theorem Qp (n:Int) (w:Y) (h0: -9223372036854775808<=n) (h1:n<=9223372036854775807) (hT:Bf w):
  Calls Tryz.prog 95 #[I J n] w fun e w'=>e=.returned (Q ⟨(Lib.itoa n).toArray⟩)/\Below w.heap.size w w':=by
 refine(Tryz.strconv_Itoa n h0 h1 w hT.pow).mono ?_;rintro e w' ⟨rfl,k,os,rfl⟩;exact⟨rfl,FW w k os⟩
theorem Acc (s:ByteArray) (v:Int) (w:Y) (hs:s.size<=1000000) (h:Lib.atoiAll s.data.toList=.ok v):
  Calls Tryz.prog 94 #[Q s] w fun e w'=>e=.returned (.tuple #[I J v,.nilIface])/\Below w.heap.size w w':=by
 refine(Tryz.strconv_Atoi_ok s (by omega) v h w).mono ?_;rintro e w' ⟨rfl,rfl | ⟨t,rfl⟩⟩
 ·exact⟨rfl,Bq _ _⟩
 ·exact⟨rfl,Lib.bytesWorld_below _ _ _⟩
theorem YU (s:ByteArray) (w:Y) (hs:s.size<=1000000) (hT:Bf w) (h:∀ v,Lib.atoiAll s.data.toList≠ .ok v):
  Calls Tryz.prog 94 #[Q s] w fun e w'=>(∃ v N,e=.returned (.tuple #[I J v,.iface 309 (.pointer (F ⟨N,0,O⟩))]))/\Below w.heap.size w w':=by
 cases ha:Lib.atoiAll s.data.toList with
 | ok v=>exact absurd ha (h v)
 | range=>
  obtain⟨te,pe,hc⟩:=hT.rng;refine(Tryz.strconv_Atoi_range s (by omega) ha _ w hc (.inr ⟨te,pe,rfl⟩)).mono ?_;rintro e w' ⟨N,rfl,_,_,hb⟩;exact⟨⟨_,_,rfl⟩,hb⟩
 | _=>
  obtain⟨te,pe,hc⟩:=hT.syn;refine(Tryz.strconv_Atoi_syntax s (by omega) h (fun h2=>by rw[ha] at h2;cases h2) _ w hc (.inr ⟨te,pe,rfl⟩)).mono ?_;rintro e w' ⟨N,rfl,_,_,hb⟩;exact⟨⟨_,_,rfl⟩,hb⟩
def Ge (l:List UInt8):Value:=match Lib.atoiAll l with
 | .ok n=>if Lib.itoa n=l/\ -999999999999999<=n/\n<=999999999999999 then .iface 3 (I J n) else Fg
 | _=>Fg
def Cw (s:ByteArray):Value:=match AN s Dx with
 | some v=>v
 | none=>if IU s.data.toList then Ge s.data.toList else .iface 9 (Q s)
theorem U1 (s:ByteArray) (w:Y) (b:Nat) (hb:w.heap[b]? =F (AA 9)):
  (Instr.lookup 196 (.map (F b)) (Q s) true).run Tryz.prog w=.ok (.tuple #[(AN s Dx).getD .nilIface,.bool (AN s Dx).isSome]) w:=
 CE (P:=Tryz.prog) (enc:=Value.string) Afv YR (k:=9) (e:=20) (l:=Dx) (z:=.nilIface) Tryz.underlying196 Tryz.underlying9 (by kernel_rfl) hb s true
theorem NE (s:ByteArray) (w:Y) (hs:s.size<=1000000) (hT:Bf w):
  Calls Tryz.prog 62 #[Q s] w fun e w'=>e=.returned (Cw s)/\Below w.heap.size w w':=by
 go_enter Tryz.func62,Tryz.ntmps62;go_wp2_with fail;refine(Wp _).mono ?_;rintro e w1 ⟨rfl,hw1⟩;have hb1:Below w.heap.size w w1:=by rw[hw1];exact(Bq _ _).alloc Nr _
 have hlk:=U1 s w1 w.heap.size (by rw[hw1];exact Wn _ _);have hT1:=hT.below hb1;clear hw1;cases ha:AN s Dx with
 | some v=>
  rw[ha] at hlk;have HA:=hid ha;clear ha;simp only[Option.getD_some,Option.isSome_some] at hlk;go_wp2;go_ret;exact⟨by rw[show Cw s=v from(by unfold Cw;rw[HA.out])];rfl,hb1⟩
 | none=>
  rw[ha] at hlk;have HA:=hid ha;clear ha;simp only[Option.getD_none,Option.isSome_none] at hlk;go_wp2_with fail;refine(O0 s _).mono ?_;rintro e w2 ⟨rfl,hb2⟩;have hb02:Below w.heap.size w w2:=hb1.trans (hb2.mono hb1.size);have hT2:=hT1.below hb2;cases hn:IU s.data.toList with
  | false=>
   have HN:=hid hn;clear hn;go_wp2;go_ret;exact⟨by rw[show Cw s=.iface 9 (Q s) from(by unfold Cw;rw[HA.out,HN.out];rfl)];rfl,hb02⟩
  | true=>
   have HN:=hid hn;clear hn;have hval:Cw s=Ge s.data.toList:=by unfold Cw;rw[HA.out,HN.out];rfl
   have HV:=hid hval;clear hval;go_wp2_with fail;cases hat:Lib.atoiAll s.data.toList with
   | ok n=>
    have hb:=Ue hat;have HT:=hid hat;refine(Acc s n _ hs hat).mono ?_;clear hat;rintro e w3 ⟨rfl,hb3⟩;have hb03:Below w.heap.size w w3:=hb02.trans (hb3.mono hb02.size);have hT3:=hT2.below hb3;go_wp2_with fail;refine(Qp n _ hb.1 hb.2 hT3).mono ?_;rintro e w4 ⟨rfl,hb4⟩;have hb04:Below w.heap.size w w4:=hb03.trans (hb4.mono hb03.size);by_cases hi:Lib.itoa n=s.data.toList
    ·have hii:(!Lib.itoa n==s.toList)=false:=by rw[Lib.toList_data,hi];simp
     have HI:=hid hi;clear hi;by_cases hlo:n< -999999999999999
     ·have hfin:Ge s.data.toList=Fg:=by unfold Ge;rw[HT.out];simp only[];rw[if_neg (by omega)]
      have HF:=hid hfin;clear hfin;go_wp2;go_ret;exact⟨by rw[HV.out,HF.out];rfl,hb04⟩
     ·by_cases hhi:999999999999999<n
      ·have hfin:Ge s.data.toList=Fg:=by unfold Ge;rw[HT.out];simp only[];rw[if_neg (by omega)]
       have HF:=hid hfin;clear hfin;go_wp2;go_ret;exact⟨by rw[HV.out,HF.out];rfl,hb04⟩
      ·have hfin:Ge s.data.toList=.iface 3 (I J n):=by unfold Ge;rw[HT.out];simp only[];rw[if_pos ⟨HI.out,by omega,by omega⟩]
       have HF:=hid hfin;clear hfin;go_wp2;go_ret;exact⟨by rw[HV.out,HF.out];rfl,hb04⟩
    ·have hii:(!Lib.itoa n==s.toList)=true:=by rw[Lib.toList_data];simpa using hi
     have hfin:Ge s.data.toList=Fg:=by unfold Ge;rw[HT.out];simp only[];rw[if_neg (fun h=>hi h.1)]
     have HF:=hid hfin;clear hfin hi;go_wp2;go_ret;exact⟨by rw[HV.out,HF.out];rfl,hb04⟩
   | _=>
    have hbad:∀ v,Lib.atoiAll s.data.toList≠ .ok v:=by intro v hv;rw[hat] at hv;cases hv
    have hfin:Ge s.data.toList=Fg:=by unfold Ge;rw[hat]
    have HF:=hid hfin;clear hfin;refine(YU s _ hs hT2 hbad).mono ?_;clear hat hbad;rintro e w3 ⟨⟨v,N,rfl⟩,hb3⟩;have hb03:Below w.heap.size w w3:=hb02.trans (hb3.mono hb02.size);go_wp2;go_ret;exact⟨by rw[HV.out,HF.out];rfl,hb03⟩
def Fs:Value->Sc×Int
 | .iface _ (.float _ _)=>(A4,50)
 | .iface _ (.bool b)=>(⟨1,if b then 1 else 0,⟨#[]⟩⟩,0)
 | .iface _ (.int _ n)=>(⟨2,n,⟨#[]⟩⟩,0)
 | .iface _ (Q s)=>(⟨3,0,s⟩,0)
 | _=>(A4,0)
theorem ZW (w:Y):(Instr.typeAssert .nilIface 20 193 true).run Tryz.prog w=.ok (.tuple #[.float .f64 0,.bool false]) w:=by kernel_rfl
theorem Ahq (v:Value) (w:Y):(Instr.typeAssert (.iface 193 v) 20 193 true).run Tryz.prog w=.ok (.tuple #[v,.bool true]) w:=by kernel_rfl
theorem Ahc (v:Value) (w:Y):(Instr.typeAssert (.iface 4 v) 20 193 true).run Tryz.prog w=.ok (.tuple #[.float .f64 0,.bool false]) w:=by kernel_rfl
theorem Aig (v:Value) (w:Y):(Instr.typeAssert (.iface 3 v) 20 193 true).run Tryz.prog w=.ok (.tuple #[.float .f64 0,.bool false]) w:=by kernel_rfl
theorem Agi (v:Value) (w:Y):(Instr.typeAssert (.iface 9 v) 20 193 true).run Tryz.prog w=.ok (.tuple #[.float .f64 0,.bool false]) w:=by kernel_rfl
theorem ZL (w:Y):(Instr.typeAssert .nilIface 20 4 true).run Tryz.prog w=.ok (.tuple #[.bool false,.bool false]) w:=by kernel_rfl
theorem Ag5 (v:Value) (w:Y):(Instr.typeAssert (.iface 193 v) 20 4 true).run Tryz.prog w=.ok (.tuple #[.bool false,.bool false]) w:=by kernel_rfl
theorem Ah5 (v:Value) (w:Y):(Instr.typeAssert (.iface 4 v) 20 4 true).run Tryz.prog w=.ok (.tuple #[v,.bool true]) w:=by kernel_rfl
theorem Ahk (v:Value) (w:Y):(Instr.typeAssert (.iface 3 v) 20 4 true).run Tryz.prog w=.ok (.tuple #[.bool false,.bool false]) w:=by kernel_rfl
theorem Ahm (v:Value) (w:Y):(Instr.typeAssert (.iface 9 v) 20 4 true).run Tryz.prog w=.ok (.tuple #[.bool false,.bool false]) w:=by kernel_rfl
theorem Y4 (w:Y):(Instr.typeAssert .nilIface 20 3 true).run Tryz.prog w=.ok (.tuple #[I J 0,.bool false]) w:=by kernel_rfl
theorem Ah9 (v:Value) (w:Y):(Instr.typeAssert (.iface 193 v) 20 3 true).run Tryz.prog w=.ok (.tuple #[I J 0,.bool false]) w:=by kernel_rfl
theorem Agf (v:Value) (w:Y):(Instr.typeAssert (.iface 4 v) 20 3 true).run Tryz.prog w=.ok (.tuple #[I J 0,.bool false]) w:=by kernel_rfl
theorem Ah1 (v:Value) (w:Y):(Instr.typeAssert (.iface 3 v) 20 3 true).run Tryz.prog w=.ok (.tuple #[v,.bool true]) w:=by kernel_rfl
theorem Ah8 (v:Value) (w:Y):(Instr.typeAssert (.iface 9 v) 20 3 true).run Tryz.prog w=.ok (.tuple #[I J 0,.bool false]) w:=by kernel_rfl
theorem ZT (w:Y):(Instr.typeAssert .nilIface 20 9 true).run Tryz.prog w=.ok (.tuple #[Q ⟨#[]⟩,.bool false]) w:=by kernel_rfl
theorem Ag1 (v:Value) (w:Y):(Instr.typeAssert (.iface 193 v) 20 9 true).run Tryz.prog w=.ok (.tuple #[Q ⟨#[]⟩,.bool false]) w:=by kernel_rfl
theorem Ahh (v:Value) (w:Y):(Instr.typeAssert (.iface 4 v) 20 9 true).run Tryz.prog w=.ok (.tuple #[Q ⟨#[]⟩,.bool false]) w:=by kernel_rfl
theorem Ah2 (v:Value) (w:Y):(Instr.typeAssert (.iface 3 v) 20 9 true).run Tryz.prog w=.ok (.tuple #[Q ⟨#[]⟩,.bool false]) w:=by kernel_rfl
theorem Ahn (v:Value) (w:Y):(Instr.typeAssert (.iface 9 v) 20 9 true).run Tryz.prog w=.ok (.tuple #[v,.bool true]) w:=by kernel_rfl
attribute [local go_sem] ZW ZL Y4 ZT Ahq Ahc Aig Agi Ag5 Ah5 Ahk Ahm Ah9 Agf Ah1 Ah8 Ag1 Ahh Ah2 Ahn
def Af4 (v:Value):Prop:=v=.nilIface\/v=Fg\/(∃ b,v=.iface 4 (.bool b))\/(∃ n,v=.iface 3 (I J n))\/∃ s,v=.iface 9 (Q s)
theorem KQ (v:Value) (w:Y) (hv:Af4 v):
  Calls Tryz.prog 61 #[v] w fun e w'=>e=.returned (.tuple #[Di (Fs v).1,I J (Fs v).2])/\Below w.heap.size w w':=by
 rcases hv with rfl | rfl | ⟨b,rfl⟩ | ⟨n,rfl⟩ | ⟨s,rfl⟩
 ·go_enter Tryz.func61,Tryz.ntmps61;go_wp2;exact bodyPost_ret (v:=.tuple #[.agg #[I J 0,I J 0,Q ⟨#[]⟩],I J 0]) (by simp[results,Tryz.results61,go_sem]) rfl ⟨rfl,by repeat (first | exact Bq _ _ | refine Below.alloc ?_ (by simp) _ | refine Below.setCell ?_ (by simp) _)⟩
 ·unfold Fg;go_enter Tryz.func61,Tryz.ntmps61;go_wp2;exact bodyPost_ret (v:=.tuple #[.agg #[I J 0,I J 0,Q ⟨#[]⟩],I J 50]) (by simp[results,Tryz.results61,go_sem]) rfl ⟨rfl,by repeat (first | exact Bq _ _ | refine Below.alloc ?_ (by simp) _ | refine Below.setCell ?_ (by simp) _)⟩
 ·cases b
  ·go_enter Tryz.func61,Tryz.ntmps61;go_wp2;exact bodyPost_ret (v:=.tuple #[.agg #[I J 1,I J 0,Q ⟨#[]⟩],I J 0]) (by simp[results,Tryz.results61,go_sem]) rfl ⟨rfl,by repeat (first | exact Bq _ _ | refine Below.alloc ?_ (by simp) _ | refine Below.setCell ?_ (by simp) _)⟩
  ·go_enter Tryz.func61,Tryz.ntmps61;go_wp2;exact bodyPost_ret (v:=.tuple #[.agg #[I J 1,I J 1,Q ⟨#[]⟩],I J 0]) (by simp[results,Tryz.results61,go_sem]) rfl ⟨rfl,by repeat (first | exact Bq _ _ | refine Below.alloc ?_ (by simp) _ | refine Below.setCell ?_ (by simp) _)⟩
 ·go_enter Tryz.func61,Tryz.ntmps61;go_wp2;exact bodyPost_ret (v:=.tuple #[.agg #[I J 2,I J n,Q ⟨#[]⟩],I J 0]) (by simp[results,Tryz.results61,go_sem]) rfl ⟨rfl,by repeat (first | exact Bq _ _ | refine Below.alloc ?_ (by simp) _ | refine Below.setCell ?_ (by simp) _)⟩
 ·go_enter Tryz.func61,Tryz.ntmps61;go_wp2;exact bodyPost_ret (v:=.tuple #[.agg #[I J 3,I J 0,Q s],I J 0]) (by simp[results,Tryz.results61,go_sem]) rfl ⟨rfl,by repeat (first | exact Bq _ _ | refine Below.alloc ?_ (by simp) _ | refine Below.setCell ?_ (by simp) _)⟩
end
section
instance:Inhabited Sc:=⟨A4⟩
theorem Zk (k1 n1 k2 n2:Int) (s1 s2:ByteArray) (w:Y):
  (binOp .eql 36 (.agg #[I J k1,I J n1,Q s1]) (.agg #[I J k2,I J n2,Q s2])).run Tryz.prog w=.ok (.bool (k1==k2&&(n1==n2&&s1.toList==s2.toList))) w:=by
 rw[run_eql_struct];cases h1:(k1==k2)<;>cases h2:(n1==n2)<;>cases h3:(s1.toList==s2.toList)<;>go_simp
theorem Af8 (x y:Sc):((x.kind:Int)==(y.kind:Int)&&((x.num:Int)==(y.num:Int)&&x.str.toList==y.str.toList))=decide (x=y):=by
 rw[Lib.toList_data,Lib.toList_data,Bool.eq_iff_iff];simp only[Bool.and_eq_true,beq_iff_eq,decide_eq_true_eq]
 constructor
 ·rintro⟨h1,h2,h3⟩;exact IR (by simp[Hh,h1,h2,h3])
 ·rintro rfl;exact⟨rfl,rfl,rfl⟩
def BO (x:Sc):List Value:=[I J x.kind,I J x.num,Q x.str]
def MP (w:Y) (v:Value) (ts:List Sc):Prop:=
 ∃ (A:Option Addr) (cap:Nat),v=Z A ts.length cap/\∀ k,k<ts.length->∃ (b o:Nat),A=F ⟨b,o,O⟩/\b<w.heap.size∧
  w.cell? ⟨b,o+k*3,O⟩=F (I J (ts.getD k A4).kind)/\w.cell? ⟨b,o+k*3+1,O⟩=F (I J (ts.getD k A4).num)/\w.cell? ⟨b,o+k*3+2,O⟩=F (Q (ts.getD k A4).str)
theorem MP.nil (w:Y):MP w (Z O 0 0) []:=⟨O,0,rfl,fun k h=>by simp at h⟩
theorem MP.below {w w':Y} {v:Value} {ts:List Sc} (h:MP w v ts) (hb:Below w.heap.size w w'):MP w' v ts:=by
 obtain⟨A,cap,hv,hc⟩:=h;refine⟨A,cap,hv,fun k hk=>?_⟩;obtain⟨b,o,ha,hlt,h0,h1,h2⟩:=hc k hk;exact⟨b,o,ha,Nat.lt_of_lt_of_le hlt hb.size,(hb.cell (p:=⟨b,o+k*3,O⟩) hlt).trans h0,(hb.cell (p:=⟨b,o+k*3+1,O⟩) hlt).trans h1,(hb.cell (p:=⟨b,o+k*3+2,O⟩) hlt).trans h2⟩
end
section
theorem NK:∀ ts:List Sc,(ts.flatMap BO).length=ts.length*3
 | []=>rfl
 | t::r=>by rw[List.flatMap_cons,List.length_append,NK r];simp[BO];omega
theorem Qi:∀ (ts:List Sc) (k:Nat),k<ts.length->(ts.flatMap BO)[k*3]? =F (I J (ts.getD k A4).kind)/\(ts.flatMap BO)[k*3+1]? =F (I J (ts.getD k A4).num)/\(ts.flatMap BO)[k*3+2]? =F (Q (ts.getD k A4).str)
 | [],k,h=>by simp at h
 | t::r,0,h=>⟨rfl,rfl,rfl⟩
 | t::r,k+1,h=>by
  have:=Qi r k (by simpa using h);rw[List.flatMap_cons,show(k+1)*3=3+k*3 by omega];have e:∀ j,(BO t++r.flatMap BO)[3+j]? =(r.flatMap BO)[j]? :=fun j=>by
   rw[List.getElem?_append_right (by simp[BO])];simp[BO]
  rw[show 3+k*3+1=3+(k*3+1) by omega,show 3+k*3+2=3+(k*3+2) by omega,e,e,e];exact this
end
section
def OkT (l:List UInt8) (p d k:Nat) (t:List UInt8) (tq d':Nat):Prop:=
 p<tq/\tq<=l.length/\1<=k/\k<=11/\(4<k->t=[])/\((k=8\/k=10)/\d'=d+1\/(k=9\/k=11)/\d=d'+1\/(k<=7/\d'=d))/\(k=7->0<d)/\(k=5->d=0)
theorem Hw {l:List UInt8} {p d k tq d':Nat} {t:List UInt8} (hp:p<=l.length) (h:Cz l p d=.ok k t tq d'):OkT l p d k t tq d':=by
 obtain⟨rfl,rfl,h3,h4,h5,h6,h7⟩:=XP hp h;exact⟨h6,h7,by omega,by omega,by omega,by omega,by omega,by omega⟩
theorem Jb {l:List UInt8} {p d k tq d':Nat} {t:List UInt8} (hv:validD l=true) (hp:p<l.length) (h:Hk l p d=.ok k t tq d'):OkT l p d k t tq d':=by
 unfold Hk Ace at h;split at h
 ·rename_i hc;obtain⟨q,hq,hq8⟩:=NH hp hc;unfold I4 at h;split at h
  ·rename_i he;have:=QD hq hq8 hv he;split at h
   ·injection h with h1 h2 h3 h4;subst h1 h2 h3 h4;exact⟨by omega,by omega,by omega,by omega,by omega,by omega,by omega,by omega⟩
   ·cases h
  ·cases h
 ·split at h
  ·unfold Lr at h;split at h
   ·rename_i hn;injection h with h1 h2 h3 h4;subst h1 h2 h3 h4;have hle:(nameOf l p).length<=(l.drop (p+1)).length:=(List.takeWhile_prefix _).length_le;rw[List.length_drop] at hle;refine⟨by omega,by omega,by split<;>omega,by split<;>omega,fun hk=>by split at hk<;>omega,?_,fun hk=>by split at hk<;>omega,fun hk=>by split at hk<;>omega⟩;refine .inr (.inr ⟨by split<;>omega,rfl⟩)
   ·cases h
  ·split at h
   ·unfold GZ at h;split at h
    ·split at h
     ·cases h
     ·injection h with h1 h2 h3 h4;subst h1 h2 h3 h4;exact⟨by omega,by omega,by omega,by omega,fun _=>rfl,by omega,by omega,by omega⟩
    ·exact Hw (by omega) h
   ·split at h
    ·unfold FX at h;split at h
     ·injection h with h1 h2 h3 h4;subst h1 h2 h3 h4;exact⟨by omega,by omega,by omega,by omega,fun _=>rfl,by omega,by omega,by omega⟩
     ·exact Hw (by omega) h
    ·split at h
     ·injection h with h1 h2 h3 h4;subst h1 h2 h3 h4;refine⟨by omega,by omega,by split<;>omega,by split<;>omega,fun _=>rfl,.inl ⟨by split<;>simp,rfl⟩,fun hk=>by split at hk<;>omega,fun hk=>by split at hk<;>omega⟩
     ·split at h
      ·unfold CT at h;split at h
       ·cases h
       ·split at h
        ·injection h with h1 h2 h3 h4;subst h1 h2 h3 h4;exact⟨by omega,by omega,by omega,by omega,fun _=>rfl,by omega,by omega,by omega⟩
        ·injection h with h1 h2 h3 h4;subst h1 h2 h3 h4;refine⟨by omega,by omega,by split<;>omega,by split<;>omega,fun _=>rfl,.inr (.inl ⟨by split<;>simp,by omega⟩),fun hk=>by split at hk<;>omega,fun hk=>by split at hk<;>omega⟩
      ·exact Hw (by omega) h
theorem Fo {l:List UInt8} (hv:validD l=true):∀ (f g p d:Nat),l.length<f+p->l.length<g+p->C3 l f p d=C3 l g p d
 | 0,0,p,d,_,_=>rfl
 | 0,g+1,p,d,hf,_=>by unfold C3;rw[if_pos (by omega)]
 | f+1,0,p,d,_,hg=>by unfold C3;rw[if_pos (by omega)]
 | f+1,g+1,p,d,hf,hg=>by
  unfold C3;split
  ·rfl
  ·rename_i hp;split
   ·exact Fo hv f g (p+1) d (by omega) (by omega)
   ·split
    ·rfl
    ·cases ho:Hk l p d with
     | bad e=>rfl
     | ok k t tq d'=>
      have:=Jb hv (by omega) ho;exact congrArg _ (Fo hv f g tq d' (by have:=this.1;omega) (by have:=this.1;omega))
theorem D5 {l:List UInt8} (hv:validD l=true) {f p:Nat} (d:Nat) (h:l.length<f+p):BH l p d=C3 l f p d:=by
 unfold BH;rcases Nat.lt_or_ge l.length p with h1 | h1
 ·rw[show l.length+1 - p=0 by omega];exact Fo hv 0 f p d (by omega) h
 ·exact Fo hv _ f p d (by omega) h
theorem Wt {l:List UInt8} {p:Nat} (d:Nat) (h:l.length<=p):BH l p d=[]:=by
 unfold BH;cases hn:l.length+1 - p with
 | zero=>rfl
 | succ n=>unfold C3;rw[if_pos h]
theorem QN {l:List UInt8} (hv:validD l=true) {p d:Nat} (hp:p<l.length) (h:DV l p [32]=true):BH l p d=BH l (p+1) d:=by
 rw[D5 hv d (f:=l.length+1) (by omega),D5 hv (p:=p+1) d (f:=l.length) (by omega)];show(if l.length<=p then [] else _)=_;rw[if_neg (by omega),if_pos h]
theorem SC {l:List UInt8} (hv:validD l=true) {p d:Nat} (hp:p<l.length) (h:DV l p [32]=false) (hn:CC l p=true):BH l p d=[]:=by
 rw[D5 hv d (f:=l.length+1) (by omega)];show(if l.length<=p then [] else _)=_;rw[if_neg (by omega),h,if_neg (by decide),if_pos hn]
theorem Y9 {l:List UInt8} (hv:validD l=true) {p d k tq d':Nat} {t:List UInt8} (hp:p<l.length) (h:DV l p [32]=false) (hn:CC l p=false) (ho:Hk l p d=.ok k t tq d'):BH l p d=.tok k t p::BH l tq d':=by
 rw[D5 hv d (f:=l.length+1) (by omega),D5 hv (p:=tq) d' (f:=l.length) (by have:=(Jb hv hp ho).1;omega)];show(if l.length<=p then [] else _)=_;rw[if_neg (by omega),h,if_neg (by decide),hn,if_neg (by decide),ho]
theorem WS {l:List UInt8} (hv:validD l=true) {p d e:Nat} (hp:p<l.length) (h:DV l p [32]=false) (hn:CC l p=false) (ho:Hk l p d=.bad e):BH l p d=[.bad e p]:=by
 rw[D5 hv d (f:=l.length+1) (by omega)];show(if l.length<=p then [] else _)=_;rw[if_neg (by omega),h,if_neg (by decide),hn,if_neg (by decide),ho]
def WZ:TP->Tk
 | .tok k t p=>⟨k,t,p⟩
 | .bad e p=>⟨0,[],0⟩
def Ds:List TP->Option (Nat×Nat)
 | []=>O
 | .tok _ _ _::r=>Ds r
 | .bad e p::_=>F (e,p)
theorem Io:∀ (ps:List TP) (acc:List Tk),Iq ps acc=match Ds ps with | some (e,p)=>([],p,e) | none=>(acc++ps.map WZ,0,0)
 | [],acc=>by simp[Iq,Ds]
 | .tok k t p::r,acc=>by
  unfold Iq Ds;rw[Io r];cases Ds r with
  | some x=>rfl
  | none=>simp[WZ]
 | .bad e p::r,acc=>rfl
theorem H2 {l:List UInt8} {f p d:Nat} (hp:p<l.length):C3 l (f+1) p d=if DV l p [32] then C3 l f (p+1) d else if CC l p then [] else match Hk l p d with
  | .ok k t tq d'=>.tok k t p::C3 l f tq d'
  | .bad e=>[.bad e p]:=by
 show(if l.length<=p then [] else _)=_;rw[if_neg (by omega)];rfl
theorem Mz {l:List UInt8} {f p d:Nat} (hp:l.length<=p):C3 l f p d=[]:=by
 cases f with
 | zero=>rfl
 | succ f=>unfold C3;rw[if_pos hp]
def ZO (n:Nat):Int->Nat->List Tk->Prop
 | _,_,[]=>True
 | last,d,t::r=>last<(t.at_:Int)/\t.at_<n/\1<=t.kind/\t.kind<=11/\(4<t.kind->t.str=[])∧
   ∃ d',((t.kind=8\/t.kind=10)/\d'=d+1\/(t.kind=9\/t.kind=11)/\d=d'+1\/(t.kind<=7/\d'=d))/\(t.kind=7->0<d)/\(t.kind=5->d=0)/\ZO n (t.at_:Int) d' r
theorem Gh {l:List UInt8} (hv:validD l=true):∀ (f p d:Nat) (last:Int),last<(p:Int)->Ds (C3 l f p d)=O->ZO l.length last d ((C3 l f p d).map WZ)
 | 0,p,d,last,hl,_=>trivial
 | f+1,p,d,last,hl,h=>by
  rcases Nat.lt_or_ge p l.length with hp | hp
  ·rw[H2 hp] at h |-;split
   ·rename_i hb;rw[if_pos hb] at h;exact Gh hv f (p+1) d last (by omega) h
   ·rename_i hb;rw[if_neg hb] at h;split
    ·trivial
    ·rename_i hn;rw[if_neg hn] at h;cases ho:Hk l p d with
     | ok k t tq d'=>
      rw[ho] at h;obtain⟨h1,h2,h3,h4,h5,h6,h7,h8⟩:=Jb hv hp ho;exact⟨hl,hp,h3,h4,h5,d',h6,h7,h8,Gh hv f tq d' p (by omega) h⟩
     | bad e=>rw[ho] at h;simp[Ds] at h
  ·rw[Mz hp];trivial
theorem Ab2 (l:List UInt8) {p:Nat} (h:p<l.length):p+1+(nameOf l p).length<=l.length:=by
 have hle:(nameOf l p).length<=(l.drop (p+1)).length:=(List.takeWhile_prefix _).length_le;rw[List.length_drop] at hle;omega
end
section
set_option maxRecDepth 100000
set_option maxHeartbeats 4000000
theorem Adq {s:ByteArray} {l:List UInt8} (h:s.data.toList=l):s=⟨l.toArray⟩:=by subst h;rfl
theorem NO (s:ByteArray) (p:Nat) (hp:p<s.size):(nameOf s.data.toList p).length<=s.size - (p+1):=by
 have:=Ab2 s.data.toList (p:=p) (by rw[<- Lib.size_eq];exact hp);rw[<- Lib.size_eq] at this;omega
theorem Jm (s:ByteArray) (p:Nat):(s.extract p s.size).data.toList=s.data.toList.drop p:=by
 rw[Lib.extract_data,List.take_of_length_le (by rw[List.length_drop,<- Lib.size_eq];omega)]
theorem Rf (l:List UInt8):l.take (l.takeWhile Ce).length=l.takeWhile Ce:=(List.prefix_iff_eq_take.1 (List.takeWhile_prefix _)).symm
theorem RU (s:ByteArray) (p:Nat):(s.extract (p+1) s.size).extract 0 (nameOf s.data.toList p).length=⟨(nameOf s.data.toList p).toArray⟩:=by
 refine(Adq ?_);rw[Lib.extract_data,Jm,List.drop_zero,Nat.sub_zero];exact Rf _
theorem Ack (R:Nat) (s:ByteArray) (p d:Nat) (w:Y) (hs:s.size<=1000000) (hp:p<s.size) (hR:RA w R s p d) (hst:DV s.data.toList p [42]=true) (r:TR) (HR:Hid ((if Fa (nameOf s.data.toList p)&&Bj s.data.toList (p+1+(nameOf s.data.toList p).length) d then .ok 4 (nameOf s.data.toList p) (p+1+(nameOf s.data.toList p).length) d else .bad 90)=r)):
  Calls Tryz.prog 251 #[.pointer (F ⟨R,0,O⟩)] w (A5 R s p r w):=by
 have hI:=fun N wx hn hx=>Yv N R s p d 0 p [42] 1 1 (0,0) wx hn hs (by omega) (by omega) rfl (by omega) hx;rw[hst] at hI;clear hst;have hlt:=hR.lt;have hns:=NO s p hp;have hNS:=RU s p;have hLs:=Nj (s.extract (p+1) s.size);rw[Jm] at hLs;rw[show(s.data.toList.drop (p+1)).takeWhile Ce=nameOf s.data.toList p from rfl] at hLs;obtain⟨nm,hnm⟩:∃ nm,nameOf s.data.toList p=nm:=⟨_,rfl⟩
 rw[hnm] at HR hns hNS hLs;clear hnm;obtain⟨n,hn⟩:∃ n,nm.length=n:=⟨_,rfl⟩
 rw[hn] at HR hns hNS hLs;obtain⟨P2,hP2⟩:∃ P2,p+1+n=P2:=⟨_,rfl⟩
 rw[hP2] at HR;have hRz:(s.extract (p+1) s.size).size=s.size - (p+1):=by rw[ByteArray.size_extract];omega
 have hp1:((p:Int)+1).toNat=p+1:=by omega
 have hT:=fun wx=>Tryz.strings_TrimLeftFunc_grows 40 #[] (enters_of Tryz.func40 (by kernel_rfl) rfl) EE (s.extract (p+1) s.size) wx (IT wx);obtain⟨LT,hLT⟩:∃ LT,trimLeftF EE (s.extract (p+1) s.size)=LT:=⟨_,rfl⟩
 rw[hLT] at hT hLs;clear hLT;obtain⟨RS,hRS⟩:∃ RS,s.extract (p+1) s.size=RS:=⟨_,rfl⟩
 rw[hRS] at hT hLs hRz hNS;have hsub:(RS.size:Int) - (LT.size:Int)=(n:Int):=by omega
 have hsubw:IntKind.i64.wrap ((RS.size:Int) - (LT.size:Int))=(n:Int):=by rw[hsub];exact IntWalk.i64_in _ (by omega)
 have hni:(n:Int)<=(RS.size:Int):=by omega
 have hRb:(RS.size:Int)<=1000000:=by omega
 have hnb1:(n:Int)<=1000000:=by omega
 have hN:=fun wx=>Hq ⟨nm.toArray⟩ wx (by rw[size_mk];omega);rw[BM] at hN;have hC:=fun wx hx=>Be R s P2 d 0 P2 wx hs rfl (by omega) hx;obtain⟨nb,hnb⟩:∃ nb,Fa nm=nb:=⟨_,rfl⟩
 obtain⟨cb,hcb⟩:∃ cb,Bj s.data.toList P2 d=cb:=⟨_,rfl⟩
 rw[hnb] at hN HR;rw[hcb] at hC HR;clear hnb hcb;have hw2:IntKind.i64.wrap (1+(n:Int))=1+(n:Int):=IntWalk.i64_in _ (by omega);have hw3:IntKind.i64.wrap ((p:Int)+(1+(n:Int)))=(P2:Int):=by rw[show(p:Int)+(1+(n:Int))=(P2:Int) by omega];exact IntWalk.i64_in _ (by omega)
 have hw3':(p:Int)+(1+(n:Int))=(P2:Int):=by omega
 have hpi:(p:Int)<(s.size:Int):=by omega
 have hSZ:(⟨nm.toArray⟩:ByteArray).size=n:=by rw[size_mk];exact hn
 have HALL:=hid (Ai hRS (Ai hNS (Ai hRz (Ai hSZ (Ai hw2 (Ai hw3 hw3'))))));have hpb:(p:Int)<=1000000:=by omega
 clear hRS hNS hRz hSZ hw2 hw3 hw3' hP2 hn hLs hns;have hY:=Sy.new hR (I J 3) (Q ⟨#[]⟩) (I J p);obtain⟨r0,r1,r2,f0,f1,f2⟩:=hR.cells;go_enter Tryz.func251,Tryz.ntmps251;go_wp2_with fail;refine(hI _ _ (by simp) hY.sx.ra).mono ?_;rintro e w1 ⟨rfl,hb1⟩;replace hY:=hY.below hb1;clear hI hb1 r0 r1 r2 f0 f1 f2;obtain⟨r0,r1,r2,f0,f1,f2⟩:=hY.sx.ra.cells;obtain⟨t0,t1,t2,u0,u1,u2⟩:=hY.cells;replace hY:=hY.putK hlt (I J 4);have hRS:=HALL.out.1;have hp1le:(p:Int)+1<=(s.size:Int):=by omega
 go_wp2;go_quiet (fail);replace hY:=hY.below (below_drewN (n:=nq) (Bq _ _));clear r0 r1 r2 f0 f1 f2 t0 t1 t2 u0 u1 u2 hRS hp1 hp1le;go_wp2_with fail;refine(hT _).mono ?_;rintro e w2 ⟨rfl,hb2⟩;replace hY:=hY.below hb2;clear hb2 hT;obtain⟨r0,r1,r2,f0,f1,f2⟩:=hY.sx.ra.cells;obtain⟨t0,t1,t2,u0,u1,u2⟩:=hY.cells;have hNS:=HALL.out.2.1;replace hY:=hY.putS hlt (Q ⟨nm.toArray⟩);go_wp2;clear r0 r1 r2 f0 f1 f2 t0 t1 t2 u0 u1 u2 hNS;revert hY;generalize w2.setCell ⟨w.heap.size+1,1,O⟩ (Q ⟨nm.toArray⟩)=w3;intro hY;obtain⟨r0,r1,r2,f0,f1,f2⟩:=hY.sx.ra.cells;obtain⟨t0,t1,t2,u0,u1,u2⟩:=hY.cells;have hSZ:=HALL.out.2.2.2.1;have hw2:=HALL.out.2.2.2.2.1;have hw3:=HALL.out.2.2.2.2.2.1;have hw3':=HALL.out.2.2.2.2.2.2;go_region;replace hY:=(hY.set1 hlt P2).drew;clear r0 r1 r2 f0 f1 f2 t0 t1 t2 u0 u1 u2 hSZ hw2 hw3 hw3' HALL hsub hsubw hni;revert hY;generalize (w3.setCell ⟨R,1,O⟩ (I J P2)).drew=w4;intro hY;obtain⟨t0,t1,t2,u0,u1,u2⟩:=hY.cells;go_wp2_with fail;refine(hN _).mono ?_;rintro e w5 ⟨rfl,hb5⟩;replace hY:=hY.below hb5;clear hN hb5 t0 t1 t2 u0 u1 u2;cases nb with
 | false=>
  have HQ:=hid (show r=.bad 90 by rw[<- HR.out,Bool.false_and,if_neg (by decide)]);obtain⟨n0,n1,n2,g0,g1,g2⟩:=hY.sx.cells;obtain⟨t0,t1,t2,u0,u1,u2⟩:=hY.cells;go_wp2;obtain⟨e0,e1,e2,e3,e4⟩:=hY.sx.fin hlt (I J 0) (Q ⟨#[]⟩) (I J 0);refine bodyPost_ret (v:=.tuple #[BG ⟨0,[],0⟩,.iface 325 (.agg #[I J 90])]) (by simp[results,Tryz.results251,go_sem,BG,e0,e1,e2]) rfl (A5.bad HQ.out rfl e4)
 | true=>
  go_wp2_with fail;refine(hC _ hY.sx.ra).mono ?_;rintro e w6 ⟨rfl,hb6⟩;replace hY:=hY.below hb6;clear hC hb6;cases cb with
  | false=>
   have HQ:=hid (show r=.bad 90 by rw[<- HR.out,Bool.true_and,if_neg (by decide)]);obtain⟨n0,n1,n2,g0,g1,g2⟩:=hY.sx.cells;obtain⟨t0,t1,t2,u0,u1,u2⟩:=hY.cells;go_wp2;obtain⟨e0,e1,e2,e3,e4⟩:=hY.sx.fin hlt (I J 0) (Q ⟨#[]⟩) (I J 0);refine bodyPost_ret (v:=.tuple #[BG ⟨0,[],0⟩,.iface 325 (.agg #[I J 90])]) (by simp[results,Tryz.results251,go_sem,BG,e0,e1,e2]) rfl (A5.bad HQ.out rfl e4)
  | true=>
   have HQ:=hid (show r=.ok 4 nm P2 d by rw[<- HR.out,Bool.true_and,if_pos rfl]);obtain⟨n0,n1,n2,g0,g1,g2⟩:=hY.sx.cells;obtain⟨t0,t1,t2,u0,u1,u2⟩:=hY.cells;go_wp2;obtain⟨e0,e1,e2,e3,e4⟩:=hY.sx.fin hlt (I J 4) (Q ⟨nm.toArray⟩) (I J p);refine bodyPost_ret (v:=.tuple #[BG ⟨4,nm,p⟩,.nilIface]) (by simp[results,Tryz.results251,go_sem,BG,e0,e1,e2]) rfl (A5.ok HQ.out rfl e3 e4)
theorem Aei (R:Nat) (s:ByteArray) (p d:Nat) (w:Y) (hs:s.size<=1000000) (hp:p<s.size) (hR:RA w R s p d) (hst:DV s.data.toList p [42]=false) (r:TR) (HR:Hid ((if Fa (nameOf s.data.toList p)&&Bj s.data.toList (p+1+(nameOf s.data.toList p).length) d then .ok 3 (nameOf s.data.toList p) (p+1+(nameOf s.data.toList p).length) d else .bad 90)=r)):
  Calls Tryz.prog 251 #[.pointer (F ⟨R,0,O⟩)] w (A5 R s p r w):=by
 have hI:=fun N wx hn hx=>Yv N R s p d 0 p [42] 1 1 (0,0) wx hn hs (by omega) (by omega) rfl (by omega) hx;rw[hst] at hI;clear hst;have hlt:=hR.lt;have hns:=NO s p hp;have hNS:=RU s p;have hLs:=Nj (s.extract (p+1) s.size);rw[Jm] at hLs;rw[show(s.data.toList.drop (p+1)).takeWhile Ce=nameOf s.data.toList p from rfl] at hLs;obtain⟨nm,hnm⟩:∃ nm,nameOf s.data.toList p=nm:=⟨_,rfl⟩
 rw[hnm] at HR hns hNS hLs;clear hnm;obtain⟨n,hn⟩:∃ n,nm.length=n:=⟨_,rfl⟩
 rw[hn] at HR hns hNS hLs;obtain⟨P2,hP2⟩:∃ P2,p+1+n=P2:=⟨_,rfl⟩
 rw[hP2] at HR;have hRz:(s.extract (p+1) s.size).size=s.size - (p+1):=by rw[ByteArray.size_extract];omega
 have hp1:((p:Int)+1).toNat=p+1:=by omega
 have hT:=fun wx=>Tryz.strings_TrimLeftFunc_grows 40 #[] (enters_of Tryz.func40 (by kernel_rfl) rfl) EE (s.extract (p+1) s.size) wx (IT wx);obtain⟨LT,hLT⟩:∃ LT,trimLeftF EE (s.extract (p+1) s.size)=LT:=⟨_,rfl⟩
 rw[hLT] at hT hLs;clear hLT;obtain⟨RS,hRS⟩:∃ RS,s.extract (p+1) s.size=RS:=⟨_,rfl⟩
 rw[hRS] at hT hLs hRz hNS;have hsub:(RS.size:Int) - (LT.size:Int)=(n:Int):=by omega
 have hsubw:IntKind.i64.wrap ((RS.size:Int) - (LT.size:Int))=(n:Int):=by rw[hsub];exact IntWalk.i64_in _ (by omega)
 have hni:(n:Int)<=(RS.size:Int):=by omega
 have hRb:(RS.size:Int)<=1000000:=by omega
 have hnb1:(n:Int)<=1000000:=by omega
 have hN:=fun wx=>Hq ⟨nm.toArray⟩ wx (by rw[size_mk];omega);rw[BM] at hN;have hC:=fun wx hx=>Be R s P2 d 0 P2 wx hs rfl (by omega) hx;obtain⟨nb,hnb⟩:∃ nb,Fa nm=nb:=⟨_,rfl⟩
 obtain⟨cb,hcb⟩:∃ cb,Bj s.data.toList P2 d=cb:=⟨_,rfl⟩
 rw[hnb] at hN HR;rw[hcb] at hC HR;clear hnb hcb;have hw2:IntKind.i64.wrap (1+(n:Int))=1+(n:Int):=IntWalk.i64_in _ (by omega);have hw3:IntKind.i64.wrap ((p:Int)+(1+(n:Int)))=(P2:Int):=by rw[show(p:Int)+(1+(n:Int))=(P2:Int) by omega];exact IntWalk.i64_in _ (by omega)
 have hw3':(p:Int)+(1+(n:Int))=(P2:Int):=by omega
 have hpi:(p:Int)<(s.size:Int):=by omega
 have hSZ:(⟨nm.toArray⟩:ByteArray).size=n:=by rw[size_mk];exact hn
 have HALL:=hid (Ai hRS (Ai hNS (Ai hRz (Ai hSZ (Ai hw2 (Ai hw3 hw3'))))));have hpb:(p:Int)<=1000000:=by omega
 clear hRS hNS hRz hSZ hw2 hw3 hw3' hP2 hn hLs hns;have hY:=Sy.new hR (I J 3) (Q ⟨#[]⟩) (I J p);obtain⟨r0,r1,r2,f0,f1,f2⟩:=hR.cells;go_enter Tryz.func251,Tryz.ntmps251;go_wp2_with fail;refine(hI _ _ (by simp) hY.sx.ra).mono ?_;rintro e w1 ⟨rfl,hb1⟩;replace hY:=hY.below hb1;clear hI hb1 r0 r1 r2 f0 f1 f2;obtain⟨r0,r1,r2,f0,f1,f2⟩:=hY.sx.ra.cells;obtain⟨t0,t1,t2,u0,u1,u2⟩:=hY.cells;have hRS:=HALL.out.1;have hp1le:(p:Int)+1<=(s.size:Int):=by omega
 go_wp2;go_quiet (fail);replace hY:=hY.below (below_drewN (n:=nq) (Bq _ _));clear r0 r1 r2 f0 f1 f2 t0 t1 t2 u0 u1 u2 hRS hp1 hp1le;go_wp2_with fail;refine(hT _).mono ?_;rintro e w2 ⟨rfl,hb2⟩;replace hY:=hY.below hb2;clear hb2 hT;obtain⟨r0,r1,r2,f0,f1,f2⟩:=hY.sx.ra.cells;obtain⟨t0,t1,t2,u0,u1,u2⟩:=hY.cells;have hNS:=HALL.out.2.1;replace hY:=hY.putS hlt (Q ⟨nm.toArray⟩);go_wp2;clear r0 r1 r2 f0 f1 f2 t0 t1 t2 u0 u1 u2 hNS;revert hY;generalize w2.setCell ⟨w.heap.size+1,1,O⟩ (Q ⟨nm.toArray⟩)=w3;intro hY;obtain⟨r0,r1,r2,f0,f1,f2⟩:=hY.sx.ra.cells;obtain⟨t0,t1,t2,u0,u1,u2⟩:=hY.cells;have hSZ:=HALL.out.2.2.2.1;have hw2:=HALL.out.2.2.2.2.1;have hw3:=HALL.out.2.2.2.2.2.1;have hw3':=HALL.out.2.2.2.2.2.2;go_region;replace hY:=(hY.set1 hlt P2).drew;clear r0 r1 r2 f0 f1 f2 t0 t1 t2 u0 u1 u2 hSZ hw2 hw3 hw3' HALL hsub hsubw hni;revert hY;generalize (w3.setCell ⟨R,1,O⟩ (I J P2)).drew=w4;intro hY;obtain⟨t0,t1,t2,u0,u1,u2⟩:=hY.cells;go_wp2_with fail;refine(hN _).mono ?_;rintro e w5 ⟨rfl,hb5⟩;replace hY:=hY.below hb5;clear hN hb5 t0 t1 t2 u0 u1 u2;cases nb with
 | false=>
  have HQ:=hid (show r=.bad 90 by rw[<- HR.out,Bool.false_and,if_neg (by decide)]);obtain⟨n0,n1,n2,g0,g1,g2⟩:=hY.sx.cells;obtain⟨t0,t1,t2,u0,u1,u2⟩:=hY.cells;go_wp2;obtain⟨e0,e1,e2,e3,e4⟩:=hY.sx.fin hlt (I J 0) (Q ⟨#[]⟩) (I J 0);refine bodyPost_ret (v:=.tuple #[BG ⟨0,[],0⟩,.iface 325 (.agg #[I J 90])]) (by simp[results,Tryz.results251,go_sem,BG,e0,e1,e2]) rfl (A5.bad HQ.out rfl e4)
 | true=>
  go_wp2_with fail;refine(hC _ hY.sx.ra).mono ?_;rintro e w6 ⟨rfl,hb6⟩;replace hY:=hY.below hb6;clear hC hb6;cases cb with
  | false=>
   have HQ:=hid (show r=.bad 90 by rw[<- HR.out,Bool.true_and,if_neg (by decide)]);obtain⟨n0,n1,n2,g0,g1,g2⟩:=hY.sx.cells;obtain⟨t0,t1,t2,u0,u1,u2⟩:=hY.cells;go_wp2;obtain⟨e0,e1,e2,e3,e4⟩:=hY.sx.fin hlt (I J 0) (Q ⟨#[]⟩) (I J 0);refine bodyPost_ret (v:=.tuple #[BG ⟨0,[],0⟩,.iface 325 (.agg #[I J 90])]) (by simp[results,Tryz.results251,go_sem,BG,e0,e1,e2]) rfl (A5.bad HQ.out rfl e4)
  | true=>
   have HQ:=hid (show r=.ok 3 nm P2 d by rw[<- HR.out,Bool.true_and,if_pos rfl]);obtain⟨n0,n1,n2,g0,g1,g2⟩:=hY.sx.cells;obtain⟨t0,t1,t2,u0,u1,u2⟩:=hY.cells;go_wp2;obtain⟨e0,e1,e2,e3,e4⟩:=hY.sx.fin hlt (I J 3) (Q ⟨nm.toArray⟩) (I J p);refine bodyPost_ret (v:=.tuple #[BG ⟨3,nm,p⟩,.nilIface]) (by simp[results,Tryz.results251,go_sem,BG,e0,e1,e2]) rfl (A5.ok HQ.out rfl e3 e4)
theorem VW (R:Nat) (s:ByteArray) (p d:Nat) (w:Y) (hs:s.size<=1000000) (hp:p<s.size) (hR:RA w R s p d):
  Calls Tryz.prog 251 #[.pointer (F ⟨R,0,O⟩)] w (A5 R s p (Lr s.data.toList p d) w):=by
 unfold Lr;cases hst:DV s.data.toList p [42] with
 | true=>exact Ack R s p d w hs hp hR hst _ (hid rfl)
 | false=>exact Aei R s p d w hs hp hR hst _ (hid rfl)
end
end Go.Proofs.YtdpppepmkeinaaaGreatDoor
