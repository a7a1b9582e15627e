/- What is proved: a part of the walk of the program and of its plain laws; no condition beside those that each theorem names. -/
import Derived.Below
import Derived.RangeFuncRecord
import Derived.Deep.RegionHeld3
import Derived.RangeFuncBox
import Derived.RangeFuncCalls
import Derived.Test.YtdpppepmkeinaaaGreatDoorProg
import Derived.Test.YtdpppepmkeinaaaGreatDoorShelf
import Derived.WalkKit
import Derived.WalkSpells
import Derived.WalkLawsBesides
import Derived.OwnWalkIn
import Derived.TacticsInMore
import Derived.LoopNIn
import Derived.LoopIn
import Derived.Shelf.Abstract
import Derived.Shelf.RegionOpen
import Derived.Lib.OthersKept
import Derived.Lib.ValidLaws
import Derived.Lib.TrimByte
import Derived.Lib.Bytealg
import Derived.Shelf.GgClosure.StringsIndexFunc
import Derived.Lib.AtoiAll
import Derived.Lib.Itoa
import Derived.Deep.QuietTactic
import Derived.BigQuiet
import Derived.WalkMore
namespace Go.Proofs.YtdpppepmkeinaaaGreatDoor
open Go Go.RowKit Go.Lib
open Go.Value renaming int->I,string->Q,slice->Z
open Go.IntKind renaming i64->J
open Option renaming none->O,some->F
open _root_.Go renaming World->Y
set_option linter.unusedSimpArgs false
set_option linter.unusedVariables false
set_option linter.unusedSectionVars false
section
theorem Nr {a:Nat}:a≤a:=Nat.le_refl a
theorem Bq (B:Nat) (w:Y):Below B w w:=Below.refl B w
theorem Wn (w:Y) (o:Obj):(w.alloc o).heap[w.heap.size]? =F o:=World.alloc_heap_new w o
theorem Bh (w:Y) (a:Addr) (u:Value) (k:Nat) (h:k≠a.block):(w.setCell a u).heap[k]? =w.heap[k]? :=Below.heap_setCell w a u k h
theorem Gl {α:Type} {l:Array α} {i:Nat} {x:α} (h:l[i]? =F x):i<l.size:=(Array.getElem?_eq_some_iff.1 h).1
theorem Ai {a b:Prop} (h:a) (k:b):a∧b:=⟨h,k⟩
end
section
open Go
def nxl:List Bool->Nat
 | []=>0
 | false::_=>0
 | true::l=>nxl l+1
def nx (l:Array Bool):Nat:=nxl l.toList
def opAt:List Oper->List Bool->Option Oper
 | o::_,false::_=>F o
 | _::os,true::l=>opAt os l
 | _,_=>O
def PG:List Oper->Nat->Option Oper
 | o::_,0=>F o
 | _::os,n+1=>PG os n
 | _,_=>O
theorem PE:∀ (os:List Oper) (n:Nat) (o:Oper),PG os n=F o->os[n]? =F o
 | [],n,o,h=>by cases n<;>cases h
 | a::os,0,o,h=>by simpa[PG] using h
 | a::os,n+1,o,h=>by simpa using PE os n o h
theorem UC:∀ (os:List Oper) (l:List Bool) (o:Oper),opAt os l=F o->os[nxl l]? =F o
 | [],l,o,h=>by cases l<;>cases h
 | a::os,[],o,h=>by cases h
 | a::os,false::l,o,h=>by simpa[opAt,nxl] using h
 | a::os,true::l,o,h=>by simpa[nxl] using UC os l o h
theorem Aix {ops:Array Oper} {l:Array Bool} {o:Oper} (h:opAt ops.toList l.toList=F o):ops[nx l]? =F o:=by
 rw[<- Array.getElem?_toList];exact UC _ _ _ h
theorem Ahr {ops:Array Oper} {n:Nat} {o:Oper} (h:PG ops.toList n=F o):ops[n]? =F o:=by
 rw[<- Array.getElem?_toList];exact PE _ _ _ h
theorem gG:(∀ {α:Type} {xs:List α} {i:Nat} (h:i<xs.toArray.size),xs.toArray[i]=xs[i]'(by simpa using h))/\(∀ {α:Type} {a:α} {bs:List α} {i:Nat} {h:i+1<(a::bs).length},(a::bs)[i+1]=bs[i]'(Nat.lt_of_succ_lt_succ h))/\(∀ {α:Type} {a:α} {bs:List α} {h:0<(a::bs).length},(a::bs)[0]=a):=
 ⟨fun _=>List.getElem_toArray _,List.getElem_cons_succ _ _ _ _,List.getElem_cons_zero _ _ _⟩
theorem gS:(∀ {α:Type} {xs:List α} {i:Nat} (h:i<xs.toArray.size),xs.toArray[i]=xs[i]'(by simpa using h))/\(∀ {α:Type} {a:α} {bs:List α} {i:Nat} {h:i+1<(a::bs).length},(a::bs)[i+1]=bs[i]'(Nat.lt_of_succ_lt_succ h))/\(∀ {α:Type} {a:α} {bs:List α} {h:0<(a::bs).length},(a::bs)[0]=a)∧
  (∀ (a:Act) (d:Tmp) (v:Value),a.put (F d) v={a with tmps:=a.tmps.setIfInBounds d v})/\(∀ (a:Act) (v:Value),a.put O v=a)∧
  (∀ {α:Type} (l:List α) (i:Nat) (a:α),l.toArray.setIfInBounds i a=(l.set i a).toArray)/\(∀ {α:Type} {x:α} {xs:List α} {a:α},(x::xs).set 0 a=a::xs)/\(∀ {α:Type} {x:α} {xs:List α} {n:Nat} {a:α},(x::xs).set (n+1) a=x::xs.set n a)∧
  (∀ l:List Bool,nx l.toArray=nxl l)/\(∀ l:List Bool,nxl (false::l)=0)/\(∀ l:List Bool,nxl (true::l)=nxl l+1):=
 ⟨fun _=>List.getElem_toArray _,List.getElem_cons_succ _ _ _ _,List.getElem_cons_zero _ _ _,fun _ _ _=>rfl,fun _ _=>rfl,fun _ _ _=>List.setIfInBounds_toArray _ _ _,List.set_cons_zero,List.set_cons_succ,fun _=>rfl,fun _=>rfl,fun _=>rfl⟩
theorem gR:(∀ n:Nat,Array.replicate n false=(List.replicate n false).toArray)/\(∀ n:Nat,List.replicate (n+1) false=false::List.replicate n false)/\List.replicate 0 false=[]:=⟨fun _=>by simp,fun _=>rfl,rfl⟩
section
variable {P:Program} {ops:Array Oper} {Qz:Exit->Act->Y->Prop} {md:Region.Mode} {S:Y->Prop}
theorem wR (n:Nat) {id:Nat} {a:Act} {w:Y} (hn:ops.size=n) (hS:S w.drew) (h:S w.drew->wpAnyH P .any ops Qz S n (Array.replicate n false) a w.drew) (hm:P.follows .mixedOrders=true:=by kernel_rfl):(Code.region id ops true).wp P Qz a w:=
 wp_region_held_drew hm hS (by rw[hn];exact h)
theorem wN {oi:Oper} {v:Value} {fuel:Nat} {listed:Array Bool} {a:Act} {w:Y} (hS:S w) (h:wpAnyH P md ops Qz S fuel (listed.setIfInBounds (nx listed) true) (a.put oi.dst v) w)
  (hi:opAt ops.toList listed.toList=F oi:=by exact rfl) (hw:Region.wanted oi (yielded ops a.tmps)=true:=by rfl) (hy:∀ w,S w->(execOp a.eval oi).run P w=.ok (.value v) w:=by intro w hSw;(try dsimp only at hSw);(try simp only[gG]);go_simp;(try with_reducible rfl))
  (hs:Region.noSelect ops=true:=by kernel_rfl) (hf:Region.free md ops listed (nx listed)=true:=by kernel_rfl) (hr:(Region.ready md ops listed).contains (nx listed)=true:=by kernel_rfl)
  (hQ:∀ c a w,Qz (.panic c) (a.put oi.dst v) w->Qz (.panic c) a w:=by exact fun _ _ _ h=>h):wpAnyH P md ops Qz S (fuel+1) listed a w:=
 wpAnyH_take (Aix hi) hs hf hr hQ (.inl ⟨hw,hy⟩) hS h
theorem wI (i:Nat) {oi:Oper} {v:Value} {fuel:Nat} {listed:Array Bool} {a:Act} {w:Y} (hS:S w) (h:wpAnyH P md ops Qz S fuel (listed.setIfInBounds i true) (a.put oi.dst v) w)
  (hi:PG ops.toList i=F oi:=by exact rfl) (hw:Region.wanted oi (yielded ops a.tmps)=true:=by rfl) (hy:∀ w,S w->(execOp a.eval oi).run P w=.ok (.value v) w:=by intro w hSw;(try dsimp only at hSw);(try simp only[gG]);go_simp;(try with_reducible rfl))
  (hs:Region.noSelect ops=true:=by kernel_rfl) (hf:Region.free md ops listed i=true:=by kernel_rfl) (hr:(Region.ready md ops listed).contains i=true:=by kernel_rfl)
  (hQ:∀ c a w,Qz (.panic c) (a.put oi.dst v) w->Qz (.panic c) a w:=by exact fun _ _ _ h=>h):wpAnyH P md ops Qz S (fuel+1) listed a w:=
 wpAnyH_take (Ahr hi) hs hf hr hQ (.inl ⟨hw,hy⟩) hS h
theorem wU (i:Nat) {oi:Oper} {fuel:Nat} {listed:Array Bool} {a:Act} {w:Y} (hi:ops[i]? =F oi) (hw:Region.wanted oi (yielded ops a.tmps)=false) (hS:S w)
  (h:wpAnyH P md ops Qz S fuel (listed.setIfInBounds i true) (a.put oi.dst undef) w) (hs:Region.noSelect ops=true:=by kernel_rfl) (hf:Region.free md ops listed i=true:=by kernel_rfl) (hr:(Region.ready md ops listed).contains i=true:=by kernel_rfl)
  (hQ:∀ c a w,Qz (.panic c) (a.put oi.dst undef) w->Qz (.panic c) a w:=by exact fun _ _ _ h=>h):wpAnyH P md ops Qz S (fuel+1) listed a w:=
 wpAnyH_take hi hs hf hr hQ (.inr ⟨hw,rfl⟩) hS h
theorem wB (i:Nat) {o:Oper} {fuel:Nat} {listed:Array Bool} {a:Act} {w:Y} (hi:ops[i]? =F o)
  (h:∀ K':Act->Y->Prop,Shut (∀ a w,S w->(S w->wpAnyH P md ops Qz S fuel (listed.setIfInBounds i true) a w)->K' a w)->if Region.wanted o (yielded ops a.tmps)=true then Oper.wp P o a w K' Qz else K' (a.put o.dst undef) w)
  (hr:Region.ready md ops listed=[i]:=by kernel_rfl):wpAnyH P md ops Qz S (fuel+1) listed a w:=
 wpAnyH_ready hr (by simp) (AllReadyH.cons hi h AllReadyH.nil)
end
end
section
structure Ah (C:Nat->Prop) (B:Nat) (X Yz:Y):Prop where
 os:Yz.os=X.os
 tape:Yz.tape=X.tape
 output:Yz.output=X.output
 size:X.heap.size<=Yz.heap.size
 block:∀ (k:Nat) (o:Obj),X.heap[k]? =F o->¬C k->(k<B\/o.isCells=true)->Yz.heap[k]? =F o
 kinds:∀ (k:Nat) (c:Array Value) (e:TypeId) (fz:Nat×Nat),X.heap[k]? =F (.cells c e fz)->∃ c' fz',Yz.heap[k]? =F (.cells c' e fz')
theorem Ah.refl (C:Nat->Prop) (B:Nat) (X:Y):Ah C B X X:=⟨rfl,rfl,rfl,Nat.le_refl _,fun _ _ h _ _=>h,fun _ c _ fz h=>⟨c,fz,h⟩⟩
theorem Ah.trans {C:Nat->Prop} {B:Nat} {X Yz Zz:Y} (h:Ah C B X Yz) (k:Ah C B Yz Zz):Ah C B X Zz:=
 ⟨k.os.trans h.os,k.tape.trans h.tape,k.output.trans h.output,Nat.le_trans h.size k.size,fun i o hi hc ho=>k.block i o (h.block i o hi hc ho) hc ho,fun i c e fz hi=>by obtain⟨c',fz',h'⟩:=h.kinds i c e fz hi;exact k.kinds i c' e fz' h'⟩
theorem Ah.mono {C:Nat->Prop} {B B':Nat} {X Yz:Y} (h:Ah C B X Yz) (hb:B'<=B):Ah C B' X Yz:=
 ⟨h.os,h.tape,h.output,h.size,fun i o hi hc ho=>h.block i o hi hc (ho.imp (fun e=>by omega) id),h.kinds⟩
theorem Ah.of_below {C:Nat->Prop} {B:Nat} {X Yz:Y} (h:Below X.heap.size X Yz):Ah C B X Yz:=
 ⟨h.os,h.tape,h.output,h.size,fun i _ hi _ _=>(h.block i (Gl hi)).trans hi,fun i c _ fz hi=>⟨c,fz,(h.block i (Gl hi)).trans hi⟩⟩
theorem Ah.alloc {C:Nat->Prop} {B:Nat} (X:Y) (o:Obj):Ah C B X (X.alloc o):=Ah.of_below ((Bq _ X).alloc Nr o)
theorem Ah.putObj {C:Nat->Prop} {B:Nat} {X:Y} {l:Nat} {o:Obj} (o':Obj) (hl:X.heap[l]? =F o) (hB:B<=l) (ho:o.isCells=false):Ah C B X (X.putObj l o'):=
 ⟨rfl,rfl,rfl,by simp,fun i u hi _ hu=>(by
  refine(World.putObj_heap_other ?_).trans hi;rintro rfl;rw[hl] at hi;cases hi;rcases hu with hu | hu
  ·omega
  ·rw[ho] at hu;cases hu),fun i c e fz hi=>⟨c,fz,(World.putObj_heap_other (by rintro rfl;rw[hl] at hi;cases hi;cases ho)).trans hi⟩⟩
theorem Ah.setCell {C:Nat->Prop} {B:Nat} (X:Y) (a:Addr) (v:Value) (hC:C a.block):Ah C B X (X.setCell a v):=
 ⟨rfl,rfl,rfl,by simp[World.setCell],fun i _ hi hc _=>(Bh X a v i (fun e=>hc (by rw[e];exact hC))).trans hi,fun i c e fz hi=>by
  by_cases h:i=a.block
  ·subst h;refine⟨if a.spot.isSome then c else c.setIfInBounds a.off v,fz,?_⟩;show(X.heap.modify a.block _)[a.block]? =_;rw[Array.getElem?_modify,if_pos rfl,hi];rfl
  ·exact⟨c,fz,(Bh X a v i h).trans hi⟩⟩
theorem Ah.heap {C:Nat->Prop} {B:Nat} {X Yz:Y} (h:Ah C B X Yz) {k:Nat} {o:Obj} (hk:X.heap[k]? =F o) (hc:¬C k) (ho:o.isCells=true):Yz.heap[k]? =F o:=h.block k o hk hc (.inr ho)
theorem Ah.old {C:Nat->Prop} {B:Nat} {X Yz:Y} (h:Ah C B X Yz) {k:Nat} {o:Obj} (hk:X.heap[k]? =F o) (hc:¬C k) (hB:k<B):Yz.heap[k]? =F o:=h.block k o hk hc (.inl hB)
theorem cells_of_cell {X:Y} {k:Nat} {off:Nat} {v:Value} (h:X.cell? ⟨k,off,O⟩=F v):∃ o,X.heap[k]? =F o/\o.isCells=true:=by
 unfold World.cell? at h;cases hk:X.heap[k]? with
 | none=>simp[hk] at h
 | some o=>
  rw[hk] at h;cases o<;>first | exact⟨_,rfl,rfl⟩ | (simp at h)
theorem Ah.cell {C:Nat->Prop} {B:Nat} {X Yz:Y} (h:Ah C B X Yz) {k off:Nat} {v:Value} (hk:X.cell? ⟨k,off,O⟩=F v) (hc:¬C k):Yz.cell? ⟨k,off,O⟩=F v:=by
 obtain⟨o,ho,hco⟩:=cells_of_cell hk;exact(World.cell?_of_block (w:=X) (a:=⟨k,off,O⟩) ((h.heap ho hc hco).trans ho.symm)).trans hk
theorem Ah.frozen {C:Nat->Prop} {B:Nat} {X Yz:Y} (h:Ah C B X Yz) {k off:Nat} {v:Value} {b:Bool} (hk:X.cell? ⟨k,off,O⟩=F v) (hf:X.frozen? ⟨k,off,O⟩=b) (hc:¬C k):Yz.frozen? ⟨k,off,O⟩=b:=by
 obtain⟨o,ho,hco⟩:=cells_of_cell hk;exact(World.frozen?_of_block (w:=X) (a:=⟨k,off,O⟩) ((h.heap ho hc hco).trans ho.symm)).trans hf
theorem Ah.below {C:Nat->Prop} {B n:Nat} {X Yz w:Y} (h:Ah C B X Yz) (hb:Below n w X) (hC:∀ k,C k->n<=k) (hB:n<=B) (hn:n<=w.heap.size):Below n w Yz:=
 ⟨h.os.trans hb.os,h.tape.trans hb.tape,h.output.trans hb.output,Nat.le_trans hb.size h.size,fun k hk=>by
  have hlt:k<X.heap.size:=Nat.lt_of_lt_of_le hk (Nat.le_trans hn hb.size);have hX:X.heap[k]? =F X.heap[k]:=Array.getElem?_eq_getElem hlt;exact((h.old hX (fun hc=>by have:=hC k hc;omega) (by omega)).trans hX.symm).trans (hb.block k hk)⟩
structure Ae (p:Obj->Bool) (C:Nat->Prop) (n₀:Nat) (X Yz:Y):Prop where
 os:Yz.os=X.os
 tape:Yz.tape=X.tape
 output:Yz.output=X.output
 size:X.heap.size<=Yz.heap.size
 block:∀ (k:Nat) (o:Obj),X.heap[k]? =F o->(k<n₀\/C k\/p o=true)->Yz.heap[k]? =F o
def Ar (o:Obj):Bool:= !o.isCells
theorem Ae.refl (p:Obj->Bool) (C:Nat->Prop) (n₀:Nat) (X:Y):Ae p C n₀ X X:=⟨rfl,rfl,rfl,Nat.le_refl _,fun _ _ h _=>h⟩
theorem Ae.trans {p:Obj->Bool} {C:Nat->Prop} {n₀:Nat} {X Yz Zz:Y} (h:Ae p C n₀ X Yz) (k:Ae p C n₀ Yz Zz):Ae p C n₀ X Zz:=
 ⟨k.os.trans h.os,k.tape.trans h.tape,k.output.trans h.output,Nat.le_trans h.size k.size,fun i o hi ho=>k.block i o (h.block i o hi ho) ho⟩
theorem Ae.of_below {p:Obj->Bool} {C:Nat->Prop} {n₀:Nat} {X Yz:Y} (h:Below X.heap.size X Yz):Ae p C n₀ X Yz:=
 ⟨h.os,h.tape,h.output,h.size,fun i _ hi _=>(h.block i (Gl hi)).trans hi⟩
theorem Ae.alloc {p:Obj->Bool} {C:Nat->Prop} {n₀:Nat} (X:Y) (o:Obj):Ae p C n₀ X (X.alloc o):=Ae.of_below ((Bq _ X).alloc Nr o)
theorem Ae.drew {p:Obj->Bool} {C:Nat->Prop} {n₀:Nat} (X:Y):Ae p C n₀ X X.drew:=Ae.of_below ((Bq _ X).drew)
theorem Ae.walks {C:Nat->Prop} {n₀:Nat} {X Yz:Y} (h:Ae Ar C n₀ X Yz):Ae Obj.isWalk C n₀ X Yz:=
 ⟨h.os,h.tape,h.output,h.size,fun i o hi ho=>h.block i o hi (ho.imp id (fun k=>k.imp id (fun hw=>by simp[Ar,Obj.not_cells_of_walk hw])))⟩
theorem Ae.putObj {C:Nat->Prop} {n₀:Nat} {X:Y} {l:Nat} {o:Obj} (o':Obj) (hl:X.heap[l]? =F o) (hB:n₀<=l) (hC:¬C l) (ho:o.isWalk=false):Ae Obj.isWalk C n₀ X (X.putObj l o'):=
 ⟨rfl,rfl,rfl,by simp,fun i u hi hu=>by
  refine(World.putObj_heap_other ?_).trans hi;rintro rfl;rw[hl] at hi;cases hi;rcases hu with hu | hu | hu
  ·omega
  ·exact hC hu
  ·rw[ho] at hu;cases hu⟩
theorem Ae.setCell {C:Nat->Prop} {n₀:Nat} (X:Y) (a:Addr) (v:Value) (hB:n₀<=a.block) (hC:¬C a.block):Ae Ar C n₀ X (X.setCell a v):=
 ⟨rfl,rfl,rfl,by simp[World.setCell],fun i u hi hu=>by
  by_cases e:i=a.block
  ·subst e;rcases hu with hu | hu | hu
   ·omega
   ·exact absurd hu hC
   ·exact(KeepsOthers.setCell X a v).same _ _ hi (by simpa[Ar] using hu)
  ·exact(Bh X a v i e).trans hi⟩
theorem Ae.grown {C:Nat->Prop} {n₀:Nat} {X Yz:Y} {row:Option Nat} (hg:X.grownBy Yz row) (hr:∀ k,row=F k->n₀<=k/\¬C k/\∀ o,X.heap[k]? =F o->o.isCells=true):Ae Ar C n₀ X Yz:=
 ⟨hg.os,hg.tape,hg.output,hg.size,fun i o hi ho=>by
  refine(hg.block i (Gl hi) ?_).trans hi;rintro e;obtain⟨h1,h2,h3⟩:=hr i e.symm;rcases ho with ho | ho | ho
  ·omega
  ·exact h2 ho
  ·rw[Ar,h3 o hi] at ho;cases ho⟩
theorem Ae.below {p:Obj->Bool} {C:Nat->Prop} {n₀ n:Nat} {X Yz w:Y} (h:Ae p C n₀ X Yz) (hb:Below n w X) (hn0:n<=n₀) (hn:n<=w.heap.size):Below n w Yz:=
 ⟨h.os.trans hb.os,h.tape.trans hb.tape,h.output.trans hb.output,Nat.le_trans hb.size h.size,fun k hk=>by
  have hlt:k<X.heap.size:=Nat.lt_of_lt_of_le hk (Nat.le_trans hn hb.size);have hX:X.heap[k]? =F X.heap[k]:=Array.getElem?_eq_getElem hlt;exact((h.block k _ hX (.inl (by omega))).trans hX.symm).trans (hb.block k hk)⟩
theorem Ae.heap {p:Obj->Bool} {C:Nat->Prop} {n₀:Nat} {X Yz:Y} (h:Ae p C n₀ X Yz) {k:Nat} {o:Obj} (hk:X.heap[k]? =F o) (ho:k<n₀\/C k\/p o=true):Yz.heap[k]? =F o:=h.block k o hk ho
theorem Ae.cell {p:Obj->Bool} {C:Nat->Prop} {n₀:Nat} {X Yz:Y} (h:Ae p C n₀ X Yz) {k off:Nat} {v:Value} (hk:X.cell? ⟨k,off,O⟩=F v) (hc:k<n₀\/C k):Yz.cell? ⟨k,off,O⟩=F v:=by
 obtain⟨o,ho,hco⟩:=cells_of_cell hk;exact(World.cell?_of_block (w:=X) (a:=⟨k,off,O⟩) ((h.heap ho (hc.imp id .inl)).trans ho.symm)).trans hk
theorem Ae.frozen {p:Obj->Bool} {C:Nat->Prop} {n₀:Nat} {X Yz:Y} (h:Ae p C n₀ X Yz) {k off:Nat} {v:Value} {b:Bool} (hk:X.cell? ⟨k,off,O⟩=F v) (hf:X.frozen? ⟨k,off,O⟩=b) (hc:k<n₀\/C k):Yz.frozen? ⟨k,off,O⟩=b:=by
 obtain⟨o,ho,hco⟩:=cells_of_cell hk;exact(World.frozen?_of_block (w:=X) (a:=⟨k,off,O⟩) ((h.heap ho (hc.imp id .inl)).trans ho.symm)).trans hf
theorem Ad {C:Nat->Prop} {B:Nat} {X Yz:Y} {k:Nat} {t:TypeId} {v:Value} (h:Boxed X k t v) (ht:Ah C B X Yz) (hc:¬C k):Boxed Yz k t v:=ht.heap h hc rfl
theorem Ab {X Yz:Y} {k:Nat} {t:TypeId} {v:Value} (h:Boxed X k t v) (hb:Below X.heap.size X Yz):Boxed Yz k t v:=(hb.block k h.lt).trans h
theorem Gm {p:Obj->Bool} {C:Nat->Prop} {n₀:Nat} {X Yz:Y} {k:Nat} {t:TypeId} {v:Value} (h:Boxed X k t v) (hk:Ae p C n₀ X Yz) (hc:k<n₀\/C k):Boxed Yz k t v:=hk.heap h (hc.imp id .inl)
theorem Au {X:Y} {D k:Nat} {t:TypeId} {v:Value} {ds:List Deferred} (h:Boxed X k t v) (hD:X.heap[D]? =F (.deferred (F ds))) (o:Obj):Boxed (X.putObj D o) k t v:=
 (World.putObj_heap_other (fun e=>by subst e;rw[show X.heap[k]? =_ from h] at hD;cases hD)).trans h
theorem BP {n D:Nat} {w X:Y} {ds:List Deferred} (h:Below n w X) (hD:X.heap[D]? =F (.deferred (F ds))) (hn:n<=w.heap.size) (hl:n<=D) (o:Obj):Below n w (X.putObj D o):=
 Ah.below (C:=fun _=>False) (B:=D) (Ah.putObj o hD Nr rfl) h (fun _ hc=>hc.elim) hl hn
def Ac4 {α:Type} (P:Program) (gf:Nat) (lb:Array Value) (encs:α->Array Value) (C:Nat->Prop) (n₀:Nat) (xs:List α) (St:Y->Prop):Prop:=
 ∀ (l:Nat) (Jz Jx:List α->Y->Prop) (W:Y),St W->(∀ s X Yz,Jz s X->Ah C W.heap.size X Yz->Jz s Yz)->(∀ s X Yz,Jx s X->Ah C W.heap.size X Yz->Jx s Yz)→
  (∀ pre x W1,Jz pre W1->pre++[x]<+:xs->YieldAt Fence.wide 0 P l (encs x) W1 fun e W'=>
   (e=.returned (.bool true)/\Jz (pre++[x]) W'/\Ae Obj.isWalk C n₀ W1 W')\/(e=.returned (.bool false)/\Jx (pre++[x]) W'/\Ae Obj.isWalk C n₀ W1 W'))→
  Jz [] W→
  CallsIn Fence.wide 0 P gf (#[.func (.yield l) #[] #[]]++lb) W fun e W'=>(∃ v,e=.returned v)/\(Jz xs W'\/∃ pre,pre<+:xs/\Jx pre W')
def Yg {α:Type} (C:Nat->Prop) (n₀:Nat) (Iz:List α->Y->Prop) (Ix:Code->List α->Y->Prop) (s:List α) (W:Y):Exit->Act->Y->Prop
 | .normal,_,W'=>Ae Ar C n₀ W W'/\Iz s W'
 | .ret,_,W'=>Ae Ar C n₀ W W'/\Ix .ret s W'
 | .exit id,_,W'=>Ae Ar C n₀ W W'/\Ix (.exit id) s W'
 | .goto t,_,W'=>Ae Ar C n₀ W W'/\Ix (.goto t) s W'
 | .panic _,_,_=>False
 | .outgrown,_,_=>False
variable {P:Program}
theorem DC {α:Type} {g:Operand} {ps:Array Tmp} {assign body:Code} {Qz:Exit->Act->Y->Prop} {a:Act} {w:Y}
  {gf:Nat} {lb:Array Value} (hg:a.eval g=.func (.func gf) #[] lb) (eg:∀ args w,(callFunc gf args).run P w=.ok (.enter gf args) w)
  {encs:α->Array Value} {C:Nat->Prop} {n₀:Nat} {xs:List α} {St:Y->Prop} (hseq:Ac4 P gf lb encs C n₀ xs St)
  (hst:∀ Yz,Below w.heap.size w Yz->St Yz) (hC:∀ k,C k->k<w.heap.size) (hn:n₀<=w.heap.size) (hps:∀ x,(encs x).size=ps.size)
  (Iz:List α->Y->Prop) (Ix:Code->List α->Y->Prop) (hI:∀ s X Yz,Iz s X->Ah C w.heap.size X Yz->Iz s Yz) (hIx:∀ c s X Yz,Ix c s X->Ah C w.heap.size X Yz->Ix c s Yz) (h0:Iz [] w)
  (hround:∀ (l:Nat) (pre:List α) (x:α) (W:Y),w.heap.size<=l->Iz pre W->pre++[x]<+:xs→
   assign.wpIn (Fence.wide.inRound l) 0 P (Exit.then (fun a' W'=>Ae Ar C n₀ W W'/\∀ Wb,Ah C w.heap.size W' Wb->(∃ r,Wb.heap[l]? =F (.loop r))->body.wpIn (Fence.wide.inRound l) 0 P (Yg C n₀ Iz Ix (pre++[x]) Wb) a' Wb) (fun _ _ _=>False))
    {tmps:=(ps.zip (encs x)).foldl (fun t (p,v)=>t.setIfInBounds p v) a.tmps,defers:=[]} W)
  (hdone:∀ (D:Nat) (W:Y),w.heap.size<=D->Iz xs W->W.heap[D]? =F (.deferred (F []))->Qz .normal {a with defers:={target:=.collected D,args:=#[]}::a.defers} W)
  (hstop:∀ (D:Nat) (c:Code) (pre:List α) (W:Y),w.heap.size<=D->pre<+:xs->Ix c pre W->W.heap[D]? =F (.deferred (F []))->c.wpIn Fence.wide 0 P Qz {a with defers:={target:=.collected D,args:=#[]}::a.defers} W):
  (Code.rangeFunc g ps assign body).wpIn Fence.wide 0 P Qz a w:=by
 refine wpIn_rangeFunc (fun fn hfn=>?_);obtain⟨rec,hrec⟩:∃ rec:LoopState->Option Code->Loop,rec=fun st pe=>{state:=st,pending:=pe,fn,tmps:=a.tmps,params:=ps,assign,body,defers:=w.heap.size}:=⟨_,rfl⟩
 obtain⟨W1,hW1⟩:∃ W1,(w.alloc (.deferred (F []))).alloc (.loop (rec .ready O))=W1:=⟨_,rfl⟩
 have hz1:W1.heap.size=w.heap.size+1+1:=by rw[<- hW1];simp
 have hL1:W1.heap[w.heap.size+1]? =F (.loop (rec .ready O)):=by
  rw[<- hW1];have:=Wn (w.alloc (.deferred (F []))) (.loop (rec .ready O));rwa [World.size_alloc] at this
 have hD1:W1.heap[w.heap.size]? =F (.deferred (F [])):=by
  rw[<- hW1];exact(Below.heap_alloc _ _ _ (by simp)).trans (Wn w _)
 have hB1:Below w.heap.size w W1:=by
  rw[<- hW1];exact((Bq _ w).alloc Nr _).alloc (by simp) _
 have hI1:Iz [] W1:=by rw[<- hW1];exact hI _ _ _ (hI _ _ _ h0 (Ah.alloc _ _)) (Ah.alloc _ _)
 have hCl:¬C (w.heap.size+1):=fun h=>by have:=hC _ h;omega
 have hCD:¬C w.heap.size:=fun h=>by have:=hC _ h;omega
 refine⟨w.heap.size+1,[{target:=.collected w.heap.size,args:=#[]}],W1,{target:=.fn (.func gf) lb,args:=#[.func (.yield (w.heap.size+1)) #[] #[]]},W1,gf,
  #[.func (.yield (w.heap.size+1)) #[] #[]]++lb,W1,?_,?_,?_,?_,fun h=>by simp[Fence.wide] at h,?_⟩
 ·rw[<- hW1,hrec];exact run_enterLoop_outer _ _ _ _ _
 ·simp only[resolve,hg]
  simp[go_sem]
 ·intro f' _;trivial
 ·simp[invoke,go_sem,eg]
 refine(hseq (w.heap.size+1)
  (fun pre W=>Iz pre W/\W.heap[w.heap.size+1]? =F (.loop (rec .ready O))/\W.heap[w.heap.size]? =F (.deferred (F [])))
  (fun pre W=>∃ c,Ix c pre W/\W.heap[w.heap.size+1]? =F (.loop (rec .done (F c)))/\W.heap[w.heap.size]? =F (.deferred (F [])))
  W1 (hst _ hB1)
  (fun s X Yz hs ht=>⟨hI _ _ _ hs.1 (ht.mono (by omega)),ht.old hs.2.1 hCl (by omega),ht.old hs.2.2 hCD (by omega)⟩)
  (fun s X Yz hs ht=>by
   obtain⟨c,hc,hl,hk⟩:=hs;exact⟨c,hIx _ _ _ _ hc (ht.mono (by omega)),ht.old hl hCl (by omega),ht.old hk hCD (by omega)⟩)
  ?_ ⟨hI1,hL1,hD1⟩).mono ?_
 ·rintro pre x W ⟨hi,hl,hk⟩ hpre;have hy:=run_yield (P:=P) (args:=encs x) hl (by rw[hrec];exact hps x);rw[hrec] at hy;refine⟨fn,_,assign,body,hy,roundIn_of_wpIn hfn (wpIn_mono (hround _ pre x W (by omega) hi hpre) ?_)⟩;clear hy;intro e0 a' Wa he0;cases e0 with
  | normal=>?_
  | _=>exact he0.elim
  obtain⟨hka,hbd⟩:=he0;have hla:Wa.heap[w.heap.size+1]? =F (.loop (rec .ready O)):=hka.heap hl (.inr (.inr rfl));have hDa:Wa.heap[w.heap.size]? =F (.deferred (F [])):=hka.heap hk (.inr (.inr rfl));have hlt:w.heap.size+1<Wa.heap.size:=(Gl hla)
  refine⟨_,run_beginRound hla (by rw[hrec]),?_⟩;obtain⟨Wb,hWb⟩:∃ Wb,Wa.putObj (w.heap.size+1) (.loop {rec .ready O with state:=.busy})=Wb:=⟨_,rfl⟩
  have hl2:Wb.heap[w.heap.size+1]? =F (.loop {rec .ready O with state:=.busy}):=by rw[<- hWb];exact World.putObj_heap_same hlt
  have hD2:Wb.heap[w.heap.size]? =F (.deferred (F [])):=by rw[<- hWb];exact(World.putObj_heap_other (by omega)).trans hDa
  have hk2:Ae Obj.isWalk C n₀ Wa Wb:=by rw[<- hWb];exact Ae.putObj _ hla (by omega) hCl rfl
  have hta:Ah C w.heap.size Wa Wb:=by rw[<- hWb];exact Ah.putObj _ hla (by omega) rfl
  rw[hWb];refine wpIn_mono (hbd Wb hta ⟨_,hl2⟩) ?_;have fin:∀ (jump:Option Code) (W3:Y),Ae Ar C n₀ Wb W3→
    (Instr.endRound (w.heap.size+1) jump).run P W3=.ok (.bool jump.isNone) (W3.putObj (w.heap.size+1) (.loop (rec (if jump.isNone then .ready else .done) jump)))∧
    (W3.putObj (w.heap.size+1) (.loop (rec (if jump.isNone then .ready else .done) jump))).heap[w.heap.size+1]? =F (.loop (rec (if jump.isNone then .ready else .done) jump))∧
    (W3.putObj (w.heap.size+1) (.loop (rec (if jump.isNone then .ready else .done) jump))).heap[w.heap.size]? =F (.deferred (F []))∧
    Ah C w.heap.size W3 (W3.putObj (w.heap.size+1) (.loop (rec (if jump.isNone then .ready else .done) jump)))∧
    Ae Obj.isWalk C n₀ W3 (W3.putObj (w.heap.size+1) (.loop (rec (if jump.isNone then .ready else .done) jump))):=fun jump W3 hk3=>by
   have hl3:W3.heap[w.heap.size+1]? =F (.loop {rec .ready O with state:=.busy}):=hk3.heap hl2 (.inr (.inr rfl));have hD3:W3.heap[w.heap.size]? =F (.deferred (F [])):=hk3.heap hD2 (.inr (.inr rfl));have hr:=run_endRound (P:=P) jump hl3;rw[hrec] at hr |-;exact⟨hr,World.putObj_heap_same (Gl hl3),(World.putObj_heap_other (by omega)).trans hD3,Ah.putObj _ hl3 (by omega) rfl,Ae.putObj _ hl3 (by omega) hCl rfl⟩
  rintro e a3 W3 hp;cases e with
  | normal=>
   obtain⟨hr,hl4,hD4,ht4,hk4⟩:=fin O W3 hp.1;exact⟨_,_,hr,.inl ⟨rfl,⟨hI _ _ _ hp.2 ht4,hl4,hD4⟩,((hka.walks.trans hk2).trans hp.1.walks).trans hk4⟩⟩
  | ret=>
   obtain⟨hr,hl4,hD4,ht4,hk4⟩:=fin (F .ret) W3 hp.1;exact⟨_,_,hr,.inr ⟨rfl,⟨.ret,hIx _ _ _ _ hp.2 ht4,hl4,hD4⟩,((hka.walks.trans hk2).trans hp.1.walks).trans hk4⟩⟩
  | exit id=>
   obtain⟨hr,hl4,hD4,ht4,hk4⟩:=fin (F (.exit id)) W3 hp.1;exact⟨_,_,hr,.inr ⟨rfl,⟨.exit id,hIx _ _ _ _ hp.2 ht4,hl4,hD4⟩,((hka.walks.trans hk2).trans hp.1.walks).trans hk4⟩⟩
  | goto t=>
   obtain⟨hr,hl4,hD4,ht4,hk4⟩:=fin (F (.goto t)) W3 hp.1;exact⟨_,_,hr,.inr ⟨rfl,⟨.goto t,hIx _ _ _ _ hp.2 ht4,hl4,hD4⟩,((hka.walks.trans hk2).trans hp.1.walks).trans hk4⟩⟩
  | panic ch=>exact hp.elim
  | outgrown=>exact hp.elim
 ·rintro e W2 ⟨⟨v,rfl⟩,(⟨hi,hl,hk⟩ | ⟨pre,hpre,c,hi,hl,hk⟩)⟩
  ·refine⟨O,_,by have:=run_endLoop (P:=P) hl (by rw[hrec];simp);rw[hrec] at this;exact this,hdone _ _ Nr (hI _ _ _ hi (Ah.putObj _ hl (by omega) rfl)) ((World.putObj_heap_other (by omega)).trans hk)⟩
  ·refine⟨F c,_,by have:=run_endLoop (P:=P) hl (by rw[hrec];simp);rw[hrec] at this;exact this,hstop _ c pre _ Nr hpre (hIx _ _ _ _ hi (Ah.putObj _ hl (by omega) rfl)) ((World.putObj_heap_other (by omega)).trans hk)⟩
#print axioms DC
end
section
theorem hid {p:Prop} (h:p):RowKit.Hid p:=h
theorem GA (f:FuncId):Fence.wide.fn f=True:=rfl
theorem D4:Fence.wide.depth=O:=rfl
theorem DU {w:Y} {b:Nat} {t:TypeId} {v0 v1 v2:Value} (h:w.heap[b]? =F (.cells #[v0,v1,v2] t)):
  w.cell? ⟨b,0,O⟩=F v0/\w.cell? ⟨b,1,O⟩=F v1/\w.cell? ⟨b,2,O⟩=F v2/\w.frozen? ⟨b,0,O⟩=false/\w.frozen? ⟨b,1,O⟩=false/\w.frozen? ⟨b,2,O⟩=false:=by
 simp[World.cell?,World.frozen?,h]
theorem DI (w:Y) (o:Obj) {w':Y} (hb:Below (w.alloc o).heap.size (w.alloc o) w'):w'.heap[w.heap.size]? =F o:=
 (hb.block _ (by simp)).trans (Wn w o)
theorem Ay {w w':Y} {k:Nat} {o:Obj} (h:w.heap[k]? =F o) (hb:Below w.heap.size w w'):w'.heap[k]? =F o:=
 (hb.block k (Gl h)).trans h
structure Bf (w:Y):Prop where
 sz:7<w.heap.size
 u8:Lib.Utf8Tabs 2 3 w
 pow:Lib.TabIs Tryz.prog w "internal/strconv.uint64pow10" .u64 Lib.pow10Tab
 syn:∃ te pe,w.cell? ⟨5,0,O⟩=F (.iface te pe)
 rng:∃ te pe,w.cell? ⟨6,0,O⟩=F (.iface te pe)
theorem Ic {w:Y} {k o:Nat} {v:Value} (h:w.cell? ⟨k,o,O⟩=F v):k<w.heap.size:=by
 obtain⟨x,hx,_⟩:=cells_of_cell h;exact(Gl hx)
theorem cell_below {w w':Y} {k o:Nat} {v:Value} (h:w.cell? ⟨k,o,O⟩=F v) (hb:Below w.heap.size w w'):w'.cell? ⟨k,o,O⟩=F v:=
 (hb.cell (p:=⟨k,o,O⟩) (Ic h)).trans h
theorem I5 {w w':Y} {k o:Nat} {v:Value} {b:Bool} (h:w.cell? ⟨k,o,O⟩=F v) (hf:w.frozen? ⟨k,o,O⟩=b) (hb:Below w.heap.size w w'):w'.frozen? ⟨k,o,O⟩=b:=
 (hb.frozen (p:=⟨k,o,O⟩) (Ic h)).trans hf
theorem Bf.below {w w':Y} (h:Bf w) (hb:Below w.heap.size w w'):Bf w':=by
 refine⟨Nat.lt_of_lt_of_le h.sz hb.size,⟨fun c hc=>cell_below (h.u8.1 c hc) hb,fun i hi=>⟨cell_below (h.u8.2 i hi).1 hb,cell_below (h.u8.2 i hi).2 hb⟩⟩,?_,?_,?_⟩
 ·exact var?_below (g:=7) hb (by kernel_rfl) h.sz h.pow
 ·obtain⟨te,pe,hc⟩:=h.syn;exact⟨te,pe,cell_below hc hb⟩
 ·obtain⟨te,pe,hc⟩:=h.rng;exact⟨te,pe,cell_below hc hb⟩
end
section
set_option maxHeartbeats 1000000
set_option maxRecDepth 100000
open Go Go.Lib
def EG:Nat->List UInt8->List Nat
 | 0,_=>[]
 | n+1,l=>if l=[] then [] else (decodeL l).1::EG n (l.drop (decodeL l).2)
def AJ (l:List UInt8):List Nat:=EG l.length l
theorem FC:∀ n,EG n []=[]
 | 0=>rfl
 | _+1=>by simp[EG]
theorem JS:∀ (n m:Nat) (l:List UInt8),l.length<=n->l.length<=m->EG n l=EG m l
 | 0,m,l,hn,_=>by
  have:l=[]:=List.eq_nil_of_length_eq_zero (by omega);subst this;rw[FC,FC]
 | n+1,0,l,_,hm=>by
  have:l=[]:=List.eq_nil_of_length_eq_zero (by omega);subst this;rw[FC,FC]
 | n+1,m+1,l,hn,hm=>by
  unfold EG;by_cases hne:l=[]
  ·simp[hne]
  ·have hw:=decodeL_width l;have hl:0<l.length:=List.length_pos_iff.2 hne;rw[if_neg hne,if_neg hne,JS n m (l.drop (decodeL l).2) (by rw[List.length_drop];omega) (by rw[List.length_drop];omega)]
theorem J4:AJ []=[]:=rfl
theorem Bo (l:List UInt8) (hne:l≠[]):AJ l=(decodeL l).1::AJ (l.drop (decodeL l).2):=by
 have hl:0<l.length:=List.length_pos_iff.2 hne;have hw:=decodeL_width l;obtain⟨n,hn⟩:∃ n,l.length=n+1:=⟨l.length - 1,by omega⟩
 unfold AJ;rw[hn];show(if l=[] then [] else _)=_;rw[if_neg hne,JS n (l.drop (decodeL l).2).length _ (by rw[List.length_drop];omega) Nr]
def Bw (zs:List Int) (r:Int):Bool:=zs.contains r
theorem N7 {zs:List Int} {k:Nat} {r:Int} (h:k<zs.length):Bw (zs.take (k+1)) r=(Bw (zs.take k) r||r==zs[k]):=by
 unfold Bw;rw[Bool.eq_iff_iff,List.contains_iff_mem,List.take_succ_eq_append_getElem h,List.mem_append,List.mem_singleton,Bool.or_eq_true,List.contains_iff_mem,beq_iff_eq]
theorem R8 {zs:List Int} {k:Nat} {r:Int} (h:k<zs.length) (hx:(r==zs[k])=true):Bw zs r=true:=by
 unfold Bw;rw[eq_of_beq hx];simp
theorem RD {nx:Nat} {b:Bool} (h:Bw [0,32] (nx:Int)=b):(nx==0||nx==32)=b:=by
 rw[<- h];unfold Bw;rw[Bool.eq_iff_iff];simp;omega
def B6:Nat->List Nat->List (Nat×Nat×Nat)
 | _,[]=>[]
 | last,[r]=>[(r,last,0)]
 | last,r::q::rest=>(r,last,q)::B6 r (q::rest)
theorem Ng:∀ (n:Nat) (l:List UInt8),∀ r∈EG n l,r<=1114111
 | 0,_,_,h=>by simp[EG] at h
 | n+1,l,r,h=>by
  unfold EG at h;split at h
  ·simp at h
  ·rcases List.mem_cons.1 h with rfl | h
   ·exact decodeL_rune l
   ·exact Ng n _ r h
theorem JT:∀ (last:Nat) (rs:List Nat) (x:Nat×Nat×Nat),x∈B6 last rs->x.1∈rs
 | _,[],_,h=>by simp[B6] at h
 | last,[r],x,h=>by simp[B6] at h;simp[h]
 | last,r::q::rest,x,h=>by
  rcases List.mem_cons.1 h with rfl | h
  ·simp
  ·exact List.mem_cons_of_mem _ (JT r (q::rest) x h)
theorem Td {l:List UInt8} {pre:List (Nat×Nat×Nat)} {r la nx:Nat} (h:pre++[(r,la,nx)]<+:B6 0 (AJ l)):r<=1114111:=
 Ng _ l r (JT 0 (AJ l) (r,la,nx) (h.subset (by simp)))
def Du (flow:Bool) (x:Nat×Nat×Nat):Bool:=
 decide (x.1<32)||x.1==127||(flow&&(x.1==44||x.1==91||x.1==93||x.1==123||x.1==125))||(x.1==58&&(x.2.2==0||x.2.2==32))||(x.1==35&&x.2.1==32)
def Cr (flow:Bool) (xs:List (Nat×Nat×Nat)):Bool:=xs.all fun x=> !Du flow x
def JA (l:List UInt8) (flow:Bool):Bool:=Cr flow (B6 0 (AJ l))
theorem L8 (flow:Bool) (xs:List (Nat×Nat×Nat)) (x:Nat×Nat×Nat):Cr flow (xs++[x])=(Cr flow xs&& !Du flow x):=by simp[Cr]
theorem TM {flow:Bool} {xs ys:List (Nat×Nat×Nat)} (h:xs<+:ys) (hx:Cr flow xs=false):Cr flow ys=false:=by
 obtain⟨zs,rfl⟩:=h;unfold Cr at*
 rw[List.all_append,hx];rfl
def GK:List UInt8:=[44,91,93,123,125,35,38,42,33,124,62,39,34,37,64,96]
def Cd (l:List UInt8):Bool:=
 (Lib.trimB l 32==l)&& !(decide (0<=Lib.indexByte GK (l.headD 0)))&&(!(Bw [45,63,58] (l.headD 0).toNat)||(!l.tail.isEmpty&& !(l.tail.headD 0==32)))
def Fl (l:List UInt8) (flow:Bool):Bool:= !l.isEmpty&&validD l&&Cd l&&JA l flow
def Ck (r:Nat):Bool:= !(decide (48<=r)&&decide (r<=57))&& !(Bw [46,101,69,43,45,95] r)
def AX (c:UInt8):Bool:=decide (48<=c.toNat)&&decide (c.toNat<=57)
def Fn (l:List UInt8):List UInt8:=Lib.trimPrefix (Lib.trimPrefix (Lib.trimPrefix l [43]) [45]) [46]
def IU (l:List UInt8):Bool:=
 !(Lib.hasPrefix l [43,45])&&(!(Fn l).isEmpty&&AX ((Fn l).headD 0)&& !(decide (0<=Lib.idxFunc Ck true ⟨(Fn l).toArray⟩)))
theorem Ue {l:List UInt8} {v:Int} (h:Lib.atoiAll l=.ok v): -9223372036854775808<=v/\v<=9223372036854775807:=by
 unfold Lib.atoiAll at h;split at h
 ·cases h
 ·simp only[] at h;split at h
  ·cases h
  ·cases h
  ·split at h
   ·cases h
   ·split at h
    ·cases h
    ·injection h with h;subst h;split<;>omega
theorem Ev (s:ByteArray) (w:Y) (hT:Bf w):
  Calls Tryz.prog 53 #[Q s] w fun e w'=>e=.returned (.tuple #[.int .i32 (Lib.decodeGo s).1,I J (Lib.decodeGo s).2])/\Below w.heap.size w w':=
 Tryz.utf8_DecodeRuneInString s w hT.u8
theorem He (s:ByteArray) (pos:Nat) (h:pos<s.size):Lib.decodeGo (s.extract pos s.size)=Utf8.decode s pos:=by
 have h0:(s.extract pos s.size).size≠0:=by simp[ByteArray.size_extract];omega
 unfold Lib.decodeGo;rw[if_neg h0,<- Lib.decodeL_drop,<- Lib.decodeL_drop,List.drop_zero,Lib.extract_data,List.take_of_length_le (by rw[List.length_drop,<- Lib.size_eq];omega)]
theorem decode_le (s:ByteArray) (pos:Nat) (h:pos<s.size):pos+(Utf8.decode s pos).2<=s.size/\1<=(Utf8.decode s pos).2:=by
 have hne:s.data.toList.drop pos≠[]:=by
  intro e;have:=congrArg List.length e;rw[List.length_drop,<- Lib.size_eq] at this;simp at this;omega
 have h1:=Lib.decodeL_le _ hne;have h2:=Lib.decodeL_width (s.data.toList.drop pos);rw[Lib.decodeL_drop] at h1 h2;rw[List.length_drop,<- Lib.size_eq] at h1;omega
theorem CS (s:ByteArray) (pos:Nat) (h:pos<s.size):s.data.toList.drop pos≠[]:=by
 intro e;have:=congrArg List.length e;rw[List.length_drop,<- Lib.size_eq] at this;simp at this;omega
theorem C6 (s:ByteArray) (pos:Nat) (h:pos<s.size) (h1:(Utf8.decode s pos).1=65533) (h2:(Utf8.decode s pos).2=1):Lib.validD (s.data.toList.drop pos)=false:=by
 rw[validD_step _ (CS s pos h),Lib.decodeL_drop,if_pos ⟨h1,h2⟩]
theorem J7 (s:ByteArray) (pos:Nat) (h:pos<s.size) (h1:¬((Utf8.decode s pos).1=65533/\(Utf8.decode s pos).2=1)):Lib.validD (s.data.toList.drop pos)=Lib.validD (s.data.toList.drop (pos+(Utf8.decode s pos).2)):=by
 rw[validD_step _ (CS s pos h),Lib.decodeL_drop,if_neg h1,List.drop_drop]
theorem B4 {w:Y} {k:Nat} {s:ByteArray} {pos:Nat} (h:w.heap[k]? =F (.stringIter s pos)):w.iterPos k=pos:=by
 unfold World.iterPos;rw[h]
theorem B2 (s:ByteArray) (w:Y) (hs:s.size<=1000000) (hT:Bf w):
  Calls Tryz.prog 32 #[Q s] w fun e w'=>e=.returned (.bool (Lib.validD s.data.toList))/\Below w.heap.size w w':=by
 go_enter Tryz.func32,Tryz.ntmps32;go_wp2;go_loopw [2] (fun r wr=>r=.bool false/\∃ pos,pos<=s.size/\wr.heap[w.heap.size]? =F (.stringIter s pos)/\Below w.heap.size w wr/\Hid (Lib.validD (s.data.toList.drop pos)=Lib.validD s.data.toList)) (fun _ wr=>s.size - wr.iterPos w.heap.size)
 case atStart=>exact⟨rfl,0,by omega,World.iter_heap _ _ _,(Bq _ w).alloc Nr _,hid rfl⟩
 case round=>
  obtain⟨rfl,pos,hp,hit,hb,HV⟩:=hrel;by_cases hlt:pos<s.size
  ·have hnx:=fun ty=>run_next_any_at (P:=Tryz.prog) wr w.heap.size s pos ty hit hlt;have hbi:Below w.heap.size w (wr.iterAt w.heap.size s (pos+(Utf8.decode s pos).2)):=below_iterAt hb Nr _ _;have hT1:Bf (wr.iterAt w.heap.size s (pos+(Utf8.decode s pos).2)):=hT.below hbi;have hD:=He s pos hlt;have HD:=hid hD;clear hD;have hw:=decode_le s pos hlt;go_wp2_with fail;refine(Ev _ _ hT1).mono ?_;rintro e w1 ⟨rfl,hb1⟩;rw[HD.out];have hit1:w1.heap[w.heap.size]? =F (.stringIter s (pos+(Utf8.decode s pos).2)):=(hb1.block _ (by rw[iterAt_size];exact(Gl hit))).trans (iterAt_heap _ _ _ pos _ hit);have hb2:Below w.heap.size w w1:=hbi.trans (hb1.mono hbi.size);have hm1:=B4 hit;have hm2:=B4 hit1;have HM:=hid (Ai hm1 hm2);clear hm1 hm2;clear hit;go_wp2
   ·have h1:((Utf8.decode s pos).1:Int)=65533:=by assumption
    have h2:(((Utf8.decode s pos).2:Int)==1)=true:=by assumption
    go_ret;exact⟨by rw[<- HV.out,C6 s pos hlt (by omega) (by simp at h2;omega)];rfl,hb2⟩
   ·have h2:(((Utf8.decode s pos).2:Int)==1)=false:=by assumption
    go_roundw
    case rel=>exact⟨rfl,_,hw.1,hit1,hb2,hid (by rw[<- HV.out,J7 s pos hlt (by simp at h2;omega)])⟩
    case measure=>rw[HM.out.1,HM.out.2];omega
   ·have h1:¬((Utf8.decode s pos).1:Int)=65533:=by assumption
    go_roundw
    case rel=>exact⟨rfl,_,hw.1,hit1,hb2,hid (by rw[<- HV.out,J7 s pos hlt (by omega)])⟩
    case measure=>rw[HM.out.1,HM.out.2];omega
  ·have hnx:=fun ty=>run_next_end_at (P:=Tryz.prog) wr w.heap.size s pos ty hit hlt;go_wp2;go_ret;have hV:=HV.out;rw[List.drop_eq_nil_of_le (by rw[<- Lib.size_eq];omega)] at hV;exact⟨by rw[<- hV];rfl,hb⟩
def Cl:ByteArray:=⟨#[44,91,93,123,125]⟩
theorem Lb:Cl.size=5:=rfl
theorem Xg:∀ p,p<5->(Utf8.decode Cl p).2=1/\(Utf8.decode Cl p).1<128:=by decide+kernel
theorem ML (w:Y):
  Calls Tryz.prog 129 #[Q Cl,.int .i32 65533] w fun e w'=>e=.returned (I J (-1))/\Below w.heap.size w w':=by
 go_enter Tryz.func129,Tryz.ntmps129;go_wp2;go_loopw [4] (fun r wr=>r=I J 0/\∃ pos,pos<=5/\wr=w.iter Cl pos) (fun _ wr=>5 - wr.iterPos w.heap.size)
 case atStart=>exact⟨rfl,0,by omega,rfl⟩
 case round=>
  obtain⟨rfl,pos,hp,rfl⟩:=hrel;by_cases hlt:pos<5
  ·have hnx:=fun ty=>run_next_any (P:=Tryz.prog) w Cl pos ty (by rw[Lb];exact hlt);obtain⟨h1,h2⟩:=Xg pos hlt;have h3:((Utf8.decode Cl pos).1:Int)<128:=by omega
   rw[h1] at hnx;clear h1 h2;go_wp2;go_roundw
   case rel=>exact⟨rfl,_,hlt,rfl⟩
   case measure=>rw[World.iterPos_iter,World.iterPos_iter];omega
  ·have hnx:=fun ty=>run_next_end (P:=Tryz.prog) w Cl pos ty (by rw[Lb];exact hlt);go_wp2;go_ret;exact⟨rfl,(Bq _ w).alloc Nr _⟩
theorem Ow (r:Int) (h0:128<=r) (h1:r<=1114111):∃ (l:List UInt8) (b:UInt8),Utf8.encode r=⟨(l++[b]).toArray⟩/\1<=l.length/\l.length<=3/\128<=b.toNat:=by
 have key:∀ c:Nat,128<=c->c<=1114111->∃ (l:List UInt8) (b:UInt8),(if c<0x80 then (⟨#[UInt8.ofNat c]⟩:ByteArray)
   else if c<0x800 then ⟨#[UInt8.ofNat (0xC0+c / 64),UInt8.ofNat (0x80+c%64)]⟩
   else if c<0x10000 then ⟨#[UInt8.ofNat (0xE0+c / 4096),UInt8.ofNat (0x80+c / 64%64),UInt8.ofNat (0x80+c%64)]⟩
   else ⟨#[UInt8.ofNat (0xF0+c / 262144),UInt8.ofNat (0x80+c / 4096%64),UInt8.ofNat (0x80+c / 64%64),UInt8.ofNat (0x80+c%64)]⟩)=⟨(l++[b]).toArray⟩/\1<=l.length/\l.length<=3/\128<=b.toNat:=by
  intro c hc0 hc1;have hb:128<=(UInt8.ofNat (0x80+c%64)).toNat:=by rw[UInt8.toNat_ofNat'];omega
  rw[if_neg (by omega)];split
  ·exact⟨[_],_,rfl,by simp,by simp,hb⟩
  ·split
   ·exact⟨[_,_],_,rfl,by simp,by simp,hb⟩
   ·exact⟨[_,_,_],_,rfl,by simp,by simp,hb⟩
 unfold Utf8.encode;by_cases hv:Utf8.valid r=true
 ·simp only[hv,if_true]
  exact key r.toNat (by omega) (by omega)
 ·simp only[hv]
  exact key Utf8.runeError (by decide) (by decide)
theorem indexByte_none {b:UInt8}:∀ {l:List UInt8},(∀ c∈l,c≠b)->Lib.indexByte l b= -1
 | [],_=>rfl
 | c::l,h=>by
  have h1:(c==b)=false:=by simpa using h c (by simp)
  simp[Lib.indexByte,h1,indexByte_none (l:=l) (fun d hd=>h d (by simp[hd]))]
theorem Ts (b:UInt8) (h:128<=b.toNat) (k:Nat) (_:k<=5):Lib.indexByte (Cl.extract k 5).data.toList b= -1:=by
 refine indexByte_none (fun c hc=>?_);have hc':c∈Cl.data.toList:=by
  rw[Lib.extract_data] at hc;exact List.mem_of_mem_drop (List.mem_of_mem_take hc)
 have:∀ c∈Cl.data.toList,c.toNat<128:=by decide
 have:=this c hc';rintro rfl;omega
theorem Eu (s:ByteArray) (b:UInt8) (w:Y) (h:Lib.indexByte s.data.toList b= -1):
  Calls Tryz.prog 87 #[Q s,.int .u8 b.toNat] w fun e w'=>e=.returned (I J (-1))/\w'=w:=by
 refine(Tryz.strings_IndexByte s b.toNat w).mono ?_;rintro e w' ⟨rfl,rfl⟩;simp[h]
theorem below_drewN {B n:Nat} {w w':Y} (h:Below B w w'):Below B w (w'.drewN n):=⟨h.os,h.tape,h.output,h.size,h.block⟩
theorem M4 (r:Int) (w:Y) (h0:128<=r) (h1:r<=1114111) (h2:r≠65533) (hv:Lib.validRune r=true):
  Calls Tryz.prog 129 #[Q Cl,.int .i32 r] w fun e w'=>e=.returned (I J (-1))/\Below w.heap.size w w':=by
 have hr:(r==65533)=false:=by simpa using h2
 have hr0:(0:Int)<=r:=by omega
 have hr2:¬r<128:=by omega
 have HV:=hid hv;clear hv;obtain⟨l,b,he,hl1,hl3,hb⟩:=Ow r h0 h1;have HE:=hid he;clear he;go_enter Tryz.func129,Tryz.ntmps129;go_wp2_with fail;refine(Tryz.utf8_ValidRune r w).mono ?_;rintro e w1 ⟨rfl,hw1⟩;subst hw1;rw[HV.out];go_wp2;go_step3;have he:=HE.out
 match l,hl1,hl3 with
 | [a],_,_=>
  simp only[List.cons_append,List.nil_append] at he;go_wp2;refine wp_loop_rounds 1 ?_;rw[rounds_succ];clear he;have hf:((Cl[1]'(by decide)).toNat:Int)=91:=rfl;have hE:(⟨#[a,b]⟩:ByteArray)[1]'(by show 1<1+1;decide)=b:=rfl;have hz:Cl.size=5:=rfl;have hbb:(128:Int)<=b.toNat:=by omega
  have hw:IntKind.i64.wrap 2=2:=by decide
  have HN:=Ts b hb 2 (by omega);go_wp2;go_step3;go_wp2;go_quiet (fail);go_wp2;have hb2:=below_drewN (n:=nq) (Bq w1.heap.size w1);generalize w1.drewN nq=w2 at hb2 |-;go_quiet ((go_at_call 87;exact Calls.quiet_of_same (Eu _ _ _ HN)));go_wp2;simp only[Exit.noGoto_ret,Exit.inBlock,Exit.then]
  go_ret;exact⟨rfl,below_drewN hb2⟩
 | [a,a2],_,_=>
  simp only[List.cons_append,List.nil_append] at he;go_wp2;refine wp_loop_rounds 1 ?_;rw[rounds_succ];clear he;have hf:((Cl[2]'(by decide)).toNat:Int)=93:=rfl;have hE:(⟨#[a,a2,b]⟩:ByteArray)[2]'(by show 2<2+1;decide)=b:=rfl;have hz:Cl.size=5:=rfl;have hbb:(128:Int)<=b.toNat:=by omega
  have hw:IntKind.i64.wrap 3=3:=by decide
  have HN:=Ts b hb 3 (by omega);go_wp2;go_step3;go_wp2;go_quiet (fail);go_wp2;have hb2:=below_drewN (n:=nq) (Bq w1.heap.size w1);generalize w1.drewN nq=w2 at hb2 |-;go_quiet ((go_at_call 87;exact Calls.quiet_of_same (Eu _ _ _ HN)));go_wp2;simp only[Exit.noGoto_ret,Exit.inBlock,Exit.then]
  go_ret;exact⟨rfl,below_drewN hb2⟩
 | [a,a2,a3],_,_=>
  simp only[List.cons_append,List.nil_append] at he;go_wp2;refine wp_loop_rounds 1 ?_;rw[rounds_succ];clear he;have hf:((Cl[3]'(by decide)).toNat:Int)=123:=rfl;have hE:(⟨#[a,a2,a3,b]⟩:ByteArray)[3]'(by show 3<3+1;decide)=b:=rfl;have hz:Cl.size=5:=rfl;have hbb:(128:Int)<=b.toNat:=by omega
  have hw:IntKind.i64.wrap 4=4:=by decide
  have HN:=Ts b hb 4 (by omega);go_wp2;go_step3;go_wp2;go_quiet (fail);go_wp2;have hb2:=below_drewN (n:=nq) (Bq w1.heap.size w1);generalize w1.drewN nq=w2 at hb2 |-;go_quiet ((go_at_call 87;exact Calls.quiet_of_same (Eu _ _ _ HN)));go_wp2;simp only[Exit.noGoto_ret,Exit.inBlock,Exit.then]
  go_ret;exact⟨rfl,below_drewN hb2⟩
theorem MJ (r:Int) (w:Y) (h0:128<=r) (h2:r≠65533) (hv:Lib.validRune r=false):
  Calls Tryz.prog 129 #[Q Cl,.int .i32 r] w fun e w'=>e=.returned (I J (-1))/\Below w.heap.size w w':=by
 have hr:(r==65533)=false:=by simpa using h2
 have hr0:(0:Int)<=r:=by omega
 have hr2:¬r<128:=by omega
 have HV:=hid hv;clear hv;go_enter Tryz.func129,Tryz.ntmps129;go_wp2_with fail;refine(Tryz.utf8_ValidRune r w).mono ?_;rintro e w1 ⟨rfl,hw1⟩;subst hw1;rw[HV.out];go_wp2;go_ret;exact⟨rfl,Bq _ _⟩
def Gt (r:Nat):Bool:=r==44||r==91||r==93||r==123||r==125
theorem Jk (r:Nat) (w:Y) (h1:r<=1114111):
  Calls Tryz.prog 90 #[Q Cl,.int .i32 r] w fun e w'=>e=.returned (.bool (Gt r))/\Below w.heap.size w w':=by
 by_cases hlt:r<128
 ·refine(Tryz.strings_ContainsRune_ascii Cl r w (by omega) (by omega)).mono ?_;rintro e w' ⟨rfl,rfl⟩;refine⟨?_,Bq _ _⟩;have:∀ r:Fin 128,decide (0<=Lib.indexByte Cl.data.toList (r.val:Int).toNat.toUInt8)=Gt r.val:=by decide+kernel
  rw[this ⟨r,hlt⟩]
 ·have hno:Gt r=false:=by
   unfold Gt;simp;omega
  have cI:Calls Tryz.prog 129 #[Q Cl,.int .i32 r] w fun e w'=>e=.returned (I J (-1))/\Below w.heap.size w w':=by
   by_cases h2:r=65533
   ·subst h2;exact ML w
   ·cases hv:Lib.validRune (r:Int) with
    | true=>exact M4 r w (by omega) (by omega) (by omega) hv
    | false=>exact MJ r w (by omega) (by omega) hv
  have HI:=hid hno;clear hno;go_enter Tryz.func90,Tryz.ntmps90;go_wp2_with fail;refine cI.mono ?_;rintro e w' ⟨rfl,hb⟩;go_wp2;go_ret;exact⟨by rw[HI.out];rfl,hb⟩
attribute [local go_sem] Oper.semAt_some
theorem Ey {P:Program} {c:Code} {Qz:Exit->Act->Y->Prop} {a:Act} {w:Y} (h:c.wpIn Fence.wide 0 P (Exit.noGoto Qz) a w):(Code.scope c).wpIn Fence.wide 0 P Qz a w:=
 wpIn_wide.2 (wp_scope_straight (wpIn_wide.1 h))
theorem wpIn_label {P:Program} {i:Nat} {Qz:Exit->Act->Y->Prop} {a:Act} {w:Y} (h:Qz .normal a w):(Code.label i).wpIn Fence.wide 0 P Qz a w:=
 wpIn_wide.2 (wp_label h)
abbrev Ah6 (x:Nat×Nat×Nat):Array Value:=#[.int .i32 x.1,.agg #[.int .i32 x.2.1,.int .i32 x.2.2]]
def Ph (s:ByteArray) (pos last one:Nat):List (Nat×Nat×Nat):=if pos=0 then B6 0 (AJ s.data.toList) else B6 last (one::AJ (s.data.toList.drop pos))
theorem D7 {s:ByteArray} (h:s.size=0):s=⟨#[]⟩:=by
 obtain⟨d⟩:=s;have h':d.size=0:=h;rw[Array.size_eq_zero_iff] at h';rw[h']
theorem Uw (s:ByteArray) (h:0<s.size) (l o:Nat):Ph s 0 l o=Ph s (0+(Utf8.decode s 0).2) 0 (Utf8.decode s 0).1:=by
 have hw:=decode_le s 0 h;unfold Ph;rw[if_pos rfl,if_neg (by omega)];have:=CS s 0 h;have e:=Bo _ this;rw[Lib.decodeL_drop] at e;rw[List.drop_drop,List.drop_zero] at e;rw[e]
theorem XO (s:ByteArray) (pos:Nat) (h:pos<s.size) (h0:pos≠0) (l o:Nat):Ph s pos l o=(o,l,(Utf8.decode s pos).1)::Ph s (pos+(Utf8.decode s pos).2) o (Utf8.decode s pos).1:=by
 have hw:=decode_le s pos h;unfold Ph;rw[if_neg h0,if_neg (by omega)];have e:=Bo _ (CS s pos h);rw[Lib.decodeL_drop,List.drop_drop] at e;rw[e];rfl
theorem Aax (s:ByteArray) (pos:Nat) (h:¬pos<s.size) (h0:pos≠0) (l o:Nat):Ph s pos l o=[(o,l,0)]:=by
 unfold Ph;rw[if_neg h0,List.drop_eq_nil_of_le (by rw[<- Lib.size_eq];omega)];rfl
theorem Ud (s:ByteArray) (Bs n₀:Nat) (hs:s.size<=1000000):
  Ac4 Tryz.prog 130 #[.pointer (F ⟨Bs,0,O⟩)] Ah6 (·=Bs) n₀ (B6 0 (AJ s.data.toList)) (fun W=>W.cell? ⟨Bs,0,O⟩=F (Q s)/\W.frozen? ⟨Bs,0,O⟩=false):=by
 intro l Jz Jx W ⟨hc,hf⟩ hJ hJx hY h0;refine callsIn_of_wp Tryz.func130 rfl trivial ?_ rfl;simp only[Tryz.ntmps130,List.size_toArray,List.length_cons,List.length_nil,Nat.reduceAdd,Nat.reduceSub,Array.replicate_succ,Array.replicate_zero,List.push_toArray,List.append_toArray,List.nil_append,List.cons_append]
 have hBs:Bs<W.heap.size:=Ic hc;have hne:Bs≠W.heap.size:=by omega
 gi_wp2
 refine Ey ?_
 gi_wp2
 refine wpIn_label ?_
 gi_wp2
 gi_loopw [3,4] (fun last one wr=>∃ (la on pos:Nat) (pre:List (Nat×Nat×Nat)),last=.int .i32 la/\one=.int .i32 on/\pos<=s.size/\wr.heap[W.heap.size]? =F (.stringIter s pos)/\wr.cell? ⟨Bs,0,O⟩=F (Q s)/\wr.frozen? ⟨Bs,0,O⟩=false/\Jz pre wr/\Hid (B6 0 (AJ s.data.toList)=pre++Ph s pos la on)/\Hid (pos=0->pre=[]/\on=0))
  (fun _ _ wr=>s.size - wr.iterPos W.heap.size)
 case atStart=>
  have hb:Below W.heap.size W (W.iter s 0):=(Bq _ W).alloc Nr _;exact⟨0,0,0,[],rfl,rfl,by omega,World.iter_heap _ _ _,cell_below hc hb,(hb.frozen (p:=⟨Bs,0,O⟩) hBs).trans hf,hJ _ _ _ h0 (Ah.alloc _ _),hid rfl,hid (fun _=>⟨rfl,rfl⟩)⟩
 case round=>
  obtain⟨la,on,pos,pre,rfl,rfl,hp,hit,hcs,hfs,hJs,HX,HP⟩:=hrel;by_cases hlt:pos<s.size
  ·have hJ1:Jz pre (wr.iterAt W.heap.size s (pos+(Utf8.decode s pos).2)):=hJ _ _ _ hJs (Ah.putObj _ hit Nr rfl);have hit1:=iterAt_heap _ _ _ _ (pos+(Utf8.decode s pos).2) hit;have hcs1:(wr.iterAt W.heap.size s (pos+(Utf8.decode s pos).2)).cell? ⟨Bs,0,O⟩=F (Q s):=(World.cell?_of_block (a:=⟨Bs,0,O⟩) (iterAt_other _ _ _ _ _ hne)).trans hcs;have hfs1:(wr.iterAt W.heap.size s (pos+(Utf8.decode s pos).2)).frozen? ⟨Bs,0,O⟩=false:=(World.frozen?_of_block (a:=⟨Bs,0,O⟩) (iterAt_other _ _ _ _ _ hne)).trans hfs;have hw:=decode_le s pos hlt;have hm1:=B4 hit;have hm2:=B4 hit1;have HM:=hid (Ai hm1 hm2);clear hm1 hm2;by_cases hp0:pos=0
   ·subst hp0;have hnx:∀ ty,(Instr.next (.pointer (F ⟨W.heap.size,0,O⟩)) true ty).run Tryz.prog wr=.ok (.tuple #[.bool true,I J 0,.int .i32 (Utf8.decode s 0).1]) (wr.iterAt W.heap.size s (0+(Utf8.decode s 0).2)):=fun ty=>run_next_any_at (P:=Tryz.prog) wr W.heap.size s 0 ty hit hlt;clear hit hcs hfs;simp only[Nat.zero_add] at*
    gi_wp2
    refine⟨fun _ _=>trivial,?_⟩
    gi_wp2
    go_roundw
    case rel=>exact⟨on,_,_,pre,rfl,rfl,hw.1,hit1,hcs1,hfs1,hJ1,hid (by rw[HX.out,Uw s hlt,(HP.out (by first | rfl | trivial)).2,Nat.zero_add]),hid (fun h=>by omega)⟩
    case measure=>rw[HM.out.1,HM.out.2];omega
   ·have hnx:=fun ty=>run_next_any_at (P:=Tryz.prog) wr W.heap.size s pos ty hit hlt;have hpz:(0:Int)<pos:=by omega
    have hx:=XO s pos hlt hp0 la on;have hpre:pre++[(on,la,(Utf8.decode s pos).1)]<+:B6 0 (AJ s.data.toList):=⟨_,by rw[HX.out,hx,List.append_assoc];rfl⟩
    obtain⟨fn,tmps,assign,body,hy,hR⟩:=hY pre (on,la,(Utf8.decode s pos).1) _ hJ1 hpre;dsimp only[Ah6] at hy;have HQ:=hid (Ai hx hpre);clear hx hpre;clear hit hcs hfs
    gi_wp2
    refine⟨rfl,hR.mono ?_⟩;rintro e W3 (⟨rfl,hJ3,hk3⟩ | ⟨rfl,hJ3,hk3⟩)
    ·have hit3:=hk3.heap hit1 (.inr (.inr rfl));have hcs3:=hk3.cell hcs1 (.inr rfl);have hfs3:=hk3.frozen hcs1 hfs1 (.inr rfl);have hm3:=B4 hit3;have HM3:=hid hm3;clear hm3;clear hit1 hcs1 hfs1 hy
     gi_wp2
     go_roundw
     case rel=>exact⟨on,_,_,_,rfl,rfl,hw.1,hit3,hcs3,hfs3,hJ3,hid (by rw[HX.out,HQ.out.1,List.append_assoc];rfl),hid (fun h=>by omega)⟩
     case measure=>rw[HM.out.1,HM3.out];omega
    ·have hcs3:=hk3.cell hcs1 (.inr rfl);have hfs3:=hk3.frozen hcs1 hfs1 (.inr rfl);have hcs4:=World.cell?_setCell_same' W3 ⟨Bs,0,O⟩ (Q ⟨#[]⟩) (by rw[hcs3];rfl);have hJ4:Jx _ (W3.setCell ⟨Bs,0,O⟩ (Q ⟨#[]⟩)):=hJx _ _ _ hJ3 (Ah.setCell _ _ _ rfl);clear hit1 hcs1 hfs1 hy
     gi_wp2
     try simp only[Exit.noGoto_normal]
     go_end0;exact⟨⟨_,rfl⟩,.inr ⟨_,HQ.out.2,hJ4⟩⟩
  ·have hnx:=fun ty=>run_next_end_at (P:=Tryz.prog) wr W.heap.size s pos ty hit hlt;by_cases hp0:pos=0
   ·have hs0:s.size=0:=by omega
    obtain rfl:s=⟨#[]⟩:=D7 hs0;have hpe:=(HP.out hp0).1;subst hpe
    gi_wp2
    try simp only[Exit.noGoto_normal]
    go_end0;exact⟨⟨_,rfl⟩,.inl hJs⟩
   ·have hne2:s.toList.isEmpty=false:=by
     rw[Lib.toList_data];cases h:s.data.toList with
     | nil=>exact absurd (by rw[Lib.size_eq,h];rfl) (show s.size≠0 by omega)
     | cons _ _=>rfl
    have hx:=Aax s pos hlt hp0 la on;have hall:B6 0 (AJ s.data.toList)=pre++[(on,la,0)]:=by rw[HX.out,hx]
    obtain⟨fn,tmps,assign,body,hy,hR⟩:=hY pre (on,la,0) _ hJs (by rw[hall];exact List.prefix_refl _);simp only[Ah6,Int.natCast_zero] at hy;have HA:=hid hall;clear hx hall
    gi_wp2
    refine⟨rfl,hR.mono ?_⟩;rintro e W3 (⟨rfl,hJ3,hk3⟩ | ⟨rfl,hJ3,hk3⟩)
    ·gi_wp2
     try simp only[Exit.noGoto_normal]
     go_end0;exact⟨⟨_,rfl⟩,.inl (by rw[HA.out];exact hJ3)⟩
    ·gi_wp2
     try simp only[Exit.noGoto_normal]
     go_end0;exact⟨⟨_,rfl⟩,.inr ⟨_,by rw[HA.out];exact List.prefix_refl _,hJ3⟩⟩
theorem Xp (r:Int) (zs:List Int) (b n cap:Nat) (w:Y) (hn:zs.length=n) (hs:n<=1000) (hc:∀ i,i<n->w.cell? ⟨b,i,O⟩=F (.int .i32 (zs[i]?.getD 0))):
  Calls Tryz.prog 88 #[.int .i32 r,Z (F ⟨b,0,O⟩) n cap] w fun e w'=>e=.returned (.bool (Bw zs r))/\w=w':=by
 subst hn;go_enter Tryz.func88,Tryz.ntmps88;go_wp2;go_loop [9] (fun i=>∃ k:Nat,k<=zs.length/\i=I J k/\Hid (Bw (zs.take k) r=false)) (fun i=>zs.length - (intOf i).toNat)
 case atStart=>exact⟨0,by omega,rfl,hid rfl⟩
 case round=>
  obtain⟨k,hk,rfl,HN⟩:=hrel;by_cases hlt:k<zs.length
  ·have hck:=hc k hlt;clear hc;go_wp2
   ·have hx:(r==zs[k])=true:=by assumption
    go_ret;exact⟨by rw[R8 hlt hx];rfl,rfl⟩
   ·have hx:(r==zs[k])=false:=by assumption
    go_round
    case rel=>exact⟨k+1,by omega,by go_num,hid (by rw[N7 hlt,HN.out,hx];rfl)⟩
    case measure=>simp[intOf];omega
  ·go_wp2;go_ret;have h:=HN.out;rw[List.take_of_length_le (by omega)] at h;exact⟨by rw[h];rfl,rfl⟩
theorem GN (r:Int) (zs:List Int) (n cap:Nat) (w:Y) (hn:zs.length=n) (hs:n<=1000):
  Calls Tryz.prog 88 #[.int .i32 r,Z (F ⟨w.heap.size,0,O⟩) n cap] (w.alloc (.cells (zs.map (Value.int .i32)).toArray 21)) fun e w'=>e=.returned (.bool (Bw zs r))/\Below w.heap.size w w':=by
 refine(Xp r zs w.heap.size n cap _ hn hs (fun i hi=>?_)).mono ?_
 ·have h:=Wn w (.cells (zs.map (Value.int .i32)).toArray 21);unfold World.cell?;rw[h];simp[show i<zs.length by omega]
 ·rintro e w' ⟨rfl,rfl⟩;exact⟨rfl,(Bq _ w).alloc Nr _⟩
theorem O8 (r:Nat) (flow:Bool) (B:Nat) (w:Y) (h1:r<=1114111) (hc:w.cell? ⟨B,0,O⟩=F (.bool flow)):
  Calls Tryz.prog 89 #[.int .i32 r,.pointer (F ⟨B,0,O⟩)] w fun e w'=>e=.returned (.bool (flow&&Gt r))/\Below w.heap.size w w':=by
 cases flow with
 | false=>
  go_enter Tryz.func89,Tryz.ntmps89;go_wp2;go_ret;exact⟨rfl,Bq _ _⟩
 | true=>
  go_enter Tryz.func89,Tryz.ntmps89;go_wp2_with fail;refine(Jk r w h1).mono ?_;rintro e w' ⟨rfl,hb⟩;go_wp2;go_ret;exact⟨rfl,hb⟩
end
end Go.Proofs.YtdpppepmkeinaaaGreatDoor
