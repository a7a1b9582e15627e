/- What is proved: a part of the walk of the program and of its plain laws; no condition beside those that each theorem names. -/
import Derived.Below
import Derived.RangeFuncRecord
import Derived.Deep.RegionHeld3
import Derived.RangeFuncBox
import Derived.RangeFuncCalls
import Derived.Test.YtdpppepmkeinaaaGreatDoorProg
import Derived.Test.YtdpppepmkeinaaaGreatDoorShelf
import Derived.WalkKit
import Derived.WalkSpells
import Derived.WalkLawsBesides
import Derived.OwnWalkIn
import Derived.TacticsInMore
import Derived.LoopNIn
import Derived.LoopIn
import Derived.Shelf.Abstract
import Derived.Shelf.RegionOpen
import Derived.Lib.OthersKept
import Derived.Lib.ValidLaws
namespace Go.Proofs.YtdpppepmkeinaaaGreatDoor
open Go Go.RowKit Go.Lib
open Go.Value renaming int->I,string->Q,slice->Z
open Go.IntKind renaming i64->J
open Option renaming none->O,some->F
open _root_.Go renaming World->Y
set_option linter.unusedSimpArgs false
set_option linter.unusedVariables false
set_option linter.unusedSectionVars false
section
theorem Nr {a:Nat}:a≤a:=Nat.le_refl a
theorem Bq (B:Nat) (w:Y):Below B w w:=Below.refl B w
theorem Wn (w:Y) (o:Obj):(w.alloc o).heap[w.heap.size]? =F o:=World.alloc_heap_new w o
theorem Bh (w:Y) (a:Addr) (u:Value) (k:Nat) (h:k≠a.block):(w.setCell a u).heap[k]? =w.heap[k]? :=Below.heap_setCell w a u k h
theorem Gl {α:Type} {l:Array α} {i:Nat} {x:α} (h:l[i]? =F x):i<l.size:=(Array.getElem?_eq_some_iff.1 h).1
theorem Ai {a b:Prop} (h:a) (k:b):a∧b:=⟨h,k⟩
end
section
open Go
def nxl:List Bool->Nat
 | []=>0
 | false::_=>0
 | true::l=>nxl l+1
def nx (l:Array Bool):Nat:=nxl l.toList
def opAt:List Oper->List Bool->Option Oper
 | o::_,false::_=>F o
 | _::os,true::l=>opAt os l
 | _,_=>O
def SC:List Oper->Nat->Option Oper
 | o::_,0=>F o
 | _::os,n+1=>SC os n
 | _,_=>O
theorem RQ:∀ (os:List Oper) (n:Nat) (o:Oper),SC os n=F o->os[n]? =F o
 | [],n,o,h=>by cases n<;>cases h
 | a::os,0,o,h=>by simpa[SC] using h
 | a::os,n+1,o,h=>by simpa using RQ os n o h
theorem X7:∀ (os:List Oper) (l:List Bool) (o:Oper),opAt os l=F o->os[nxl l]? =F o
 | [],l,o,h=>by cases l<;>cases h
 | a::os,[],o,h=>by cases h
 | a::os,false::l,o,h=>by simpa[opAt,nxl] using h
 | a::os,true::l,o,h=>by simpa[nxl] using X7 os l o h
theorem Ali {ops:Array Oper} {l:Array Bool} {o:Oper} (h:opAt ops.toList l.toList=F o):ops[nx l]? =F o:=by
 rw[<- Array.getElem?_toList];exact X7 _ _ _ h
theorem Ah0 {ops:Array Oper} {n:Nat} {o:Oper} (h:SC ops.toList n=F o):ops[n]? =F o:=by
 rw[<- Array.getElem?_toList];exact RQ _ _ _ h
theorem gG:(∀ {α:Type} {xs:List α} {i:Nat} (h:i<xs.toArray.size),xs.toArray[i]=xs[i]'(by simpa using h))/\(∀ {α:Type} {a:α} {bs:List α} {i:Nat} {h:i+1<(a::bs).length},(a::bs)[i+1]=bs[i]'(Nat.lt_of_succ_lt_succ h))/\(∀ {α:Type} {a:α} {bs:List α} {h:0<(a::bs).length},(a::bs)[0]=a):=
 ⟨fun _=>List.getElem_toArray _,List.getElem_cons_succ _ _ _ _,List.getElem_cons_zero _ _ _⟩
theorem gS:(∀ {α:Type} {xs:List α} {i:Nat} (h:i<xs.toArray.size),xs.toArray[i]=xs[i]'(by simpa using h))/\(∀ {α:Type} {a:α} {bs:List α} {i:Nat} {h:i+1<(a::bs).length},(a::bs)[i+1]=bs[i]'(Nat.lt_of_succ_lt_succ h))/\(∀ {α:Type} {a:α} {bs:List α} {h:0<(a::bs).length},(a::bs)[0]=a)∧
  (∀ (a:Act) (d:Tmp) (v:Value),a.put (F d) v={a with tmps:=a.tmps.setIfInBounds d v})/\(∀ (a:Act) (v:Value),a.put O v=a)∧
  (∀ {α:Type} (l:List α) (i:Nat) (a:α),l.toArray.setIfInBounds i a=(l.set i a).toArray)/\(∀ {α:Type} {x:α} {xs:List α} {a:α},(x::xs).set 0 a=a::xs)/\(∀ {α:Type} {x:α} {xs:List α} {n:Nat} {a:α},(x::xs).set (n+1) a=x::xs.set n a)∧
  (∀ l:List Bool,nx l.toArray=nxl l)/\(∀ l:List Bool,nxl (false::l)=0)/\(∀ l:List Bool,nxl (true::l)=nxl l+1):=
 ⟨fun _=>List.getElem_toArray _,List.getElem_cons_succ _ _ _ _,List.getElem_cons_zero _ _ _,fun _ _ _=>rfl,fun _ _=>rfl,fun _ _ _=>List.setIfInBounds_toArray _ _ _,List.set_cons_zero,List.set_cons_succ,fun _=>rfl,fun _=>rfl,fun _=>rfl⟩
theorem gR:(∀ n:Nat,Array.replicate n false=(List.replicate n false).toArray)/\(∀ n:Nat,List.replicate (n+1) false=false::List.replicate n false)/\List.replicate 0 false=[]:=⟨fun _=>by simp,fun _=>rfl,rfl⟩
section
variable {P:Program} {ops:Array Oper} {Qz:Exit->Act->Y->Prop} {md:Region.Mode} {S:Y->Prop}
theorem wR (n:Nat) {id:Nat} {a:Act} {w:Y} (hn:ops.size=n) (hS:S w.drew) (h:S w.drew->wpAnyH P .any ops Qz S n (Array.replicate n false) a w.drew) (hm:P.follows .mixedOrders=true:=by kernel_rfl):(Code.region id ops true).wp P Qz a w:=
 wp_region_held_drew hm hS (by rw[hn];exact h)
theorem wN {oi:Oper} {v:Value} {fuel:Nat} {listed:Array Bool} {a:Act} {w:Y} (hS:S w) (h:wpAnyH P md ops Qz S fuel (listed.setIfInBounds (nx listed) true) (a.put oi.dst v) w)
  (hi:opAt ops.toList listed.toList=F oi:=by exact rfl) (hw:Region.wanted oi (yielded ops a.tmps)=true:=by rfl) (hy:∀ w,S w->(execOp a.eval oi).run P w=.ok (.value v) w:=by intro w hSw;(try dsimp only at hSw);(try simp only[gG]);go_simp;(try with_reducible rfl))
  (hs:Region.noSelect ops=true:=by kernel_rfl) (hf:Region.free md ops listed (nx listed)=true:=by kernel_rfl) (hr:(Region.ready md ops listed).contains (nx listed)=true:=by kernel_rfl)
  (hQ:∀ c a w,Qz (.panic c) (a.put oi.dst v) w->Qz (.panic c) a w:=by exact fun _ _ _ h=>h):wpAnyH P md ops Qz S (fuel+1) listed a w:=
 wpAnyH_take (Ali hi) hs hf hr hQ (.inl ⟨hw,hy⟩) hS h
theorem wI (i:Nat) {oi:Oper} {v:Value} {fuel:Nat} {listed:Array Bool} {a:Act} {w:Y} (hS:S w) (h:wpAnyH P md ops Qz S fuel (listed.setIfInBounds i true) (a.put oi.dst v) w)
  (hi:SC ops.toList i=F oi:=by exact rfl) (hw:Region.wanted oi (yielded ops a.tmps)=true:=by rfl) (hy:∀ w,S w->(execOp a.eval oi).run P w=.ok (.value v) w:=by intro w hSw;(try dsimp only at hSw);(try simp only[gG]);go_simp;(try with_reducible rfl))
  (hs:Region.noSelect ops=true:=by kernel_rfl) (hf:Region.free md ops listed i=true:=by kernel_rfl) (hr:(Region.ready md ops listed).contains i=true:=by kernel_rfl)
  (hQ:∀ c a w,Qz (.panic c) (a.put oi.dst v) w->Qz (.panic c) a w:=by exact fun _ _ _ h=>h):wpAnyH P md ops Qz S (fuel+1) listed a w:=
 wpAnyH_take (Ah0 hi) hs hf hr hQ (.inl ⟨hw,hy⟩) hS h
theorem wU (i:Nat) {oi:Oper} {fuel:Nat} {listed:Array Bool} {a:Act} {w:Y} (hi:ops[i]? =F oi) (hw:Region.wanted oi (yielded ops a.tmps)=false) (hS:S w)
  (h:wpAnyH P md ops Qz S fuel (listed.setIfInBounds i true) (a.put oi.dst undef) w) (hs:Region.noSelect ops=true:=by kernel_rfl) (hf:Region.free md ops listed i=true:=by kernel_rfl) (hr:(Region.ready md ops listed).contains i=true:=by kernel_rfl)
  (hQ:∀ c a w,Qz (.panic c) (a.put oi.dst undef) w->Qz (.panic c) a w:=by exact fun _ _ _ h=>h):wpAnyH P md ops Qz S (fuel+1) listed a w:=
 wpAnyH_take hi hs hf hr hQ (.inr ⟨hw,rfl⟩) hS h
theorem wB (i:Nat) {o:Oper} {fuel:Nat} {listed:Array Bool} {a:Act} {w:Y} (hi:ops[i]? =F o)
  (h:∀ K':Act->Y->Prop,Shut (∀ a w,S w->(S w->wpAnyH P md ops Qz S fuel (listed.setIfInBounds i true) a w)->K' a w)->if Region.wanted o (yielded ops a.tmps)=true then Oper.wp P o a w K' Qz else K' (a.put o.dst undef) w)
  (hr:Region.ready md ops listed=[i]:=by kernel_rfl):wpAnyH P md ops Qz S (fuel+1) listed a w:=
 wpAnyH_ready hr (by simp) (AllReadyH.cons hi h AllReadyH.nil)
end
end
section
structure Au (C:Nat->Prop) (B:Nat) (X Yz:Y):Prop where
 os:Yz.os=X.os
 tape:Yz.tape=X.tape
 output:Yz.output=X.output
 size:X.heap.size<=Yz.heap.size
 block:∀ (k:Nat) (o:Obj),X.heap[k]? =F o->¬C k->(k<B\/o.isCells=true)->Yz.heap[k]? =F o
 kinds:∀ (k:Nat) (c:Array Value) (e:TypeId) (fz:Nat×Nat),X.heap[k]? =F (.cells c e fz)->∃ c' fz',Yz.heap[k]? =F (.cells c' e fz')
theorem Au.refl (C:Nat->Prop) (B:Nat) (X:Y):Au C B X X:=⟨rfl,rfl,rfl,Nat.le_refl _,fun _ _ h _ _=>h,fun _ c _ fz h=>⟨c,fz,h⟩⟩
theorem Au.trans {C:Nat->Prop} {B:Nat} {X Yz Zz:Y} (h:Au C B X Yz) (k:Au C B Yz Zz):Au C B X Zz:=
 ⟨k.os.trans h.os,k.tape.trans h.tape,k.output.trans h.output,Nat.le_trans h.size k.size,fun i o hi hc ho=>k.block i o (h.block i o hi hc ho) hc ho,fun i c e fz hi=>by obtain⟨c',fz',h'⟩:=h.kinds i c e fz hi;exact k.kinds i c' e fz' h'⟩
theorem Au.mono {C:Nat->Prop} {B B':Nat} {X Yz:Y} (h:Au C B X Yz) (hb:B'<=B):Au C B' X Yz:=
 ⟨h.os,h.tape,h.output,h.size,fun i o hi hc ho=>h.block i o hi hc (ho.imp (fun e=>by omega) id),h.kinds⟩
theorem Au.of_below {C:Nat->Prop} {B:Nat} {X Yz:Y} (h:Below X.heap.size X Yz):Au C B X Yz:=
 ⟨h.os,h.tape,h.output,h.size,fun i _ hi _ _=>(h.block i (Gl hi)).trans hi,fun i c _ fz hi=>⟨c,fz,(h.block i (Gl hi)).trans hi⟩⟩
theorem Au.alloc {C:Nat->Prop} {B:Nat} (X:Y) (o:Obj):Au C B X (X.alloc o):=Au.of_below ((Bq _ X).alloc Nr o)
theorem Au.putObj {C:Nat->Prop} {B:Nat} {X:Y} {l:Nat} {o:Obj} (o':Obj) (hl:X.heap[l]? =F o) (hB:B<=l) (ho:o.isCells=false):Au C B X (X.putObj l o'):=
 ⟨rfl,rfl,rfl,by simp,fun i u hi _ hu=>(by
  refine(World.putObj_heap_other ?_).trans hi;rintro rfl;rw[hl] at hi;cases hi;rcases hu with hu | hu
  ·omega
  ·rw[ho] at hu;cases hu),fun i c e fz hi=>⟨c,fz,(World.putObj_heap_other (by rintro rfl;rw[hl] at hi;cases hi;cases ho)).trans hi⟩⟩
theorem Au.setCell {C:Nat->Prop} {B:Nat} (X:Y) (a:Addr) (v:Value) (hC:C a.block):Au C B X (X.setCell a v):=
 ⟨rfl,rfl,rfl,by simp[World.setCell],fun i _ hi hc _=>(Bh X a v i (fun e=>hc (by rw[e];exact hC))).trans hi,fun i c e fz hi=>by
  by_cases h:i=a.block
  ·subst h;refine⟨if a.spot.isSome then c else c.setIfInBounds a.off v,fz,?_⟩;show(X.heap.modify a.block _)[a.block]? =_;rw[Array.getElem?_modify,if_pos rfl,hi];rfl
  ·exact⟨c,fz,(Bh X a v i h).trans hi⟩⟩
theorem Au.heap {C:Nat->Prop} {B:Nat} {X Yz:Y} (h:Au C B X Yz) {k:Nat} {o:Obj} (hk:X.heap[k]? =F o) (hc:¬C k) (ho:o.isCells=true):Yz.heap[k]? =F o:=h.block k o hk hc (.inr ho)
theorem Au.old {C:Nat->Prop} {B:Nat} {X Yz:Y} (h:Au C B X Yz) {k:Nat} {o:Obj} (hk:X.heap[k]? =F o) (hc:¬C k) (hB:k<B):Yz.heap[k]? =F o:=h.block k o hk hc (.inl hB)
theorem cells_of_cell {X:Y} {k:Nat} {off:Nat} {v:Value} (h:X.cell? ⟨k,off,O⟩=F v):∃ o,X.heap[k]? =F o/\o.isCells=true:=by
 unfold World.cell? at h;cases hk:X.heap[k]? with
 | none=>simp[hk] at h
 | some o=>
  rw[hk] at h;cases o<;>first | exact⟨_,rfl,rfl⟩ | (simp at h)
theorem Au.cell {C:Nat->Prop} {B:Nat} {X Yz:Y} (h:Au C B X Yz) {k off:Nat} {v:Value} (hk:X.cell? ⟨k,off,O⟩=F v) (hc:¬C k):Yz.cell? ⟨k,off,O⟩=F v:=by
 obtain⟨o,ho,hco⟩:=cells_of_cell hk;exact(World.cell?_of_block (w:=X) (a:=⟨k,off,O⟩) ((h.heap ho hc hco).trans ho.symm)).trans hk
theorem Au.frozen {C:Nat->Prop} {B:Nat} {X Yz:Y} (h:Au C B X Yz) {k off:Nat} {v:Value} {b:Bool} (hk:X.cell? ⟨k,off,O⟩=F v) (hf:X.frozen? ⟨k,off,O⟩=b) (hc:¬C k):Yz.frozen? ⟨k,off,O⟩=b:=by
 obtain⟨o,ho,hco⟩:=cells_of_cell hk;exact(World.frozen?_of_block (w:=X) (a:=⟨k,off,O⟩) ((h.heap ho hc hco).trans ho.symm)).trans hf
theorem Au.below {C:Nat->Prop} {B n:Nat} {X Yz w:Y} (h:Au C B X Yz) (hb:Below n w X) (hC:∀ k,C k->n<=k) (hB:n<=B) (hn:n<=w.heap.size):Below n w Yz:=
 ⟨h.os.trans hb.os,h.tape.trans hb.tape,h.output.trans hb.output,Nat.le_trans hb.size h.size,fun k hk=>by
  have hlt:k<X.heap.size:=Nat.lt_of_lt_of_le hk (Nat.le_trans hn hb.size);have hX:X.heap[k]? =F X.heap[k]:=Array.getElem?_eq_getElem hlt;exact((h.old hX (fun hc=>by have:=hC k hc;omega) (by omega)).trans hX.symm).trans (hb.block k hk)⟩
structure Ak (p:Obj->Bool) (C:Nat->Prop) (n₀:Nat) (X Yz:Y):Prop where
 os:Yz.os=X.os
 tape:Yz.tape=X.tape
 output:Yz.output=X.output
 size:X.heap.size<=Yz.heap.size
 block:∀ (k:Nat) (o:Obj),X.heap[k]? =F o->(k<n₀\/C k\/p o=true)->Yz.heap[k]? =F o
def AH (o:Obj):Bool:= !o.isCells
theorem Ak.refl (p:Obj->Bool) (C:Nat->Prop) (n₀:Nat) (X:Y):Ak p C n₀ X X:=⟨rfl,rfl,rfl,Nat.le_refl _,fun _ _ h _=>h⟩
theorem Ak.trans {p:Obj->Bool} {C:Nat->Prop} {n₀:Nat} {X Yz Zz:Y} (h:Ak p C n₀ X Yz) (k:Ak p C n₀ Yz Zz):Ak p C n₀ X Zz:=
 ⟨k.os.trans h.os,k.tape.trans h.tape,k.output.trans h.output,Nat.le_trans h.size k.size,fun i o hi ho=>k.block i o (h.block i o hi ho) ho⟩
theorem Ak.of_below {p:Obj->Bool} {C:Nat->Prop} {n₀:Nat} {X Yz:Y} (h:Below X.heap.size X Yz):Ak p C n₀ X Yz:=
 ⟨h.os,h.tape,h.output,h.size,fun i _ hi _=>(h.block i (Gl hi)).trans hi⟩
theorem Ak.alloc {p:Obj->Bool} {C:Nat->Prop} {n₀:Nat} (X:Y) (o:Obj):Ak p C n₀ X (X.alloc o):=Ak.of_below ((Bq _ X).alloc Nr o)
theorem Ak.drew {p:Obj->Bool} {C:Nat->Prop} {n₀:Nat} (X:Y):Ak p C n₀ X X.drew:=Ak.of_below ((Bq _ X).drew)
theorem Ak.walks {C:Nat->Prop} {n₀:Nat} {X Yz:Y} (h:Ak AH C n₀ X Yz):Ak Obj.isWalk C n₀ X Yz:=
 ⟨h.os,h.tape,h.output,h.size,fun i o hi ho=>h.block i o hi (ho.imp id (fun k=>k.imp id (fun hw=>by simp[AH,Obj.not_cells_of_walk hw])))⟩
theorem Ak.putObj {C:Nat->Prop} {n₀:Nat} {X:Y} {l:Nat} {o:Obj} (o':Obj) (hl:X.heap[l]? =F o) (hB:n₀<=l) (hC:¬C l) (ho:o.isWalk=false):Ak Obj.isWalk C n₀ X (X.putObj l o'):=
 ⟨rfl,rfl,rfl,by simp,fun i u hi hu=>by
  refine(World.putObj_heap_other ?_).trans hi;rintro rfl;rw[hl] at hi;cases hi;rcases hu with hu | hu | hu
  ·omega
  ·exact hC hu
  ·rw[ho] at hu;cases hu⟩
theorem Ak.setCell {C:Nat->Prop} {n₀:Nat} (X:Y) (a:Addr) (v:Value) (hB:n₀<=a.block) (hC:¬C a.block):Ak AH C n₀ X (X.setCell a v):=
 ⟨rfl,rfl,rfl,by simp[World.setCell],fun i u hi hu=>by
  by_cases e:i=a.block
  ·subst e;rcases hu with hu | hu | hu
   ·omega
   ·exact absurd hu hC
   ·exact(KeepsOthers.setCell X a v).same _ _ hi (by simpa[AH] using hu)
  ·exact(Bh X a v i e).trans hi⟩
theorem Ak.grown {C:Nat->Prop} {n₀:Nat} {X Yz:Y} {row:Option Nat} (hg:X.grownBy Yz row) (hr:∀ k,row=F k->n₀<=k/\¬C k/\∀ o,X.heap[k]? =F o->o.isCells=true):Ak AH C n₀ X Yz:=
 ⟨hg.os,hg.tape,hg.output,hg.size,fun i o hi ho=>by
  refine(hg.block i (Gl hi) ?_).trans hi;rintro e;obtain⟨h1,h2,h3⟩:=hr i e.symm;rcases ho with ho | ho | ho
  ·omega
  ·exact h2 ho
  ·rw[AH,h3 o hi] at ho;cases ho⟩
theorem Ak.below {p:Obj->Bool} {C:Nat->Prop} {n₀ n:Nat} {X Yz w:Y} (h:Ak p C n₀ X Yz) (hb:Below n w X) (hn0:n<=n₀) (hn:n<=w.heap.size):Below n w Yz:=
 ⟨h.os.trans hb.os,h.tape.trans hb.tape,h.output.trans hb.output,Nat.le_trans hb.size h.size,fun k hk=>by
  have hlt:k<X.heap.size:=Nat.lt_of_lt_of_le hk (Nat.le_trans hn hb.size);have hX:X.heap[k]? =F X.heap[k]:=Array.getElem?_eq_getElem hlt;exact((h.block k _ hX (.inl (by omega))).trans hX.symm).trans (hb.block k hk)⟩
theorem Ak.heap {p:Obj->Bool} {C:Nat->Prop} {n₀:Nat} {X Yz:Y} (h:Ak p C n₀ X Yz) {k:Nat} {o:Obj} (hk:X.heap[k]? =F o) (ho:k<n₀\/C k\/p o=true):Yz.heap[k]? =F o:=h.block k o hk ho
theorem Ak.cell {p:Obj->Bool} {C:Nat->Prop} {n₀:Nat} {X Yz:Y} (h:Ak p C n₀ X Yz) {k off:Nat} {v:Value} (hk:X.cell? ⟨k,off,O⟩=F v) (hc:k<n₀\/C k):Yz.cell? ⟨k,off,O⟩=F v:=by
 obtain⟨o,ho,hco⟩:=cells_of_cell hk;exact(World.cell?_of_block (w:=X) (a:=⟨k,off,O⟩) ((h.heap ho (hc.imp id .inl)).trans ho.symm)).trans hk
theorem Ak.frozen {p:Obj->Bool} {C:Nat->Prop} {n₀:Nat} {X Yz:Y} (h:Ak p C n₀ X Yz) {k off:Nat} {v:Value} {b:Bool} (hk:X.cell? ⟨k,off,O⟩=F v) (hf:X.frozen? ⟨k,off,O⟩=b) (hc:k<n₀\/C k):Yz.frozen? ⟨k,off,O⟩=b:=by
 obtain⟨o,ho,hco⟩:=cells_of_cell hk;exact(World.frozen?_of_block (w:=X) (a:=⟨k,off,O⟩) ((h.heap ho (hc.imp id .inl)).trans ho.symm)).trans hf
theorem Aj {C:Nat->Prop} {B:Nat} {X Yz:Y} {k:Nat} {t:TypeId} {v:Value} (h:Boxed X k t v) (ht:Au C B X Yz) (hc:¬C k):Boxed Yz k t v:=ht.heap h hc rfl
theorem Ab {X Yz:Y} {k:Nat} {t:TypeId} {v:Value} (h:Boxed X k t v) (hb:Below X.heap.size X Yz):Boxed Yz k t v:=(hb.block k h.lt).trans h
theorem I6 {p:Obj->Bool} {C:Nat->Prop} {n₀:Nat} {X Yz:Y} {k:Nat} {t:TypeId} {v:Value} (h:Boxed X k t v) (hk:Ak p C n₀ X Yz) (hc:k<n₀\/C k):Boxed Yz k t v:=hk.heap h (hc.imp id .inl)
theorem AR {X:Y} {D k:Nat} {t:TypeId} {v:Value} {ds:List Deferred} (h:Boxed X k t v) (hD:X.heap[D]? =F (.deferred (F ds))) (o:Obj):Boxed (X.putObj D o) k t v:=
 (World.putObj_heap_other (fun e=>by subst e;rw[show X.heap[k]? =_ from h] at hD;cases hD)).trans h
theorem CY {n D:Nat} {w X:Y} {ds:List Deferred} (h:Below n w X) (hD:X.heap[D]? =F (.deferred (F ds))) (hn:n<=w.heap.size) (hl:n<=D) (o:Obj):Below n w (X.putObj D o):=
 Au.below (C:=fun _=>False) (B:=D) (Au.putObj o hD Nr rfl) h (fun _ hc=>hc.elim) hl hn
def Afy {α:Type} (P:Program) (gf:Nat) (lb:Array Value) (encs:α->Array Value) (C:Nat->Prop) (n₀:Nat) (xs:List α) (St:Y->Prop):Prop:=
 ∀ (l:Nat) (Jz Jx:List α->Y->Prop) (W:Y),St W->(∀ s X Yz,Jz s X->Au C W.heap.size X Yz->Jz s Yz)->(∀ s X Yz,Jx s X->Au C W.heap.size X Yz->Jx s Yz)→
  (∀ pre x W1,Jz pre W1->pre++[x]<+:xs->YieldAt Fence.wide 0 P l (encs x) W1 fun e W'=>
   (e=.returned (.bool true)/\Jz (pre++[x]) W'/\Ak Obj.isWalk C n₀ W1 W')\/(e=.returned (.bool false)/\Jx (pre++[x]) W'/\Ak Obj.isWalk C n₀ W1 W'))→
  Jz [] W→
  CallsIn Fence.wide 0 P gf (#[.func (.yield l) #[] #[]]++lb) W fun e W'=>(∃ v,e=.returned v)/\(Jz xs W'\/∃ pre,pre<+:xs/\Jx pre W')
def Adc {α:Type} (C:Nat->Prop) (n₀:Nat) (Iz:List α->Y->Prop) (Ix:Code->List α->Y->Prop) (s:List α) (W:Y):Exit->Act->Y->Prop
 | .normal,_,W'=>Ak AH C n₀ W W'/\Iz s W'
 | .ret,_,W'=>Ak AH C n₀ W W'/\Ix .ret s W'
 | .exit id,_,W'=>Ak AH C n₀ W W'/\Ix (.exit id) s W'
 | .goto t,_,W'=>Ak AH C n₀ W W'/\Ix (.goto t) s W'
 | .panic _,_,_=>False
 | .outgrown,_,_=>False
variable {P:Program}
theorem EU {α:Type} {g:Operand} {ps:Array Tmp} {assign body:Code} {Qz:Exit->Act->Y->Prop} {a:Act} {w:Y}
  {gf:Nat} {lb:Array Value} (hg:a.eval g=.func (.func gf) #[] lb) (eg:∀ args w,(callFunc gf args).run P w=.ok (.enter gf args) w)
  {encs:α->Array Value} {C:Nat->Prop} {n₀:Nat} {xs:List α} {St:Y->Prop} (hseq:Afy P gf lb encs C n₀ xs St)
  (hst:∀ Yz,Below w.heap.size w Yz->St Yz) (hC:∀ k,C k->k<w.heap.size) (hn:n₀<=w.heap.size) (hps:∀ x,(encs x).size=ps.size)
  (Iz:List α->Y->Prop) (Ix:Code->List α->Y->Prop) (hI:∀ s X Yz,Iz s X->Au C w.heap.size X Yz->Iz s Yz) (hIx:∀ c s X Yz,Ix c s X->Au C w.heap.size X Yz->Ix c s Yz) (h0:Iz [] w)
  (hround:∀ (l:Nat) (pre:List α) (x:α) (W:Y),w.heap.size<=l->Iz pre W->pre++[x]<+:xs→
   assign.wpIn (Fence.wide.inRound l) 0 P (Exit.then (fun a' W'=>Ak AH C n₀ W W'/\∀ Wb,Au C w.heap.size W' Wb->(∃ r,Wb.heap[l]? =F (.loop r))->body.wpIn (Fence.wide.inRound l) 0 P (Adc C n₀ Iz Ix (pre++[x]) Wb) a' Wb) (fun _ _ _=>False))
    {tmps:=(ps.zip (encs x)).foldl (fun t (p,v)=>t.setIfInBounds p v) a.tmps,defers:=[]} W)
  (hdone:∀ (D:Nat) (W:Y),w.heap.size<=D->Iz xs W->W.heap[D]? =F (.deferred (F []))->Qz .normal {a with defers:={target:=.collected D,args:=#[]}::a.defers} W)
  (hstop:∀ (D:Nat) (c:Code) (pre:List α) (W:Y),w.heap.size<=D->pre<+:xs->Ix c pre W->W.heap[D]? =F (.deferred (F []))->c.wpIn Fence.wide 0 P Qz {a with defers:={target:=.collected D,args:=#[]}::a.defers} W):
  (Code.rangeFunc g ps assign body).wpIn Fence.wide 0 P Qz a w:=by
 refine wpIn_rangeFunc (fun fn hfn=>?_);obtain⟨rec,hrec⟩:∃ rec:LoopState->Option Code->Loop,rec=fun st pe=>{state:=st,pending:=pe,fn,tmps:=a.tmps,params:=ps,assign,body,defers:=w.heap.size}:=⟨_,rfl⟩
 obtain⟨W1,hW1⟩:∃ W1,(w.alloc (.deferred (F []))).alloc (.loop (rec .ready O))=W1:=⟨_,rfl⟩
 have hz1:W1.heap.size=w.heap.size+1+1:=by rw[<- hW1];simp
 have hL1:W1.heap[w.heap.size+1]? =F (.loop (rec .ready O)):=by
  rw[<- hW1];have:=Wn (w.alloc (.deferred (F []))) (.loop (rec .ready O));rwa [World.size_alloc] at this
 have hD1:W1.heap[w.heap.size]? =F (.deferred (F [])):=by
  rw[<- hW1];exact(Below.heap_alloc _ _ _ (by simp)).trans (Wn w _)
 have hB1:Below w.heap.size w W1:=by
  rw[<- hW1];exact((Bq _ w).alloc Nr _).alloc (by simp) _
 have hI1:Iz [] W1:=by rw[<- hW1];exact hI _ _ _ (hI _ _ _ h0 (Au.alloc _ _)) (Au.alloc _ _)
 have hCl:¬C (w.heap.size+1):=fun h=>by have:=hC _ h;omega
 have hCD:¬C w.heap.size:=fun h=>by have:=hC _ h;omega
 refine⟨w.heap.size+1,[{target:=.collected w.heap.size,args:=#[]}],W1,{target:=.fn (.func gf) lb,args:=#[.func (.yield (w.heap.size+1)) #[] #[]]},W1,gf,
  #[.func (.yield (w.heap.size+1)) #[] #[]]++lb,W1,?_,?_,?_,?_,fun h=>by simp[Fence.wide] at h,?_⟩
 ·rw[<- hW1,hrec];exact run_enterLoop_outer _ _ _ _ _
 ·simp only[resolve,hg]
  simp[go_sem]
 ·intro f' _;trivial
 ·simp[invoke,go_sem,eg]
 refine(hseq (w.heap.size+1)
  (fun pre W=>Iz pre W/\W.heap[w.heap.size+1]? =F (.loop (rec .ready O))/\W.heap[w.heap.size]? =F (.deferred (F [])))
  (fun pre W=>∃ c,Ix c pre W/\W.heap[w.heap.size+1]? =F (.loop (rec .done (F c)))/\W.heap[w.heap.size]? =F (.deferred (F [])))
  W1 (hst _ hB1)
  (fun s X Yz hs ht=>⟨hI _ _ _ hs.1 (ht.mono (by omega)),ht.old hs.2.1 hCl (by omega),ht.old hs.2.2 hCD (by omega)⟩)
  (fun s X Yz hs ht=>by
   obtain⟨c,hc,hl,hk⟩:=hs;exact⟨c,hIx _ _ _ _ hc (ht.mono (by omega)),ht.old hl hCl (by omega),ht.old hk hCD (by omega)⟩)
  ?_ ⟨hI1,hL1,hD1⟩).mono ?_
 ·rintro pre x W ⟨hi,hl,hk⟩ hpre;have hy:=run_yield (P:=P) (args:=encs x) hl (by rw[hrec];exact hps x);rw[hrec] at hy;refine⟨fn,_,assign,body,hy,roundIn_of_wpIn hfn (wpIn_mono (hround _ pre x W (by omega) hi hpre) ?_)⟩;clear hy;intro e0 a' Wa he0;cases e0 with
  | normal=>?_
  | _=>exact he0.elim
  obtain⟨hka,hbd⟩:=he0;have hla:Wa.heap[w.heap.size+1]? =F (.loop (rec .ready O)):=hka.heap hl (.inr (.inr rfl));have hDa:Wa.heap[w.heap.size]? =F (.deferred (F [])):=hka.heap hk (.inr (.inr rfl));have hlt:w.heap.size+1<Wa.heap.size:=(Gl hla)
  refine⟨_,run_beginRound hla (by rw[hrec]),?_⟩;obtain⟨Wb,hWb⟩:∃ Wb,Wa.putObj (w.heap.size+1) (.loop {rec .ready O with state:=.busy})=Wb:=⟨_,rfl⟩
  have hl2:Wb.heap[w.heap.size+1]? =F (.loop {rec .ready O with state:=.busy}):=by rw[<- hWb];exact World.putObj_heap_same hlt
  have hD2:Wb.heap[w.heap.size]? =F (.deferred (F [])):=by rw[<- hWb];exact(World.putObj_heap_other (by omega)).trans hDa
  have hk2:Ak Obj.isWalk C n₀ Wa Wb:=by rw[<- hWb];exact Ak.putObj _ hla (by omega) hCl rfl
  have hta:Au C w.heap.size Wa Wb:=by rw[<- hWb];exact Au.putObj _ hla (by omega) rfl
  rw[hWb];refine wpIn_mono (hbd Wb hta ⟨_,hl2⟩) ?_;have fin:∀ (jump:Option Code) (W3:Y),Ak AH C n₀ Wb W3→
    (Instr.endRound (w.heap.size+1) jump).run P W3=.ok (.bool jump.isNone) (W3.putObj (w.heap.size+1) (.loop (rec (if jump.isNone then .ready else .done) jump)))∧
    (W3.putObj (w.heap.size+1) (.loop (rec (if jump.isNone then .ready else .done) jump))).heap[w.heap.size+1]? =F (.loop (rec (if jump.isNone then .ready else .done) jump))∧
    (W3.putObj (w.heap.size+1) (.loop (rec (if jump.isNone then .ready else .done) jump))).heap[w.heap.size]? =F (.deferred (F []))∧
    Au C w.heap.size W3 (W3.putObj (w.heap.size+1) (.loop (rec (if jump.isNone then .ready else .done) jump)))∧
    Ak Obj.isWalk C n₀ W3 (W3.putObj (w.heap.size+1) (.loop (rec (if jump.isNone then .ready else .done) jump))):=fun jump W3 hk3=>by
   have hl3:W3.heap[w.heap.size+1]? =F (.loop {rec .ready O with state:=.busy}):=hk3.heap hl2 (.inr (.inr rfl));have hD3:W3.heap[w.heap.size]? =F (.deferred (F [])):=hk3.heap hD2 (.inr (.inr rfl));have hr:=run_endRound (P:=P) jump hl3;rw[hrec] at hr |-;exact⟨hr,World.putObj_heap_same (Gl hl3),(World.putObj_heap_other (by omega)).trans hD3,Au.putObj _ hl3 (by omega) rfl,Ak.putObj _ hl3 (by omega) hCl rfl⟩
  rintro e a3 W3 hp;cases e with
  | normal=>
   obtain⟨hr,hl4,hD4,ht4,hk4⟩:=fin O W3 hp.1;exact⟨_,_,hr,.inl ⟨rfl,⟨hI _ _ _ hp.2 ht4,hl4,hD4⟩,((hka.walks.trans hk2).trans hp.1.walks).trans hk4⟩⟩
  | ret=>
   obtain⟨hr,hl4,hD4,ht4,hk4⟩:=fin (F .ret) W3 hp.1;exact⟨_,_,hr,.inr ⟨rfl,⟨.ret,hIx _ _ _ _ hp.2 ht4,hl4,hD4⟩,((hka.walks.trans hk2).trans hp.1.walks).trans hk4⟩⟩
  | exit id=>
   obtain⟨hr,hl4,hD4,ht4,hk4⟩:=fin (F (.exit id)) W3 hp.1;exact⟨_,_,hr,.inr ⟨rfl,⟨.exit id,hIx _ _ _ _ hp.2 ht4,hl4,hD4⟩,((hka.walks.trans hk2).trans hp.1.walks).trans hk4⟩⟩
  | goto t=>
   obtain⟨hr,hl4,hD4,ht4,hk4⟩:=fin (F (.goto t)) W3 hp.1;exact⟨_,_,hr,.inr ⟨rfl,⟨.goto t,hIx _ _ _ _ hp.2 ht4,hl4,hD4⟩,((hka.walks.trans hk2).trans hp.1.walks).trans hk4⟩⟩
  | panic ch=>exact hp.elim
  | outgrown=>exact hp.elim
 ·rintro e W2 ⟨⟨v,rfl⟩,(⟨hi,hl,hk⟩ | ⟨pre,hpre,c,hi,hl,hk⟩)⟩
  ·refine⟨O,_,by have:=run_endLoop (P:=P) hl (by rw[hrec];simp);rw[hrec] at this;exact this,hdone _ _ Nr (hI _ _ _ hi (Au.putObj _ hl (by omega) rfl)) ((World.putObj_heap_other (by omega)).trans hk)⟩
  ·refine⟨F c,_,by have:=run_endLoop (P:=P) hl (by rw[hrec];simp);rw[hrec] at this;exact this,hstop _ c pre _ Nr hpre (hIx _ _ _ _ hi (Au.putObj _ hl (by omega) rfl)) ((World.putObj_heap_other (by omega)).trans hk)⟩
#print axioms EU
end
section
theorem hid {p:Prop} (h:p):RowKit.Hid p:=h
theorem ID (f:FuncId):Fence.wide.fn f=True:=rfl
theorem EE:Fence.wide.depth=O:=rfl
theorem EM {w:Y} {b:Nat} {t:TypeId} {v0 v1 v2:Value} (h:w.heap[b]? =F (.cells #[v0,v1,v2] t)):
  w.cell? ⟨b,0,O⟩=F v0/\w.cell? ⟨b,1,O⟩=F v1/\w.cell? ⟨b,2,O⟩=F v2/\w.frozen? ⟨b,0,O⟩=false/\w.frozen? ⟨b,1,O⟩=false/\w.frozen? ⟨b,2,O⟩=false:=by
 simp[World.cell?,World.frozen?,h]
theorem Eq (w:Y) (o:Obj) {w':Y} (hb:Below (w.alloc o).heap.size (w.alloc o) w'):w'.heap[w.heap.size]? =F o:=
 (hb.block _ (by simp)).trans (Wn w o)
theorem AW {w w':Y} {k:Nat} {o:Obj} (h:w.heap[k]? =F o) (hb:Below w.heap.size w w'):w'.heap[k]? =F o:=
 (hb.block k (Gl h)).trans h
structure BU (w:Y):Prop where
 sz:7<w.heap.size
 u8:Lib.Utf8Tabs 2 3 w
 pow:Lib.TabIs Tryz.prog w "internal/strconv.uint64pow10" .u64 Lib.pow10Tab
 syn:∃ te pe,w.cell? ⟨5,0,O⟩=F (.iface te pe)
 rng:∃ te pe,w.cell? ⟨6,0,O⟩=F (.iface te pe)
theorem K9 {w:Y} {k o:Nat} {v:Value} (h:w.cell? ⟨k,o,O⟩=F v):k<w.heap.size:=by
 obtain⟨x,hx,_⟩:=cells_of_cell h;exact(Gl hx)
theorem cell_below {w w':Y} {k o:Nat} {v:Value} (h:w.cell? ⟨k,o,O⟩=F v) (hb:Below w.heap.size w w'):w'.cell? ⟨k,o,O⟩=F v:=
 (hb.cell (p:=⟨k,o,O⟩) (K9 h)).trans h
theorem K5 {w w':Y} {k o:Nat} {v:Value} {b:Bool} (h:w.cell? ⟨k,o,O⟩=F v) (hf:w.frozen? ⟨k,o,O⟩=b) (hb:Below w.heap.size w w'):w'.frozen? ⟨k,o,O⟩=b:=
 (hb.frozen (p:=⟨k,o,O⟩) (K9 h)).trans hf
theorem BU.below {w w':Y} (h:BU w) (hb:Below w.heap.size w w'):BU w':=by
 refine⟨Nat.lt_of_lt_of_le h.sz hb.size,⟨fun c hc=>cell_below (h.u8.1 c hc) hb,fun i hi=>⟨cell_below (h.u8.2 i hi).1 hb,cell_below (h.u8.2 i hi).2 hb⟩⟩,?_,?_,?_⟩
 ·exact var?_below (g:=7) hb (by kernel_rfl) h.sz h.pow
 ·obtain⟨te,pe,hc⟩:=h.syn;exact⟨te,pe,cell_below hc hb⟩
 ·obtain⟨te,pe,hc⟩:=h.rng;exact⟨te,pe,cell_below hc hb⟩
end
end Go.Proofs.YtdpppepmkeinaaaGreatDoor
