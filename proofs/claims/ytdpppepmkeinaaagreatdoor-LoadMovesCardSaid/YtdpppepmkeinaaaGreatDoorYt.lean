/- What is proved: a part of the walk of the program and of its plain laws; no condition beside those that each theorem names. -/
import Derived.Test.YtdpppepmkeinaaaGreatDoorYs
import Derived.Test.YtdpppepmkeinaaaGreatDoorYa
namespace Go.Proofs.YtdpppepmkeinaaaGreatDoor
open Go Go.RowKit Go.Lib
open Go.Value renaming int->I,string->Q,slice->Z
open Go.IntKind renaming i64->J
open Option renaming none->O,some->F
open _root_.Go renaming World->Y
set_option linter.unusedSimpArgs false
set_option linter.unusedVariables false
set_option linter.unusedSectionVars false
section
def Q3 (b:Nat) (o:Obj):Aw:=⟨fun Fz w=>Fz b/\w.heap[b]? =F o,fun Fz w w' h x=>⟨x.1,(h b x.1).trans x.2⟩⟩
def star (A:List Aw):Aw:=⟨fun Fz w=>Cq A w Fz,fun Fz w w' h x=>x.mono (fun _ hb=>hb) h⟩
def JB {β:Type} (f:β->Aw):Aw:=⟨fun Fz w=>∃ x,(f x).is Fz w,fun Fz w w' h ⟨x,hx⟩=>⟨x,(f x).loc Fz w w' h hx⟩⟩
theorem Cq.split:∀ {A B:List Aw} {w:Y} {G:Nat->Prop},Cq (A++B) w G->∃ Fz:Nat->Prop,Cq A w Fz/\(∀ b,Fz b->G b)/\Cq B w (fun b=>G b/\¬Fz b)
 | [],B,w,G,h=>⟨fun _=>False,trivial,fun _ e=>e.elim,h.mono (fun b hb=>⟨hb,fun e=>e⟩) (fun _ _=>rfl)⟩
 | X::A,B,w,G,⟨Fz,h1,h2,h3⟩=>by
  obtain⟨F',k1,k2,k3⟩:=Cq.split (A:=A) h3;exact⟨fun b=>Fz b\/F' b,⟨Fz,h1,fun b hb=>.inl hb,k1.mono (fun b hb=>⟨.inr hb,(k2 b hb).2⟩) (fun _ _=>rfl)⟩,fun b hb=>hb.elim (h2 b) (fun hb=>(k2 b hb).1),
   k3.mono (fun b hb=>⟨hb.1.1,fun e=>e.elim hb.1.2 hb.2⟩) (fun _ _=>rfl)⟩
theorem Cq.join:∀ {A B:List Aw} {w:Y} {Fz G:Nat->Prop},Cq A w Fz->(∀ b,Fz b->G b)->Cq B w (fun b=>G b/\¬Fz b)->Cq (A++B) w G
 | [],B,w,Fz,G,_,_,h=>h.mono (fun b hb=>hb.1) (fun _ _=>rfl)
 | X::A,B,w,Fz,G,⟨F1,h1,h2,h3⟩,hg,hb=>⟨F1,h1,fun b hb=>hg b (h2 b hb),Cq.join (A:=A) h3 (fun b hb=>⟨hg b hb.1,hb.2⟩) (hb.mono (fun b hb=>⟨⟨hb.1,fun e=>hb.2 (h2 b e)⟩,fun e=>hb.2 e.1⟩) (fun _ _=>rfl))⟩
theorem Cq.flip {A B:List Aw} {w:Y} {G:Nat->Prop} (h:Cq (A++B) w G):Cq (B++A) w G:=by
 obtain⟨Fz,h1,h2,h3⟩:=h.split;exact h3.join (fun b hb=>hb.1) (h1.mono (fun b hb=>⟨h2 b hb,fun e=>e.2 hb⟩) (fun _ _=>rfl))
theorem Cq.pack {A B:List Aw} {w:Y} {G:Nat->Prop} (h:Cq (A++B) w G):Cq (A++[star B]) w G:=by
 obtain⟨Fz,h1,h2,h3⟩:=h.split;exact h1.join h2 ⟨_,h3,fun b hb=>hb,trivial⟩
theorem Cq.unpack {A B:List Aw} {w:Y} {G:Nat->Prop} (h:Cq (A++[star B]) w G):Cq (A++B) w G:=by
 obtain⟨Fz,h1,h2,F',h3,h4,_⟩:=h.split;exact h1.join h2 (Cq.mono (A:=B) h3 h4 (fun _ _=>rfl))
theorem Cq.swap {A B Zz:List Aw} {w:Y} {G:Nat->Prop} (h:Cq (A++(B++Zz)) w G):Cq (B++(A++Zz)) w G:=by
 obtain⟨Fz,h1,h2,h3⟩:=h.split;obtain⟨F',k1,k2,k3⟩:=h3.split;exact k1.join (fun b hb=>(k2 b hb).1) (h1.join (fun b hb=>⟨h2 b hb,fun e=>(k2 b e).2 hb⟩) (k3.mono (fun b hb=>⟨⟨hb.1.1,hb.2⟩,hb.1.2⟩) (fun _ _=>rfl)))
def Fr (w w':Y) (X:List Aw):Prop:=Below w.heap.size w w'/\Cq X w' (fun b=>w.heap.size<=b/\b<w'.heap.size)
theorem Mem.fr {C:Nat->Prop} {w0 w w':Y} {A X:List Aw} (h:Mem C w0 A w) (hf:Fr w w' X):Mem C w0 (X++A) w':=
 ⟨(h.below hf.1).1,hf.2.join (fun b hb=>⟨hb.2,.inl (Nat.le_trans h.1.size hb.1)⟩) (h.2.mono (fun b hb=>⟨⟨Nat.lt_of_lt_of_le hb.1 hf.1.size,hb.2⟩,fun e=>by have:=e.1;have:=hb.1;omega⟩) (fun b hb=>hf.1.block b hb.1))⟩
theorem Mem.to_fr {w w':Y} {A:List Aw} (h:Mem A5 w A w'):Fr w w' A:=⟨h.1.below,h.2.mono (fun b hb=>⟨hb.2.elim id (fun e=>e.elim),hb.1⟩) (fun _ _=>rfl)⟩
theorem E5.last {X X':Aw}:∀ A:List Aw,E5 X X' (A++[X]) (A++[X'])
 | []=>.hd
 | _::A=>.tl (E5.last A)
def yst:List Aw->Aw->Aw
 | [],Jz=>Jz
 | X,Jz=>star (X++[Jz])
theorem Agi {X:List Aw} {Jz:Aw} {Fz:Nat->Prop} {w:Y} (h:(yst X Jz).is Fz w):Cq (X++[Jz]) w Fz:=by
 cases X with
 | nil=>exact⟨Fz,h,fun _ hb=>hb,trivial⟩
 | cons _ _=>exact h
theorem Ah9 {Yz L B:List Aw} {Fz:Nat->Prop} {w:Y} (h:(star (L++(Yz++B))).is Fz w):(yst Yz (star (L++B))).is Fz w:=by
 cases Yz with
 | nil=>exact h
 | cons _ _=>exact Cq.pack (Cq.swap h)
def Q4 (P:Program) (l:Nat) (vs:Array Value) (w0:Y) (G:Nat->Prop) (Jz J' Jx:Aw):Prop:=
 ∀ (w:Y) (Fz:Nat->Prop),B4 G w0 w->Jz.is Fz w->(∀ b,Fz b->b<w.heap.size/\(w0.heap.size<=b\/G b))->YieldAt Fence.wide 0 P l vs w fun e w'=>B4 Fz w w'/\∃ F':Nat->Prop,(∀ b,F' b->b<w'.heap.size/\(Fz b\/w.heap.size<=b))∧
  ((e=.returned (.bool true)/\J'.is F' w')\/(e=.returned (.bool false)/\Jx.is F' w'))
def WV {α:Type} (P:Program) (gf:Nat) (lb:Array Value) (enc:α->List Value) (X:α->List Aw) (Yz Iz:List α->List Aw) (Adm:List α->α->Prop) (Fin:List α->Prop) (St:Y->(Nat->Prop)->Prop):Prop:=
 ∀ (l:Nat) (Jz Jx:List α->Aw) (w:Y) (G:Nat->Prop),St w G->Cq (Iz []++[Jz []]) w G->(∀ b,G b->b<w.heap.size)→
  (∀ pre x,Adm pre x->Q4 P l (enc x).toArray w G (yst (X x) (Jz pre)) (yst (Yz (pre++[x])) (Jz (pre++[x]))) (Jx (pre++[x])))→
  CallsIn Fence.wide 0 P gf (#[.func (.yield l) #[] #[]]++lb) w fun e w'=>(∃ v,e=.returned v)/\B4 G w w'/\∃ G':Nat->Prop,(∀ b,G' b->b<w'.heap.size/\(G b\/w.heap.size<=b))∧
   ((∃ xs,Fin xs/\Cq (Iz xs++[Jz xs]) w' G')\/∃ pre,(Jx pre).is G' w')
abbrev Jl {α:Type} (P:Program) (gf:Nat) (lb:Array Value) (enc:α->List Value) (X:α->List Aw) (Iz:List α->List Aw) (Adm:List α->α->Prop) (Fin:List α->Prop) (St:Y->(Nat->Prop)->Prop):Prop:=WV P gf lb enc X (fun _=>[]) Iz Adm Fin St
def penv:List Nat->List Value->Env->Env
 | p::ps,v::vs,l=>penv ps vs ((p,v)::l)
 | _,_,l=>l
theorem Kn.penv {n:Nat} {ds:List Deferred}:∀ (ps:List Nat) (vs:List Value) (l:Env) (a:Act),Kn n ds l a->(∀ p∈ps,p<n)->Kn n ds (penv ps vs l) {a with tmps:=(ps.zip vs).foldl (fun t (p,v)=>t.setIfInBounds p v) a.tmps}
 | [],_,l,a,h,_=>h
 | p::ps,[],l,a,h,_=>h
 | p::ps,v::vs,l,a,h,hp=>Kn.penv ps vs _ _ (h.put (hp p (List.mem_cons_self ..)) v) (fun q hq=>hp q (List.mem_cons_of_mem _ hq))
def mark (D:Nat):Deferred:={target:=.collected D,args:=#[]}
def rq (C:Nat->Prop) (w0:Y) (B:List Aw) (Bx:Code->List Aw) (T:Aw):Exit->Act->Y->Prop
 | .normal,_,w=>Mem C w0 (B++[T]) w
 | .ret,_,w=>Mem C w0 (Bx .ret++[T]) w
 | .exit i,_,w=>Mem C w0 (Bx (.exit i)++[T]) w
 | _,_,_=>False
def lo (l D:Nat) (o:Obj):List Aw:=[Q3 l o,Q3 D (.deferred (F []))]
theorem lo_put {l D:Nat} {o o':Obj} {A:List Aw} {w:Y} {Fz:Nat->Prop} (h:Cq (lo l D o++A) w Fz):w.heap[l]? =F o/\Fz l/\Cq (lo l D o'++A) (w.putObj l o') Fz:=by
 obtain⟨F1,⟨a1,a2⟩,a3,F2,⟨b1,b2⟩,b3,b4⟩:=h;have hlt:l<w.heap.size:=(Gl a2)
 have hoth:∀ b,¬F1 b->(w.putObj l o').heap[b]? =w.heap[b]? :=fun b hb=>World.putObj_heap_other (fun e=>hb (by subst e;exact a1));exact⟨a2,a3 l a1,F1,⟨a1,World.putObj_heap_same hlt⟩,a3,F2,⟨b1,(hoth D (b3 D b1).2).trans b2⟩,b3,b4.mono (fun _ hb=>hb) (fun b hb=>hoth b hb.1.2)⟩
theorem B4.put {l:Nat} {o':Obj} {w:Y} {Fz:Nat->Prop} (h:Fz l):B4 Fz w (w.putObj l o'):=⟨rfl,rfl,rfl,by simp,fun k _ hn=>World.putObj_heap_other (fun e=>hn (by subst e;exact h))⟩
theorem Mem.lo_put {l D:Nat} {o:Obj} (o':Obj) {A:List Aw} {C:Nat->Prop} {w0 w:Y} (h:Mem C w0 (A++[star (lo l D o)]) w):w.heap[l]? =F o/\Mem C w0 (A++[star (lo l D o')]) (w.putObj l o'):=by
 obtain⟨Fz,h1,h2,h3⟩:=h.rep (E5.last (X':=star (lo l D o')) A);have h1':Cq (lo l D o++[]) w Fz:=by rw[List.append_nil];exact h1
 obtain⟨a1,a2,a3⟩:=Go.Proofs.YtdpppepmkeinaaaGreatDoor.lo_put (o':=o') h1';rw[List.append_nil] at a3;exact⟨a1,h3 Fz _ a3 (B4.put a2) (fun b hb=>⟨by simpa using (h2 b hb).1,.inl hb⟩)⟩
section
variable {P:Program} {Qr Qr':Exit->Act->Y->Prop} {Fz:Fence} {n:Nat} {ds:List Deferred} {k k':List KL} {l:Env} {C:Nat->Prop} {w0:Y} {A:List Aw}
inductive Lst (T T':Aw):List Aw->List Aw->Prop
 | nil:Lst T T' [T] [T']
 | cons {Yz:Aw} {r r':List Aw} (h:Lst T T' r r'):Lst T T' (Yz::r) (Yz::r')
theorem Lst.eq {T T':Aw} {r r':List Aw} (h:Lst T T' r r'):∃ A,r=A++[T]/\r'=A++[T']:=by
 induction h with
 | nil=>exact⟨[],rfl,rfl⟩
 | cons h ih=>obtain⟨A,rfl,rfl⟩:=ih;exact⟨_::A,rfl,rfl⟩
theorem V.mid {R:Y->Y->Prop} {T T':Aw} {A':List Aw} (hm:∀ A w,Mem C w0 (A++[T]) w->∃ w',R w w'/\Mem C w0 (A++[T']) w') (hb:V P Fz Qr' n ds k' (Mem C w0 A') l) (h:IP 400 O k=.out (fun a w=>∃ w',R w w'/\td P Fz Qr' O k' a w'):=by rfl) (hl:Lst T T' A A':=by repeat (first | exact .nil | apply Lst.cons)):V P Fz Qr n ds k (Mem C w0 A) l:=
 V.at h fun a w ha hw=>by
  obtain⟨A0,rfl,rfl⟩:=hl.eq;obtain⟨w',h1,h2⟩:=hm A0 w hw;exact⟨w',h1,hb a w' ha h2⟩
theorem V.rn {B:List Aw} {Bx:Code->List Aw} {T:Aw} (h:IP 400 O k=.fin:=by rfl) (hs:PK (B++[T]) A:=by repeat (first | exact PK.nil | (apply PK.cons;(repeat (first | exact Pk.hd | apply Pk.tl))))):V P Fz (rq C w0 B Bx T) n ds k (Mem C w0 A) l:=V.at h fun _ _ _ hw=>hw.sel hs
theorem V.rr {B:List Aw} {Bx:Code->List Aw} {T:Aw} (h:IP 400 O k=.ret:=by rfl) (hs:PK (Bx .ret++[T]) A:=by repeat (first | exact PK.nil | (apply PK.cons;(repeat (first | exact Pk.hd | apply Pk.tl))))):V P Fz (rq C w0 B Bx T) n ds k (Mem C w0 A) l:=V.at h fun _ _ _ hw=>hw.sel hs
theorem V.range {α:Type} {gf:Nat} {lb:Array Value} {enc:α->List Value} {X:α->List Aw} {Yz Iz:List α->List Aw} {Adm:List α->α->Prop} {Fin:List α->Prop} {St:Y->(Nat->Prop)->Prop} {g:Operand} {ps:Array Tmp} {assign body:Code}
  (hi:WV P gf lb enc X Yz Iz Adm Fin St) (B:List α->List Aw) (Bx:Code->List α->List Aw) (hA:∀ w,Mem C w0 A w->Mem C w0 (Iz []++B []) w) (hSt:∀ w w' G,Mem C w0 A w->Below w.heap.size w w'->(∀ b,G b->w0.heap.size<=b\/C b)->St w' G)
  (round:∀ (r:Nat) (pre:List α) (x:α) (Wb:Y) (C':Nat->Prop) (T T':Aw) (R:Y->Y->Prop),Adm pre x->B4 C w0 Wb->(∀ b,C' b->w0.heap.size<=b\/C b)->(∀ A w,Mem C' Wb (A++[T]) w->∃ w',R w w'/\Mem C' Wb (A++[T']) w')→
   V P (Fence.wide.inRound r) (fun _ _ _=>False) n [] [.c assign,.e (fun a w=>∃ w',R w w'/\td P (Fence.wide.inRound r) (rq C' Wb (Yz (pre++[x])++B (pre++[x])) (fun c=>Bx c (pre++[x])) T') O [.c body] a w')] (Mem C' Wb ((X x++B pre)++[T])) (penv ps.toList (enc x) l))
  (hdone:∀ D xs,Fin xs->V P Fence.wide Qr n (mark D::ds) k' (Mem C w0 (Iz xs++(Q3 D (.deferred (F []))::B xs))) l)
  (hstop:∀ D c pre,V P Fence.wide Qr n (mark D::ds) (.c c::k') (Mem C w0 (Q3 D (.deferred (F []))::Bx c pre)) l)
  (h:IP 400 O k=.rf g ps assign body k':=by rfl) (hg:ev l g=F (.func (.func gf) #[] lb):=by rfl) (eg:∀ args w,(callFunc gf args).run P w=.ok (.enter gf args) w:=by intro args w;simp;first | done | fail) (hps:∀ x,ps.size=(enc x).length:=by intro x;rfl) (hpn:(ps.toList.all fun p=>decide (p<n))=true:=by rfl):V P Fence.wide Qr n ds k (Mem C w0 A) l:=V.at h fun a w ha hw=>by
 have hpn':∀ p∈ps.toList,p<n:=fun p hp=>of_decide_eq_true (List.all_eq_true.1 hpn p hp);refine wpIn_rangeFunc (fun fn hfn=>?_);obtain⟨rec,hrec⟩:∃ rec:LoopState->Option Code->Loop,rec=fun st pe=>{state:=st,pending:=pe,fn,tmps:=a.tmps,params:=ps,assign,body,defers:=w.heap.size}:=⟨_,rfl⟩
 obtain⟨l0,hl0⟩:∃ l0,w.heap.size+1=l0:=⟨_,rfl⟩
 obtain⟨D,hD⟩:∃ D,w.heap.size=D:=⟨_,rfl⟩
 obtain⟨W1,hW1⟩:∃ W1,(w.alloc (.deferred (F []))).alloc (.loop (rec .ready O))=W1:=⟨_,rfl⟩
 have hb1:Below w.heap.size w (w.alloc (.deferred (F []))):=(Bq _ w).alloc Nr _;have hM1:Mem C w0 (lo l0 D (.loop (rec .ready O))++(Iz []++B [])) W1:=by
  have h1:=(hA w hw).push (X:=Q3 D (.deferred (F []))) (Fz:=fun b=>b=w.heap.size) hb1 ⟨hD.symm,by rw[<- hD];exact Wn w _⟩ (fun b hb=>by subst hb;exact⟨Nat.le_refl _,by simp⟩);have h2:=h1.push (X:=Q3 l0 (.loop (rec .ready O))) (Fz:=fun b=>b=w.heap.size+1) ((Bq _ _).alloc Nr (.loop (rec .ready O)))
   ⟨hl0.symm,by have:=Wn (w.alloc (.deferred (F []))) (.loop (rec .ready O));rw[World.size_alloc,hl0] at this;exact this⟩ (fun b hb=>by subst hb;exact⟨by simp,by simp⟩)
  rw[hW1] at h2;exact h2
 have hBW:Below w.heap.size w W1:=by rw[<- hW1];exact hb1.trans ((((Bq _ _).alloc Nr _)).mono (by simp))
 refine⟨l0,[mark D],W1,{target:=.fn (.func gf) lb,args:=#[.func (.yield l0) #[] #[]]},W1,gf,#[.func (.yield l0) #[] #[]]++lb,W1,?_,?_,?_,?_,fun h=>by simp[Fence.wide] at h,?_⟩
 ·rw[<- hW1,hrec,<- hl0,<- hD];exact run_enterLoop_outer _ _ _ _ _
 ·simp only[resolve,ha.ev hg]
  simp[go_sem]
 ·intro f' _;trivial
 ·simp[invoke,go_sem,eg]
 have hfl:∀ (o:Obj) (Yz:List Aw) (G:Nat->Prop) (w:Y),Cq (Yz++[star (lo l0 D o)]) w G->Cq (lo l0 D o++Yz) w G:=fun o Yz G w h=>Cq.flip (A:=Yz) (Cq.unpack h);have fin:∀ (Yz:List Aw) (W2 W3:Y) (Fz:Nat->Prop) (o o':Obj),Mem Fz W2 (Yz++[star (lo l0 D o)]) W3->B4 Fz W2 (W3.putObj l0 o')/\∃ F':Nat->Prop,(∀ b,F' b->b<(W3.putObj l0 o').heap.size/\(Fz b\/W2.heap.size<=b))/\(star (lo l0 D o'++Yz)).is F' (W3.putObj l0 o'):=fun Yz W2 W3 Fz o o' h=>by
  have h2:=(h.lo_put o').2;exact⟨h2.1,_,fun b hb=>⟨hb.1,hb.2.symm⟩,hfl _ _ _ _ h2.2⟩
 refine(hi l0 (fun s=>star (lo l0 D (.loop (rec .ready O))++B s)) (fun s=>JB fun c=>star (lo l0 D (.loop (rec .done (F c)))++Bx c s)) W1 _ (hSt w W1 _ hw hBW (fun b hb=>hb.2)) (Cq.pack (A:=Iz []) (Cq.swap hM1.2)) (fun b hb=>hb.1) ?_).mono ?_
 ·intro pre x hadm W2 Fz hx hJ hF;have hJ1:Cq (X x++(lo l0 D (.loop (rec .ready O))++B pre)) W2 Fz:=Cq.unpack (Agi hJ);have hJ2:Cq ((X x++B pre)++[star (lo l0 D (.loop (rec .ready O)))]) W2 Fz:=Cq.pack (Cq.flip (Cq.swap hJ1));have hl2:=(lo_put (o':=.loop (rec .ready O)) (Cq.swap hJ1)).1;have hy:=run_yield (P:=P) (args:=(enc x).toArray) hl2 (by rw[hrec];simp[hps x]);rw[hrec] at hy;have hwp:=round l0 pre x W2 Fz (star (lo l0 D (.loop (rec .ready O)))) (star (lo l0 D (.loop {rec .ready O with state:=.busy}))) (fun w w'=>(Instr.beginRound l0).run P w=.ok () w') hadm
   (hM1.1.trans hx (fun b hb hg=>hg.2.elim (fun h=>by omega) id)) (fun b hb=>(hF b hb).2.elim (fun h=>.inl (Nat.le_trans hM1.1.size h)) (fun h=>h.2))
   (fun A w hm=>by obtain⟨h1,h2⟩:=hm.lo_put (.loop {rec .ready O with state:=.busy});exact⟨_,run_beginRound h1 (by rw[hrec]),h2⟩)
  have hwp:=(Nb ..).1 (hwp _ W2 (Kn.penv ps.toList (enc x) l {a with defers:=[]} ⟨ha.size,rfl,ha.get⟩ hpn') ⟨B4.refl _ _,Cq.mono hJ2 (fun b hb=>⟨(hF b hb).1,.inr hb⟩) (fun _ _=>rfl)⟩);have hfold:((ps.zip (enc x).toArray).foldl (fun t (p,v)=>t.setIfInBounds p v) a.tmps)=((ps.toList.zip (enc x)).foldl (fun t (p,v)=>t.setIfInBounds p v) a.tmps):=by
   rw[<- Array.foldl_toList,Array.toList_zip]
  refine⟨fn,_,assign,body,hy,roundIn_of_wpIn hfn ?_⟩;dsimp only
  rw[hfold];refine wpIn_mono hwp fun e a3 W3 q=>?_;cases e with
  | normal=>
   obtain⟨w',h1,h2⟩:=q;refine⟨w',h1,wpIn_mono ((Nb ..).1 h2) fun e a4 W4 q=>?_⟩;cases e with
   | normal=>
    have q:Mem Fz W2 ((Yz (pre++[x])++B (pre++[x]))++_) W4:=q;obtain⟨k1,F',k2,k3⟩:=fin _ _ _ _ _ (.loop (rec .ready O)) q;have hr:=run_endRound (P:=P) O (q.lo_put (.loop (rec .ready O))).1;rw[hrec] at hr;exact⟨_,_,hr,by rw[hrec] at k1 k2 k3;exact⟨k1,F',k2,.inl ⟨rfl,by rw[hrec];exact Ah9 k3⟩⟩⟩
   | ret=>
    have q:Mem Fz W2 (Bx .ret (pre++[x])++_) W4:=q;obtain⟨k1,F',k2,k3⟩:=fin _ _ _ _ _ (.loop (rec .done (F .ret))) q;have hr:=run_endRound (P:=P) (F .ret) (q.lo_put (.loop (rec .ready O))).1;rw[hrec] at hr;exact⟨_,_,hr,by rw[hrec] at k1 k2 k3;exact⟨k1,F',k2,.inr ⟨rfl,.ret,by rw[hrec];exact k3⟩⟩⟩
   | exit i=>
    have q:Mem Fz W2 (Bx (.exit i) (pre++[x])++_) W4:=q;obtain⟨k1,F',k2,k3⟩:=fin _ _ _ _ _ (.loop (rec .done (F (.exit i)))) q;have hr:=run_endRound (P:=P) (F (.exit i)) (q.lo_put (.loop (rec .ready O))).1;rw[hrec] at hr;exact⟨_,_,hr,by rw[hrec] at k1 k2 k3;exact⟨k1,F',k2,.inr ⟨rfl,.exit i,by rw[hrec];exact k3⟩⟩⟩
   | _=>exact q.elim
  | exit i=>exact q.elim
  | _=>exact q.elim
 ·rintro e W2 ⟨⟨v,rfl⟩,hx,G',hG',hcase⟩;have hxx:∀ o,B4 C w0 (W2.putObj l0 o):=fun o=>(hM1.1.trans hx (fun b hb hg=>hg.2.elim (fun h=>by omega) id)).trans (C':=fun b=>b=l0) (B4.put rfl) (fun b hb e=>by have:=hM1.1.size;have:=hw.1.size;omega);have hGG:∀ o b,G' b->b<(W2.putObj l0 o).heap.size/\(w0.heap.size<=b\/C b):=fun o b hb=>⟨by simpa using (hG' b hb).1,(hG' b hb).2.elim (fun h=>h.2) (fun h=>.inl (Nat.le_trans hM1.1.size h))⟩
  rcases hcase with ⟨xs,hfin,hs⟩ | ⟨pre,c,hs⟩
  ·have h1:=Cq.swap (Cq.unpack hs);obtain⟨a1,a2,a3⟩:=lo_put (o':=.loop {rec .ready O with state:=.exhausted}) h1;refine⟨O,W2.putObj l0 (.loop {rec .ready O with state:=.exhausted}),(run_endLoop (P:=P) a1 (by rw[hrec];simp)).trans (congrArg (fun p=>Result.ok p _) (show(rec .ready O).pending=O by rw[hrec])),hdone D xs hfin _ _ ⟨ha.size,by simp[ha.defers],ha.get⟩ ⟨hxx _,?_⟩⟩;have h2:=Cq.swap a3;exact Cq.mono (A:=Iz xs++_) ((show Cq (Iz xs++(Q3 l0 _::(Q3 D (.deferred (F []))::B xs))) _ G' from h2).sub (List.Sublist.append_left (List.sublist_cons_self ..) _)) (hGG _) (fun _ _=>rfl)
  ·obtain⟨a1,a2,a3⟩:=lo_put (o':=.loop {rec .done (F c) with state:=.exhausted}) hs;refine⟨F c,W2.putObj l0 (.loop {rec .done (F c) with state:=.exhausted}),(run_endLoop (P:=P) a1 (by rw[hrec];simp)).trans (congrArg (fun p=>Result.ok p _) (show(rec .done (F c)).pending=F c by rw[hrec])),(Nb ..).1 (hstop D c pre _ _ ⟨ha.size,by simp[ha.defers],ha.get⟩ ⟨hxx _,?_⟩)⟩;exact Cq.mono (Cq.sub (A:=lo l0 D _++Bx c pre) (List.sublist_cons_self ..) a3) (hGG _) (fun _ _=>rfl)
end
end
section
def Bo:List Value->Nat->List Value->Option (List Value)
 | l,0,[]=>F l
 | x::l,0,v::vs=>match Bo l 0 vs with
  | some r=>F (v::r)
  | none=>O
 | x::l,o+1,vs=>match Bo l o vs with
  | some r=>F (x::r)
  | none=>O
 | [],_,_=>O
theorem Pm:∀ (l:List Value) (o:Nat) (v:Value) (vs r:List Value),Bo l o (v::vs)=F r->o<l.length/\Bo (l.set o v) (o+1) vs=F r
 | [],0,v,vs,r,h=>by cases h
 | [],o+1,v,vs,r,h=>by cases h
 | x::l,0,v,vs,r,h=>⟨by simp,h⟩
 | x::l,o+1,v,vs,r,h=>by
  unfold Bo at h;split at h
  ·rename_i u hu;cases h
   obtain⟨h1,h2⟩:=Pm l o v vs u hu;refine⟨by simpa using h1,?_⟩;rw[List.set_cons_succ];show(match Bo (l.set o v) (o+1) vs with | some r=>F (x::r) | none=>O)=_;rw[h2]
  ·cases h
theorem Tv:∀ (l:List Value) (o:Nat) (r:List Value),Bo l o []=F r->r=l
 | l,0,r,h=>by cases l<;>(cases h;rfl)
 | [],o+1,r,h=>by cases h
 | x::l,o+1,r,h=>by
  unfold Bo at h;split at h
  ·rename_i u hu;cases h
   rw[Tv l o u hu]
  ·cases h
section
variable {P:Program} {b o:Nat} {bt:TypeId}
theorem Hp:∀ (vs:List Value) (i:Nat) (cs cs':List Value) (w:Y),w.heap[b]? =F (.cells cs.toArray bt)->Bo cs (o+i) vs=F cs'->vs.all Value.oneCell'=true→
  ∃ w',(storeCells ⟨b,o,O⟩ vs i).run P w=.ok () w'/\w'.heap[b]? =F (.cells cs'.toArray bt)/\B4 (fun k=>k=b) w w'/\w'.heap.size=w.heap.size
 | [],i,cs,cs',w,h,hs,_=>by
  rw[Tv _ _ _ hs];exact⟨w,by simp[storeCells,pure],h,B4.refl _ _,rfl⟩
 | v::vs,i,cs,cs',w,h,hs,h1=>by
  obtain⟨hlt,hs2⟩:=Pm _ _ _ _ _ hs;rw[List.all_cons,Bool.and_eq_true] at h1;have ha:(⟨b,o,O⟩:Addr).add i=⟨b,o+i,O⟩:=by unfold Addr.add;split<;>simp_all
  have hc:w.cell? ⟨b,o+i,O⟩=F (cs[o+i]):=by simp[World.cell?,h,hlt]
  have hf:w.frozen? ⟨b,o+i,O⟩=false:=by simp[World.frozen?,h]
  have hb:b<w.heap.size:=(Gl h)
  have h2:(w.setCell ⟨b,o+i,O⟩ v).heap[b]? =F (.cells (cs.set (o+i) v).toArray bt):=by
   simp[World.setCell,Array.getElem?_modify,h]
  obtain⟨w',k1,k2,k3,k4⟩:=Hp vs (i+1) _ cs' _ h2 (by rw[<- Nat.add_assoc];exact hs2) h1.2;refine⟨w',?_,k2,?_,by rw[k4];simp[World.setCell]⟩
  ·unfold storeCells;simp only[store,Sem.run_bind,ha]
   have:(Sem.store Mode.plain ⟨b,o+i,O⟩ v (Sem.pure ())).run P w=.ok () (w.setCell ⟨b,o+i,O⟩ v):=by
    have h1:=h1.1;cases v<;>first | (cases h1;first | done | fail) | simp[Sem.run,hc,hf]
   rw[this];exact k1
  ·exact B4.trans (b:=w.setCell ⟨b,o+i,O⟩ v) (C':=fun k=>k=b) ⟨rfl,rfl,rfl,by simp,fun k hk hn=>Bh _ _ _ _ hn⟩ k3 (fun _ _ e=>e)
end
section
variable {P:Program} {Fz:Fence} {Qr:Exit->Act->Y->Prop} {n:Nat} {ds:List Deferred} {d:Bool} {ops:Array Oper} {K:Act->Y->Prop} {i:Nat} {pl pend pend':List Nat} {l l':Env}
 {t:Nat} {ty:TypeId} {ps:String} {af:Array Edge} {gd:Option (Nat×Bool)} {C:Nat->Prop} {w0:Y} {A A':List Aw}
theorem R.st {x y:Operand} {tt bt:TypeId} {b o:Nat} {v:Value} {cs cs':List Value} (ho:AQ ops.toList i=F ⟨O,.store tt x y,ty,ps,af,gd⟩:=by rfl) (hx:ev l x=F (.pointer (F ⟨b,o,O⟩)):=by rfl) (hy:ev l y=F v:=by rfl) (hr:E5 (blk b cs bt) (blk b cs' bt) A A':=by(repeat (first | exact E5.hd | apply E5.tl));first | done | fail) (hv:Bo cs o v.cells.toList=F cs':=by rfl) (ho1:v.cells.toList.all Value.oneCell'=true:=by rfl) (hs:∀ w,(sizeOf tt).run P w=.ok v.cells.size w:=by intro w;simp;(try rfl);first | done | fail) (hp:Wq (ι:=Unit) d ops i pend pend' (fun _=>Mem C w0 A') (Mem C w0 A):=by first | exact .inl ⟨rfl,rfl⟩ | exact .inr (.inl ⟨rfl,rfl⟩)) (hg:D0 ops.toList l gd=F true:=by rfl):(Rj P n ds d ops K pl pend' (Mem C w0 A') l)->Rj P n ds d ops K (i::pl) pend (Mem C w0 A) l:=fun h=>
 R.eff (ι:=Unit) (Si:=fun _=>Mem C w0 A') (li:=fun _=>l) ho hg rfl (fun a w K' ha hd hw hk=>by
  obtain⟨G,⟨g1,g2⟩,g3,g4⟩:=hw.rep hr;obtain⟨w',k1,k2,k3,k4⟩:=Hp (P:=P) v.cells.toList 0 cs cs' w g2 hv ho1;unfold FI;have:(execOp a.eval ⟨O,.store tt x y,ty,ps,af,gd⟩).run P w=.ok .skip w':=by
   simp only[execOp,ha.ev hx,ha.ev hy,Sem.run_bind,Instr.storeAt,Instr.sureAddr,storeVar]
   simp[Sem.run_bind,hs w,k1,pure,Sem.run]
  rw[this];exact hk () undef w' (g4 G w' ⟨g1,k2⟩ (k3.sub (fun k _ e=>by subst e;exact g1)) (fun k hk=>⟨by rw[k4];exact(g3 k hk).1,.inl hk⟩)) ha) hp (fun _=>h)
theorem R.cf {ι:Type} {v:ι->Value} {X:ι->List Aw} {f:FuncId} {fn:Operand} {fs cs:Array Value} {args:List Operand} {ts:Array TypeId} {vs aq:List Value}
  (hc:∀ w,Mem C w0 A w->Calls P f aq.toArray w fun e w'=>∃ x,e=.returned (v x)/\Fr w w' (X x)) (h:∀ x,Rj P n ds d ops K pl pend' (Mem C w0 (X x++A)) ((t,v x)::l))
  (ho:AQ ops.toList i=F ⟨F t,.call {callee:=.value fn,args:=args.toArray,argTypes:=ts},ty,ps,af,gd⟩:=by rfl) (hf:ev l fn=F (.func (.func f) fs cs):=by rfl) (hs:evs l args=F vs:=by rfl) (he:fs.toList++(vs++cs.toList)=aq:=by rfl) (hr:∀ args w,(callFunc f args).run P w=.ok (.enter f args) w:=by intro args w;simp;first | done | fail)
  (hp:Wq d ops i pend pend' (fun x=>Mem C w0 (X x++A)) (Mem C w0 A):=by first | exact .inl ⟨rfl,rfl⟩ | exact .inr (.inl ⟨rfl,rfl⟩) | exact .inr (.inr ⟨rfl,fun _ _ h=>h.sub (List.sublist_append_right ..)⟩)) (hg:D0 ops.toList l gd=F true:=by rfl):Rj P n ds d ops K (i::pl) pend (Mem C w0 A) l:=
 R.cx (A':=fun x=>X x++A) (fun w hw=>(hc w hw).mono fun e w' ⟨x,he,hf⟩=>⟨x,he,hw.fr hf⟩) h ho hf hs he hr hp hg
theorem R.y {lp:Nat} {fn:Operand} {args:List Operand} {ts:Array TypeId} {vs:List Value} {Jz J' Jx:Aw} {A0:List Aw} (hY:Q4 P lp vs.toArray w0 C Jz J' Jx)
  (hT:Rj P n ds d ops K pl pend' (Mem C w0 (J'::A0)) ((t,.bool true)::l)) (hF:Rj P n ds d ops K pl pend' (Mem C w0 (Jx::A0)) ((t,.bool false)::l))
  (ho:AQ ops.toList i=F ⟨F t,.call {callee:=.value fn,args:=args.toArray,argTypes:=ts},ty,ps,af,gd⟩:=by rfl) (hf:ev l fn=F (.func (.yield lp) #[] #[]):=by rfl) (hs:evs l args=F vs:=by rfl)
  (hk:Pk Jz A A0:=by(repeat (first | exact Pk.hd | apply Pk.tl));first | done | fail) (hp:Wq (ι:=Bool) d ops i pend pend' (fun x=>Mem C w0 ((bif x then J' else Jx)::A0)) (Mem C w0 A):=by first | exact .inl ⟨rfl,rfl⟩ | exact .inr (.inl ⟨rfl,rfl⟩)) (hg:D0 ops.toList l gd=F true:=by rfl):Rj P n ds d ops K (i::pl) pend (Mem C w0 A) l:=
 R.eff (ι:=Bool) (Si:=fun x=>Mem C w0 ((bif x then J' else Jx)::A0)) (li:=fun x=>(t,.bool x)::l) ho hg rfl (fun a w K' ha hd hw hk'=>by
  have h0:=hw.pk hk;obtain⟨G1,g1,g2,g3⟩:=h0.rep (E5.hd (X:=Jz) (X':=J') (r:=A0));obtain⟨G2,i1,i2,i3⟩:=h0.rep (E5.hd (X:=Jz) (X':=Jx) (r:=A0));obtain⟨F0,e1,e2,e3⟩:=h0.2;have hyy:=hY w F0 h0.1 e1 (fun b hb=>e2 b hb);obtain⟨f,tm,aq,bd,hr,hrd⟩:=hyy;have h1:(args.toArray).map a.eval=vs.toArray:=by rw[List.map_toArray,(ha.evs _ _ hs).2]
  unfold FI;have:(execOp a.eval ⟨F t,.call {callee:=.value fn,args:=args.toArray,argTypes:=ts},ty,ps,af,gd⟩).run P w=.ok (.round lp f tm aq bd) w:=by
   simp[execOp,resolve,Deferred.ofValue,invoke,h1,ha.ev hf,Sem.run_bind,pure,hr]
  rw[this];refine RoundIn.mono hrd fun e w' he=>?_;obtain⟨hx,F',hF',hc⟩:=he;have fin:∀ X:Aw,X.is F' w'->Mem C w0 (X::A0) w':=fun X hX=>by
   refine⟨h0.1.trans hx (fun b hb hf=>(e2 b hf).2.elim (fun h=>by omega) id),F',hX,fun b hb=>⟨(hF' b hb).1,(hF' b hb).2.elim (fun h=>(e2 b h).2) (fun h=>.inl (Nat.le_trans h0.1.size h))⟩,e3.mono (fun b hb=>⟨⟨Nat.lt_of_lt_of_le hb.1.1 hx.size,hb.1.2⟩,fun hf=>(hF' b hf).2.elim hb.2 (fun h=>by have:=hb.1.1;omega)⟩) (fun b hb=>hx.block b hb.1.1 hb.2)⟩
  rcases hc with ⟨rfl,hc⟩ | ⟨rfl,hc⟩
  ·exact⟨_,rfl,hk' true _ w' (fin _ hc) (hd _)⟩
  ·exact⟨_,rfl,hk' false _ w' (fin _ hc) (hd _)⟩) hp (fun x=>by cases x;exact hF;exact hT)
end
inductive RV (P:Program) (l:Env) (A:List Aw):List ResultVar->List Value->Prop
 | nil:RV P l A [] []
 | tmp {t:Nat} {v:Value} {rs:List ResultVar} {vs:List Value} (h:lk l t=F v) (hr:RV P l A rs vs):RV P l A (.tmp t::rs) (v::vs)
 | one {x b:Nat} {ty bt:TypeId} {v:Value} {cs:List Value} {rs:List ResultVar} {vs:List Value} (hx:lk l x=F (.pointer (F ⟨b,0,O⟩))) (hb:blk b (v::cs) bt∈A) (ht:∀ w,(isAgg ty).run P w=.ok false w) (hr:RV P l A rs vs):RV P l A (.cell x ty::rs) (v::vs)
 | agg {x b:Nat} {ty bt:TypeId} {cs:List Value} {rs:List ResultVar} {vs:List Value} (hx:lk l x=F (.pointer (F ⟨b,0,O⟩))) (hb:blk b cs bt∈A) (ht:∀ w,(isAgg ty).run P w=.ok true w) (hs:∀ w,(sizeOf ty).run P w=.ok cs.length w) (hr:RV P l A rs vs):RV P l A (.cell x ty::rs) (.agg cs.toArray::vs)
inductive Marks:List Deferred->List Aw->List Aw->Prop
 | nil {A:List Aw}:Marks [] A A
 | cons {D:Nat} {ds:List Deferred} {A A1 A':List Aw} (h:E5 (Q3 D (.deferred (F []))) (Q3 D (.deferred O)) A A1) (hr:Marks ds A1 A'):Marks (mark D::ds) A A'
section
variable {P:Program} {n:Nat} {ds:List Deferred} {k:List KL} {l:Env} {fn:Func} {R:Ending->Y->Prop} {C:Nat->Prop} {w0:Y} {A A':List Aw} {vs:List Value}
theorem QY {a:Act} {w:Y} (ha:Kn n ds l a) (hw:Mem C w0 A w) (h:RV P l A fn.results.toList vs):(results fn a.tmps).run P w=.ok (one vs) w:=by
 have key:∀ (rs:List ResultVar) (vs:List Value),RV P l A rs vs->(rs.mapM (m:=Sem) (fun | .tmp t=>pure (a.tmps.getD t undef) | .cell x t=>do loadVar t (<- asAddr (a.tmps.getD x undef)))).run P w=.ok vs w:=by
  intro rs vs h;induction h with
  | nil=>rfl
  | tmp h _ ih=>
   simp only[List.mapM_cons,Sem.run_bind,ha.get _ _ h]
   rw[show ∀ v:Value,(pure v:Sem Value).run P w=.ok v w from fun _=>rfl];simp only[Result.andThen_ok,ih]
   rfl
  | @one x b ty bt v cs rs vs hx hb ht _ ih=>
   have:=WJ (t:=ty) (ht w) (Cs.of_blk (hw.blk hb) 0 v rfl);have hA:(asAddr (a.tmps.getD x undef)).run P w=.ok ⟨b,0,O⟩ w:=by rw[ha.get _ _ hx];rfl
   have hL:(loadVar ty ⟨b,0,O⟩).run P w=.ok v w:=this;simp only[List.mapM_cons,Sem.run_bind,hA,Result.andThen_ok,hL,ih]
   rfl
  | @agg x b ty bt cs rs vs hx hb ht hs _ ih=>
   have:=WU (t:=ty) (ht w) (hs w) (Cs.of_blk (hw.blk hb));have hA:(asAddr (a.tmps.getD x undef)).run P w=.ok ⟨b,0,O⟩ w:=by rw[ha.get _ _ hx];rfl
   have hL:(loadVar ty ⟨b,0,O⟩).run P w=.ok (.agg cs.toArray) w:=this;simp only[List.mapM_cons,Sem.run_bind,hA,Result.andThen_ok,hL,ih]
   rfl
 obtain⟨rs,hr⟩:∃ rs,fn.results.toList=rs:=⟨_,rfl⟩
 have hf:fn.results=rs.toArray:=by rw[<- hr]
 rw[hr] at h;unfold results;rw[hf,List.mapM_toArray];simp only[map_eq_pure_bind,Sem.run_bind]
 have h2:=key rs vs h;refine(congrArg (fun r:Result (List Value)=>(r.andThen fun x w'=>Sem.run P (pure x.toArray) w').andThen fun x w'=>Sem.run P (pure (if h:x.size=1 then x[0] else Value.tuple x)) w') h2).trans ?_
 match vs with
 | []=>rfl
 | [v]=>rfl
 | u::v::r=>simp[pure,one,Result.andThen]
theorem leaves {a:Act} (ha:Kn n ds l a) (hm:Marks ds A A') (hv:RV P l A' fn.results.toList vs) (hR:∀ w,Mem C w0 A' w->R (.returned (one vs)) w):∀ w,Mem C w0 A w->LeavesInM Fence.wide 0 P fn a.tmps R ds .returning w:=by
 have key:∀ es A A',Marks es A A'->RV P l A' fn.results.toList vs->(∀ w,Mem C w0 A' w->R (.returned (one vs)) w)->∀ w,Mem C w0 A w->LeavesInM Fence.wide 0 P fn a.tmps R es .returning w:=by
  clear hm hv hR;intro es A A' hm;induction hm with
  | nil=>exact fun hv hR w hw=>⟨_,QY ha hw hv,hR w hw⟩
  | @cons D es A A1 A' h _ ih=>
   intro hv hR w hw;obtain⟨G,⟨g1,g2⟩,g3,g4⟩:=hw.rep h;have hlt:D<w.heap.size:=(Gl g2)
   exact⟨by simp,.inl ⟨D,_,rfl,run_takeDeferred g2,ih hv hR _ (g4 G _ ⟨g1,World.putObj_heap_same hlt⟩ (B4.put g1) (fun b hb=>⟨by simpa using (g3 b hb).1,.inl hb⟩))⟩⟩
 exact key ds A A' hm hv hR
theorem V.end (hR:∀ w,Mem C w0 A' w->R (.returned (one vs)) w) (h:IP 400 O k=.ret\/IP 400 O k=.fin:=by first | exact .inl rfl | exact .inr rfl) (hm:Marks ds A A':=by repeat (first | exact Marks.nil | (apply Marks.cons;(repeat (first | exact E5.hd | apply E5.tl)))))
  (hv:RV P l A' fn.results.toList vs:=by repeat (first | exact RV.nil | (apply RV.tmp;rfl) | (apply RV.one;rfl;(repeat (first | exact List.Mem.head _ | apply List.Mem.tail));(intro w;kernel_rfl)) | (apply RV.agg;rfl;(repeat (first | exact List.Mem.head _ | apply List.Mem.tail));(intro w;kernel_rfl);(intro w;simp;try rfl)))):V P Fence.wide (bodyPostM Fence.wide 0 P fn R) n ds k (Mem C w0 A) l:=by
 have key:∀ a w,Kn n ds l a->Mem C w0 A w->LeavesInM Fence.wide 0 P fn a.tmps R a.defers .returning w:=fun a w ha hw=>by
  rw[ha.defers];exact leaves ha hm hv hR w hw
 rcases h with h | h
 ·exact V.at h fun a w ha hw=>key a w ha hw
 ·exact V.at h fun a w ha hw=>key a w ha hw
end
def itR {α:Type} (G:Nat->Prop) (w0:Y) (Iz:List α->List Aw) (Jz Jx:List α->Aw) (Fin:List α->Prop) (e:Ending) (w':Y):Prop:=
 (∃ v,e=.returned v)/\((∃ xs,Fin xs/\Mem G w0 (Iz xs++[Jz xs]) w')\/∃ pre,Mem G w0 [Jx pre] w')
theorem Jl.of {α:Type} {P:Program} {gf:Nat} {lb:Array Value} {enc:α->List Value} {X:α->List Aw} {Yz Iz:List α->List Aw} {Adm:List α->α->Prop} {Fin:List α->Prop} {St:Y->(Nat->Prop)->Prop}
  (h:∀ (l:Nat) (Jz Jx:List α->Aw) (w:Y) (G:Nat->Prop),St w G->(∀ b,G b->b<w.heap.size)->(∀ pre x,Adm pre x->Q4 P l (enc x).toArray w G (yst (X x) (Jz pre)) (yst (Yz (pre++[x])) (Jz (pre++[x]))) (Jx (pre++[x])))→
   Mem G w (Iz []++[Jz []]) w->Calls P gf (#[.func (.yield l) #[] #[]]++lb) w (itR G w Iz Jz Jx Fin)):WV P gf lb enc X Yz Iz Adm Fin St:=by
 intro l Jz Jx w G hSt hS hG hY;refine(callsIn_wide (n:=0)).2 (Calls.mono (h l Jz Jx w G hSt hG hY ⟨B4.refl _ _,hS.mono (fun b hb=>⟨hG b hb,.inr hb⟩) (fun _ _=>rfl)⟩) ?_);rintro e w' ⟨hv,hc⟩;rcases hc with ⟨xs,hf,hm⟩ | ⟨pre,hm⟩
 ·exact⟨hv,hm.1,_,fun b hb=>⟨hb.1,hb.2.symm⟩,.inl ⟨xs,hf,hm.2⟩⟩
 ·obtain⟨Fz,h1,h2,_⟩:=hm.2;exact⟨hv,hm.1,Fz,fun b hb=>⟨(h2 b hb).1,(h2 b hb).2.symm⟩,.inr ⟨pre,h1⟩⟩
def pr (p:Prop):Aw:=⟨fun _ _=>p,fun _ _ _ _ h=>h⟩
theorem Mem.pr {C:Nat->Prop} {w0 w:Y} {A:List Aw} {p:Prop} (h:Mem C w0 A w) (hp:p):Mem C w0 (pr p::A) w:=⟨h.1,fun _=>False,hp,fun _ e=>e.elim,h.2.mono (fun b hb=>⟨hb,fun e=>e⟩) (fun _ _=>rfl)⟩
theorem V.pr {P:Program} {Fz:Fence} {Qr:Exit->Act->Y->Prop} {n:Nat} {ds:List Deferred} {k:List KL} {l:Env} {C:Nat->Prop} {w0:Y} {A:List Aw} {p:Prop} (hp:p) (h:V P Fz Qr n ds k (Mem C w0 (Go.Proofs.YtdpppepmkeinaaaGreatDoor.pr p::A)) l):V P Fz Qr n ds k (Mem C w0 A) l:=fun a w ha hw=>h a w ha (hw.pr hp)
theorem V.prop {P:Program} {Fz:Fence} {Qr:Exit->Act->Y->Prop} {n:Nat} {ds:List Deferred} {k:List KL} {l:Env} {C:Nat->Prop} {w0:Y} {A:List Aw} {p:Prop} (h:p->V P Fz Qr n ds k (Mem C w0 A) l) (hp:Go.Proofs.YtdpppepmkeinaaaGreatDoor.pr p∈A:=by(repeat (first | exact List.Mem.head _ | apply List.Mem.tail));first | done | fail):V P Fz Qr n ds k (Mem C w0 A) l:=
 fun a w ha hw=>h (let ⟨_,h1,_⟩:=hw.has hp;h1) a w ha hw
theorem W {Jz J':Prop} (k:J') (h:J'->Jz:=by first | exact R.z | exact V.reg (.inl rfl) | exact R.add | exact R.sub | exact R.p | exact R.lb | exact R.st | exact R.u | exact R.uc | exact V.tt rfl | exact V.ff rfl | exact V.reg (.inr ⟨_,rfl⟩)):Jz:=h k
end
end Go.Proofs.YtdpppepmkeinaaaGreatDoor
