/- What is proved: a part of the walk of the program and of its plain laws; no condition beside those that each theorem names. -/
import Derived.Test.YtdpppepmkeinaaaGreatDoorYj
import Derived.Test.YtdpppepmkeinaaaGreatDoorYg
import Derived.Test.YtdpppepmkeinaaaGreatDoorYa
import Derived.Maps.AppendAt
import Derived.WideKeyRuns
import Derived.Laws.StructEq
namespace Go.Proofs.YtdpppepmkeinaaaGreatDoor
open Go Go.RowKit Go.Lib
open Go.Value renaming int->I,string->Q,slice->Z
open Go.IntKind renaming i64->J
open Option renaming none->O,some->F
open _root_.Go renaming World->Y
set_option linter.unusedSimpArgs false
set_option linter.unusedVariables false
set_option linter.unusedSectionVars false
section
def Ob (b:Nat) (o:Obj):Aj:=⟨fun Fz w=>Fz b/\w.heap[b]? =F o,fun Fz w w' h x=>⟨x.1,(h b x.1).trans x.2⟩⟩
def star (A:List Aj):Aj:=⟨fun Fz w=>Bm A w Fz,fun Fz w w' h x=>x.mono (fun _ hb=>hb) h⟩
def Hf {β:Type} (f:β->Aj):Aj:=⟨fun Fz w=>∃ x,(f x).is Fz w,fun Fz w w' h ⟨x,hx⟩=>⟨x,(f x).loc Fz w w' h hx⟩⟩
theorem Bm.split:∀ {A B:List Aj} {w:Y} {G:Nat->Prop},Bm (A++B) w G->∃ Fz:Nat->Prop,Bm A w Fz/\(∀ b,Fz b->G b)/\Bm B w (fun b=>G b/\¬Fz b)
 | [],B,w,G,h=>⟨fun _=>False,trivial,fun _ e=>e.elim,h.mono (fun b hb=>⟨hb,fun e=>e⟩) (fun _ _=>rfl)⟩
 | X::A,B,w,G,⟨Fz,h1,h2,h3⟩=>by
  obtain⟨F',k1,k2,k3⟩:=Bm.split (A:=A) h3;exact⟨fun b=>Fz b\/F' b,⟨Fz,h1,fun b hb=>.inl hb,k1.mono (fun b hb=>⟨.inr hb,(k2 b hb).2⟩) (fun _ _=>rfl)⟩,fun b hb=>hb.elim (h2 b) (fun hb=>(k2 b hb).1),
   k3.mono (fun b hb=>⟨hb.1.1,fun e=>e.elim hb.1.2 hb.2⟩) (fun _ _=>rfl)⟩
theorem Bm.join:∀ {A B:List Aj} {w:Y} {Fz G:Nat->Prop},Bm A w Fz->(∀ b,Fz b->G b)->Bm B w (fun b=>G b/\¬Fz b)->Bm (A++B) w G
 | [],B,w,Fz,G,_,_,h=>h.mono (fun b hb=>hb.1) (fun _ _=>rfl)
 | X::A,B,w,Fz,G,⟨F1,h1,h2,h3⟩,hg,hb=>⟨F1,h1,fun b hb=>hg b (h2 b hb),Bm.join (A:=A) h3 (fun b hb=>⟨hg b hb.1,hb.2⟩) (hb.mono (fun b hb=>⟨⟨hb.1,fun e=>hb.2 (h2 b e)⟩,fun e=>hb.2 e.1⟩) (fun _ _=>rfl))⟩
theorem Bm.flip {A B:List Aj} {w:Y} {G:Nat->Prop} (h:Bm (A++B) w G):Bm (B++A) w G:=by
 obtain⟨Fz,h1,h2,h3⟩:=h.split;exact h3.join (fun b hb=>hb.1) (h1.mono (fun b hb=>⟨h2 b hb,fun e=>e.2 hb⟩) (fun _ _=>rfl))
theorem Bm.pack {A B:List Aj} {w:Y} {G:Nat->Prop} (h:Bm (A++B) w G):Bm (A++[star B]) w G:=by
 obtain⟨Fz,h1,h2,h3⟩:=h.split;exact h1.join h2 ⟨_,h3,fun b hb=>hb,trivial⟩
theorem Bm.unpack {A B:List Aj} {w:Y} {G:Nat->Prop} (h:Bm (A++[star B]) w G):Bm (A++B) w G:=by
 obtain⟨Fz,h1,h2,F',h3,h4,_⟩:=h.split;exact h1.join h2 (Bm.mono (A:=B) h3 h4 (fun _ _=>rfl))
theorem Bm.swap {A B Zz:List Aj} {w:Y} {G:Nat->Prop} (h:Bm (A++(B++Zz)) w G):Bm (B++(A++Zz)) w G:=by
 obtain⟨Fz,h1,h2,h3⟩:=h.split;obtain⟨F',k1,k2,k3⟩:=h3.split;exact k1.join (fun b hb=>(k2 b hb).1) (h1.join (fun b hb=>⟨h2 b hb,fun e=>(k2 b e).2 hb⟩) (k3.mono (fun b hb=>⟨⟨hb.1.1,hb.2⟩,hb.1.2⟩) (fun _ _=>rfl)))
def Fr (w w':Y) (X:List Aj):Prop:=Below w.heap.size w w'/\Bm X w' (fun b=>w.heap.size<=b/\b<w'.heap.size)
theorem Mem.fr {C:Nat->Prop} {w0 w w':Y} {A X:List Aj} (h:Mem C w0 A w) (hf:Fr w w' X):Mem C w0 (X++A) w':=
 ⟨(h.below hf.1).1,hf.2.join (fun b hb=>⟨hb.2,.inl (Nat.le_trans h.1.size hb.1)⟩) (h.2.mono (fun b hb=>⟨⟨Nat.lt_of_lt_of_le hb.1 hf.1.size,hb.2⟩,fun e=>by have:=e.1;have:=hb.1;omega⟩) (fun b hb=>hf.1.block b hb.1))⟩
theorem Mem.to_fr {w w':Y} {A:List Aj} (h:Mem Ao w A w'):Fr w w' A:=⟨h.1.below,h.2.mono (fun b hb=>⟨hb.2.elim id (fun e=>e.elim),hb.1⟩) (fun _ _=>rfl)⟩
theorem Dt.last {X X':Aj}:∀ A:List Aj,Dt X X' (A++[X]) (A++[X'])
 | []=>.hd
 | _::A=>.tl (Dt.last A)
def yst:List Aj->Aj->Aj
 | [],Jz=>Jz
 | X,Jz=>star (X++[Jz])
theorem Adc {X:List Aj} {Jz:Aj} {Fz:Nat->Prop} {w:Y} (h:(yst X Jz).is Fz w):Bm (X++[Jz]) w Fz:=by
 cases X with
 | nil=>exact⟨Fz,h,fun _ hb=>hb,trivial⟩
 | cons _ _=>exact h
theorem Ahe {Yz L B:List Aj} {Fz:Nat->Prop} {w:Y} (h:(star (L++(Yz++B))).is Fz w):(yst Yz (star (L++B))).is Fz w:=by
 cases Yz with
 | nil=>exact h
 | cons _ _=>exact Bm.pack (Bm.swap h)
def OP (P:Program) (l:Nat) (vs:Array Value) (w0:Y) (G:Nat->Prop) (Jz J' Jx:Aj):Prop:=
 ∀ (w:Y) (Fz:Nat->Prop),AI G w0 w->Jz.is Fz w->(∀ b,Fz b->b<w.heap.size/\(w0.heap.size<=b\/G b))->YieldAt Fence.wide 0 P l vs w fun e w'=>AI Fz w w'/\∃ F':Nat->Prop,(∀ b,F' b->b<w'.heap.size/\(Fz b\/w.heap.size<=b))∧
  ((e=.returned (.bool true)/\J'.is F' w')\/(e=.returned (.bool false)/\Jx.is F' w'))
def V5 {α:Type} (P:Program) (gf:Nat) (lb:Array Value) (enc:α->List Value) (X:α->List Aj) (Yz Iz:List α->List Aj) (Adm:List α->α->Prop) (Fin:List α->Prop) (St:Y->(Nat->Prop)->Prop):Prop:=
 ∀ (l:Nat) (Jz Jx:List α->Aj) (w:Y) (G:Nat->Prop),St w G->Bm (Iz []++[Jz []]) w G->(∀ b,G b->b<w.heap.size)→
  (∀ pre x,Adm pre x->OP P l (enc x).toArray w G (yst (X x) (Jz pre)) (yst (Yz (pre++[x])) (Jz (pre++[x]))) (Jx (pre++[x])))→
  CallsIn Fence.wide 0 P gf (#[.func (.yield l) #[] #[]]++lb) w fun e w'=>(∃ v,e=.returned v)/\AI G w w'/\∃ G':Nat->Prop,(∀ b,G' b->b<w'.heap.size/\(G b\/w.heap.size<=b))∧
   ((∃ xs,Fin xs/\Bm (Iz xs++[Jz xs]) w' G')\/∃ pre,(Jx pre).is G' w')
abbrev FH {α:Type} (P:Program) (gf:Nat) (lb:Array Value) (enc:α->List Value) (X:α->List Aj) (Iz:List α->List Aj) (Adm:List α->α->Prop) (Fin:List α->Prop) (St:Y->(Nat->Prop)->Prop):Prop:=V5 P gf lb enc X (fun _=>[]) Iz Adm Fin St
def penv:List Nat->List Value->Env->Env
 | p::ps,v::vs,l=>penv ps vs ((p,v)::l)
 | _,_,l=>l
theorem Kn.penv {n:Nat} {ds:List Deferred}:∀ (ps:List Nat) (vs:List Value) (l:Env) (a:Act),Kn n ds l a->(∀ p∈ps,p<n)->Kn n ds (penv ps vs l) {a with tmps:=(ps.zip vs).foldl (fun t (p,v)=>t.setIfInBounds p v) a.tmps}
 | [],_,l,a,h,_=>h
 | p::ps,[],l,a,h,_=>h
 | p::ps,v::vs,l,a,h,hp=>Kn.penv ps vs _ _ (h.put (hp p (List.mem_cons_self ..)) v) (fun q hq=>hp q (List.mem_cons_of_mem _ hq))
def mark (D:Nat):Deferred:={target:=.collected D,args:=#[]}
def rq (C:Nat->Prop) (w0:Y) (B:List Aj) (Bx:Code->List Aj) (T:Aj):Exit->Act->Y->Prop
 | .normal,_,w=>Mem C w0 (B++[T]) w
 | .ret,_,w=>Mem C w0 (Bx .ret++[T]) w
 | .exit i,_,w=>Mem C w0 (Bx (.exit i)++[T]) w
 | _,_,_=>False
def lo (l D:Nat) (o:Obj):List Aj:=[Ob l o,Ob D (.deferred (F []))]
theorem lo_put {l D:Nat} {o o':Obj} {A:List Aj} {w:Y} {Fz:Nat->Prop} (h:Bm (lo l D o++A) w Fz):w.heap[l]? =F o/\Fz l/\Bm (lo l D o'++A) (w.putObj l o') Fz:=by
 obtain⟨F1,⟨a1,a2⟩,a3,F2,⟨b1,b2⟩,b3,b4⟩:=h;have hlt:l<w.heap.size:=(Gl a2)
 have hoth:∀ b,¬F1 b->(w.putObj l o').heap[b]? =w.heap[b]? :=fun b hb=>World.putObj_heap_other (fun e=>hb (by subst e;exact a1));exact⟨a2,a3 l a1,F1,⟨a1,World.putObj_heap_same hlt⟩,a3,F2,⟨b1,(hoth D (b3 D b1).2).trans b2⟩,b3,b4.mono (fun _ hb=>hb) (fun b hb=>hoth b hb.1.2)⟩
theorem AI.put {l:Nat} {o':Obj} {w:Y} {Fz:Nat->Prop} (h:Fz l):AI Fz w (w.putObj l o'):=⟨rfl,rfl,rfl,by simp,fun k _ hn=>World.putObj_heap_other (fun e=>hn (by subst e;exact h))⟩
theorem Mem.lo_put {l D:Nat} {o:Obj} (o':Obj) {A:List Aj} {C:Nat->Prop} {w0 w:Y} (h:Mem C w0 (A++[star (lo l D o)]) w):w.heap[l]? =F o/\Mem C w0 (A++[star (lo l D o')]) (w.putObj l o'):=by
 obtain⟨Fz,h1,h2,h3⟩:=h.rep (Dt.last (X':=star (lo l D o')) A);have h1':Bm (lo l D o++[]) w Fz:=by rw[List.append_nil];exact h1
 obtain⟨a1,a2,a3⟩:=Go.Proofs.YtdpppepmkeinaaaGreatDoor.lo_put (o':=o') h1';rw[List.append_nil] at a3;exact⟨a1,h3 Fz _ a3 (AI.put a2) (fun b hb=>⟨by simpa using (h2 b hb).1,.inl hb⟩)⟩
section
variable {P:Program} {Qr Qr':Exit->Act->Y->Prop} {Fz:Fence} {n:Nat} {ds:List Deferred} {k k':List Je} {l:Env} {C:Nat->Prop} {w0:Y} {A:List Aj}
inductive Lst (T T':Aj):List Aj->List Aj->Prop
 | nil:Lst T T' [T] [T']
 | cons {Yz:Aj} {r r':List Aj} (h:Lst T T' r r'):Lst T T' (Yz::r) (Yz::r')
theorem Lst.eq {T T':Aj} {r r':List Aj} (h:Lst T T' r r'):∃ A,r=A++[T]/\r'=A++[T']:=by
 induction h with
 | nil=>exact⟨[],rfl,rfl⟩
 | cons h ih=>obtain⟨A,rfl,rfl⟩:=ih;exact⟨_::A,rfl,rfl⟩
theorem V.mid {R:Y->Y->Prop} {T T':Aj} {A':List Aj} (hm:∀ A w,Mem C w0 (A++[T]) w->∃ w',R w w'/\Mem C w0 (A++[T']) w') (hb:V P Fz Qr' n ds k' (Mem C w0 A') l) (h:G8 400 O k=.out (fun a w=>∃ w',R w w'/\td P Fz Qr' O k' a w'):=by rfl) (hl:Lst T T' A A':=by repeat (first | exact .nil | apply Lst.cons)):V P Fz Qr n ds k (Mem C w0 A) l:=
 V.at h fun a w ha hw=>by
  obtain⟨A0,rfl,rfl⟩:=hl.eq;obtain⟨w',h1,h2⟩:=hm A0 w hw;exact⟨w',h1,hb a w' ha h2⟩
theorem V.rn {B:List Aj} {Bx:Code->List Aj} {T:Aj} (h:G8 400 O k=.fin:=by rfl) (hs:NT (B++[T]) A:=by repeat (first | exact NT.nil | (apply NT.cons;(repeat (first | exact Pk.hd | apply Pk.tl))))):V P Fz (rq C w0 B Bx T) n ds k (Mem C w0 A) l:=V.at h fun _ _ _ hw=>hw.sel hs
theorem V.rr {B:List Aj} {Bx:Code->List Aj} {T:Aj} (h:G8 400 O k=.ret:=by rfl) (hs:NT (Bx .ret++[T]) A:=by repeat (first | exact NT.nil | (apply NT.cons;(repeat (first | exact Pk.hd | apply Pk.tl))))):V P Fz (rq C w0 B Bx T) n ds k (Mem C w0 A) l:=V.at h fun _ _ _ hw=>hw.sel hs
theorem V.range {α:Type} {gf:Nat} {lb:Array Value} {enc:α->List Value} {X:α->List Aj} {Yz Iz:List α->List Aj} {Adm:List α->α->Prop} {Fin:List α->Prop} {St:Y->(Nat->Prop)->Prop} {g:Operand} {ps:Array Tmp} {assign body:Code}
  (hi:V5 P gf lb enc X Yz Iz Adm Fin St) (B:List α->List Aj) (Bx:Code->List α->List Aj) (hA:∀ w,Mem C w0 A w->Mem C w0 (Iz []++B []) w) (hSt:∀ w w' G,Mem C w0 A w->Below w.heap.size w w'->(∀ b,G b->w0.heap.size<=b\/C b)->St w' G)
  (round:∀ (r:Nat) (pre:List α) (x:α) (Wb:Y) (C':Nat->Prop) (T T':Aj) (R:Y->Y->Prop),Adm pre x->AI C w0 Wb->(∀ b,C' b->w0.heap.size<=b\/C b)->(∀ A w,Mem C' Wb (A++[T]) w->∃ w',R w w'/\Mem C' Wb (A++[T']) w')→
   V P (Fence.wide.inRound r) (fun _ _ _=>False) n [] [.c assign,.e (fun a w=>∃ w',R w w'/\td P (Fence.wide.inRound r) (rq C' Wb (Yz (pre++[x])++B (pre++[x])) (fun c=>Bx c (pre++[x])) T') O [.c body] a w')] (Mem C' Wb ((X x++B pre)++[T])) (penv ps.toList (enc x) l))
  (hdone:∀ D xs,Fin xs->V P Fence.wide Qr n (mark D::ds) k' (Mem C w0 (Iz xs++(Ob D (.deferred (F []))::B xs))) l)
  (hstop:∀ D c pre,V P Fence.wide Qr n (mark D::ds) (.c c::k') (Mem C w0 (Ob D (.deferred (F []))::Bx c pre)) l)
  (h:G8 400 O k=.rf g ps assign body k':=by rfl) (hg:ev l g=F (.func (.func gf) #[] lb):=by rfl) (eg:∀ args w,(callFunc gf args).run P w=.ok (.enter gf args) w:=by intro args w;simp;first | done | fail) (hps:∀ x,ps.size=(enc x).length:=by intro x;rfl) (hpn:(ps.toList.all fun p=>decide (p<n))=true:=by rfl):V P Fence.wide Qr n ds k (Mem C w0 A) l:=V.at h fun a w ha hw=>by
 have hpn':∀ p∈ps.toList,p<n:=fun p hp=>of_decide_eq_true (List.all_eq_true.1 hpn p hp);refine wpIn_rangeFunc (fun fn hfn=>?_);obtain⟨rec,hrec⟩:∃ rec:LoopState->Option Code->Loop,rec=fun st pe=>{state:=st,pending:=pe,fn,tmps:=a.tmps,params:=ps,assign,body,defers:=w.heap.size}:=⟨_,rfl⟩
 obtain⟨l0,hl0⟩:∃ l0,w.heap.size+1=l0:=⟨_,rfl⟩
 obtain⟨D,hD⟩:∃ D,w.heap.size=D:=⟨_,rfl⟩
 obtain⟨W1,hW1⟩:∃ W1,(w.alloc (.deferred (F []))).alloc (.loop (rec .ready O))=W1:=⟨_,rfl⟩
 have hb1:Below w.heap.size w (w.alloc (.deferred (F []))):=(Bq _ w).alloc Nr _;have hM1:Mem C w0 (lo l0 D (.loop (rec .ready O))++(Iz []++B [])) W1:=by
  have h1:=(hA w hw).push (X:=Ob D (.deferred (F []))) (Fz:=fun b=>b=w.heap.size) hb1 ⟨hD.symm,by rw[<- hD];exact Wn w _⟩ (fun b hb=>by subst hb;exact⟨Nat.le_refl _,by simp⟩);have h2:=h1.push (X:=Ob l0 (.loop (rec .ready O))) (Fz:=fun b=>b=w.heap.size+1) ((Bq _ _).alloc Nr (.loop (rec .ready O)))
   ⟨hl0.symm,by have:=Wn (w.alloc (.deferred (F []))) (.loop (rec .ready O));rw[World.size_alloc,hl0] at this;exact this⟩ (fun b hb=>by subst hb;exact⟨by simp,by simp⟩)
  rw[hW1] at h2;exact h2
 have hBW:Below w.heap.size w W1:=by rw[<- hW1];exact hb1.trans ((((Bq _ _).alloc Nr _)).mono (by simp))
 refine⟨l0,[mark D],W1,{target:=.fn (.func gf) lb,args:=#[.func (.yield l0) #[] #[]]},W1,gf,#[.func (.yield l0) #[] #[]]++lb,W1,?_,?_,?_,?_,fun h=>by simp[Fence.wide] at h,?_⟩
 ·rw[<- hW1,hrec,<- hl0,<- hD];exact run_enterLoop_outer _ _ _ _ _
 ·simp only[resolve,ha.ev hg]
  simp[go_sem]
 ·intro f' _;trivial
 ·simp[invoke,go_sem,eg]
 have hfl:∀ (o:Obj) (Yz:List Aj) (G:Nat->Prop) (w:Y),Bm (Yz++[star (lo l0 D o)]) w G->Bm (lo l0 D o++Yz) w G:=fun o Yz G w h=>Bm.flip (A:=Yz) (Bm.unpack h);have fin:∀ (Yz:List Aj) (W2 W3:Y) (Fz:Nat->Prop) (o o':Obj),Mem Fz W2 (Yz++[star (lo l0 D o)]) W3->AI Fz W2 (W3.putObj l0 o')/\∃ F':Nat->Prop,(∀ b,F' b->b<(W3.putObj l0 o').heap.size/\(Fz b\/W2.heap.size<=b))/\(star (lo l0 D o'++Yz)).is F' (W3.putObj l0 o'):=fun Yz W2 W3 Fz o o' h=>by
  have h2:=(h.lo_put o').2;exact⟨h2.1,_,fun b hb=>⟨hb.1,hb.2.symm⟩,hfl _ _ _ _ h2.2⟩
 refine(hi l0 (fun s=>star (lo l0 D (.loop (rec .ready O))++B s)) (fun s=>Hf fun c=>star (lo l0 D (.loop (rec .done (F c)))++Bx c s)) W1 _ (hSt w W1 _ hw hBW (fun b hb=>hb.2)) (Bm.pack (A:=Iz []) (Bm.swap hM1.2)) (fun b hb=>hb.1) ?_).mono ?_
 ·intro pre x hadm W2 Fz hx hJ hF;have hJ1:Bm (X x++(lo l0 D (.loop (rec .ready O))++B pre)) W2 Fz:=Bm.unpack (Adc hJ);have hJ2:Bm ((X x++B pre)++[star (lo l0 D (.loop (rec .ready O)))]) W2 Fz:=Bm.pack (Bm.flip (Bm.swap hJ1));have hl2:=(lo_put (o':=.loop (rec .ready O)) (Bm.swap hJ1)).1;have hy:=run_yield (P:=P) (args:=(enc x).toArray) hl2 (by rw[hrec];simp[hps x]);rw[hrec] at hy;have hwp:=round l0 pre x W2 Fz (star (lo l0 D (.loop (rec .ready O)))) (star (lo l0 D (.loop {rec .ready O with state:=.busy}))) (fun w w'=>(Instr.beginRound l0).run P w=.ok () w') hadm
   (hM1.1.trans hx (fun b hb hg=>hg.2.elim (fun h=>by omega) id)) (fun b hb=>(hF b hb).2.elim (fun h=>.inl (Nat.le_trans hM1.1.size h)) (fun h=>h.2))
   (fun A w hm=>by obtain⟨h1,h2⟩:=hm.lo_put (.loop {rec .ready O with state:=.busy});exact⟨_,run_beginRound h1 (by rw[hrec]),h2⟩)
  have hwp:=(KO ..).1 (hwp _ W2 (Kn.penv ps.toList (enc x) l {a with defers:=[]} ⟨ha.size,rfl,ha.get⟩ hpn') ⟨AI.refl _ _,Bm.mono hJ2 (fun b hb=>⟨(hF b hb).1,.inr hb⟩) (fun _ _=>rfl)⟩);have hfold:((ps.zip (enc x).toArray).foldl (fun t (p,v)=>t.setIfInBounds p v) a.tmps)=((ps.toList.zip (enc x)).foldl (fun t (p,v)=>t.setIfInBounds p v) a.tmps):=by
   rw[<- Array.foldl_toList,Array.toList_zip]
  refine⟨fn,_,assign,body,hy,roundIn_of_wpIn hfn ?_⟩;dsimp only
  rw[hfold];refine wpIn_mono hwp fun e a3 W3 q=>?_;cases e with
  | normal=>
   obtain⟨w',h1,h2⟩:=q;refine⟨w',h1,wpIn_mono ((KO ..).1 h2) fun e a4 W4 q=>?_⟩;cases e with
   | normal=>
    have q:Mem Fz W2 ((Yz (pre++[x])++B (pre++[x]))++_) W4:=q;obtain⟨k1,F',k2,k3⟩:=fin _ _ _ _ _ (.loop (rec .ready O)) q;have hr:=run_endRound (P:=P) O (q.lo_put (.loop (rec .ready O))).1;rw[hrec] at hr;exact⟨_,_,hr,by rw[hrec] at k1 k2 k3;exact⟨k1,F',k2,.inl ⟨rfl,by rw[hrec];exact Ahe k3⟩⟩⟩
   | ret=>
    have q:Mem Fz W2 (Bx .ret (pre++[x])++_) W4:=q;obtain⟨k1,F',k2,k3⟩:=fin _ _ _ _ _ (.loop (rec .done (F .ret))) q;have hr:=run_endRound (P:=P) (F .ret) (q.lo_put (.loop (rec .ready O))).1;rw[hrec] at hr;exact⟨_,_,hr,by rw[hrec] at k1 k2 k3;exact⟨k1,F',k2,.inr ⟨rfl,.ret,by rw[hrec];exact k3⟩⟩⟩
   | exit i=>
    have q:Mem Fz W2 (Bx (.exit i) (pre++[x])++_) W4:=q;obtain⟨k1,F',k2,k3⟩:=fin _ _ _ _ _ (.loop (rec .done (F (.exit i)))) q;have hr:=run_endRound (P:=P) (F (.exit i)) (q.lo_put (.loop (rec .ready O))).1;rw[hrec] at hr;exact⟨_,_,hr,by rw[hrec] at k1 k2 k3;exact⟨k1,F',k2,.inr ⟨rfl,.exit i,by rw[hrec];exact k3⟩⟩⟩
   | _=>exact q.elim
  | exit i=>exact q.elim
  | _=>exact q.elim
 ·rintro e W2 ⟨⟨v,rfl⟩,hx,G',hG',hcase⟩;have hxx:∀ o,AI C w0 (W2.putObj l0 o):=fun o=>(hM1.1.trans hx (fun b hb hg=>hg.2.elim (fun h=>by omega) id)).trans (C':=fun b=>b=l0) (AI.put rfl) (fun b hb e=>by have:=hM1.1.size;have:=hw.1.size;omega);have hGG:∀ o b,G' b->b<(W2.putObj l0 o).heap.size/\(w0.heap.size<=b\/C b):=fun o b hb=>⟨by simpa using (hG' b hb).1,(hG' b hb).2.elim (fun h=>h.2) (fun h=>.inl (Nat.le_trans hM1.1.size h))⟩
  rcases hcase with ⟨xs,hfin,hs⟩ | ⟨pre,c,hs⟩
  ·have h1:=Bm.swap (Bm.unpack hs);obtain⟨a1,a2,a3⟩:=lo_put (o':=.loop {rec .ready O with state:=.exhausted}) h1;refine⟨O,W2.putObj l0 (.loop {rec .ready O with state:=.exhausted}),(run_endLoop (P:=P) a1 (by rw[hrec];simp)).trans (congrArg (fun p=>Result.ok p _) (show(rec .ready O).pending=O by rw[hrec])),hdone D xs hfin _ _ ⟨ha.size,by simp[ha.defers],ha.get⟩ ⟨hxx _,?_⟩⟩;have h2:=Bm.swap a3;exact Bm.mono (A:=Iz xs++_) ((show Bm (Iz xs++(Ob l0 _::(Ob D (.deferred (F []))::B xs))) _ G' from h2).sub (List.Sublist.append_left (List.sublist_cons_self ..) _)) (hGG _) (fun _ _=>rfl)
  ·obtain⟨a1,a2,a3⟩:=lo_put (o':=.loop {rec .done (F c) with state:=.exhausted}) hs;refine⟨F c,W2.putObj l0 (.loop {rec .done (F c) with state:=.exhausted}),(run_endLoop (P:=P) a1 (by rw[hrec];simp)).trans (congrArg (fun p=>Result.ok p _) (show(rec .done (F c)).pending=F c by rw[hrec])),(KO ..).1 (hstop D c pre _ _ ⟨ha.size,by simp[ha.defers],ha.get⟩ ⟨hxx _,?_⟩)⟩;exact Bm.mono (Bm.sub (A:=lo l0 D _++Bx c pre) (List.sublist_cons_self ..) a3) (hGG _) (fun _ _=>rfl)
end
end
section
def AC:List Value->Nat->List Value->Option (List Value)
 | l,0,[]=>F l
 | x::l,0,v::vs=>match AC l 0 vs with
  | some r=>F (v::r)
  | none=>O
 | x::l,o+1,vs=>match AC l o vs with
  | some r=>F (x::r)
  | none=>O
 | [],_,_=>O
theorem Nb:∀ (l:List Value) (o:Nat) (v:Value) (vs r:List Value),AC l o (v::vs)=F r->o<l.length/\AC (l.set o v) (o+1) vs=F r
 | [],0,v,vs,r,h=>by cases h
 | [],o+1,v,vs,r,h=>by cases h
 | x::l,0,v,vs,r,h=>⟨by simp,h⟩
 | x::l,o+1,v,vs,r,h=>by
  unfold AC at h;split at h
  ·rename_i u hu;cases h
   obtain⟨h1,h2⟩:=Nb l o v vs u hu;refine⟨by simpa using h1,?_⟩;rw[List.set_cons_succ];show(match AC (l.set o v) (o+1) vs with | some r=>F (x::r) | none=>O)=_;rw[h2]
  ·cases h
theorem Qo:∀ (l:List Value) (o:Nat) (r:List Value),AC l o []=F r->r=l
 | l,0,r,h=>by cases l<;>(cases h;rfl)
 | [],o+1,r,h=>by cases h
 | x::l,o+1,r,h=>by
  unfold AC at h;split at h
  ·rename_i u hu;cases h
   rw[Qo l o u hu]
  ·cases h
section
variable {P:Program} {b o:Nat} {bt:TypeId}
theorem F7:∀ (vs:List Value) (i:Nat) (cs cs':List Value) (w:Y),w.heap[b]? =F (.cells cs.toArray bt)->AC cs (o+i) vs=F cs'->vs.all Value.oneCell'=true→
  ∃ w',(storeCells ⟨b,o,O⟩ vs i).run P w=.ok () w'/\w'.heap[b]? =F (.cells cs'.toArray bt)/\AI (fun k=>k=b) w w'/\w'.heap.size=w.heap.size
 | [],i,cs,cs',w,h,hs,_=>by
  rw[Qo _ _ _ hs];exact⟨w,by simp[storeCells,pure],h,AI.refl _ _,rfl⟩
 | v::vs,i,cs,cs',w,h,hs,h1=>by
  obtain⟨hlt,hs2⟩:=Nb _ _ _ _ _ hs;rw[List.all_cons,Bool.and_eq_true] at h1;have ha:(⟨b,o,O⟩:Addr).add i=⟨b,o+i,O⟩:=by unfold Addr.add;split<;>simp_all
  have hc:w.cell? ⟨b,o+i,O⟩=F (cs[o+i]):=by simp[World.cell?,h,hlt]
  have hf:w.frozen? ⟨b,o+i,O⟩=false:=by simp[World.frozen?,h]
  have hb:b<w.heap.size:=(Gl h)
  have h2:(w.setCell ⟨b,o+i,O⟩ v).heap[b]? =F (.cells (cs.set (o+i) v).toArray bt):=by
   simp[World.setCell,Array.getElem?_modify,h]
  obtain⟨w',k1,k2,k3,k4⟩:=F7 vs (i+1) _ cs' _ h2 (by rw[<- Nat.add_assoc];exact hs2) h1.2;refine⟨w',?_,k2,?_,by rw[k4];simp[World.setCell]⟩
  ·unfold storeCells;simp only[store,Sem.run_bind,ha]
   have:(Sem.store Mode.plain ⟨b,o+i,O⟩ v (Sem.pure ())).run P w=.ok () (w.setCell ⟨b,o+i,O⟩ v):=by
    have h1:=h1.1;cases v<;>first | (cases h1;first | done | fail) | simp[Sem.run,hc,hf]
   rw[this];exact k1
  ·exact AI.trans (b:=w.setCell ⟨b,o+i,O⟩ v) (C':=fun k=>k=b) ⟨rfl,rfl,rfl,by simp,fun k hk hn=>Bh _ _ _ _ hn⟩ k3 (fun _ _ e=>e)
end
section
variable {P:Program} {Fz:Fence} {Qr:Exit->Act->Y->Prop} {n:Nat} {ds:List Deferred} {d:Bool} {ops:Array Oper} {K:Act->Y->Prop} {i:Nat} {pl pend pend':List Nat} {l l':Env}
 {t:Nat} {ty:TypeId} {ps:String} {af:Array Edge} {gd:Option (Nat×Bool)} {C:Nat->Prop} {w0:Y} {A A':List Aj}
theorem R.st {x y:Operand} {tt bt:TypeId} {b o:Nat} {v:Value} {cs cs':List Value} (ho:Aw ops.toList i=F ⟨O,.store tt x y,ty,ps,af,gd⟩:=by rfl) (hx:ev l x=F (.pointer (F ⟨b,o,O⟩)):=by rfl) (hy:ev l y=F v:=by rfl) (hr:Dt (blk b cs bt) (blk b cs' bt) A A':=by(repeat (first | exact Dt.hd | apply Dt.tl));first | done | fail) (hv:AC cs o v.cells.toList=F cs':=by rfl) (ho1:v.cells.toList.all Value.oneCell'=true:=by rfl) (hs:∀ w,(sizeOf tt).run P w=.ok v.cells.size w:=by intro w;simp;(try rfl);first | done | fail) (hp:Sq (ι:=Unit) d ops i pend pend' (fun _=>Mem C w0 A') (Mem C w0 A):=by first | exact .inl ⟨rfl,rfl⟩ | exact .inr (.inl ⟨rfl,rfl⟩)) (hg:Cv ops.toList l gd=F true:=by rfl):(Rj P n ds d ops K pl pend' (Mem C w0 A') l)->Rj P n ds d ops K (i::pl) pend (Mem C w0 A) l:=fun h=>
 R.eff (ι:=Unit) (Si:=fun _=>Mem C w0 A') (li:=fun _=>l) ho hg rfl (fun a w K' ha hd hw hk=>by
  obtain⟨G,⟨g1,g2⟩,g3,g4⟩:=hw.rep hr;obtain⟨w',k1,k2,k3,k4⟩:=F7 (P:=P) v.cells.toList 0 cs cs' w g2 hv ho1;unfold Eo;have:(execOp a.eval ⟨O,.store tt x y,ty,ps,af,gd⟩).run P w=.ok .skip w':=by
   simp only[execOp,ha.ev hx,ha.ev hy,Sem.run_bind,Instr.storeAt,Instr.sureAddr,storeVar]
   simp[Sem.run_bind,hs w,k1,pure,Sem.run]
  rw[this];exact hk () undef w' (g4 G w' ⟨g1,k2⟩ (k3.sub (fun k _ e=>by subst e;exact g1)) (fun k hk=>⟨by rw[k4];exact(g3 k hk).1,.inl hk⟩)) ha) hp (fun _=>h)
theorem R.cf {ι:Type} {v:ι->Value} {X:ι->List Aj} {f:FuncId} {fn:Operand} {fs cs:Array Value} {args:List Operand} {ts:Array TypeId} {vs aq:List Value}
  (hc:∀ w,Mem C w0 A w->Calls P f aq.toArray w fun e w'=>∃ x,e=.returned (v x)/\Fr w w' (X x)) (h:∀ x,Rj P n ds d ops K pl pend' (Mem C w0 (X x++A)) ((t,v x)::l))
  (ho:Aw ops.toList i=F ⟨F t,.call {callee:=.value fn,args:=args.toArray,argTypes:=ts},ty,ps,af,gd⟩:=by rfl) (hf:ev l fn=F (.func (.func f) fs cs):=by rfl) (hs:evs l args=F vs:=by rfl) (he:fs.toList++(vs++cs.toList)=aq:=by rfl) (hr:∀ args w,(callFunc f args).run P w=.ok (.enter f args) w:=by intro args w;simp;first | done | fail)
  (hp:Sq d ops i pend pend' (fun x=>Mem C w0 (X x++A)) (Mem C w0 A):=by first | exact .inl ⟨rfl,rfl⟩ | exact .inr (.inl ⟨rfl,rfl⟩) | exact .inr (.inr ⟨rfl,fun _ _ h=>h.sub (List.sublist_append_right ..)⟩)) (hg:Cv ops.toList l gd=F true:=by rfl):Rj P n ds d ops K (i::pl) pend (Mem C w0 A) l:=
 R.cx (A':=fun x=>X x++A) (fun w hw=>(hc w hw).mono fun e w' ⟨x,he,hf⟩=>⟨x,he,hw.fr hf⟩) h ho hf hs he hr hp hg
theorem R.y {lp:Nat} {fn:Operand} {args:List Operand} {ts:Array TypeId} {vs:List Value} {Jz J' Jx:Aj} {A0:List Aj} (hY:OP P lp vs.toArray w0 C Jz J' Jx)
  (hT:Rj P n ds d ops K pl pend' (Mem C w0 (J'::A0)) ((t,.bool true)::l)) (hF:Rj P n ds d ops K pl pend' (Mem C w0 (Jx::A0)) ((t,.bool false)::l))
  (ho:Aw ops.toList i=F ⟨F t,.call {callee:=.value fn,args:=args.toArray,argTypes:=ts},ty,ps,af,gd⟩:=by rfl) (hf:ev l fn=F (.func (.yield lp) #[] #[]):=by rfl) (hs:evs l args=F vs:=by rfl)
  (hk:Pk Jz A A0:=by(repeat (first | exact Pk.hd | apply Pk.tl));first | done | fail) (hp:Sq (ι:=Bool) d ops i pend pend' (fun x=>Mem C w0 ((bif x then J' else Jx)::A0)) (Mem C w0 A):=by first | exact .inl ⟨rfl,rfl⟩ | exact .inr (.inl ⟨rfl,rfl⟩)) (hg:Cv ops.toList l gd=F true:=by rfl):Rj P n ds d ops K (i::pl) pend (Mem C w0 A) l:=
 R.eff (ι:=Bool) (Si:=fun x=>Mem C w0 ((bif x then J' else Jx)::A0)) (li:=fun x=>(t,.bool x)::l) ho hg rfl (fun a w K' ha hd hw hk'=>by
  have h0:=hw.pk hk;obtain⟨G1,g1,g2,g3⟩:=h0.rep (Dt.hd (X:=Jz) (X':=J') (r:=A0));obtain⟨G2,i1,i2,i3⟩:=h0.rep (Dt.hd (X:=Jz) (X':=Jx) (r:=A0));obtain⟨F0,e1,e2,e3⟩:=h0.2;have hyy:=hY w F0 h0.1 e1 (fun b hb=>e2 b hb);obtain⟨f,tm,aq,bd,hr,hrd⟩:=hyy;have h1:(args.toArray).map a.eval=vs.toArray:=by rw[List.map_toArray,(ha.evs _ _ hs).2]
  unfold Eo;have:(execOp a.eval ⟨F t,.call {callee:=.value fn,args:=args.toArray,argTypes:=ts},ty,ps,af,gd⟩).run P w=.ok (.round lp f tm aq bd) w:=by
   simp[execOp,resolve,Deferred.ofValue,invoke,h1,ha.ev hf,Sem.run_bind,pure,hr]
  rw[this];refine RoundIn.mono hrd fun e w' he=>?_;obtain⟨hx,F',hF',hc⟩:=he;have fin:∀ X:Aj,X.is F' w'->Mem C w0 (X::A0) w':=fun X hX=>by
   refine⟨h0.1.trans hx (fun b hb hf=>(e2 b hf).2.elim (fun h=>by omega) id),F',hX,fun b hb=>⟨(hF' b hb).1,(hF' b hb).2.elim (fun h=>(e2 b h).2) (fun h=>.inl (Nat.le_trans h0.1.size h))⟩,e3.mono (fun b hb=>⟨⟨Nat.lt_of_lt_of_le hb.1.1 hx.size,hb.1.2⟩,fun hf=>(hF' b hf).2.elim hb.2 (fun h=>by have:=hb.1.1;omega)⟩) (fun b hb=>hx.block b hb.1.1 hb.2)⟩
  rcases hc with ⟨rfl,hc⟩ | ⟨rfl,hc⟩
  ·exact⟨_,rfl,hk' true _ w' (fin _ hc) (hd _)⟩
  ·exact⟨_,rfl,hk' false _ w' (fin _ hc) (hd _)⟩) hp (fun x=>by cases x;exact hF;exact hT)
end
inductive RV (P:Program) (l:Env) (A:List Aj):List ResultVar->List Value->Prop
 | nil:RV P l A [] []
 | tmp {t:Nat} {v:Value} {rs:List ResultVar} {vs:List Value} (h:lk l t=F v) (hr:RV P l A rs vs):RV P l A (.tmp t::rs) (v::vs)
 | one {x b:Nat} {ty bt:TypeId} {v:Value} {cs:List Value} {rs:List ResultVar} {vs:List Value} (hx:lk l x=F (.pointer (F ⟨b,0,O⟩))) (hb:blk b (v::cs) bt∈A) (ht:∀ w,(isAgg ty).run P w=.ok false w) (hr:RV P l A rs vs):RV P l A (.cell x ty::rs) (v::vs)
 | agg {x b:Nat} {ty bt:TypeId} {cs:List Value} {rs:List ResultVar} {vs:List Value} (hx:lk l x=F (.pointer (F ⟨b,0,O⟩))) (hb:blk b cs bt∈A) (ht:∀ w,(isAgg ty).run P w=.ok true w) (hs:∀ w,(sizeOf ty).run P w=.ok cs.length w) (hr:RV P l A rs vs):RV P l A (.cell x ty::rs) (.agg cs.toArray::vs)
inductive Marks:List Deferred->List Aj->List Aj->Prop
 | nil {A:List Aj}:Marks [] A A
 | cons {D:Nat} {ds:List Deferred} {A A1 A':List Aj} (h:Dt (Ob D (.deferred (F []))) (Ob D (.deferred O)) A A1) (hr:Marks ds A1 A'):Marks (mark D::ds) A A'
section
variable {P:Program} {n:Nat} {ds:List Deferred} {k:List Je} {l:Env} {fn:Func} {R:Ending->Y->Prop} {C:Nat->Prop} {w0:Y} {A A':List Aj} {vs:List Value}
theorem O1 {a:Act} {w:Y} (ha:Kn n ds l a) (hw:Mem C w0 A w) (h:RV P l A fn.results.toList vs):(results fn a.tmps).run P w=.ok (one vs) w:=by
 have key:∀ (rs:List ResultVar) (vs:List Value),RV P l A rs vs->(rs.mapM (m:=Sem) (fun | .tmp t=>pure (a.tmps.getD t undef) | .cell x t=>do loadVar t (<- asAddr (a.tmps.getD x undef)))).run P w=.ok vs w:=by
  intro rs vs h;induction h with
  | nil=>rfl
  | tmp h _ ih=>
   simp only[List.mapM_cons,Sem.run_bind,ha.get _ _ h]
   rw[show ∀ v:Value,(pure v:Sem Value).run P w=.ok v w from fun _=>rfl];simp only[Result.andThen_ok,ih]
   rfl
  | @one x b ty bt v cs rs vs hx hb ht _ ih=>
   have:=U7 (t:=ty) (ht w) (Cs.of_blk (hw.blk hb) 0 v rfl);have hA:(asAddr (a.tmps.getD x undef)).run P w=.ok ⟨b,0,O⟩ w:=by rw[ha.get _ _ hx];rfl
   have hL:(loadVar ty ⟨b,0,O⟩).run P w=.ok v w:=this;simp only[List.mapM_cons,Sem.run_bind,hA,Result.andThen_ok,hL,ih]
   rfl
  | @agg x b ty bt cs rs vs hx hb ht hs _ ih=>
   have:=UT (t:=ty) (ht w) (hs w) (Cs.of_blk (hw.blk hb));have hA:(asAddr (a.tmps.getD x undef)).run P w=.ok ⟨b,0,O⟩ w:=by rw[ha.get _ _ hx];rfl
   have hL:(loadVar ty ⟨b,0,O⟩).run P w=.ok (.agg cs.toArray) w:=this;simp only[List.mapM_cons,Sem.run_bind,hA,Result.andThen_ok,hL,ih]
   rfl
 obtain⟨rs,hr⟩:∃ rs,fn.results.toList=rs:=⟨_,rfl⟩
 have hf:fn.results=rs.toArray:=by rw[<- hr]
 rw[hr] at h;unfold results;rw[hf,List.mapM_toArray];simp only[map_eq_pure_bind,Sem.run_bind]
 have h2:=key rs vs h;refine(congrArg (fun r:Result (List Value)=>(r.andThen fun x w'=>Sem.run P (pure x.toArray) w').andThen fun x w'=>Sem.run P (pure (if h:x.size=1 then x[0] else Value.tuple x)) w') h2).trans ?_
 match vs with
 | []=>rfl
 | [v]=>rfl
 | u::v::r=>simp[pure,one,Result.andThen]
theorem leaves {a:Act} (ha:Kn n ds l a) (hm:Marks ds A A') (hv:RV P l A' fn.results.toList vs) (hR:∀ w,Mem C w0 A' w->R (.returned (one vs)) w):∀ w,Mem C w0 A w->LeavesInM Fence.wide 0 P fn a.tmps R ds .returning w:=by
 have key:∀ es A A',Marks es A A'->RV P l A' fn.results.toList vs->(∀ w,Mem C w0 A' w->R (.returned (one vs)) w)->∀ w,Mem C w0 A w->LeavesInM Fence.wide 0 P fn a.tmps R es .returning w:=by
  clear hm hv hR;intro es A A' hm;induction hm with
  | nil=>exact fun hv hR w hw=>⟨_,O1 ha hw hv,hR w hw⟩
  | @cons D es A A1 A' h _ ih=>
   intro hv hR w hw;obtain⟨G,⟨g1,g2⟩,g3,g4⟩:=hw.rep h;have hlt:D<w.heap.size:=(Gl g2)
   exact⟨by simp,.inl ⟨D,_,rfl,run_takeDeferred g2,ih hv hR _ (g4 G _ ⟨g1,World.putObj_heap_same hlt⟩ (AI.put g1) (fun b hb=>⟨by simpa using (g3 b hb).1,.inl hb⟩))⟩⟩
 exact key ds A A' hm hv hR
theorem V.end (hR:∀ w,Mem C w0 A' w->R (.returned (one vs)) w) (h:G8 400 O k=.ret\/G8 400 O k=.fin:=by first | exact .inl rfl | exact .inr rfl) (hm:Marks ds A A':=by repeat (first | exact Marks.nil | (apply Marks.cons;(repeat (first | exact Dt.hd | apply Dt.tl)))))
  (hv:RV P l A' fn.results.toList vs:=by repeat (first | exact RV.nil | (apply RV.tmp;rfl) | (apply RV.one;rfl;(repeat (first | exact List.Mem.head _ | apply List.Mem.tail));(intro w;kernel_rfl)) | (apply RV.agg;rfl;(repeat (first | exact List.Mem.head _ | apply List.Mem.tail));(intro w;kernel_rfl);(intro w;simp;try rfl)))):V P Fence.wide (bodyPostM Fence.wide 0 P fn R) n ds k (Mem C w0 A) l:=by
 have key:∀ a w,Kn n ds l a->Mem C w0 A w->LeavesInM Fence.wide 0 P fn a.tmps R a.defers .returning w:=fun a w ha hw=>by
  rw[ha.defers];exact leaves ha hm hv hR w hw
 rcases h with h | h
 ·exact V.at h fun a w ha hw=>key a w ha hw
 ·exact V.at h fun a w ha hw=>key a w ha hw
end
def itR {α:Type} (G:Nat->Prop) (w0:Y) (Iz:List α->List Aj) (Jz Jx:List α->Aj) (Fin:List α->Prop) (e:Ending) (w':Y):Prop:=
 (∃ v,e=.returned v)/\((∃ xs,Fin xs/\Mem G w0 (Iz xs++[Jz xs]) w')\/∃ pre,Mem G w0 [Jx pre] w')
theorem FH.of {α:Type} {P:Program} {gf:Nat} {lb:Array Value} {enc:α->List Value} {X:α->List Aj} {Yz Iz:List α->List Aj} {Adm:List α->α->Prop} {Fin:List α->Prop} {St:Y->(Nat->Prop)->Prop}
  (h:∀ (l:Nat) (Jz Jx:List α->Aj) (w:Y) (G:Nat->Prop),St w G->(∀ b,G b->b<w.heap.size)->(∀ pre x,Adm pre x->OP P l (enc x).toArray w G (yst (X x) (Jz pre)) (yst (Yz (pre++[x])) (Jz (pre++[x]))) (Jx (pre++[x])))→
   Mem G w (Iz []++[Jz []]) w->Calls P gf (#[.func (.yield l) #[] #[]]++lb) w (itR G w Iz Jz Jx Fin)):V5 P gf lb enc X Yz Iz Adm Fin St:=by
 intro l Jz Jx w G hSt hS hG hY;refine(callsIn_wide (n:=0)).2 (Calls.mono (h l Jz Jx w G hSt hG hY ⟨AI.refl _ _,hS.mono (fun b hb=>⟨hG b hb,.inr hb⟩) (fun _ _=>rfl)⟩) ?_);rintro e w' ⟨hv,hc⟩;rcases hc with ⟨xs,hf,hm⟩ | ⟨pre,hm⟩
 ·exact⟨hv,hm.1,_,fun b hb=>⟨hb.1,hb.2.symm⟩,.inl ⟨xs,hf,hm.2⟩⟩
 ·obtain⟨Fz,h1,h2,_⟩:=hm.2;exact⟨hv,hm.1,Fz,fun b hb=>⟨(h2 b hb).1,(h2 b hb).2.symm⟩,.inr ⟨pre,h1⟩⟩
def pr (p:Prop):Aj:=⟨fun _ _=>p,fun _ _ _ _ h=>h⟩
theorem Mem.pr {C:Nat->Prop} {w0 w:Y} {A:List Aj} {p:Prop} (h:Mem C w0 A w) (hp:p):Mem C w0 (pr p::A) w:=⟨h.1,fun _=>False,hp,fun _ e=>e.elim,h.2.mono (fun b hb=>⟨hb,fun e=>e⟩) (fun _ _=>rfl)⟩
theorem V.pr {P:Program} {Fz:Fence} {Qr:Exit->Act->Y->Prop} {n:Nat} {ds:List Deferred} {k:List Je} {l:Env} {C:Nat->Prop} {w0:Y} {A:List Aj} {p:Prop} (hp:p) (h:V P Fz Qr n ds k (Mem C w0 (Go.Proofs.YtdpppepmkeinaaaGreatDoor.pr p::A)) l):V P Fz Qr n ds k (Mem C w0 A) l:=fun a w ha hw=>h a w ha (hw.pr hp)
theorem V.prop {P:Program} {Fz:Fence} {Qr:Exit->Act->Y->Prop} {n:Nat} {ds:List Deferred} {k:List Je} {l:Env} {C:Nat->Prop} {w0:Y} {A:List Aj} {p:Prop} (h:p->V P Fz Qr n ds k (Mem C w0 A) l) (hp:Go.Proofs.YtdpppepmkeinaaaGreatDoor.pr p∈A:=by(repeat (first | exact List.Mem.head _ | apply List.Mem.tail));first | done | fail):V P Fz Qr n ds k (Mem C w0 A) l:=
 fun a w ha hw=>h (let ⟨_,h1,_⟩:=hw.has hp;h1) a w ha hw
theorem W {Jz J':Prop} (k:J') (h:J'->Jz:=by first | exact R.z | exact V.reg (.inl rfl) | exact R.add | exact R.sub | exact R.p | exact R.lb | exact R.st | exact R.u | exact R.uc | exact V.tt rfl | exact V.ff rfl | exact V.reg (.inr ⟨_,rfl⟩)):Jz:=h k
end
section
def Af (e:TypeId) (sz:Nat) (v:Value) (n:Nat) (xs:List Value):Aj:=⟨fun Fz w=>w.ownsRow 0 e sz v n xs/\∀ b,v.ownBlock=F b->Fz b,fun Fz w w' h x=>by
 obtain⟨⟨h1,h2⟩,h3⟩:=x;refine⟨⟨h1,?_⟩,h3⟩;rcases h2 with h2 | ⟨g,cap,cur,hv,h0,hg,r⟩
 ·exact .inl h2
 ·exact .inr ⟨g,cap,cur,hv,h0,(h g (h3 g (by rw[hv];rfl))).trans hg,r⟩⟩
structure El (P:Program) (tt e:TypeId) (sz bytes:Nat):Prop where
 und:P.underlying tt=F (.slice e)
 info:(P.info? e).map (fun i=>(i.zero.map (·.cells.size),i.size,i.bytes))=F (F sz,sz,bytes)
 pos:0<sz
 small:bytes<=1000
section
variable {P:Program} {Fz:Fence} {Qr:Exit->Act->Y->Prop} {n:Nat} {ds:List Deferred} {d:Bool} {ops:Array Oper} {K:Act->Y->Prop} {i:Nat} {pl pend pend':List Nat} {l l':Env}
 {t:Nat} {ty:TypeId} {ps:String} {af:Array Edge} {gd:Option (Nat×Bool)} {C:Nat->Prop} {w0:Y} {A:List Aj}
theorem R.bs {op:Op} {vs cs:List Value} {bt:TypeId} {m:Nat} (h:∀ b,w0.heap.size<=b->Rj P n ds d ops K pl pend (Mem C w0 (blk b cs bt::A)) ((t,Z (F ⟨b,0,O⟩) m m)::l)) (ho:Aw ops.toList i=F ⟨F t,op,ty,ps,af,gd⟩:=by rfl) (hg:Cv ops.toList l gd=F true:=by rfl)
  (hs:evs l op.operands.toList=F vs:=by rfl) (hq:quiet P op=false:=by first | rfl | kernel_rfl)
  (hv:∀ ρ w,EV ρ op.operands.toList vs->(execOp ρ ⟨F t,op,ty,ps,af,gd⟩).run P w=.ok (.value (Z (F ⟨w.heap.size,0,O⟩) m m)) (w.alloc (.cells cs.toArray bt)):=by intro ρ w h;simp only[Op.operands,Call.operands,EV,Array.toList_append,List.toList_toArray,List.map_cons,List.map_nil,List.nil_append,List.cons_append] at h;simp[go_sem,h];(first | rfl | exact⟨rfl,rfl⟩ | skip);first | done | fail):Rj P n ds d ops K (i::pl) pend (Mem C w0 A) l:=
 R.eff (ι:={b:Nat // w0.heap.size<=b}) (Si:=fun b=>Mem C w0 (blk b.1 cs bt::A)) (li:=fun b=>(t,Z (F ⟨b.1,0,O⟩) m m)::l) ho hg hq
  (fun a w K' ha hd hw hk=>by
   unfold Eo;rw[hv a.eval w (ha.evs _ _ hs).1];exact hk ⟨w.heap.size,hw.1.size⟩ _ _ (hw.alloc cs bt) (hd _)) (.inr (.inr ⟨rfl,fun x w h=>h.sub (List.sublist_cons_self ..)⟩)) (fun x=>h x.1 x.2)
theorem R.bo {op:Op} {vs cs:List Value} {bt:TypeId} {m sz:Nat} (hm:cs.length=m*sz) (hle:m<=1000000) (h:∀ b,w0.heap.size<=b->Rj P n ds d ops K pl pend (Mem C w0 (Af bt sz (Z (F ⟨b,0,O⟩) m m) m cs::A)) ((t,Z (F ⟨b,0,O⟩) m m)::l)) (ho:Aw ops.toList i=F ⟨F t,op,ty,ps,af,gd⟩:=by rfl) (hg:Cv ops.toList l gd=F true:=by rfl)
  (hs:evs l op.operands.toList=F vs:=by rfl) (hq:quiet P op=false:=by first | rfl | kernel_rfl)
  (hv:∀ ρ w,EV ρ op.operands.toList vs->(execOp ρ ⟨F t,op,ty,ps,af,gd⟩).run P w=.ok (.value (Z (F ⟨w.heap.size,0,O⟩) m m)) (w.alloc (.cells cs.toArray bt)):=by intro ρ w h;simp only[Op.operands,Call.operands,EV,Array.toList_append,List.toList_toArray,List.map_cons,List.map_nil,List.nil_append,List.cons_append] at h;simp[go_sem,h];(first | rfl | exact⟨rfl,rfl⟩ | skip);first | done | fail):Rj P n ds d ops K (i::pl) pend (Mem C w0 A) l:=
 R.eff (ι:={b:Nat // w0.heap.size<=b}) (Si:=fun b=>Mem C w0 (Af bt sz (Z (F ⟨b.1,0,O⟩) m m) m cs::A)) (li:=fun b=>(t,Z (F ⟨b.1,0,O⟩) m m)::l) ho hg hq
  (fun a w K' ha hd hw hk=>by
   unfold Eo;rw[hv a.eval w (ha.evs _ _ hs).1];refine hk ⟨w.heap.size,hw.1.size⟩ _ _ (hw.push (Fz:=fun b=>b=w.heap.size) ((Bq _ w).alloc Nr _) ⟨⟨hm,.inr ⟨_,m,cs.toArray,rfl,Nat.zero_le _,Wn w _,Nat.le_refl _,by unfold maxLen;omega,by simp[hm],by rw[List.toList_toArray,List.take_of_length_le (by omega)]⟩⟩,fun b hb=>by cases hb;rfl⟩ (fun b hb=>by subst hb;exact⟨Nat.le_refl _,by simp⟩)) (hd _)) (.inr (.inr ⟨rfl,fun x w h=>h.sub (List.sublist_cons_self ..)⟩)) (fun x=>h x.1 x.2)
theorem Cs.add {w:Y} {b o:Nat} {vs:List Value} (h:Cs w b o vs):∀ j u,vs[j]? =F u->w.cell? ((⟨b,o,O⟩:Addr).add j)=F u:=fun j u hj=>by
 have hadd:(⟨b,o,O⟩:Addr).add j=⟨b,o+j,O⟩:=by unfold Addr.add;split<;>simp_all
 rw[hadd];exact h j u hj
theorem R.app {s x:Operand} {tt e sz bytes k m c:Nat} {ad:Addr} {v:Value} {xs news:List Value} {A':Value->List Aj} (hE:El P tt e sz bytes) (hc:∀ w,Mem C w0 A w->∀ j u,news[j]? =F u->w.cell? (ad.add j)=F u) (hnm:k+m<=100000000)
  (h:∀ a c,Rj P n ds d ops K pl pend' (Mem C w0 (A' (Z a (k+m) c))) ((t,Z a (k+m) c)::l))
  (ho:Aw ops.toList i=F ⟨F t,.call {callee:=.builtin .append,args:=#[s,x],argTypes:=#[tt,tt]},ty,ps,af,gd⟩:=by rfl) (hs:ev l s=F v:=by rfl) (hx:ev l x=F (Z (F ad) m c):=by rfl)
  (hr:∀ v',Dt (Af e sz v k xs) (Af e sz v' (k+m) (xs++news)) A (A' v'):=by intro v';(repeat (first | exact Dt.hd | apply Dt.tl));first | done | fail) (hl:news.length=m*sz:=by rfl) (h1:news.all Value.oneCell'=true:=by rfl)
  (hp:Sq (ι:=Option Addr×Nat) d ops i pend pend' (fun y=>Mem C w0 (A' (Z y.1 (k+m) y.2))) (Mem C w0 A):=by first | exact .inl ⟨rfl,rfl⟩ | exact .inr (.inl ⟨rfl,rfl⟩)) (hg:Cv ops.toList l gd=F true:=by rfl):Rj P n ds d ops K (i::pl) pend (Mem C w0 A) l:=
 R.eff (ι:=Option Addr×Nat) (Si:=fun y=>Mem C w0 (A' (Z y.1 (k+m) y.2))) (li:=fun y=>(t,Z y.1 (k+m) y.2)::l) ho hg rfl (fun a w K' ha hd hw hk=>by
  obtain⟨i0,z,hi,hz,hzs,hsz,hby⟩:∃ i0 z,P.info? e=F i0/\i0.zero=F z/\z.cells.size=sz/\i0.size=sz/\i0.bytes=bytes:=by
   have:=hE.info;cases hi:P.info? e with
   | none=>rw[hi] at this;cases this
   | some i0=>
    rw[hi] at this;simp only[Option.map_some,Option.some.injEq,Prod.mk.injEq] at this;obtain⟨h1,h2,h3⟩:=this;cases hz:i0.zero with
    | none=>rw[hz] at h1;cases h1
    | some z=>rw[hz] at h1;simp at h1;exact⟨i0,z,rfl,hz,h1,h2,h3⟩
  obtain⟨G,⟨g1,g2⟩,g3,_⟩:=hw.rep (hr v);have hcs:=hc w hw;have hnews:=hcs;obtain⟨v',w',hrun,k1,k2,_,k4⟩:=run_append_own_at (P:=P) w 0 tt ty e i0 z sz bytes hE.und hi hz hsz hby hzs hE.pos v k xs g1 ad m c news hl hnews (fun u hu=>List.all_eq_true.1 h1 u hu) (by unfold maxLen;omega)
   (Nat.le_trans (Nat.mul_le_mul hnm hE.small) (by decide)) (Nat.zero_le _)
  obtain⟨G2,⟨_,i2⟩,i3,i4⟩:=hw.rep (hr v');obtain⟨a',c',hv'⟩:∃ a' c',v'=Z a' (k+m) c':=by
   rcases k1.2 with ⟨e1,e2⟩ | ⟨g,cap,cur,e1,_⟩
   ·exact⟨O,0,by rw[e1,e2]⟩
   ·exact⟨_,cap,e1⟩
  subst hv';have hm:Mem C w0 (A' (Z a' (k+m) c')) w':=by
   refine i4 (fun b=>(Value.slice a' (k+m) c').ownBlock=F b) w' ⟨k1,fun b hb=>hb⟩ ⟨k2.os,k2.tape,k2.output,k2.size,fun b hb hn=>k2.block b hb (fun e=>hn (i2 b e.symm))⟩ (fun b hb=>⟨?_,?_⟩)
   ·rcases k1.2 with ⟨e1,_⟩ | ⟨g,cap,cur,e1,_,hg,_⟩
    ·rw[e1] at hb;cases hb
    ·rw[e1] at hb;cases hb;exact(Gl hg)
   ·rcases k4 with k4 | k4
    ·exact .inl (i2 b (k4.symm.trans hb))
    ·rw[k4] at hb;cases hb;exact .inr Nr
  unfold Eo;have:(execOp a.eval ⟨F t,.call {callee:=.builtin .append,args:=#[s,x],argTypes:=#[tt,tt]},ty,ps,af,gd⟩).run P w=.ok (.value (Z a' (k+m) c')) w':=by
   simp[execOp,resolve,invoke,builtin,Sem.run_bind,pure,ha.ev hs,ha.ev hx,hrun]
  rw[this];exact hk (a',c') _ _ hm (hd _)) hp (fun y=>h y.1 y.2)
end
end
section
section
variable {κ:Type} [DecidableEq κ]
def A3 {β:Type} (x:κ):List (κ×β)->Option β
 | []=>O
 | (y,u)::r=>if y=x then F u else A3 x r
def mput {β:Type} (x:κ) (v:β):List (κ×β)->List (κ×β)
 | []=>[(x,v)]
 | (y,u)::r=>if y=x then (x,v)::r else (y,u)::mput x v r
def D3 {β:Type} (x:κ):List (κ×β)->Option Nat
 | []=>O
 | (y,u)::r=>if y=x then F 0 else (D3 x r).map (·+1)
def AS {β:Type} (f:β->Value) (m:List (κ×β)):List (κ×Value):=m.map fun p=>(p.1,f p.2)
theorem D1 {β:Type} (f:β->Value) (x:κ):∀ m:List (κ×β),A3 x (AS f m)=(A3 x m).map f
 | []=>rfl
 | (y,u)::r=>by
  show A3 x ((y,f u)::AS f r)=_;unfold A3;by_cases h:y=x
  ·rw[if_pos h,if_pos h];rfl
  ·rw[if_neg h,if_neg h];exact D1 f x r
theorem GP {β:Type} (f:β->Value) (x:κ) (v:β):∀ m:List (κ×β),mput x (f v) (AS f m)=AS f (mput x v m)
 | []=>rfl
 | (y,u)::r=>by
  show mput x (f v) ((y,f u)::AS f r)=_;unfold mput;by_cases h:y=x
  ·rw[if_pos h,if_pos h];rfl
  ·rw[if_neg h,if_neg h,GP f x v r];rfl
def H9 (enc:κ->Value) (m:List (κ×Value)) (es:List MapEntry):Prop:=es.map (fun e=>(e.key,e.val))=m.map (fun p=>(enc p.1,p.2))
def K9 (enc:κ->Value) (b:Nat) (m:List (κ×Value)):Aj:=⟨fun Fz w=>Fz b/\∃ (es:Array MapEntry) (clock:Nat),w.heap[b]? =F (.map es clock)/\H9 enc m es.toList,fun Fz w w' h ⟨x,es,c,hb,hm⟩=>⟨x,es,c,(h b x).trans hb,hm⟩⟩
structure Hs (P:Program) (k:TypeId) (enc:κ->Value):Prop where
 check:∀ em x w,(Instr.checkKey em 10000 k (enc x)).run P w=.ok () w
 find:∀ x (m:List (κ×Value)) (es:List MapEntry) w,H9 enc m es->(Instr.findKey k (enc x) es).run P w=.ok ((D3 x m).bind fun i=>(es[i]?).map fun e=>(i,e.val)) w
 same:∀ x,Instr.sameBits 10000 (enc x) (enc x)=true
theorem Rt {x:κ}:∀ {m:List (κ×Value)},(match D3 x m with | some i=>(m[i]?).map (·.2) | none=>O)=A3 x m
 | []=>rfl
 | (y,u)::r=>by
  unfold D3 A3;by_cases h:y=x
  ·rw[if_pos h,if_pos h];rfl
  ·rw[if_neg h,if_neg h];have:=Rt (x:=x) (m:=r);cases hm:D3 x r with
   | none=>rw[hm] at this;simpa using this
   | some i=>rw[hm] at this;simpa using this
theorem QI {enc:κ->Value} {m:List (κ×Value)} {es:List MapEntry} (h:H9 enc m es) (i:Nat):(es[i]?).map (fun e=>(e.key,e.val))=(m[i]?).map (fun p=>(enc p.1,p.2)):=by
 have:=congrArg (fun l=>l[i]?) h;simpa using this
theorem LX {x:κ}:∀ {m:List (κ×Value)} {i:Nat},D3 x m=F i->∃ u,m[i]? =F (x,u)
 | [],i,h=>by cases h
 | (y,u)::r,i,h=>by
  unfold D3 at h;by_cases e:y=x
  ·rw[if_pos e] at h;cases h;exact⟨u,by rw[e];rfl⟩
  ·rw[if_neg e] at h;cases hm:D3 x r with
   | none=>rw[hm] at h;cases h
   | some j=>rw[hm] at h;cases h;obtain⟨v,hv⟩:=LX hm;exact⟨v,hv⟩
theorem NZ {x:κ} {v:Value}:∀ {m:List (κ×Value)},D3 x m=O->mput x v m=m++[(x,v)]
 | [],_=>rfl
 | (y,u)::r,h=>by
  unfold D3 at h;by_cases e:y=x
  ·rw[if_pos e] at h;cases h
  ·rw[if_neg e] at h;cases hm:D3 x r with
   | none=>unfold mput;rw[if_neg e,NZ hm];rfl
   | some j=>rw[hm] at h;cases h
theorem Nz {x:κ} {v:Value}:∀ {m:List (κ×Value)} {i:Nat},D3 x m=F i->mput x v m=m.set i (x,v)
 | [],i,h=>by cases h
 | (y,u)::r,i,h=>by
  unfold D3 at h;by_cases e:y=x
  ·rw[if_pos e] at h;cases h;unfold mput;rw[if_pos e];rfl
  ·rw[if_neg e] at h;cases hm:D3 x r with
   | none=>rw[hm] at h;cases h
   | some j=>rw[hm] at h;cases h;unfold mput;rw[if_neg e,Nz hm];rfl
end
def XZ (ok:Bool) (z:Value):Option Value->Value
 | some v=>if ok then .tuple #[v,.bool true] else v
 | none=>if ok then .tuple #[z,.bool false] else z
section
variable {κ:Type} [DecidableEq κ] {P:Program} {enc:κ->Value} {b:Nat} {m:List (κ×Value)} {w:Y} {t k e:TypeId}
theorem Qa (hK:Hs P k enc) (ht:P.underlying t=F (.map k e)) {z:Value} (hz:(zeroValue e).run P w=.ok z w) (ok:Bool) (x:κ) {es:Array MapEntry} {c:Nat} (hb:w.heap[b]? =F (.map es c)) (hm:H9 enc m es.toList):
  (Instr.lookup t (.map (F b)) (enc x) ok).run P w=.ok (XZ ok z (A3 x m)) w:=by
 have hg:(getObj b).run P w=.ok (.map es c) w:=by simp[getObj,Sem.run,hb]
 have hv:((D3 x m).bind fun i=>(es.toList[i]?).map fun e=>(i,e.val)).map (·.2)=A3 x m:=by
  rw[<- Rt];cases hi:D3 x m with
  | none=>rfl
  | some i=>
   have:=congrArg (Option.map (·.2)) (QI hm i);simp only[Option.map_map] at this;simp only[Option.bind_some,Option.map_map]
   exact this
 unfold Instr.lookup;simp only[Sem.run_bind,run_underlying ht,Result.andThen_ok,hg,hK.check,hK.find x m es.toList w hm]
 rw[show(pure es:Sem (Array MapEntry)).run P w=.ok es w from rfl];simp only[Result.andThen_ok,hK.check,hK.find x m es.toList w hm,<- hv]
 cases hi:(D3 x m).bind fun i=>(es.toList[i]?).map fun e=>(i,e.val) with
 | none=>cases ok<;>simp[hz,XZ,pure,Sem.run]
 | some p=>obtain⟨i,v⟩:=p;simp[XZ,pure,Sem.run]
theorem KW {es:Array MapEntry} {c:Nat} (o:Obj) (hb:w.heap[b]? =F (.map es c)):(setObj b o).run P w=.ok () (w.putObj b o):=by simp[setObj,Sem.run,hb,World.putObj]
theorem Adt {x:κ} {i:Nat} (h:D3 x m=F i):i<m.length:=by
 obtain⟨u,hu⟩:=LX h;exact(List.getElem?_eq_some_iff.1 hu).1
theorem Adb (hK:Hs P k enc) (ht:P.underlying t=F (.map k e)) (x:κ) (v:Value) {es:Array MapEntry} {c:Nat} (hb:w.heap[b]? =F (.map es c)) (hm:H9 enc m es.toList):
  ∃ es' c',(Instr.mapUpdate t (.map (F b)) (enc x) v).run P w=.ok () (w.putObj b (.map es' c'))/\H9 enc (mput x v m) es'.toList:=by
 have hg:(getObj b).run P w=.ok (.map es c) w:=by simp[getObj,Sem.run,hb]
 have hlen:es.toList.length=m.length:=by have:=congrArg List.length hm;simpa using this
 unfold Instr.mapUpdate;simp only[Sem.run_bind,run_underlying ht,Result.andThen_ok,hg,hK.check,hK.find x m es.toList w hm]
 cases hi:D3 x m with
 | none=>
  refine⟨_,_,KW _ hb,?_⟩;rw[NZ hi];unfold H9 at hm |-;simp[hm]
 | some i=>
  have hlt:=Adt hi;obtain⟨u,hu⟩:=LX hi;have hlt':i<es.size:=by have:=hlen;simp at this;omega
  have hk:es[i].key=enc x:=by
   have:=QI hm i;rw[hu,List.getElem?_eq_getElem (by simpa using hlt')] at this;simp at this;exact this.1
  have hki:((es[i]?).map (·.key)).getD (enc x)=enc x:=by rw[Array.getElem?_eq_getElem hlt'];exact hk
  have hst:(Instr.keyThatStays (enc x) (enc x)).run P w=.ok (enc x) w:=by unfold Instr.keyThatStays;rw[if_pos (hK.same x)];rfl
  refine⟨es.modify i fun e=>{e with key:=enc x,val:=v},c,?_,?_⟩
  ·simp only[Option.bind_some,List.getElem?_eq_getElem (show i<es.toList.length by simpa using hlt'),Option.map_some]
   simp only[Sem.run_bind,hki,hst,Result.andThen_ok]
   exact KW _ hb
  ·rw[Nz hi];unfold H9 at hm |-;apply List.ext_getElem?;intro j;have h0:=congrArg (fun l=>l[j]?) hm;simp only[List.getElem?_map,Array.getElem?_toList] at h0;simp only[List.getElem?_map,Array.getElem?_toList,Array.getElem?_modify,List.getElem?_set]
   by_cases e:i=j
   ·subst e;simp[hlt,hlt']
   ·simp[e,h0]
theorem Hs.plain {k:TypeId} {dk:TypeDesc} (hd:P.underlying k=F dk) (hp:(match dk with | .interface .. =>false | .array .. =>false | .struct .. =>false | _=>true)=true) (hn:∀ x y,Instr.sameNow dk (enc x) (enc y)=F (decide (x=y))) (hs:∀ x,Instr.sameBits 10000 (enc x) (enc x)=true):Hs P k enc where
 check em x w:=by
  unfold Instr.checkKey;simp only[Sem.run_bind,run_underlying hd,Result.andThen_ok]
  cases dk<;>first | (cases hp;first | done | fail) | rfl
 find x m es w hm:=by
  have key:∀ (m:List (κ×Value)) (es:List MapEntry) (i:Nat),H9 enc m es->Instr.findNow dk (enc x) es i=F ((D3 x m).bind fun j=>(es[j]?).map fun e=>(i+j,e.val)):=by
   intro m;induction m with
   | nil=>
    intro es i h;have:es=[]:=by simpa[H9] using h
    subst this;rfl
   | cons p r ih=>
    intro es i h;obtain⟨y,u⟩:=p;cases es with
    | nil=>cases h
    | cons e0 es=>
     unfold H9 at h;simp only[List.map_cons,List.cons.injEq,Prod.mk.injEq] at h;obtain⟨⟨h1,h2⟩,h3⟩:=h;unfold Instr.findNow D3;rw[h1,hn];by_cases e:x=y
     ·rw[decide_eq_true e,if_pos e.symm];simp
     ·rw[decide_eq_false e,if_neg (fun h=>e h.symm)];simp only[ih es (i+1) h3]
      cases D3 x r with
      | none=>rfl
      | some j=>simp[Nat.add_assoc,Nat.add_comm 1 j]
  have:=key m es 0 hm;simp only[Nat.zero_add] at this;unfold Instr.findKey;simp only[Sem.run_bind,run_underlying hd,Result.andThen_ok,this]
  rfl
 same:=hs
end
section
variable {κ:Type} [DecidableEq κ] {P:Program} {n:Nat} {ds:List Deferred} {d:Bool} {ops:Array Oper} {K:Act->Y->Prop} {i:Nat} {pl pend pend':List Nat} {l l':Env}
 {t:Nat} {ty:TypeId} {ps:String} {af:Array Edge} {gd:Option (Nat×Bool)} {C:Nat->Prop} {w0:Y} {A A':List Aj} {enc:κ->Value} {b:Nat} {m:List (κ×Value)} {tt k e:TypeId}
theorem R.look {x y:Operand} {ok:Bool} {z:Value} (q:κ) (hK:Hs P k enc) (h:Rj P n ds d ops K pl (i::pend) (Mem C w0 A) ((t,XZ ok z (A3 q m))::l)) (ho:Aw ops.toList i=F ⟨F t,.lookup tt x y ok,ty,ps,af,gd⟩:=by rfl)
  (hx:ev l x=F (.map (F b)):=by rfl) (hy:ev l y=F (enc q):=by rfl) (hb:K9 enc b m∈A:=by(repeat (first | exact List.Mem.head _ | apply List.Mem.tail));first | done | fail) (ht:P.underlying tt=F (.map k e):=by kernel_rfl) (hz:∀ w,(zeroValue e).run P w=.ok z w:=by intro w;simp;(try rfl);first | done | fail) (hg:Cv ops.toList l gd=F true:=by rfl):Rj P n ds d ops K (i::pl) pend (Mem C w0 A) l:=
 R.takeS ho hg rfl (fun a w ha hw=>by
  obtain⟨Fz,⟨_,es,c,h1,h2⟩,_⟩:=hw.has hb;have:=Qa hK ht (hz w) ok q h1 h2;simp[execOp,ha.ev hx,ha.ev hy,Sem.run_bind,this,pure,Sem.run]) h
def Mp (w:Y) (enc:κ->Value) (b:Nat) (m:List (κ×Value)):Prop:=∃ (es:Array MapEntry) (c:Nat),w.heap[b]? =F (.map es c)/\H9 enc m es.toList
theorem Mp.ext {w:Y} (h:Mp w0 enc b m) (hx:AI C w0 w) (hn:¬C b):Mp w enc b m:=let ⟨es,c,h1,h2⟩:=h;⟨es,c,(hx.block b (Gl h1) hn).trans h1,h2⟩
theorem Lx (z:Value) (o:Option Value):XZ true z o=.tuple #[o.getD z,.bool o.isSome]:=by cases o<;>rfl
theorem R.looko {x y:Operand} {ok:Bool} {z:Value} (q:κ) (hK:Hs P k enc) (hM:Mp w0 enc b m) (h:Rj P n ds d ops K pl (i::pend) (Mem C w0 A) ((t,XZ ok z (A3 q m))::l)) (hn:¬C b:=by exact fun h=>h) (ho:Aw ops.toList i=F ⟨F t,.lookup tt x y ok,ty,ps,af,gd⟩:=by rfl)
  (hx:ev l x=F (.map (F b)):=by rfl) (hy:ev l y=F (enc q):=by rfl) (ht:P.underlying tt=F (.map k e):=by kernel_rfl) (hz:∀ w,(zeroValue e).run P w=.ok z w:=by intro w;simp;(try rfl);first | done | fail) (hg:Cv ops.toList l gd=F true:=by rfl):Rj P n ds d ops K (i::pl) pend (Mem C w0 A) l:=
 R.takeS ho hg rfl (fun a w ha hw=>by
  obtain⟨es,c,h1,h2⟩:=hM.ext hw.1 hn;have:=Qa hK ht (hz w) ok q h1 h2;simp[execOp,ha.ev hx,ha.ev hy,Sem.run_bind,this,pure,Sem.run]) h
theorem R.lenm {x:Operand} {t1:TypeId} (h:Rj P n ds d ops K pl (i::pend) (Mem C w0 A) ((t,I J m.length)::l)) (ho:Aw ops.toList i=F ⟨F t,.call {callee:=.builtin .len,args:=#[x],argTypes:=#[t1]},ty,ps,af,gd⟩:=by rfl)
  (hx:ev l x=F (.map (F b)):=by rfl) (hn:m.length<=1000000000:=by omega) (hb:K9 enc b m∈A:=by(repeat (first | exact List.Mem.head _ | apply List.Mem.tail));first | done | fail) (ht:P.underlying t1=F (.map k e):=by kernel_rfl) (hg:Cv ops.toList l gd=F true:=by rfl):Rj P n ds d ops K (i::pl) pend (Mem C w0 A) l:=
 R.takeS ho hg rfl (fun a w ha hw=>by
  obtain⟨Fz,⟨_,es,c,h1,h2⟩,_⟩:=hw.has hb;have hlen:es.size=m.length:=by have:=congrArg List.length h2;simpa using this
  have hg:(getObj b).run P w=.ok (.map es c) w:=by simp[getObj,Sem.run,h1]
  simp[execOp,resolve,invoke,builtin,Builtin.len_,ha.ev hx,Sem.run_bind,run_underlying ht,hg,hlen,goInt,pure,Sem.run]) h
theorem R.mput {x y z:Operand} {v:Value} (q:κ) (hK:Hs P k enc) (h:Rj P n ds d ops K pl pend' (Mem C w0 A') l) (ho:Aw ops.toList i=F ⟨O,.mapUpdate tt x y z,ty,ps,af,gd⟩:=by rfl)
  (hx:ev l x=F (.map (F b)):=by rfl) (hy:ev l y=F (enc q):=by rfl) (hv:ev l z=F v:=by rfl) (hr:Dt (K9 enc b m) (K9 enc b (mput q v m)) A A':=by(repeat (first | exact Dt.hd | apply Dt.tl));first | done | fail) (ht:P.underlying tt=F (.map k e):=by kernel_rfl)
  (hp:Sq (ι:=Unit) d ops i pend pend' (fun _=>Mem C w0 A') (Mem C w0 A):=by first | exact .inl ⟨rfl,rfl⟩ | exact .inr (.inl ⟨rfl,rfl⟩)) (hg:Cv ops.toList l gd=F true:=by rfl):Rj P n ds d ops K (i::pl) pend (Mem C w0 A) l:=
 R.eff (ι:=Unit) (Si:=fun _=>Mem C w0 A') (li:=fun _=>l) ho hg rfl (fun a w K' ha hd hw hk=>by
  obtain⟨G,⟨g1,es,c,g2,gm⟩,g3,g4⟩:=hw.rep hr;obtain⟨es',c',k1,k2⟩:=Adb (w:=w) hK ht q v g2 gm;have hlt:b<w.heap.size:=(Gl g2)
  unfold Eo;have:(execOp a.eval ⟨O,.mapUpdate tt x y z,ty,ps,af,gd⟩).run P w=.ok .skip (w.putObj b (.map es' c')):=by
   simp[execOp,ha.ev hx,ha.ev hy,ha.ev hv,Sem.run_bind,k1,pure,Sem.run]
  rw[this];exact hk () undef _ (g4 G _ ⟨g1,es',c',World.putObj_heap_same hlt,k2⟩ (AI.put g1) (fun k hk=>⟨by simpa using (g3 k hk).1,.inl hk⟩)) ha) hp (fun _=>h)
theorem R.mkm {op:Op} {vs:List Value} (enc:κ->Value) (h:∀ b,w0.heap.size<=b->Rj P n ds d ops K pl pend (Mem C w0 (K9 enc b []::A)) ((t,.map (F b))::l)) (ho:Aw ops.toList i=F ⟨F t,op,ty,ps,af,gd⟩:=by rfl) (hg:Cv ops.toList l gd=F true:=by rfl)
  (hs:evs l op.operands.toList=F vs:=by rfl) (hq:quiet P op=false:=by first | rfl | kernel_rfl)
  (hv:∀ ρ w,EV ρ op.operands.toList vs->(execOp ρ ⟨F t,op,ty,ps,af,gd⟩).run P w=.ok (.value (.map (F w.heap.size))) (w.alloc (.map #[] 0)):=by intro ρ w h;simp only[Op.operands,EV,Array.toList_append,List.toList_toArray,List.map_cons,List.map_nil,List.nil_append,List.cons_append] at h;simp[go_sem,Instr.makeMap,newObj,Sem.run_bind,h];(try rfl);first | done | fail):Rj P n ds d ops K (i::pl) pend (Mem C w0 A) l:=
 R.eff (ι:={b:Nat // w0.heap.size<=b}) (Si:=fun b=>Mem C w0 (K9 enc b.1 []::A)) (li:=fun b=>(t,.map (F b.1))::l) ho hg hq
  (fun a w K' ha hd hw hk=>by
   unfold Eo;rw[hv a.eval w (ha.evs _ _ hs).1];exact hk ⟨w.heap.size,hw.1.size⟩ _ _ (hw.push (Fz:=fun b=>b=w.heap.size) ((Bq _ w).alloc Nr _) ⟨rfl,#[],0,Wn w _,rfl⟩ (fun b hb=>by subst hb;exact⟨Nat.le_refl _,by simp⟩)) (hd _)) (.inr (.inr ⟨rfl,fun x w h=>h.sub (List.sublist_cons_self ..)⟩)) (fun x=>h x.1 x.2)
end
end
section
open Go
structure Nd where
 kind:Int
 x:Sc
 keys:List Sc
 kids:List Int
structure St where
 nodes:List Nd
 names:List (ByteArray×Int)
def St.kid (s:St) (at_:Nat) (i:Int):St:=⟨s.nodes.modify at_ fun n=>{n with kids:=n.kids++[i]},s.names⟩
def St.node (s:St) (k:Int) (nm:ByteArray) (x:Sc) (ks:List Sc):St:=⟨s.nodes++[⟨k,x,ks,[]⟩],if nm.toList.isEmpty then s.names else mput nm (s.nodes.length:Int) s.names⟩
def WQ (rt:Sc->Bool) (x:Sc) (kl tl:Nat):Bool:=rt x&&decide (kl=0)&&decide (tl=0)
def Ae4 (x:Sc) (kl:Nat):Bool:=decide (x=A4)&&decide (kl=0)
def Aee (rt:Sc->Bool) (x:Sc) (ks:List Sc) (tl:Nat):Bool:=decide (x=A4)&&decide (ks.length=tl)&&ks.all rt
def Agp (nm:ByteArray) (x:Sc) (kl tl:Nat):Bool:=decide (x=A4)&&decide (kl=0)&&decide (tl=0)&& !nm.toList.isEmpty
def LD (rt:Sc->Bool) (k:Int) (nm:ByteArray) (x:Sc) (ks:List Sc) (tl:Nat):Bool:=
 if k=0 then WQ rt x ks.length tl else if k=1 then Ae4 x ks.length else if k=2 then Aee rt x ks tl else if k=3 then Agp nm x ks.length tl else false
def CH (rt:Sc->Bool) (nb:Bool) (k:Int) (nm:ByteArray) (x:Sc) (ks:List Sc) (tl:Nat):Bool:=LD rt k nm x ks tl&&(nm.toList.isEmpty||nb)
def IS (sb dup:Bool) (k deep:Int) (known:Bool) (ln:Nat):Int:=if 24<deep then 73 else if sb=false then 93 else if dup=true then 101 else if k=3/\known=false then 100 else if k≠3/\ln=200 then 71 else 0
def BU (rt:Sc->Bool) (nb:ByteArray->Bool) (t:Tr) (deep:Int) (s:St):Int:=match t with
 | .mk k nm x ks ts=>IS (CH rt (nb nm) k nm x ks ts.length) (!decide ks.Nodup) k deep (A3 nm s.names).isSome s.nodes.length
mutual
def Cy (chk:Tr->Int->St->Int) (deep:Int) (t:Tr) (s:St):St×Int×Int:=match t with
 | .mk k nm x ks ts=>
  if chk (.mk k nm x ks ts) deep s=0 then
   if k=3 then (s,(A3 nm s.names).getD 0,0) else
    let r:=EJ chk deep s.nodes.length ts (s.node k nm x ks)
    if r.2=0 then (r.1,(s.nodes.length:Int),0) else (r.1,0,r.2)
  else (s,0,chk (.mk k nm x ks ts) deep s)
def EJ (chk:Tr->Int->St->Int) (deep:Int) (at_:Nat) (ts:List Tr) (s:St):St×Int:=match ts with
 | []=>(s,0)
 | t::r=>
  let a:=Cy chk (deep+1) t s
  if a.2.2=0 then EJ chk deep at_ r (a.1.kid at_ a.2.1) else (a.1.kid at_ a.2.1,a.2.2)
end
end
section
def DO (x:Sc):List Value:=[I J x.kind,I J x.num,Q x.str]
def Fk (w:Y) (S:Nat->Prop) (A:Option Addr) (ks:List Sc):Prop:=∀ j x,ks[j]? =F x->∃ b o,A=F ⟨b,o,O⟩/\S b/\Cs w b (o+j*3) (DO x)
def Cm (w:Y) (S:Nat->Prop):Tr->List Value->Prop
 | .mk k nm x ks ts,vs=>∃ (KA:Option Addr) (kc:Nat) (A:Option Addr) (c:Nat),vs=[I J k,Q nm,I J x.kind,I J x.num,Q x.str,Z KA ks.length kc,Z A ts.length c]/\Fk w S KA ks/\TsV w S A 0 ts
where TsV (w:Y) (S:Nat->Prop) (A:Option Addr):Nat->List Tr->Prop
 | _,[]=>True
 | i,t::r=>(∃ (b o:Nat) (us:List Value),A=F ⟨b,o,O⟩/\S b/\Cs w b (o+i*7) us/\Cm w S t us)/\TsV w S A (i+1) r
theorem Fk.to {w w':Y} {S S':Nat->Prop} {A:Option Addr} {ks:List Sc} (h:Fk w S A ks) (hc:∀ b o v,S b->w.cell? ⟨b,o,O⟩=F v->w'.cell? ⟨b,o,O⟩=F v/\S' b):Fk w' S' A ks:=fun j x hj=>by
 obtain⟨b,o,e,hb,hcs⟩:=h j x hj;exact⟨b,o,e,(hc b _ _ hb (hcs 0 _ rfl)).2,fun i v hv=>(hc b _ _ hb (hcs i v hv)).1⟩
mutual
theorem Cm.to {w w':Y} {S S':Nat->Prop} (hc:∀ b o v,S b->w.cell? ⟨b,o,O⟩=F v->w'.cell? ⟨b,o,O⟩=F v/\S' b):∀ (t:Tr) (vs:List Value),Cm w S t vs->Cm w' S' t vs
 | .mk k nm x ks ts,vs,h=>by
  unfold Cm at h |-;obtain⟨KA,kc,A,c,e,h1,h2⟩:=h;exact⟨KA,kc,A,c,e,h1.to hc,TsV.to hc A 0 ts h2⟩
theorem TsV.to {w w':Y} {S S':Nat->Prop} (hc:∀ b o v,S b->w.cell? ⟨b,o,O⟩=F v->w'.cell? ⟨b,o,O⟩=F v/\S' b) (A:Option Addr):∀ (i:Nat) (ts:List Tr),Cm.TsV w S A i ts->Cm.TsV w' S' A i ts
 | i,[],h=>by unfold Cm.TsV;trivial
 | i,t::r,h=>by
  unfold Cm.TsV at h |-;obtain⟨⟨b,o,us,e,hb,hcs,ht⟩,hr⟩:=h;have hus:∃ v,us[0]? =F v:=by
   cases t with
   | mk=>unfold Cm at ht;obtain⟨KA,kc,A',c,rfl,_⟩:=ht;exact⟨_,rfl⟩
  obtain⟨v,hv⟩:=hus;exact⟨⟨b,o,us,e,(hc b _ _ hb (hcs 0 v hv)).2,fun i v hv=>(hc b _ _ hb (hcs i v hv)).1,Cm.to hc t us ht⟩,TsV.to hc A (i+1) r hr⟩
end
theorem TsV.get {w:Y} {S:Nat->Prop} {A:Option Addr}:∀ {ts:List Tr} {i k:Nat} {t:Tr},Cm.TsV w S A i ts->ts[k]? =F t->∃ (b o:Nat) (us:List Value),A=F ⟨b,o,O⟩/\S b/\Cs w b (o+(i+k)*7) us/\Cm w S t us
 | t::r,i,0,t',h,hk=>by unfold Cm.TsV at h;cases hk;exact h.1
 | t::r,i,k+1,t',h,hk=>by
  unfold Cm.TsV at h;have:=TsV.get h.2 (k:=k) hk
  rwa [show i+1+k=i+(k+1) by omega] at this
theorem FV {w:Y} {b o:Nat} {v:Value} (h:w.cell? ⟨b,o,O⟩=F v):b<w.heap.size:=by
 unfold World.cell? at h;cases hk:w.heap[b]? with
 | none=>simp[hk] at h
 | some o=>exact(Gl hk)
theorem AI.keep {C S:Nat->Prop} {w0 w:Y} (h:AI C w0 w) (hS:∀ b,b<w0.heap.size->S b->¬C b):∀ b o v,S b->w0.cell? ⟨b,o,O⟩=F v->w.cell? ⟨b,o,O⟩=F v/\S b:=fun b o v hb hv=>⟨h.cell hv (hS b (FV hv) hb),hb⟩
end
end Go.Proofs.YtdpppepmkeinaaaGreatDoor
