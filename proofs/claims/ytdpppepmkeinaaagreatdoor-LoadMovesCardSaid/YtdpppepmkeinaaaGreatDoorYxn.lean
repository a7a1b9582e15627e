/- What is proved: a part of the walk of the program and of its plain laws; no condition beside those that each theorem names. -/
import Derived.Test.YtdpppepmkeinaaaGreatDoorYa
import Derived.Test.YtdpppepmkeinaaaGreatDoorYMaps
import Derived.Test.YtdpppepmkeinaaaGreatDoorYxm
import Derived.Test.YtdpppepmkeinaaaGreatDoorYw
import Derived.Test.YtdpppepmkeinaaaGreatDoorYxj
import Derived.Test.YtdpppepmkeinaaaGreatDoorYxk
import Derived.Test.YtdpppepmkeinaaaGreatDoorYk
import Derived.WideKeyRuns
namespace Go.Proofs.YtdpppepmkeinaaaGreatDoor
open Go Go.RowKit Go.Lib
open Go.Value renaming int->I,string->Q,slice->Z
open Go.IntKind renaming i64->J
open Option renaming none->O,some->F
open _root_.Go renaming World->Y
set_option linter.unusedSimpArgs false
set_option linter.unusedVariables false
set_option linter.unusedSectionVars false
section
set_option maxRecDepth 100000
set_option maxHeartbeats 4000000
def Agz {α:Type} (P:Program) (gf:Nat) (lb:Array Value) (encs:α->Array Value) (C K:Nat->Prop) (n₀:Nat) (xs:List α) (St:Y->Prop):Prop:=
 ∀ (l:Nat) (Jz Jx:List α->Y->Prop) (W:Y),St W->(∀ s X Yz,Jz s X->Au C W.heap.size X Yz->Jz s Yz)->(∀ s X Yz,Jx s X->Au C W.heap.size X Yz->Jx s Yz)→
  (∀ pre x W1,Jz pre W1->pre++[x]<+:xs->YieldAt Fence.wide 0 P l (encs x) W1 fun e W'=>
   (e=.returned (.bool true)/\Jz (pre++[x]) W'/\Ak Obj.isWalk K n₀ W1 W')\/(e=.returned (.bool false)/\Jx (pre++[x]) W'/\Ak Obj.isWalk K n₀ W1 W'))→
  Jz [] W→
  CallsIn Fence.wide 0 P gf (#[.func (.yield l) #[] #[]]++lb) W fun e W'=>(∃ v,e=.returned v)/\(Jz xs W'\/∃ pre,pre<+:xs/\Jx pre W')
def Af9 {α:Type} (K:Nat->Prop) (n₀:Nat) (Iz:List α->Y->Prop) (Ix:Code->List α->Y->Prop) (s:List α) (W:Y):Exit->Act->Y->Prop
 | .normal,_,W'=>Ak AH K n₀ W W'/\Iz s W'
 | .ret,_,W'=>Ak AH K n₀ W W'/\Ix .ret s W'
 | .exit id,_,W'=>Ak AH K n₀ W W'/\Ix (.exit id) s W'
 | .goto t,_,W'=>Ak AH K n₀ W W'/\Ix (.goto t) s W'
 | .panic _,_,_=>False
 | .outgrown,_,_=>False
variable {P:Program}
theorem N5 {α:Type} {g:Operand} {ps:Array Tmp} {assign body:Code} {Qz:Exit->Act->Y->Prop} {a:Act} {w:Y}
  {gf:Nat} {lb:Array Value} (hg:a.eval g=.func (.func gf) #[] lb) (eg:∀ args w,(callFunc gf args).run P w=.ok (.enter gf args) w)
  {encs:α->Array Value} {C K:Nat->Prop} {n₀:Nat} {xs:List α} {St:Y->Prop} (hseq:Agz P gf lb encs C K n₀ xs St)
  (hst:∀ Yz,Below w.heap.size w Yz->w.heap.size+2<=Yz.heap.size->St Yz) (hC:∀ k,C k->k<w.heap.size) (hKD:¬K w.heap.size) (hKl:¬K (w.heap.size+1)) (hn:n₀<=w.heap.size) (hps:∀ x,(encs x).size=ps.size)
  (Iz:List α->Y->Prop) (Ix:Code->List α->Y->Prop) (hI:∀ s X Yz,Iz s X->Au C w.heap.size X Yz->Iz s Yz) (hIx:∀ c s X Yz,Ix c s X->Au C w.heap.size X Yz->Ix c s Yz) (h0:Iz [] w)
  (hround:∀ (l:Nat) (pre:List α) (x:α) (W:Y),w.heap.size<=l->Iz pre W->pre++[x]<+:xs→
   assign.wpIn (Fence.wide.inRound l) 0 P (Exit.then (fun a' W'=>Ak AH K n₀ W W'/\∀ Wb,Au C w.heap.size W' Wb->(∃ r,Wb.heap[l]? =F (.loop r))->body.wpIn (Fence.wide.inRound l) 0 P (Af9 K n₀ Iz Ix (pre++[x]) Wb) a' Wb) (fun _ _ _=>False))
    {tmps:=(ps.zip (encs x)).foldl (fun t (p,v)=>t.setIfInBounds p v) a.tmps,defers:=[]} W)
  (hdone:∀ (D:Nat) (W:Y),w.heap.size<=D->Iz xs W->W.heap[D]? =F (.deferred (F []))->Qz .normal {a with defers:={target:=.collected D,args:=#[]}::a.defers} W)
  (hstop:∀ (D:Nat) (c:Code) (pre:List α) (W:Y),w.heap.size<=D->pre<+:xs->Ix c pre W->W.heap[D]? =F (.deferred (F []))->c.wpIn Fence.wide 0 P Qz {a with defers:={target:=.collected D,args:=#[]}::a.defers} W):
  (Code.rangeFunc g ps assign body).wpIn Fence.wide 0 P Qz a w:=by
 refine wpIn_rangeFunc (fun fn hfn=>?_);obtain⟨rec,hrec⟩:∃ rec:LoopState->Option Code->Loop,rec=fun st pe=>{state:=st,pending:=pe,fn,tmps:=a.tmps,params:=ps,assign,body,defers:=w.heap.size}:=⟨_,rfl⟩
 obtain⟨W1,hW1⟩:∃ W1,(w.alloc (.deferred (F []))).alloc (.loop (rec .ready O))=W1:=⟨_,rfl⟩
 have hz1:W1.heap.size=w.heap.size+1+1:=by rw[<- hW1];simp
 have hL1:W1.heap[w.heap.size+1]? =F (.loop (rec .ready O)):=by
  rw[<- hW1];have:=Wn (w.alloc (.deferred (F []))) (.loop (rec .ready O));rwa [World.size_alloc] at this
 have hD1:W1.heap[w.heap.size]? =F (.deferred (F [])):=by
  rw[<- hW1];exact(Below.heap_alloc _ _ _ (by simp)).trans (Wn w _)
 have hB1:Below w.heap.size w W1:=by
  rw[<- hW1];exact((Bq _ w).alloc Nr _).alloc (by simp) _
 have hI1:Iz [] W1:=by rw[<- hW1];exact hI _ _ _ (hI _ _ _ h0 (Au.alloc _ _)) (Au.alloc _ _)
 have hCl:¬C (w.heap.size+1):=fun h=>by have:=hC _ h;omega
 have hCD:¬C w.heap.size:=fun h=>by have:=hC _ h;omega
 refine⟨w.heap.size+1,[{target:=.collected w.heap.size,args:=#[]}],W1,{target:=.fn (.func gf) lb,args:=#[.func (.yield (w.heap.size+1)) #[] #[]]},W1,gf,
  #[.func (.yield (w.heap.size+1)) #[] #[]]++lb,W1,?_,?_,?_,?_,fun h=>by simp[Fence.wide] at h,?_⟩
 ·rw[<- hW1,hrec];exact run_enterLoop_outer _ _ _ _ _
 ·simp only[resolve,hg]
  simp[go_sem]
 ·intro f' _;trivial
 ·simp[invoke,go_sem,eg]
 refine(hseq (w.heap.size+1)
  (fun pre W=>Iz pre W/\W.heap[w.heap.size+1]? =F (.loop (rec .ready O))/\W.heap[w.heap.size]? =F (.deferred (F [])))
  (fun pre W=>∃ c,Ix c pre W/\W.heap[w.heap.size+1]? =F (.loop (rec .done (F c)))/\W.heap[w.heap.size]? =F (.deferred (F [])))
  W1 (hst _ hB1 (by omega))
  (fun s X Yz hs ht=>⟨hI _ _ _ hs.1 (ht.mono (by omega)),ht.old hs.2.1 hCl (by omega),ht.old hs.2.2 hCD (by omega)⟩)
  (fun s X Yz hs ht=>by
   obtain⟨c,hc,hl,hk⟩:=hs;exact⟨c,hIx _ _ _ _ hc (ht.mono (by omega)),ht.old hl hCl (by omega),ht.old hk hCD (by omega)⟩)
  ?_ ⟨hI1,hL1,hD1⟩).mono ?_
 ·rintro pre x W ⟨hi,hl,hk⟩ hpre;have hy:=run_yield (P:=P) (args:=encs x) hl (by rw[hrec];exact hps x);rw[hrec] at hy;refine⟨fn,_,assign,body,hy,roundIn_of_wpIn hfn (wpIn_mono (hround _ pre x W (by omega) hi hpre) ?_)⟩;clear hy;intro e0 a' Wa he0;cases e0 with
  | normal=>?_
  | _=>exact he0.elim
  obtain⟨hka,hbd⟩:=he0;have hla:Wa.heap[w.heap.size+1]? =F (.loop (rec .ready O)):=hka.heap hl (.inr (.inr rfl));have hDa:Wa.heap[w.heap.size]? =F (.deferred (F [])):=hka.heap hk (.inr (.inr rfl));have hlt:w.heap.size+1<Wa.heap.size:=(Gl hla)
  refine⟨_,run_beginRound hla (by rw[hrec]),?_⟩;obtain⟨Wb,hWb⟩:∃ Wb,Wa.putObj (w.heap.size+1) (.loop {rec .ready O with state:=.busy})=Wb:=⟨_,rfl⟩
  have hl2:Wb.heap[w.heap.size+1]? =F (.loop {rec .ready O with state:=.busy}):=by rw[<- hWb];exact World.putObj_heap_same hlt
  have hD2:Wb.heap[w.heap.size]? =F (.deferred (F [])):=by rw[<- hWb];exact(World.putObj_heap_other (by omega)).trans hDa
  have hk2:Ak Obj.isWalk K n₀ Wa Wb:=by rw[<- hWb];exact Ak.putObj _ hla (by omega) hKl rfl
  have hta:Au C w.heap.size Wa Wb:=by rw[<- hWb];exact Au.putObj _ hla (by omega) rfl
  rw[hWb];refine wpIn_mono (hbd Wb hta ⟨_,hl2⟩) ?_;have fin:∀ (jump:Option Code) (W3:Y),Ak AH K n₀ Wb W3→
    (Instr.endRound (w.heap.size+1) jump).run P W3=.ok (.bool jump.isNone) (W3.putObj (w.heap.size+1) (.loop (rec (if jump.isNone then .ready else .done) jump)))∧
    (W3.putObj (w.heap.size+1) (.loop (rec (if jump.isNone then .ready else .done) jump))).heap[w.heap.size+1]? =F (.loop (rec (if jump.isNone then .ready else .done) jump))∧
    (W3.putObj (w.heap.size+1) (.loop (rec (if jump.isNone then .ready else .done) jump))).heap[w.heap.size]? =F (.deferred (F []))∧
    Au C w.heap.size W3 (W3.putObj (w.heap.size+1) (.loop (rec (if jump.isNone then .ready else .done) jump)))∧
    Ak Obj.isWalk K n₀ W3 (W3.putObj (w.heap.size+1) (.loop (rec (if jump.isNone then .ready else .done) jump))):=fun jump W3 hk3=>by
   have hl3:W3.heap[w.heap.size+1]? =F (.loop {rec .ready O with state:=.busy}):=hk3.heap hl2 (.inr (.inr rfl));have hD3:W3.heap[w.heap.size]? =F (.deferred (F [])):=hk3.heap hD2 (.inr (.inr rfl));have hr:=run_endRound (P:=P) jump hl3;rw[hrec] at hr |-;exact⟨hr,World.putObj_heap_same (Gl hl3),(World.putObj_heap_other (by omega)).trans hD3,Au.putObj _ hl3 (by omega) rfl,Ak.putObj _ hl3 (by omega) hKl rfl⟩
  rintro e a3 W3 hp;cases e with
  | normal=>
   obtain⟨hr,hl4,hD4,ht4,hk4⟩:=fin O W3 hp.1;exact⟨_,_,hr,.inl ⟨rfl,⟨hI _ _ _ hp.2 ht4,hl4,hD4⟩,((hka.walks.trans hk2).trans hp.1.walks).trans hk4⟩⟩
  | ret=>
   obtain⟨hr,hl4,hD4,ht4,hk4⟩:=fin (F .ret) W3 hp.1;exact⟨_,_,hr,.inr ⟨rfl,⟨.ret,hIx _ _ _ _ hp.2 ht4,hl4,hD4⟩,((hka.walks.trans hk2).trans hp.1.walks).trans hk4⟩⟩
  | exit id=>
   obtain⟨hr,hl4,hD4,ht4,hk4⟩:=fin (F (.exit id)) W3 hp.1;exact⟨_,_,hr,.inr ⟨rfl,⟨.exit id,hIx _ _ _ _ hp.2 ht4,hl4,hD4⟩,((hka.walks.trans hk2).trans hp.1.walks).trans hk4⟩⟩
  | goto t=>
   obtain⟨hr,hl4,hD4,ht4,hk4⟩:=fin (F (.goto t)) W3 hp.1;exact⟨_,_,hr,.inr ⟨rfl,⟨.goto t,hIx _ _ _ _ hp.2 ht4,hl4,hD4⟩,((hka.walks.trans hk2).trans hp.1.walks).trans hk4⟩⟩
  | panic ch=>exact hp.elim
  | outgrown=>exact hp.elim
 ·rintro e W2 ⟨⟨v,rfl⟩,(⟨hi,hl,hk⟩ | ⟨pre,hpre,c,hi,hl,hk⟩)⟩
  ·refine⟨O,_,by have:=run_endLoop (P:=P) hl (by rw[hrec];simp);rw[hrec] at this;exact this,hdone _ _ Nr (hI _ _ _ hi (Au.putObj _ hl (by omega) rfl)) ((World.putObj_heap_other (by omega)).trans hk)⟩
  ·refine⟨F c,_,by have:=run_endLoop (P:=P) hl (by rw[hrec];simp);rw[hrec] at this;exact this,hstop _ c pre _ Nr hpre (hIx _ _ _ _ hi (Au.putObj _ hl (by omega) rfl)) ((World.putObj_heap_other (by omega)).trans hk)⟩
open Go Go.MapKept
section
variable {α:Type} [BEq α] {enc:α->Value} {P:Program} {k:TypeId}
 (hwide:(match P.underlying k with | some (.array _ _) | some (.struct _)=>true | _=>false)=true)
 (heq:∀ (a b:α) (w:Y),(Op.equal k (enc a) (enc b)).run P w=.ok (a==b) w)
 (hchk:∀ (a:α) (em:Bool) (w:Y),(Instr.checkKey em 10000 k (enc a)).run P w=.ok () w)
include heq in
theorem Hs (a:α) (w:Y):∀ (l:List (α×Value)) (n i:Nat),(Instr.findAsking k (enc a) ((l.zipIdx n).map fun p=>{key:=enc p.1.1,val:=p.1.2,born:=p.2}) i).run P w=.ok (I8 a l i) w
 | [],n,i=>by simp[Instr.findAsking,I8]
 | p::l,n,i=>by
  simp only[List.zipIdx_cons,List.map_cons,Instr.findAsking,Sem.run_bind,heq,Result.andThen_ok,I8]
  cases h:a==p.1
  ·simp[Hs a w l (n+1) (i+1)]
  ·simp
include hwide heq hchk
variable {w:Y} {t e:TypeId}
theorem Ma (ht:P.underlying t=F (.map k e)) {z:Value} (hz:(zeroValue e).run P w=.ok z w) {b:Nat} {l:List (α×Value)} (hb:w.heap[b]? =F (BN enc l)) (a:α) (ok:Bool):
  (Instr.lookup t (.map (F b)) (enc a) ok).run P w=.ok (if ok then .tuple #[(B5 a l).getD z,.bool (B5 a l).isSome] else (B5 a l).getD z) w:=by
 have hf:=Hs (P:=P) heq a w l 0 0;rw[<- run_findKey_eq w hwide] at hf;have hc:=fun em=>hchk a em w;have hf2:=Gx a l 0;unfold Instr.lookup;simp only[Sem.run_bind,run_underlying ht,Result.andThen,_root_.Go.MapKept.run_getObj_map (show w.heap[b]? =F (.map _ _) from hb),Sem.run_pure,hc,hf]
 cases hfl:I8 a l 0 with
 | none=>rw[hfl] at hf2;cases ok<;>simp[hz,<- hf2,Result.andThen]
 | some q=>rw[hfl] at hf2;cases ok<;>simp[<- hf2]
theorem QZ (ht:P.underlying t=F (.map k e)) {b:Nat} {l:List (α×Value)} (hb:w.heap[b]? =F (BN enc l)) (a:α) (v:Value) (hno:B5 a l=O):
  (Instr.mapUpdate t (.map (F b)) (enc a) v).run P w=.ok () (w.putObj b (BN enc (l++[(a,v)]))):=by
 have hf:=Hs (P:=P) heq a w l 0 0;rw[<- run_findKey_eq w hwide] at hf;have hc:=hchk a false w;rw[MR hno] at hf;unfold Instr.mapUpdate;simp only[Sem.run_bind,run_underlying ht,Result.andThen,_root_.Go.MapKept.run_getObj_map (show w.heap[b]? =F (.map _ _) from hb),hc,hf]
 rw[_root_.Go.MapKept.run_setObj_map _ (show w.heap[b]? =F (.map _ _) from hb)];simp[World.putObj,BN,List.zipIdx_append]
end
section
variable {α:Type} [DecidableEq α]
def CS (met:List α):List α->List α
 | []=>[]
 | x::r=>if x∈met then [] else x::CS (met++[x]) r
theorem OO (met:List α):∀ l:List α,(CS met l).length<=l.length
 | []=>Nat.le_refl _
 | x::r=>by
  unfold CS;split
  ·simp
  ·have:=OO (met++[x]) r;simp only[List.length_cons];omega
theorem Pr:∀ (l met:List α),met.Nodup->decide ((CS met l).length<l.length)= !decide (met++l).Nodup
 | [],met,h=>by simp[CS,h]
 | x::r,met,h=>by
  unfold CS;split
  ·rename_i hx;have hn:¬(met++x::r).Nodup:=fun k=>(List.nodup_append.1 k).2.2 _ hx x (by simp) rfl;simp[hn]
  ·rename_i hx;have h':(met++[x]).Nodup:=by
    rw[List.nodup_append];exact⟨h,by simp,fun a ha b hb=>by simp only[List.mem_singleton] at hb;subst hb;rintro rfl;exact hx ha⟩
   have:=Pr r (met++[x]) h';rw[List.append_assoc,List.singleton_append] at this;rw[<- this];simp
theorem UC (l:List α):decide ((CS [] l).length<l.length)=All l:=by
 rw[Pr l [] List.nodup_nil];rfl
end
attribute [local go_sem] Oper.semAt_some
theorem XH (A:Option Addr) (n c:Nat) (w:Y):
  Calls Tryz.prog 202 #[Z A n c] w fun e w'=>e=.returned (.func (.func 233) #[] #[.pointer (F ⟨w.heap.size,0,O⟩)])/\w'=w.alloc (.cells #[Z A n c] 37):=by
 go_enter Tryz.func202,Tryz.ntmps202;go_wp2;go_ret;exact⟨by simp,rfl⟩
theorem Um (a b:Sc) (w:Y):(Op.equal 36 (Ev a) (Ev b)).run Tryz.prog w=.ok (decide (a=b)) w:=by
 have h:=Aaz a.kind a.num b.kind b.num a.str b.str w;rw[run_eql_struct,Ag2 a b] at h;show(Op.equalIn 10000 36 _ _).run Tryz.prog w=_;unfold Ev;revert h;generalize (Op.equalIn 10000 36 _ _).run Tryz.prog w=r;intro h;cases r with
 | ok b1 w1=>
  simp only[Result.andThen] at h;injection h with h1 h2;injection h1 with h1;rw[h1,h2]
 | halt x w1=>simp[Result.andThen] at h
theorem RR (a:Sc) (em:Bool) (w:Y):(Instr.checkKey em 10000 36 (Ev a)).run Tryz.prog w=.ok () w:=by
 kernel_rfl
instance:LawfulBEq Sc:=inferInstance
def Kg (ts:List Sc):List (Sc×Value):=ts.map fun x=>(x,.bool true)
theorem KO (x:Sc):∀ ts:List Sc,B5 x (Kg ts)=if x∈ts then F (.bool true) else O
 | []=>rfl
 | y::r=>by
  have ih:=KO x r;unfold Kg at ih |-;rw[List.map_cons];unfold B5;rw[ih];by_cases h:x=y
  ·simp[h]
  ·simp[h]
theorem Abu (ts:List Sc) (x:Sc):Kg (ts++[x])=Kg ts++[(x,.bool true)]:=by unfold Kg;simp
theorem Aeo (w:Y) (b:Nat) (ts:List Sc) (hb:w.heap[b]? =F (BN Ev (Kg ts))) (x:Sc):
  (Instr.lookup 377 (.map (F b)) (Ev x) false).run Tryz.prog w=.ok (.bool (decide (x∈ts))) w:=by
 rw[Ma (P:=Tryz.prog) (enc:=Ev) (k:=36) (e:=4) (z:=.bool false) (by kernel_rfl) (fun a b w=>Um a b w) RR Tryz.underlying377 (by kernel_rfl) hb x false,KO];by_cases h:x∈ts<;>simp[h]
theorem Abv (w:Y) (b:Nat) (ts:List Sc) (hb:w.heap[b]? =F (BN Ev (Kg ts))) (x:Sc) (hx:x∉ts):
  (Instr.mapUpdate 377 (.map (F b)) (Ev x) (.bool true)).run Tryz.prog w=.ok () (w.putObj b (BN Ev (Kg (ts++[x])))):=by
 rw[Abu];exact QZ (P:=Tryz.prog) (enc:=Ev) (k:=36) (e:=4) (by kernel_rfl) (fun a b w=>Um a b w) RR Tryz.underlying377 hb x (.bool true) (by rw[KO,if_neg hx])
theorem WG (ts:List Sc) (A:Option Addr) (cap Bs n₀ M:Nat) (hn:ts.length<=1000000):
  Agz Tryz.prog 233 #[.pointer (F ⟨Bs,0,O⟩)] encS (fun _=>False) (fun k=>M<=k) n₀ (CS [] ts) (fun W=>M<=W.heap.size/\Boxed W Bs 37 (Z A ts.length cap)/\Jw W A ts n₀):=by
 intro l Jz Jx W ⟨hMW,hB,hR⟩ hJ hJx hY h0;obtain⟨n,hnn⟩:∃ n,ts.length=n:=⟨_,rfl⟩
 have HN:=hid hnn;rw[hnn] at hB hn;clear hnn;refine callsIn_of_wp Tryz.func233 rfl trivial ?_ rfl;simp only[Tryz.ntmps233,List.size_toArray,List.length_cons,List.length_nil,Nat.reduceAdd,Nat.reduceSub,Array.replicate_succ,Array.replicate_zero,List.push_toArray,List.append_toArray,List.nil_append,List.cons_append]
 have hB0:Boxed (W.alloc (.map #[] 0)) Bs 37 (Z A n cap):=hB.alloc _;have c0:=hB0.cell;have hmm:=@run_makeMap Tryz.prog
 gi_wp2
 refine Gk ?_
 gi_wp2
 refine wpIn_label ?_
 gi_wp2
 gi_loopw [9] (fun i wr=>∃ k:Nat,k<=n/\i=I J k/\Jz (ts.take k) wr/\Jw wr A ts n₀/\W.heap.size<wr.heap.size/\wr.heap[W.heap.size]? =F (BN Ev (Kg (ts.take k)))/\Hid (CS [] ts=ts.take k++CS (ts.take k) (ts.drop k))) (fun i _=>n - (intOf i).toNat)
 case atStart=>exact⟨0,by omega,rfl,hJ _ _ _ (by simpa using h0) (Au.alloc _ _),hR.below ((Bq _ W).alloc Nr _),by simp,Wn W _,hid rfl⟩
 case round=>
  obtain⟨k,hk,rfl,hJs,hRw,hsz,hM,HF⟩:=hrel;clear hB hR h0 c0 hB0;by_cases hlt:k<n
  ·obtain⟨b,o,rfl,hb,a0,a1,a2⟩:=hRw k (by rw[HN.out];exact hlt);have hki:(k:Int)<(n:Int):=by omega
   obtain⟨x,hx⟩:∃ x,ts.getD k AJ=x:=⟨_,rfl⟩
   have hkl:k<ts.length:=by rw[HN.out];exact hlt
   have hx':ts[k]=x:=by rw[<- hx];simp[List.getD,List.getElem?_eq_getElem hkl]
   rw[hx] at a0 a1 a2;have hdrop:ts.drop k=x::ts.drop (k+1):=by rw[<- hx'];exact List.drop_eq_getElem_cons hkl
   have htake:ts.take (k+1)=ts.take k++[x]:=by rw[<- hx'];exact List.take_succ_eq_append_getElem hkl
   have HDT:=hid (Ai hdrop htake);clear hx hx' hdrop htake;obtain⟨k1,n1,s1⟩:=x;have hba:=(Bq _ wr).alloc Nr (.cells #[I J k1,I J n1,Q s1] 36);have hJ1:=hJ _ _ _ hJs (Au.alloc wr (.cells #[I J k1,I J n1,Q s1] 36));have hR1:=hRw.below hba;have hM1:=AW hM hba;have hlk:=Aeo _ _ _ hM1 ⟨k1,n1,s1⟩;unfold Ev at hlk;by_cases hmem:(⟨k1,n1,s1⟩:Sc)∈ts.take k
   ·rw[decide_eq_true hmem] at hlk;have HE:=hid (show CS [] ts=ts.take k by rw[HF.out,HDT.out.1];unfold CS;rw[if_pos hmem,List.append_nil]);clear hY hba hmem hM
    gi_wp2
    refine⟨fun _ _=>trivial,?_⟩
    gi_wp2
    try simp only[Exit.noGoto_normal]
    go_end0;exact⟨⟨_,rfl⟩,.inl (by rw[HE.out];exact hJ1)⟩
   ·rw[decide_eq_false hmem] at hlk;have hfr:CS [] ts=ts.take (k+1)++CS (ts.take (k+1)) (ts.drop (k+1)):=by
     rw[HF.out,HDT.out.1,HDT.out.2]
     conv=>lhs;rw[CS,if_neg hmem]
     rw[List.append_assoc];rfl
    have hpr:ts.take k++[(⟨k1,n1,s1⟩:Sc)]<+:CS [] ts:=by rw[hfr,HDT.out.2];exact List.prefix_append _ _
    obtain⟨fn,tmps,assign,body,hy,hR⟩:=hY _ _ _ hJ1 hpr;unfold encS Ev at hy;have HPR:=hid (Ai hpr hfr);have HMem:=hid hmem;clear hpr hfr hba hmem hM hY
    gi_wp2
    refine⟨rfl,hR.mono ?_⟩;rintro e W3 (⟨rfl,hJ3,hk3⟩ | ⟨rfl,hJ3,hk3⟩)
    ·have hR3:=hR1.keeps hk3;have hM3:=hk3.heap hM1 (.inr (.inr rfl));have hup:=Abv _ _ _ hM3 ⟨k1,n1,s1⟩ HMem.out;unfold Ev at hup;have hJ4:=hJ _ _ _ hJ3 (Au.putObj (BN Ev (Kg (ts.take k++[⟨k1,n1,s1⟩]))) hM3 Nr rfl);have hM4:(W3.putObj W.heap.size (BN Ev (Kg (ts.take k++[⟨k1,n1,s1⟩])))).heap[W.heap.size]? =F (BN Ev (Kg (ts.take k++[⟨k1,n1,s1⟩]))):=World.putObj_heap_same (Gl hM3);have hR4:=hR3.turn (Au.putObj (B:=0) (BN Ev (Kg (ts.take k++[⟨k1,n1,s1⟩]))) hM3 (Nat.zero_le _) rfl);have hX3:=hk3.heap (Wn wr (.cells #[I J k1,I J n1,Q s1] 36)) (.inr (.inl (by show M<=wr.heap.size;omega)));obtain⟨d0,d1,d2,_⟩:=EM hX3;have hsz4:W.heap.size<(W3.putObj W.heap.size (BN Ev (Kg (ts.take k++[⟨k1,n1,s1⟩])))).heap.size:=by
      have:=hk3.size;simp at this |-;omega
     clear hy a0 a1 a2 hRw hR1 hM1 hlk hM3 hJ3 hR3
     gi_wp2
     go_roundw
     case rel=>exact⟨k+1,by omega,by go_num,by rw[HDT.out.2];exact hJ4,hR4,hsz4,by rw[HDT.out.2];exact hM4,hid HPR.out.2⟩
     case measure=>simp[intOf];omega
    ·clear hy a0 a1 a2 hRw hR1 hM1 hlk
     gi_wp2
     try simp only[Exit.noGoto_normal]
     go_end0;exact⟨⟨_,rfl⟩,.inr ⟨_,HPR.out.1,hJ3⟩⟩
  ·have hki:¬(k:Int)<(n:Int):=by omega
   have HE:=hid (show CS [] ts=ts.take k by
    rw[HF.out,List.drop_eq_nil_of_le (by rw[HN.out];omega)];simp[CS])
   gi_wp2
   try simp only[Exit.noGoto_normal]
   go_end0;exact⟨⟨_,rfl⟩,.inl (by rw[HE.out];exact hJs)⟩
theorem Yq (v:Value) (ts:List Sc) (w:Y) (hv:Om w v ts) (hn:ts.length<=1000000):
  Calls Tryz.prog 157 #[v] w fun e w'=>e=.returned (.bool (All ts))/\Below w.heap.size w w':=by
 obtain⟨A,cap,rfl,hR⟩:=Jw.of hv;rw[<- UC];obtain⟨N,hN⟩:∃ N,w.heap.size=N:=⟨_,rfl⟩
 rw[hN] at hR |-;have HIT:=hid (fun n₀ M=>WG ts A cap (N+1) n₀ M hn);obtain⟨fs,hfs⟩:∃ fs,CS [] ts=fs:=⟨_,rfl⟩
 have hfl:=OO [] ts;rw[hfs] at HIT hfl |-;have hfl':fs.length<=1000000:=by omega
 clear hfs hfl;refine(callsIn_wide (n:=0)).1 ?_;refine callsIn_of_wp_marks Tryz.func157 rfl trivial ?_ rfl;refine wpIn_wide.2 ?_;simp only[Tryz.ntmps157,List.size_toArray,List.length_cons,List.length_nil,Nat.reduceAdd,Nat.reduceSub,Array.replicate_succ,Array.replicate_zero,List.push_toArray,List.append_toArray,List.nil_append,List.cons_append]
 go_wp2_with fail;refine(XH _ _ _ _).mono ?_;rintro e w1 ⟨rfl,hw1⟩;have b0:Boxed w1 N 3 (I J 0):=by rw[hw1,<- hN];exact(Boxed.new w _ _).alloc _
 have b1:Boxed w1 (N+1) 37 (Z A ts.length cap):=by
  have:=Boxed.new (w.alloc (.cells #[I J 0] 3)) 37 (Z A ts.length cap);rw[hw1];rw[World.size_alloc,hN] at this;exact this
 have hb0:Below N w w1:=by rw[hw1];exact((Bq N w).alloc (by omega) _).alloc (by simp;omega) _
 have hR1:Jw w1 A ts N:=by rw[hw1];exact(hR.below ((Bq _ w).alloc Nr _)).below ((Bq _ _).alloc Nr _)
 have hz1:w1.heap.size=N+1+1:=by rw[hw1];simp[hN]
 clear hw1 hR;go_wp2;refine(wpIn_wide (n:=0)).1 ?_;refine N5 (gf:=233) (lb:=#[.pointer (F ⟨N+1,0,O⟩)]) rfl (enters_of Tryz.func233 (by kernel_rfl) rfl) (HIT.out N (N+1+1+1+1))
  (fun Yz hY hz=>⟨by omega,Ab b1 hY,hR1.below hY⟩) (fun k hk=>hk.elim) (by omega) (by omega) (by omega) (fun x=>rfl)
  (fun pre W=>Boxed W N 3 (I J (pre.length:Int))/\Below N w W)
  (fun co pre W=>False)
  ?hI ?hIx ⟨b0,hb0⟩ ?round ?done ?stop
 case hI=>
  rintro pre X Yz ⟨h1,h2⟩ ht;exact⟨Aj h1 ht (fun f=>f),ht.below h2 (fun k hk=>hk.elim) (by omega) (by omega)⟩
 case hIx=>
  rintro co pre X Yz h ht;exact h
 case stop=>
  rintro D co pre W hD hpre h hK;exact h.elim
 case round=>
  rintro l pre x W hl ⟨h1,h2⟩ hpre;have hpl:=hpre.length_le;rw[List.length_append] at hpl;simp only[List.length_singleton] at hpl;have HPL:=hid (show(pre++[x]).length=pre.length+1 by simp);unfold encS Ev
  gi_wp2
  refine⟨Ak.refl _ _ _ _,fun Wb ht _=>?_⟩;have h1':=Aj h1 ht (fun f=>f);have h2':=ht.below h2 (fun k hk=>hk.elim) (by omega) (by omega);have c0:=h1'.cell;have f0:=h1'.frozen;have hpi:(pre.length:Int)<=1000000:=by omega
  have hpi0:(0:Int)<=(pre.length:Int):=by omega
  have FIN:=hid (show Ak AH (fun k=>N+1+1+1+1<=k) N Wb (Wb.setCell ⟨N,0,O⟩ (I J ((pre.length:Int)+1)))/\Boxed (Wb.setCell ⟨N,0,O⟩ (I J ((pre.length:Int)+1))) N 3 (I J ((pre++[x]).length:Int))/\Below N w (Wb.setCell ⟨N,0,O⟩ (I J ((pre.length:Int)+1))) from
   ⟨Ak.setCell Wb ⟨N,0,O⟩ _ Nr (by show ¬(N+1+1+1+1<=N);omega),by rw[HPL.out];exact h1'.set _,h2'.setCell (p:=⟨N,0,O⟩) Nr _⟩)
  clear h1 h2 h1' h2' ht hpre hpl
  gi_wp2
  exact FIN.out
 case done=>
  rintro D W hD ⟨h1,h2⟩ hK;have c0:=h1.cell;have f0:=h1.frozen;have hcmp:decide ((fs.length:Int)<(ts.length:Int))=decide (fs.length<ts.length):=decide_eq_decide.2 (by omega);have HC:=hid hcmp;clear hcmp;go_wp2;refine⟨by simp,.inl ⟨_,_,rfl,run_takeDeferred hK,?_⟩⟩;refine⟨.bool (decide (fs.length<ts.length)),by simp[results,Tryz.f157,go_sem],?_⟩;exact⟨rfl,CY h2 hK (by omega) (by omega) _⟩
end
section
set_option maxHeartbeats 4000000
set_option maxRecDepth 100000
structure FP (w:Y):Prop where
 tabs:BU w
 err:H7 w
 len:Ou w
 errS:∃ p,Ea.ErrS w p
theorem FP.to {w w':Y} (h:FP w) (hb:Below w.heap.size w w'):FP w':=⟨h.tabs.below hb,h.err.below hb,h.len.below hb,let ⟨p,hp⟩:=h.errS;⟨p,cell_below hp hb⟩⟩
theorem FP.errC {w:Y} (h:FP w):Ea.ErrC w:=h.err
theorem FP.right {w:Y} (h:FP w) {x:Sc} (hx:x.str.size<=1000000):Bk 139 A4 x w:=fun W hW=>Ij x.kind x.num x.str W hx (h.tabs.below hW)
theorem Rh (w:Y) (S:Nat->Prop):ES w S:=fun w1 A c ks hb hk hl=>Yq _ ks w1 hk.scIn hl
abbrev nbP (nm:ByteArray):Bool:=CG nm.data.toList
mutual
theorem FP.tree {w:Y} (h:FP w):∀ (t:Tr),Fo 40000 t->Sm 1000000 t->TrP w A4 nbP t
 | .mk k nm x ks ts,h1,h2=>by
  unfold Fo at h1;unfold Sm at h2;unfold TrP;obtain⟨a1,a2,a3,a4⟩:=h1;exact⟨⟨h.right (by omega),fun y hy=>h.right (by have:=a3 y hy;omega),fun w1 hw1=>Ga nm w1 (by omega),h2.1,h2.2.1⟩,h.trees ts a4 h2.2.2⟩
theorem FP.trees {w:Y} (h:FP w):∀ (ts:List Tr),Fo.SzTs 40000 ts->Sm.SmTs 1000000 ts->TsP w A4 nbP ts
 | [],_,_=>by unfold TsP;trivial
 | t::r,h1,h2=>by
  unfold Fo.SzTs at h1;unfold Sm.SmTs at h2;unfold TsP;exact⟨h.tree t h1.1 h2.1,h.trees r h1.2 h2.2⟩
end
theorem VI (s:ByteArray) (made:Value) (w:Y) (hW:FP w):
  Calls Tryz.prog 24 #[.agg #[Q s],made] w fun e w'=>∃ q:Option Addr×Nat,e=.returned (.tuple #[.iface 96 (Z q.1 (Ao s.data.toList).1.length q.2),Eb (Ao s.data.toList).2.1 (Ao s.data.toList).2.2])/\Fr w w' [Mg (Z q.1 (Ao s.data.toList).1.length q.2) (Ao s.data.toList).1]:=by
 have hS:=fun w' (h:FP w')=>YS s w' h.tabs h.len;unfold NP at hS;obtain⟨r,hr⟩:∃ r,Ao s.data.toList=r:=⟨_,rfl⟩
 rw[hr] at hS |-;refine V.enter _ Tryz.func24 (Mem.start (C:=A5) w) ?_;refine W ?_;refine R.new fun b2 h2=>?_
 repeat refine W ?_
 refine R.cf (ι:=Option Addr×Nat) (v:=fun q=>.tuple #[Z q.1 r.1.length q.2,I J r.2.1,I J r.2.2]) (X:=fun q=>[Mg (Z q.1 r.1.length q.2) r.1]) (fun w' h'=>(hS w' (hW.to h'.1.below)).mono fun e w1 ⟨v,he,ho,hb⟩=>by
  have hf:=ho.fr hb;obtain⟨_,Fz,⟨A,c,rfl,_⟩,_⟩:=id hf;exact⟨(A,c),he,hf⟩) (fun q=>?_)
 repeat refine W ?_
 refine R.c (fun w' h'=>J5 r.2.1 r.2.2 w') ?_
 repeat refine W ?_
 refine V.end fun w' h'=>?_;exact⟨q,rfl,(h'.sel:Mem A5 w [Mg _ _] w').to_fr⟩
theorem XR (src:ByteArray) (s:List UInt8) (S:Nat->Prop) (A:Option Addr) (c:Nat) (w:Y) (hx:GZ w S A (Ao s).1) (hW:FP w):
  Calls Tryz.prog 25 #[.agg #[Q src],.iface 96 (Z A (Ao s).1.length c)] w fun e w'=>∃ y:TY,e=.returned (.tuple #[.iface 53 (.agg (AM y).toArray),Eb (AZ 100000 ((Ao s).1.map BM)).2.1 (AZ 100000 ((Ao s).1.map BM)).2.2])/\Fr w w' [A9 (AM y) (AZ 100000 ((Ao s).1.map BM)).1]:=by
 have hl:(Ao s).1.length<=1000000:=by
  by_cases h:8000<s.length
  ·rw[J3 h];exact Nat.zero_le _
  ·have h1:=(Kt s).1;have h2:∀ l:List Sc,l.length<=szL l:=fun l=>by
    unfold szL;induction l with
    | nil=>exact Nat.le_refl _
    | cons x r ih=>rw[List.map_cons,List.sum_cons,List.length_cons];omega
   have:=h2 (Ao s).1;omega
 have hB:=fun w' (h:FP w') hx=>Zy 100000 (by decide) S A c (Ao s).1 w' hx hl (fun x hx=>by have:=KX x hx;omega) FX h.tabs h.errC;obtain⟨r,hr⟩:∃ r,AZ 100000 ((Ao s).1.map BM)=r:=⟨_,rfl⟩
 rw[hr] at hB |-;refine V.enter _ Tryz.func25 (Mem.start (C:=A5) w) ?_;refine W ?_;refine R.new fun b2 h2=>?_
 repeat refine W ?_
 refine R.cf (ι:=TY) (v:=fun y=>.tuple #[.agg (AM y).toArray,I J r.2.1,I J r.2.2]) (X:=fun y=>[A9 (AM y) r.1]) (fun w' h'=>hB w' (hW.to h'.1.below) (hx.to fun b o v hb hv=>⟨h'.1.cell hv (fun e=>e),hb⟩)) (fun y=>?_);iterate 4 refine W ?_
 refine R.new fun b6 h6=>?_
 repeat refine W ?_
 refine R.c (fun w' h'=>J5 r.2.1 r.2.2 w') ?_
 repeat refine W ?_
 refine V.end fun w' h'=>?_;exact⟨y,rfl,(h'.sel:Mem A5 w [A9 _ _] w').to_fr⟩
end
section
set_option maxHeartbeats 16000000
set_option maxRecDepth 100000
structure ZZ (wB:Y) (s:ByteArray) (R1:List Sc×Int×Int) (R2:Tr×Int×Int) (R3:Gf×Int):Prop where
 l:∀ made w,Below wB.heap.size wB w->Calls Tryz.prog 24 #[.agg #[Q s],made] w fun e w'=>∃ q:Option Addr×Nat,e=.returned (.tuple #[.iface 96 (Z q.1 R1.1.length q.2),Eb R1.2.1 R1.2.2])/\Fr w w' [Mg (Z q.1 R1.1.length q.2) R1.1]
 t:∀ (S:Nat->Prop) A c w,Below wB.heap.size wB w->GZ w S A R1.1->Calls Tryz.prog 25 #[.agg #[Q s],.iface 96 (Z A R1.1.length c)] w fun e w'=>∃ y:TY,e=.returned (.tuple #[.iface 53 (.agg (AM y).toArray),Eb R2.2.1 R2.2.2])/\Fr w w' [A9 (AM y) R2.1]
 g:∀ (y:TY) w,Below wB.heap.size wB w->D7 w (fun b=>b<w.heap.size) R2.1 (AM y)->Calls Tryz.prog 26 #[.agg #[Q s],.iface 53 (.agg (AM y).toArray)] w fun e w'=>∃ q:Option Addr×Nat,e=.returned (.tuple #[.iface 26 (Fx q.1 q.2 R3.1),Eb 0 R3.2])/\Fr w w' [KZ (Fx q.1 q.2 R3.1) R3.1]
abbrev Li:=Value×Value
section
variable (R1:List Sc×Int×Int) (R2:Tr×Int×Int) (R3:Gf×Int)
def JW (q:Option Addr×Nat):Li:=(.iface 96 (Z q.1 R1.1.length q.2),Eb R1.2.1 R1.2.2)
def QO (y:TY):Li:=(.iface 53 (.agg (AM y).toArray),Eb R2.2.1 R2.2.2)
def it3 (q:Option Addr×Nat):Li:=(.iface 26 (Fx q.1 q.2 R3.1),Eb 0 R3.2)
def itA (m:Nat):List Li->Li->Prop
 | [],x=>∃ q,x=JW R1 q
 | [u],x=>(∃ q,u=JW R1 q)/\R1.2.2=0/\∃ y,x=QO R2 y
 | [u,v],x=>(∃ q,u=JW R1 q)/\(∃ y,v=QO R2 y)/\m=3/\R1.2.2=0/\R2.2.2=0/\∃ q,x=it3 R3 q
 | _,_=>False
def itO (m:Nat):List Li->Prop
 | []=>True
 | [x]=>R1.2.2=0/\∃ q,x=JW R1 q
 | [u,x]=>(∃ q,u=JW R1 q)/\R1.2.2=0/\R2.2.2=0/\∃ y,x=QO R2 y
 | [u,v,x]=>(∃ q,u=JW R1 q)/\(∃ y,v=QO R2 y)/\m=3/\R1.2.2=0/\R2.2.2=0/\R3.2=0/\∃ q,x=it3 R3 q
 | _=>False
def itF (m:Nat):List Li->Prop
 | [x]=>R1.2.2≠0
 | [u,x]=>R1.2.2=0/\(m=2\/R2.2.2≠0)
 | [_,_,x]=>m=3/\R1.2.2=0/\R2.2.2=0
 | _=>False
def itM:List Li->List Aw
 | [(.iface _ v,_)]=>[Mg v R1.1]
 | [_,(.iface _ (.agg a),_)]=>[A9 a.toList R2.1]
 | [_,_,(.iface _ v,_)]=>[KZ v R3.1]
 | _=>[]
end
def f1V (s:ByteArray):Value:=.func (.func 24) #[.agg #[Q s]] #[]
def f2V (s:ByteArray):Value:=.func (.func 25) #[.agg #[Q s]] #[]
def f3V (s:ByteArray):Value:=.func (.func 26) #[.agg #[Q s]] #[]
theorem MW {a b:Int} (h:b=0):Eb a b=.nilIface:=by unfold Eb;rw[if_pos h]
theorem Ji {a b:Int} (h:¬b=0):Eb a b=.iface 104 (.agg #[I J a,I J b]):=by unfold Eb;rw[if_neg h]
theorem Ajx (wB:Y) (s:ByteArray) (R1:List Sc×Int×Int) (R2:Tr×Int×Int) (R3:Gf×Int) (hP:ZZ wB s R1 R2 R3) (sb fb m:Nat) (rest:List Value) (hm:m=2/\rest=[]\/m=3/\rest=[f3V s]) (hf:Cs wB fb 0 (f1V s::f2V s::rest)):
  Jl Tryz.prog 67 #[.pointer (F ⟨sb,0,O⟩)] (fun(x:Li)=>[x.1,x.2]) (fun _=>[]) (fun xs=>blk sb [Z (F ⟨fb,0,O⟩) m m] 92::itM R1 R2 R3 xs)
   (itA R1 R2 R3 m) (itF R1 R2 m) (fun w G=>Below wB.heap.size wB w/\Hx wB G):=by
 refine Jl.of fun l Jz Jx w G hSt hG hY hM=>?_;obtain⟨hB,hQ⟩:=hSt;have hfw:Cs w fb 0 (f1V s::f2V s::rest):=(B4.of_below (C:=A5) hB).cs hf (fun e=>e);have hfn:¬G fb:=fun e=>by
  have h1:=hQ fb e;have h2:=HO (hf 0 _ rfl);omega
 have hm2:m=2\/m=3:=hm.imp And.left And.left;refine V.enter _ Tryz.func67 hM ?_
 repeat refine W ?_
 refine V.loop (ι:=List Li) (itO R1 R2 R3 m) (fun xs=>Mem G w (blk sb [Z (F ⟨fb,0,O⟩) m m] 92::(itM R1 R2 R3 xs++[Jz xs]))) (fun xs=>[(9,I J xs.length),(8,I J m),(7,Z (F ⟨fb,0,O⟩) m m),(3,(xs.getLast?.map (·.1)).getD .nilIface),(0,.func (.yield l) #[] #[]),(1,.pointer (F ⟨sb,0,O⟩))]) (fun xs=>3 - xs.length) [] trivial (fun w h=>h) ⟨rfl,rfl,rfl,rfl,rfl,rfl,trivial⟩ ?_;intro xs hxs
 match xs,hxs with
 | [],_=>
  repeat refine W ?_
  refine V.ifp (fun hlt=>?_) (fun hge=>absurd (show 0<m by omega) hge)
  repeat refine W ?_
  refine R.ix (k:=0) (show 0<m by omega) ?_;refine R.lo 0 hfw ?_ hfn
  repeat refine W ?_
  refine R.cf (fun w' h'=>hP.l _ w' (B4.belowB hB hQ h'.1)) (fun q=>?_)
  repeat refine W ?_
  refine R.y (hY [] (JW R1 q) ⟨q,rfl⟩) ?_ ?_
  ·by_cases e:R1.2.2=0
   ·refine R.re 4 (MW e) ?_
    repeat refine W ?_
    exact V.again [JW R1 q] rfl ⟨e,q,rfl⟩ (hm:=by simp)
   ·refine R.re 4 (Ji e) ?_
    repeat refine W ?_
    refine V.end fun w' h'=>?_;exact⟨⟨_,rfl⟩,.inl ⟨[JW R1 q],e,h'.sel⟩⟩
  ·repeat refine W ?_
   refine V.end fun w' h'=>?_;exact⟨⟨_,rfl⟩,.inr ⟨_,h'.sel⟩⟩
 | [_],⟨e1,q,rfl⟩=>
  repeat refine W ?_
  refine V.ifp (fun hlt=>?_) (fun hge=>absurd (show(1:Int)<(m:Int) by omega) hge)
  repeat refine W ?_
  refine R.ix (k:=1) (show 1<m by omega) ?_;refine R.lo 1 hfw ?_ hfn
  repeat refine W ?_
  refine R.cf (X:=fun y:TY=>[A9 (AM y) R2.1]) (fun w' h'=>by
   obtain⟨Fz,⟨A,c,e,hk⟩,_⟩:=h'.has (X:=Mg (Z q.1 R1.1.length q.2) R1.1) (by simp[itM,JW]);injection e with ea _ ec;subst ea;subst ec;exact hP.t Fz q.1 q.2 w' (B4.belowB hB hQ h'.1) hk) (fun y=>?_)
  repeat refine W ?_
  refine R.y (hY [JW R1 q] (QO R2 y) ⟨⟨q,rfl⟩,e1,y,rfl⟩) ?_ ?_
  ·by_cases e:R2.2.2=0
   ·refine R.re 4 (MW e) ?_
    repeat refine W ?_
    exact V.again [JW R1 q,QO R2 y] rfl ⟨⟨q,rfl⟩,e1,e,y,rfl⟩ (hm:=by simp)
   ·refine R.re 4 (Ji e) ?_
    repeat refine W ?_
    refine V.end fun w' h'=>?_;exact⟨⟨_,rfl⟩,.inl ⟨[JW R1 q,QO R2 y],⟨e1,.inr e⟩,h'.sel⟩⟩
  ·repeat refine W ?_
   refine V.end fun w' h'=>?_;exact⟨⟨_,rfl⟩,.inr ⟨_,h'.sel⟩⟩
 | [_,_],⟨⟨q0,rfl⟩,e1,e2,y,rfl⟩=>
  rcases hm with ⟨rfl,rfl⟩ | ⟨rfl,rfl⟩
  ·repeat refine W ?_
   refine V.end fun w' h'=>?_;exact⟨⟨_,rfl⟩,.inl ⟨[JW R1 q0,QO R2 y],⟨e1,.inl rfl⟩,h'.sel⟩⟩
  ·repeat refine W ?_
   refine R.lo 2 hfw ?_ hfn
   repeat refine W ?_
   refine R.cf (X:=fun q:Option Addr×Nat=>[KZ (Fx q.1 q.2 R3.1) R3.1]) (fun w' h'=>by
    obtain⟨Fz,hF,hF2⟩:=h'.has (X:=A9 (AM y) R2.1) (by simp[itM,QO]);exact hP.g y w' (B4.belowB hB hQ h'.1) (D7.more hF fun b hb=>(hF2 b hb).1)) (fun q=>?_)
   repeat refine W ?_
   refine R.y (hY [JW R1 q0,QO R2 y] (it3 R3 q) ⟨⟨q0,rfl⟩,⟨y,rfl⟩,rfl,e1,e2,q,rfl⟩) ?_ ?_
   ·by_cases e:R3.2=0
    ·refine R.re 4 (MW e) ?_
     repeat refine W ?_
     exact V.again [JW R1 q0,QO R2 y,it3 R3 q] rfl ⟨⟨q0,rfl⟩,⟨y,rfl⟩,rfl,e1,e2,e,q,rfl⟩ (hm:=by simp)
    ·refine R.re 4 (Ji e) ?_
     repeat refine W ?_
     refine V.end fun w' h'=>?_;exact⟨⟨_,rfl⟩,.inl ⟨[JW R1 q0,QO R2 y,it3 R3 q],⟨rfl,e1,e2⟩,h'.sel⟩⟩
   ·repeat refine W ?_
    refine V.end fun w' h'=>?_;exact⟨⟨_,rfl⟩,.inr ⟨_,h'.sel⟩⟩
 | [_,_,_],⟨⟨q0,rfl⟩,⟨y,rfl⟩,e0,e1,e2,e3,q,rfl⟩=>
  rcases hm with ⟨rfl,_⟩ | ⟨rfl,rfl⟩
  ·cases e0
  ·repeat refine W ?_
   refine V.end fun w' h'=>?_;exact⟨⟨_,rfl⟩,.inl ⟨[JW R1 q0,QO R2 y,it3 R3 q],⟨rfl,e1,e2⟩,h'.sel⟩⟩
 | _::_::_::_::_,hx=>exact hx.elim
end
end Go.Proofs.YtdpppepmkeinaaaGreatDoor
