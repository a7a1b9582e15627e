/- What is proved: a part of the walk of the program and of its plain laws; no condition beside those that each theorem names. -/
import Derived.Test.YtdpppepmkeinaaaGreatDoorYf
import Derived.Test.YtdpppepmkeinaaaGreatDoorYd
import Derived.Test.YtdpppepmkeinaaaGreatDoorYa
import Derived.Stop.RegionWithIn
import Derived.LaidEql
import Derived.Stop.Asserts
import Derived.RowKitTokens
namespace Go.Proofs.YtdpppepmkeinaaaGreatDoor
open Go Go.RowKit Go.Lib
open Go.Value renaming int->I,string->Q,slice->Z
open Go.IntKind renaming i64->J
open Option renaming none->O,some->F
open _root_.Go renaming World->Y
set_option linter.unusedSimpArgs false
set_option linter.unusedVariables false
set_option linter.unusedSectionVars false
section
set_option maxRecDepth 100000
set_option maxHeartbeats 4000000
attribute [local go_sem] Oper.semAt_some ID EE
theorem TJ (v:Value) (w:Y):(Instr.typeAssert (.iface 433 v) 429 433 true).run Tryz.prog w=.ok (.tuple #[v,.bool true]) w:=by kernel_rfl
theorem Uh (v:Value) (w:Y):(Instr.typeAssert (.iface 435 v) 429 433 true).run Tryz.prog w=.ok (.tuple #[.agg #[I J 0],.bool false]) w:=by kernel_rfl
theorem RI (v:Value) (w:Y):(Instr.typeAssert (.iface 435 v) 429 435 true).run Tryz.prog w=.ok (.tuple #[v,.bool true]) w:=by kernel_rfl
theorem LM (s:ByteArray) (q:Int):∀ (f i:Nat) (r:Int) (tq:Nat),i<=s.size->(i<s.size->validD (s.data.toList.drop i)=true)->QP.sign r tq∈C7 s q f i->Lib.validRune r=true
 | 0,_,_,_,_,_,h=>by simp[C7] at h
 | f+1,i,r,tq,hi,hv,h=>by
  unfold C7 at h;cases ho:Ek s q i with
  | fin to2=>rw[ho] at h;simp at h
  | bad e=>rw[ho] at h;simp at h
  | sign r2 to2=>
   rw[ho] at h;obtain⟨_,_,h3,h4,h5⟩:=GS hi hv ho;rcases List.mem_cons.1 h with e | h
   ·injection e with e1 e2;subst e1;exact h5
   ·exact LM s q f to2 r tq h3 h4 h
theorem H4 (s:ByteArray) (q:Int):∀ (f i:Nat),(C7 s q f i).length<=f
 | 0,_=>by simp[C7]
 | f+1,i=>by
  unfold C7;cases Ek s q i with
  | fin to2=>simp
  | bad e=>simp
  | sign r2 to2=>simp[H4 s q f to2]
theorem Qz {r:Int} (h:Lib.validRune r=true):0<=r/\r<=1114111:=by
 unfold Lib.validRune at h;rw[decide_eq_true_eq] at h;omega
theorem UN (pre:List QP) (r:Int) (tq:Nat) (acc:List UInt8) (h:∀ rest,DF (pre++rest) []=DF rest acc) (rest:List QP):DF ((pre++[.sign r tq])++rest) []=DF rest (acc++encodeRune r):=by
 rw[List.append_assoc,h];rfl
theorem K8 {B b:Nat} {bs:List Value} {w:Y} (h:Lib.IsBuilderF TB T8 B b bs w):BF w b TB:=by
 rcases h with ⟨_,v,h,_⟩ | ⟨_,v,h,_⟩<;>exact⟨_,_,h⟩
theorem GM {X Yz:Y} {k B:Nat} {t:TypeId} {v:Value} (h:Boxed X k t v) (hb:Below B X Yz) (hk:k<B):Boxed Yz k t v:=(hb.block k hk).trans h
theorem GL {C:Nat->Prop} {W:Y} {N:Nat} {t0 t1 t2:TypeId} {u0 u1 u2:Value} (b0:Boxed W N t0 u0) (b1:Boxed W (N+1) t1 u1) (b2:Boxed W (N+1+1) t2 u2) (h0:¬C N) (h1:¬C (N+1)) (h2:¬C (N+1+1)) (v0 v1 v2:Value):
  Ak AH C N W (((W.setCell ⟨N,0,O⟩ v0).setCell ⟨N+1,0,O⟩ v1).setCell ⟨N+1+1,0,O⟩ v2)/\Boxed (((W.setCell ⟨N,0,O⟩ v0).setCell ⟨N+1,0,O⟩ v1).setCell ⟨N+1+1,0,O⟩ v2) N t0 v0/\Boxed (((W.setCell ⟨N,0,O⟩ v0).setCell ⟨N+1,0,O⟩ v1).setCell ⟨N+1+1,0,O⟩ v2) (N+1) t1 v1/\Boxed (((W.setCell ⟨N,0,O⟩ v0).setCell ⟨N+1,0,O⟩ v1).setCell ⟨N+1+1,0,O⟩ v2) (N+1+1) t2 v2:=
 ⟨((Ak.setCell W ⟨N,0,O⟩ v0 Nr h0).trans (Ak.setCell _ ⟨N+1,0,O⟩ v1 (by simp) h1)).trans (Ak.setCell _ ⟨N+1+1,0,O⟩ v2 (by simp;omega) h2),
  As (As (b0.set v0) (by simp) v1) (by simp;omega) v2,As ((As b1 (by simp) v0).set v1) (by simp) v2,(As (As b2 (by simp;omega) v0) (by simp) v1).set v2⟩
theorem YP (s:ByteArray) (n:Nat) (hn:n<s.size) (q:Int) (hcq:(((s[n]'hn).toNat:Nat):Int)=q) (hq:q=34\/q=39) (w:Y) (hs:s.size<=1000000) (hv:validD s.data.toList=true) (hv1:n+1<s.size->validD (s.data.toList.drop (n+1))=true) (hT:BU w):
  Calls Tryz.prog 268 #[Q s,I J n] w fun e w'=>e=.returned (H0 (DF (B1 s q (n+1)) []))/\Below w.heap.size w w':=by
 have hR:=fun wx hx=>Cz s wx hs hx;rw[hv] at hR;clear hv;have HV1:=hid hv1;clear hv1;have hz0:n+1<=s.size:=hn;have hit:=fun Br Bi n₀ (hN:w.heap.size<=n₀) (hBi:w.heap.size<=Bi) (hne:Br≠Bi)=>Ua s q hq (n+1) Br Bi n₀ w hT hN hBi hne hs hz0 HV1.out;obtain⟨ps,hps⟩:∃ ps,B1 s q (n+1)=ps:=⟨_,rfl⟩
 have hmem:∀ r tq,QP.sign r tq∈ps->Lib.validRune r=true:=fun r tq h=>by
  rw[<- hps] at h;exact LM s _ _ _ r tq hz0 HV1.out h
 have hpl:ps.length<=s.size:=by rw[<- hps];have:=H4 s q (s.size+1 - (n+1)) (n+1);unfold B1;omega
 rw[hps] at hit |-;have HPS:=hid (Ai hmem hpl);have HIT:=hid hit;clear hmem hpl hps hit HV1;refine(callsIn_wide (n:=0)).1 ?_;refine callsIn_of_wp_marks Tryz.func268 rfl trivial ?_ rfl;refine wpIn_wide.2 ?_;simp only[Tryz.ntmps268,List.size_toArray,List.length_cons,List.length_nil,Nat.reduceAdd,Nat.reduceSub,Array.replicate_succ,Array.replicate_zero,List.push_toArray,List.append_toArray,List.nil_append,List.cons_append]
 obtain⟨N,hN⟩:∃ N,w.heap.size=N:=⟨_,rfl⟩
 have hb0:Below N w (((w.alloc (.cells #[Q ⟨#[]⟩] 9)).alloc (.cells #[I J 0] 3)).alloc (.cells #[I J 0] 27)):=(((Bq N w).alloc (by omega) _).alloc (by simp;omega) _).alloc (by simp;omega) _;go_wp2_with fail;refine(hR _ (hT.below (hN▸hb0))).mono ?_;rintro e w1 ⟨rfl,hb1⟩;obtain⟨b0,b1,b2⟩:=H5 w 9 3 27 (Q ⟨#[]⟩) (I J 0) (I J 0);rw[hN] at b0 b1 b2;replace b0:=Ab b0 hb1;replace b1:=Ab b1 hb1;replace b2:=Ab b2 hb1;have hb2:=hb0.trans (hb1.mono (by have:=hb0.size;omega));clear hb0 hb1 hR;have h0:¬(n:Int)<0:=by omega
 have h1:(n:Int)<(s.size:Int):=by omega
 have hQ:=fun wx=>FU q [34,39] 2 2 wx rfl (by decide);rw[show BC [34,39] q=true by rcases hq with rfl | rfl<;>rfl] at hQ;obtain⟨c,hc⟩:∃ c,s[n]'hn=c:=⟨_,rfl⟩
 rw[hc] at hcq;have hc256:(c.toNat:Int)<256:=by have:=c.toNat_lt;omega
 have HQQ:=hid hq;clear hq;subst hcq;have HC:=hid hc;go_wp2_with fail;refine(hQ _).mono ?_;rintro e w2 ⟨rfl,hb3⟩;clear hQ;replace b0:=Ab b0 hb3;replace b1:=Ab b1 hb3;replace b2:=Ab b2 hb3;have hb4:=hb2.trans (hb3.mono (by have:=hb2.size;omega));clear hb2 hb3;obtain⟨M,hM⟩:∃ M,w2.heap.size=M:=⟨_,rfl⟩
 have hNM:N+1+1<M:=by have:=b2.lt;omega
 have hI0:Lib.IsBuilderF TB T8 M M [] (w2.alloc (.cells #[.pointer O,Z O 0 0] TB)):=.inl ⟨Nat.le_refl _,Z O 0 0,by rw[<- hM];exact Wn _ _,World.ownsRowF_nil _ _ _ _,by simp[Value.ownBlock]⟩;have hb5:Below N w (w2.alloc (.cells #[.pointer O,Z O 0 0] TB)):=hb4.alloc (by have:=hb4.size;omega) _;replace b0:=b0.alloc (.cells #[.pointer O,Z O 0 0] TB);replace b1:=b1.alloc (.cells #[.pointer O,Z O 0 0] TB);replace b2:=b2.alloc (.cells #[.pointer O,Z O 0 0] TB);have hz3:(w2.alloc (.cells #[.pointer O,Z O 0 0] TB)).heap.size=M+1:=by simp[hM]
 obtain⟨w3,hw3⟩:∃ w3,w2.alloc (.cells #[.pointer O,Z O 0 0] TB)=w3:=⟨_,rfl⟩
 rw[hw3] at hI0 hb5 b0 b1 b2 hz3;have HW3:=hid hw3;clear hw3;go_wp2_with fail;refine(UU s (c.toNat:Int) (n+1) _).mono ?_;rintro e w4 ⟨rfl,hw4⟩;clear hc;rw[show w2.alloc (.cells #[.pointer O,Z O 0 0] 73)=w3 from HW3.out] at hw4 |-;rw[hz3];have hz4:w4.heap.size=M+1+1+1:=by rw[hw4];simp[hz3]
 have hR4:Ez w4 (M+1) s (c.toNat:Int):=by
  rw[hw4,<- hz3];exact Ez.below (Wn _ _) ((Bq _ _).alloc Nr _)
 have hI4:Boxed w4 (M+1+1) 3 (I J ((n+1:Nat):Int)):=by
  have:=Boxed.new (w3.alloc (.cells #[Q s,.int .i32 (c.toNat:Int)] 426)) 3 (I J ((n+1:Nat):Int));rw[World.size_alloc,hz3] at this;rw[hw4];exact this
 have hb6:Below N w w4:=by rw[hw4];exact(hb5.alloc (by have:=hb5.size;omega) _).alloc (by have:=hb5.size;simp;omega) _
 replace b0:Boxed w4 N 9 (Q ⟨#[]⟩):=by rw[hw4];exact(b0.alloc _).alloc _
 replace b1:Boxed w4 (N+1) 3 (I J 0):=by rw[hw4];exact(b1.alloc _).alloc _
 replace b2:Boxed w4 (N+1+1) 27 (I J 0):=by rw[hw4];exact(b2.alloc _).alloc _
 replace hI0:Lib.IsBuilderF TB T8 M M [] w4:=by rw[hw4];exact(hI0.alloc _).alloc _
 clear hw4 hb5 hb4;go_wp2;have HC1:c.toNat=34\/c.toNat=39:=by have:=HQQ.out;omega
 refine(wpIn_wide (n:=0)).1 ?_;refine EU (gf:=290) (lb:=#[.pointer (F ⟨M+1,0,O⟩),.pointer (F ⟨M+1+1,0,O⟩)]) rfl (enters_of Tryz.func290 (by kernel_rfl) rfl) (HIT.out (M+1) (M+1+1) N (by omega) (by omega) (by omega))
  (fun Yz hY=>⟨hR4.below hY,Ab hI4 hY,hN▸hb6.trans (hY.mono (by have:=hb6.size;omega))⟩) (fun k hk=>by omega) (by omega) (fun _=>rfl)
  (fun pre W=>∃ acc,Hid (acc.length<=4*pre.length/\∀ rest,DF (pre++rest) []=DF rest acc)/\Lib.IsBuilderF TB T8 M M (Lib.byteCells acc) W/\BF W (M+1) 426/\BF W (M+1+1) 3/\Boxed W N 9 (Q ⟨#[]⟩)/\Boxed W (N+1) 3 (I J 0)/\Boxed W (N+1+1) 27 (I J 0)/\Below N w W/\M+1+1<W.heap.size)
  (fun co pre W=>co=.ret/\∃ x,Hid (DF ps []=x)/\Boxed W N 9 (Q ⟨x.1.toArray⟩)/\Boxed W (N+1) 3 (I J x.2.1)/\Boxed W (N+1+1) 27 (I J x.2.2)/\Below N w W)
  ?hI ?hIx ⟨[],hid ⟨by simp,fun _=>rfl⟩,hI0,⟨_,_,hR4⟩,⟨_,_,hI4⟩,b0,b1,b2,hb6,by omega⟩ ?round ?done ?stop
 case hI=>
  rintro pre X Yz ⟨acc,h1,h2,k1,k2,h3,h4,h5,h6,h7⟩ ht;exact⟨acc,h1,IsBuilderF.turn h2 ht (fun k hk=>by rcases hk with rfl | rfl;exact⟨_,by decide,by decide,k1⟩;exact⟨_,by decide,by decide,k2⟩),k1.turn ht,k2.turn ht,
   Aj h3 ht (by omega),Aj h4 ht (by omega),Aj h5 ht (by omega),ht.below h6 (fun k hk=>by omega) (by omega) (by omega),Nat.lt_of_lt_of_le h7 ht.size⟩
 case hIx=>
  rintro co pre X Yz ⟨h1,x,h2,h3,h4,h5,h6⟩ ht;exact⟨h1,x,h2,Aj h3 ht (by omega),Aj h4 ht (by omega),Aj h5 ht (by omega),ht.below h6 (fun k hk=>by omega) (by omega) (by omega)⟩
 case round=>
  rintro l pre x W hl ⟨acc,h1,h2,k1,k2,h3,h4,h5,h6,h7⟩ hpre
  gi_wp2
  refine⟨Ak.refl _ _ _ _,fun Wb ht _=>?_⟩;replace h2:=IsBuilderF.turn h2 ht (fun k hk=>by rcases hk with rfl | rfl;exact⟨_,by decide,by decide,k1⟩;exact⟨_,by decide,by decide,k2⟩);replace k1:=k1.turn ht;replace k2:=k2.turn ht;replace h3:=Aj h3 ht (by omega);replace h4:=Aj h4 ht (by omega);replace h5:=Aj h5 ht (by omega);replace h6:=ht.below h6 (fun k hk=>by omega) (by omega) (by omega);replace h7:=Nat.lt_of_lt_of_le h7 ht.size;clear ht;have HPR:=hid hpre;have h6z:N<=Wb.heap.size:=by omega
  clear hpre;cases x with
  | sign r tq=>
   have hvr:Lib.validRune r=true:=HPS.out.1 r tq (HPR.out.subset (by simp));obtain⟨hr0,hr1⟩:=Qz hvr;have hacc:acc.length<=4*s.size:=by
    have e1:=h1.out.1;have e2:=HPR.out.length_le;have e3:=HPS.out.2;simp at e2;omega
   have hta:=Nm (.agg #[.int .i32 r,I J tq]);unfold GF;have h2':=h2.alloc (.cells #[.int .i32 r,I J tq] 431);clear hvr h2
   gi_wp2_with fail
   refine(CallsIn.inRound l (callsIn_wide.2 (LV M M (Lib.byteCells acc) r (by omega) (by omega) _ h2' (by simp[Lib.byteCells];omega) (by simp;omega)))).mono ?_;rintro e w5 ⟨rfl,hB,hb,ho⟩;rw[<- Lib.byteCells_encodeRune,<- Lib.byteCells_append] at hB;have fin:Ak AH (fun k=>k=M+1\/k=M+1+1) N Wb w5/\(∃ acc,Hid (acc.length<=4*(pre++[QP.sign r tq]).length/\∀ rest,DF ((pre++[QP.sign r tq])++rest) []=DF rest acc)/\Lib.IsBuilderF TB T8 M M (Lib.byteCells acc) w5/\BF w5 (M+1) 426/\BF w5 (M+1+1) 3/\Boxed w5 N 9 (Q ⟨#[]⟩)/\Boxed w5 (N+1) 3 (I J 0)/\Boxed w5 (N+1+1) 27 (I J 0)/\Below N w w5/\M+1+1<w5.heap.size):=by
    have k1':=k1.below ((Bq _ Wb).alloc Nr (.cells #[.int .i32 r,I J tq] 431));have k2':=k2.below ((Bq _ Wb).alloc Nr (.cells #[.int .i32 r,I J tq] 431));refine⟨(Ak.alloc Wb _).trans (Ak.others ho hb (by omega) (K8 h2') (fun k hk=>by rcases hk with rfl | rfl;exact⟨by omega,_,by decide,k1'⟩;exact⟨by omega,_,by decide,k2'⟩)),acc++encodeRune r,hid ⟨?_,UN pre r tq acc h1.out.2⟩,.inr hB,k1'.others ho (by omega) (by decide),k2'.others ho (by omega) (by decide),GM (h3.alloc _) hb (by omega),GM (h4.alloc _) hb (by omega),GM (h5.alloc _) hb (by omega),(h6.alloc (by omega) _).trans (hb.mono (by omega)),?_⟩
    ·have e1:=h1.out.1;have e2:=Lib.runeCells_le r;rw[<- Lib.byteCells_encodeRune,Lib.byteCells_length] at e2;simp only[List.length_append,List.length_cons,List.length_nil]
     omega
    ·have:=hb.size;simp at this;omega
   have FIN:=hid fin;clear fin hB ho hb h1 h2' k1 k2 h3 h4 h5 hta hr0 hr1
   gi_wp2
   exact FIN.out
  | fin tq=>
   have HF:=hid (show DF ps []=(acc,tq,0) by
    obtain⟨rest,hrest⟩:=HPR.out;rw[<- hrest,List.append_assoc,h1.out.2];rfl)
   have hta:=PL (.agg #[I J tq]);have htb:=TJ (.agg #[I J tq]);unfold GF;have h2':=h2.alloc (.cells #[I J tq] 433);have STR:=CallsIn.inRound l ((callsIn_wide (n:=0)).2 (Tryz.Builder_String_any_k M M acc (Wb.alloc (.cells #[I J tq] 433)).drew h2' (by simp;omega)));have fin:∀ w5,Below M (Wb.alloc (.cells #[I J tq] 433)) w5->Lib.OthersKept T8 (F M) (Wb.alloc (.cells #[I J tq] 433)) w5->w5.cell? ⟨Wb.heap.size,0,O⟩=F (I J tq)/\Boxed w5 N 9 (Q ⟨#[]⟩)/\Boxed w5 (N+1) 3 (I J 0)/\Boxed w5 (N+1+1) 27 (I J 0)/\Below N w w5/\Wb.heap.size<w5.heap.size/\Ak AH (fun k=>k=M+1\/k=M+1+1) N Wb w5:=fun w5 hb ho=>by
    have k1':=k1.below ((Bq _ Wb).alloc Nr (.cells #[I J tq] 433));have k2':=k2.below ((Bq _ Wb).alloc Nr (.cells #[I J tq] 433));have hnew:w5.heap[Wb.heap.size]? =F (.cells #[I J tq] 433):=ho _ _ (Wn _ _) (fun e=>by have:=Option.some.inj e;omega) (fun c fz e=>by injection e with _ e;exact absurd e (by decide));refine⟨by simp[World.cell?,hnew],GM (h3.alloc _) hb (by omega),GM (h4.alloc _) hb (by omega),GM (h5.alloc _) hb (by omega),(h6.alloc (by omega) _).trans (hb.mono (by omega)),by have:=hb.size;simp at this;omega,?_⟩;exact(Ak.alloc Wb _).trans (Ak.others ho hb (by omega) (K8 h2') (fun k hk=>by rcases hk with rfl | rfl;exact⟨by omega,_,by decide,k1'⟩;exact⟨by omega,_,by decide,k2'⟩))
   have FIN:=hid fin;have hd1:Wb.heap.size≠N:=by omega
   have hd2:Wb.heap.size≠N+1:=by omega
   have hd3:Wb.heap.size≠N+1+1:=by omega
   clear h2 fin h1 h3 h4 h5 k1 k2 h2'
   gi_wp2
   gi_region_with ((gi_at_call 38;refine STR.mono ?_;rintro e w5 ⟨rfl,hB,hb,ho⟩;obtain⟨e0,e1,e2,e3,e4,e5,e6⟩:=FIN.out w5 ⟨hb.os,hb.tape,hb.output,hb.size,hb.block⟩ ho;have c1:=e1.cell;have f1:=e1.frozen;have c2:=e2.cell;have f2:=e2.frozen;have c3:=e3.cell;have f3:=e3.frozen))
   all_goals (gi_wp2;exact(by
    obtain⟨q1,q2,q3,q4⟩:=GL (C:=fun k=>k=M+1\/k=M+1+1) e1 e2 e3 (by omega) (by omega) (by omega) (Q ⟨acc.toArray⟩) (I J tq) (I J 0);exact⟨e6.trans q1,rfl,_,HF,q2,q3,q4,((e4.setCell (p:=⟨N,0,O⟩) (by simp) _).setCell (p:=⟨N+1,0,O⟩) (by simp) _).setCell (p:=⟨N+1+1,0,O⟩) (by simp;omega) _⟩))
  | bad e0=>
   have HF:=hid (show DF ps []=([],0,e0) by
    obtain⟨rest,hrest⟩:=HPR.out;rw[<- hrest,List.append_assoc,h1.out.2];rfl)
   have hta:=P9 (.agg #[I J e0]);have htb:=Uh (.agg #[I J e0]);have htc:=RI (.agg #[I J e0]);unfold GF;have c1:=h3.cell;have f1:=h3.frozen;have c2:=h4.cell;have f2:=h4.frozen;have c3:=h5.cell;have f3:=h5.frozen;have hd1:Wb.heap.size≠N:=by omega
   have hd2:Wb.heap.size≠N+1:=by omega
   have hd3:Wb.heap.size≠N+1+1:=by omega
   have hl1:N<Wb.heap.size:=by omega
   have hl2:N+1<Wb.heap.size:=by omega
   have hl3:N+1+1<Wb.heap.size:=by omega
   clear h2 h1 k1 k2
   gi_wp2
   gi_region
   all_goals (gi_wp2;exact(by
    obtain⟨q1,q2,q3,q4⟩:=GL (C:=fun k=>k=M+1\/k=M+1+1) h3 h4 h5 (by omega) (by omega) (by omega) (Q ⟨#[]⟩) (I J 0) (I J e0);have q5:=(((h6.setCell (p:=⟨N,0,O⟩) (by simp) (Q ⟨#[]⟩)).setCell (p:=⟨N+1,0,O⟩) (by simp) (I J 0)).setCell (p:=⟨N+1+1,0,O⟩) (by simp;omega) (I J e0)).alloc (by simp[World.setCell];omega) (.cells #[I J e0] 435);have q6:=q1.trans (Ak.alloc _ (.cells #[I J e0] 435));exact⟨⟨q6.os,q6.tape,q6.output,q6.size,q6.block⟩,rfl,_,HF,q2.alloc _,q3.alloc _,q4.alloc _,⟨q5.os,q5.tape,q5.output,q5.size,q5.block⟩⟩))
 case done=>
  rintro D W hD ⟨acc,h1,h2,k1,k2,h3,h4,h5,h6,h7⟩ hK;have c3:=h3.cell;have f3:=h3.frozen;have c4:=h4.cell;have f4:=h4.frozen;have c5:=h5.cell;have f5:=h5.frozen;have HF:=hid (show DF ps []=([],0,42) by have:=h1.out.2 [];rw[List.append_nil] at this;exact this);clear h1;go_wp2;have hK':(((W.setCell ⟨N,0,O⟩ (Q ⟨#[]⟩)).setCell ⟨N+1,0,O⟩ (I J 0)).setCell ⟨N+1+1,0,O⟩ (I J 42)).heap[D]? =F (.deferred (F [])):=(KeepsOthers.setCell _ _ _).same D _ ((KeepsOthers.setCell _ _ _).same D _ ((KeepsOthers.setCell W ⟨N,0,O⟩ _).same D _ hK rfl) rfl) rfl;refine⟨by simp,.inl ⟨_,_,rfl,run_takeDeferred hK',?_⟩⟩;have d1:=(AR (As (As (h3.set (Q ⟨#[]⟩)) (show N≠N+1 by simp) (I J 0)) (show N≠N+1+1 by simp;omega) (I J 42)) hK' (.deferred O)).cell;have d2:=(AR (As ((As h4 (show N+1≠N by simp) (Q ⟨#[]⟩)).set (I J 0)) (show N+1≠N+1+1 by simp) (I J 42)) hK' (.deferred O)).cell;have d3:=(AR ((As (As h5 (show N+1+1≠N by simp;omega) (Q ⟨#[]⟩)) (show N+1+1≠N+1 by simp) (I J 0)).set (I J 42)) hK' (.deferred O)).cell;refine⟨H0 ([],0,42),by simp[results,Tryz.f268,go_sem,d1,d2,d3,H0],by rw[HF.out],?_⟩;rw[hN];exact CY (((h6.setCell (p:=⟨N,0,O⟩) (by simp) _).setCell (p:=⟨N+1,0,O⟩) (by simp) _).setCell (p:=⟨N+1+1,0,O⟩) (by simp;omega) _) hK' (by omega) (by omega) _
 case stop=>
  rintro D co pre W hD hpre ⟨rfl,x,hx,h3,h4,h5,h6⟩ hK;refine wpIn_wide.2 ?_;go_wp2;refine⟨by simp,.inl ⟨_,_,rfl,run_takeDeferred hK,?_⟩⟩;have d1:=(AR h3 hK (.deferred O)).cell;have d2:=(AR h4 hK (.deferred O)).cell;have d3:=(AR h5 hK (.deferred O)).cell;refine⟨H0 x,by simp[results,Tryz.f268,go_sem,d1,d2,d3,H0],by rw[hx.out],?_⟩;rw[hN];exact CY h6 hK (by omega) (by omega) _
theorem I4:∀ (f:Nat) (l:List UInt8) (n:Nat),l.length<=f->validD l=true->(h:n<l.length)->(l[n]'h).toNat<128->validD (l.drop (n+1))=true
 | 0,l,n,hf,_,h,_=>by omega
 | f+1,l,n,hf,hv,h,hb=>by
  have hne:l≠[]:=by rintro rfl;simp at h
  have hw:=decodeL_width l;have hbad:¬((decodeL l).1=65533/\(decodeL l).2=1):=fun hbad=>by
   rw[validD_step _ hne,if_pos hbad] at hv;cases hv
  rw[validD_step _ hne,if_neg hbad] at hv;have henc:=encode_decode l hne hbad;by_cases hk:n<(decodeL l).2
  ·have hmem:l[n]'h∈encodeRune ((decodeL l).1:Int):=by
    rw[henc];exact List.mem_take_iff_getElem.2 ⟨n,by omega,rfl⟩
   have hlow:(decodeL l).1<128:=by
    rcases Nat.lt_or_ge (decodeL l).1 128 with h1 | h1
    ·exact h1
    ·have:=MM ((decodeL l).1:Int) (by omega) _ hmem;omega
   have Up:(decodeL l).2=1:=by
    have h1:=EW l hne hbad;unfold runeLen at h1;rw[if_neg (by omega),if_pos (by omega)] at h1;omega
   obtain rfl:n=0:=by omega
   rw[Up] at hv;exact hv
  ·have h2:n - (decodeL l).2<(l.drop (decodeL l).2).length:=by rw[List.length_drop];omega
   have:=I4 f (l.drop (decodeL l).2) (n - (decodeL l).2) (by rw[List.length_drop];omega) hv h2 (by rw[List.getElem_drop];simpa[show(decodeL l).2+(n - (decodeL l).2)=n by omega] using hb);rw[List.drop_drop] at this;rw[show n+1=(decodeL l).2+(n - (decodeL l).2+1) by omega];exact this
theorem P8 (s:ByteArray) (p:Int) (w:Y) (hs:s.size<=1000000) (hT:BU w):
  Calls Tryz.prog 268 #[Q s,I J p] w fun e w'=>e=.returned (H0 (D1 s p))/\Below w.heap.size w w':=by
 unfold D1;cases hv:validD s.data.toList with
 | false=>exact Abr s p w hs hv hT
 | true=>
  rw[if_pos rfl];cases hq:F8 s p with
  | none=>exact Yj s p w hs hv hq hT
  | some q=>
   obtain⟨n,hn,rfl,h2,h3⟩:=PX hq;have hlt:(s[n]'hn).toNat<128:=by omega
   rw[show((n:Nat):Int).toNat=n by omega];exact YP s n hn q h2 h3 w hs hv (fun _=>I4 _ s.data.toList n Nr hv (by rw[<- Lib.size_eq];exact hn) hlt) hT
end
section
set_option maxHeartbeats 4000000
open Go Go.RowKit Go.Extern.Stop Go.Stop Go.Extern
def H7 (w:Y):Prop:=w.cell? ⟨0,0,O⟩=F (.iface 233 (.agg #[.pointer (F ⟨10,61,O⟩)]))
theorem H7.below {w w':Y} (h:H7 w) (hb:Below w.heap.size w w'):H7 w':=cell_below h hb
theorem valueOfP (t:Addr) (w:Y):(ReflectliteValue.unpack (.iface 326 (.pointer (F t)))).run Tryz.prog w
  =.ok (.agg #[.pointer (F ⟨10,326,O⟩),.pointer (F ⟨w.heap.size,0,O⟩),.int .u64 150]) (w.alloc (.cells #[.pointer (F t)] 326)):=by kernel_rfl
theorem typeP (a:Addr) (w:Y):(ReflectliteValue.methodAny (ReflectliteValue.valueError "reflectlite.Value.Type" 0) (fun t _ _ _=>ReflectliteType.toType t) #[.agg #[.pointer (F ⟨10,326,O⟩),.pointer (F a),.int .u64 150]]).run Tryz.prog w
  =.ok (.iface 233 (.agg #[.pointer (F ⟨10,326,O⟩)])) w:=by kernel_rfl
theorem U7 (n:Nat) (h:Value) (w:Y):(Go.method (n+1) 233 (.agg #[h]) "Kind").run Tryz.prog w=.ok (315,h) w:=by kernel_rfl
theorem kindP (w:Y):((ReflectliteType.abiMethod fun t=>(fun a:Nat=>Value.int IntKind.u8 (a:Int))<$>Rtype.kind t) #[.pointer (F ⟨10,326,O⟩)]).run Tryz.prog w=.ok (.int .u8 22) w:=by kernel_rfl
theorem kindE (w:Y):((ReflectliteType.abiMethod fun t=>(fun a:Nat=>Value.int IntKind.u8 (a:Int))<$>Rtype.kind t) #[.pointer (F ⟨10,325,O⟩)]).run Tryz.prog w=.ok (.int .u8 25) w:=by kernel_rfl
theorem rlm (z:Sem Value) (f:TypeId->Addr->Nat->Nat->Sem Value) (v:Value):
  ReflectliteValue.method z f #[v]=(do match <- ReflectliteValue.parts v with | none=>z | some (t,a,fl)=>f t a fl (fl%32)):=rfl
theorem partsP (a:Addr) (w:Y):(ReflectliteValue.parts (.agg #[.pointer (F ⟨10,326,O⟩),.pointer (F a),.int .u64 150])).run Tryz.prog w=.ok (F (326,a,150)) w:=by kernel_rfl
theorem V2 (a p:Addr) (W:Y) (ha:W.cell? a=F (.pointer (F p))):
  (ReflectliteValue.method (ReflectliteValue.valueError "reflectlite.Value.IsNil" 0) ReflectliteValue.isNil #[.agg #[.pointer (F ⟨10,326,O⟩),.pointer (F a),.int .u64 150]]).run Tryz.prog W=.ok (.bool false) W:=by
 rw[rlm];simp only[Sem.run_bind,partsP,Result.andThen]
 simp[ReflectliteValue.isNil,loadVar,isAgg,underlying,Tryz.underlying326,ha,Result.andThen]
theorem We (n:Nat) (h:Value) (w:Y):(Go.method (n+1) 233 (.agg #[h]) "Elem").run Tryz.prog w=.ok (332,.agg #[h]) w:=by kernel_rfl
theorem KW (n:Nat) (h:Value) (w:Y):(Go.method (n+1) 233 (.agg #[h]) "Implements").run Tryz.prog w=.ok (333,.agg #[h]) w:=by kernel_rfl
theorem J6 (n:Nat) (h:Value) (w:Y):(Go.method (n+1) 233 (.agg #[h]) "AssignableTo").run Tryz.prog w=.ok (330,.agg #[h]) w:=by kernel_rfl
theorem elemP (w:Y):(ReflectliteType.method ReflectliteType.elem #[.agg #[.pointer (F ⟨10,326,O⟩)]]).run Tryz.prog w=.ok (.iface 233 (.agg #[.pointer (F ⟨10,325,O⟩)])) w:=by kernel_rfl
theorem RO (w:Y):(ReflectliteType.relation "Implements" ReflectliteType.implements_ #[.agg #[.pointer (F ⟨10,325,O⟩)],.iface 233 (.agg #[.pointer (F ⟨10,61,O⟩)])]).run Tryz.prog w=.ok (.bool true) w:=by kernel_rfl
theorem typeOfE (v:Value) (w:Y):(ReflectliteType.typeOf #[.iface 325 v]).run Tryz.prog w=.ok (.iface 233 (.agg #[.pointer (F ⟨10,325,O⟩)])) w:=by kernel_rfl
theorem TW (w:Y):(ReflectliteType.relation "AssignableTo" ReflectliteType.assignableTo #[.agg #[.pointer (F ⟨10,325,O⟩)],.iface 233 (.agg #[.pointer (F ⟨10,325,O⟩)])]).run Tryz.prog w=.ok (.bool true) w:=by kernel_rfl
theorem valueOfE (e:Int) (w:Y):(ReflectliteValue.unpack (.iface 325 (.agg #[I J e]))).run Tryz.prog w
  =.ok (.agg #[.pointer (F ⟨10,325,O⟩),.pointer (F ⟨w.heap.size,0,O⟩),.int .u64 153]) (w.alloc (.cells #[I J e] 325)):=by kernel_rfl
theorem elemOfP (w:Y):(Rtype.elem? 326).run Tryz.prog w=.ok (F 325) w:=by kernel_rfl
theorem mkE (p:Addr) (w:Y):(ReflectliteValue.mk 325 p ReflectliteValue.flagAddr).run Tryz.prog w=.ok (.agg #[.pointer (F ⟨10,325,O⟩),.pointer (F p),.int .u64 409]) w:=by kernel_rfl
theorem UD (a p:Addr) (W:Y) (ha:W.cell? a=F (.pointer (F p))):
  (ReflectliteValue.method (ReflectliteValue.valueError "reflectlite.Value.Elem" 0) ReflectliteValue.elem #[.agg #[.pointer (F ⟨10,326,O⟩),.pointer (F a),.int .u64 150]]).run Tryz.prog W
   =.ok (.agg #[.pointer (F ⟨10,325,O⟩),.pointer (F p),.int .u64 409]) W:=by
 rw[rlm];simp only[Sem.run_bind,partsP,Result.andThen]
 simp[ReflectliteValue.elem,loadVar,isAgg,underlying,Tryz.underlying326,ha,Result.andThen,elemOfP,mkE]
theorem rls (v x:Value):ReflectliteValue.set #[v,x]=(do
  let (F (dst,a,fl),F (src,b,_)):=(<- ReflectliteValue.parts v,<- ReflectliteValue.parts x)
   | unsupported (.noEntry "extern/(internal/reflectlite.Value).Set.zeroValue")
  if fl / ReflectliteValue.flagAddr%2==0 then unsupported (.noEntry "extern/(internal/reflectlite.Value).Set.unaddressable")
  let val <- loadVar src b
  if <- Rtype.directlyAssignable dst src then storeVar dst a val
  else if <- Rtype.implements dst src then
   if (<- Rtype.kind src)==20 then
    match val with
    | .nilIface=>unsupported (.noEntry "extern/reflectlite: a nil value of one interface type handed on as a value of another")
    | _=>storeVar dst a val
   else storeVar dst a (.iface src val)
  else panicString ("reflectlite.Set: value of type "++(<- Rtype.spelt src)++ " is not assignable to type "++(<- Rtype.spelt dst))
  pure (.tuple #[])):=rfl
theorem Agp (a:Addr) (w:Y):(ReflectliteValue.parts (.agg #[.pointer (F ⟨10,325,O⟩),.pointer (F a),.int .u64 409])).run Tryz.prog w=.ok (F (325,a,409)) w:=by kernel_rfl
theorem partsE (a:Addr) (w:Y):(ReflectliteValue.parts (.agg #[.pointer (F ⟨10,325,O⟩),.pointer (F a),.int .u64 153])).run Tryz.prog w=.ok (F (325,a,153)) w:=by kernel_rfl
theorem Agh (w:Y):(Rtype.directlyAssignable 325 325).run Tryz.prog w=.ok true w:=by kernel_rfl
theorem sizeE (w:Y):(sizeOf 325).run Tryz.prog w=.ok 1 w:=by kernel_rfl
theorem Ajk (w:Y):(isAgg 325).run Tryz.prog w=.ok true w:=by kernel_rfl
theorem Ah3 (ta b:Addr) (e:Int) (old:Value) (W:Y) (hb:W.cell? b=F (I J e)) (ht:W.cell? ta=F old) (hf:W.frozen? ta=false):
  (ReflectliteValue.set #[.agg #[.pointer (F ⟨10,325,O⟩),.pointer (F ta),.int .u64 409],.agg #[.pointer (F ⟨10,325,O⟩),.pointer (F b),.int .u64 153]]).run Tryz.prog W
   =.ok (.tuple #[]) (W.setCell ta (I J e)):=by
 rw[rls];simp only[Sem.run_bind,Agp,partsE,Result.andThen]
 have hld:(loadCells b 1).run Tryz.prog W=.ok #[I J e] W:=by
  simp[loadCells,loadCellsFrom,Addr.add,hb,Result.andThen]
 have hst:(storeVar 325 ta (.agg #[I J e])).run Tryz.prog W=.ok () (W.setCell ta (I J e)):=by
  have hsc:(storeCells ta [I J e]).run Tryz.prog W=.ok () (W.setCell ta (I J e)):=by
   simp only[storeCells,Addr.add,Nat.add_zero,Sem.run_bind,if_true]
   rw[run_store Tryz.prog W ta _ _ (by rfl)];simp[ht,hf,Result.andThen]
  unfold storeVar;simp only[Sem.run_bind,sizeE,Result.andThen]
  exact hsc
 simp[ReflectliteValue.flagAddr,loadVar,Ajk,sizeE,hld,Result.andThen,Agh,hst]
theorem Aiz (e:Int) (t:Addr) (old:Value) (w:Y) (hg:H7 w) (ht0:w.cell? t=F old) (hf0:w.frozen? t=false):
  Calls Tryz.prog 52 #[.iface 325 (.agg #[I J e]),.iface 326 (.pointer (F t))] w fun ev w'=>ev=.returned (.bool true)/\w'=((((w.alloc (.cells #[.pointer (F t)] 326)).alloc (.cells #[.pointer (F ⟨10,326,O⟩),.pointer (F ⟨w.heap.size,0,O⟩),.int .u64 150] 170)).alloc (.cells #[.pointer (F ⟨10,326,O⟩),.pointer (F ⟨w.heap.size,0,O⟩),.int .u64 150] 170)).alloc (.cells #[I J e] 325)).setCell t (I J e):=by
 have h6:=@run_callFunc_extern Tryz.prog 76 _ (fun args=>ReflectliteValue.unpack (args.getD 0 (.tuple #[]))) Tryz.func76 (by kernel_rfl) (by kernel_rfl) (by kernel_rfl) (by kernel_rfl);have h7:=@run_callFunc_extern Tryz.prog 77 _ (ReflectliteValue.methodAny (ReflectliteValue.valueError "reflectlite.Value.Type" 0) (fun t _ _ _=>ReflectliteType.toType t)) Tryz.func77 (by kernel_rfl) (by kernel_rfl) (by kernel_rfl) (by kernel_rfl);have h8:=@run_callFunc_extern Tryz.prog 78 _ (ReflectliteValue.method (ReflectliteValue.valueError "reflectlite.Value.IsNil" 0) ReflectliteValue.isNil) Tryz.func78 (by kernel_rfl) (by kernel_rfl) (by kernel_rfl) (by kernel_rfl);have h27:=@run_callFunc_extern Tryz.prog 315 _ (ReflectliteType.abiMethod fun t=>do pure (.int .u8 (<- Rtype.kind t))) Tryz.func315 (by kernel_rfl) (by kernel_rfl) (by kernel_rfl) (by kernel_rfl);have h37:=@run_callFunc_extern Tryz.prog 332 _ (ReflectliteType.method ReflectliteType.elem) Tryz.func332 (by kernel_rfl) (by kernel_rfl) (by kernel_rfl) (by kernel_rfl);have h38:=@run_callFunc_extern Tryz.prog 333 _ (ReflectliteType.relation "Implements" ReflectliteType.implements_) Tryz.func333 (by kernel_rfl) (by kernel_rfl) (by kernel_rfl) (by kernel_rfl);have h10:=@run_callFunc_extern Tryz.prog 117 _ (ReflectliteType.typeOf) Tryz.func117 (by kernel_rfl) (by kernel_rfl) (by kernel_rfl) (by kernel_rfl)
 have h35:=@run_callFunc_extern Tryz.prog 330 _ (ReflectliteType.relation "AssignableTo" ReflectliteType.assignableTo) Tryz.func330 (by kernel_rfl) (by kernel_rfl) (by kernel_rfl) (by kernel_rfl);have h11:=@run_callFunc_extern Tryz.prog 118 _ (ReflectliteValue.method (ReflectliteValue.valueError "reflectlite.Value.Elem" 0) ReflectliteValue.elem) Tryz.func118 (by kernel_rfl) (by kernel_rfl) (by kernel_rfl) (by kernel_rfl);have h12:=@run_callFunc_extern Tryz.prog 119 _ (ReflectliteValue.set) Tryz.func119 (by kernel_rfl) (by kernel_rfl) (by kernel_rfl) (by kernel_rfl);have tO:=typeOfE;have mA:=J6;have a25:=TW;have v25:=valueOfE;have f6:=valueOfP;have f7:=typeP;have mK:=U7;have mE:=We;have mI:=KW;have k27:=kindP;have k25:=kindE;have e27:=elemP;have i25:=RO;have n8:=V2 ⟨w.heap.size,0,O⟩ t ((w.alloc (.cells #[.pointer (F t)] 326)).alloc (.cells #[.pointer (F ⟨10,326,O⟩),.pointer (F ⟨w.heap.size,0,O⟩),.int .u64 150] 170)) (by simp);have hlt:0<w.heap.size:=K9 hg;have hg2:((w.alloc (.cells #[.pointer (F t)] 326)).alloc (.cells #[.pointer (F ⟨10,326,O⟩),.pointer (F ⟨w.heap.size,0,O⟩),.int .u64 150] 170)).cell? ⟨0,0,O⟩=F (.iface 233 (.agg #[.pointer (F ⟨10,61,O⟩)])):=by
  rw[World.cell?_alloc_lt _ _ ⟨0,0,O⟩ (by simp<;>omega),World.cell?_alloc_lt _ _ ⟨0,0,O⟩ hlt];exact hg
 have htl:t.block<w.heap.size:=by
  rcases Nat.lt_or_ge t.block w.heap.size with h | h
  ·exact h
  ·simp[World.cell?,Array.getElem?_eq_none h] at ht0
 have el:=UD ⟨w.heap.size,0,O⟩ t (((w.alloc (.cells #[.pointer (F t)] 326)).alloc (.cells #[.pointer (F ⟨10,326,O⟩),.pointer (F ⟨w.heap.size,0,O⟩),.int .u64 150] 170)).alloc (.cells #[.pointer (F ⟨10,326,O⟩),.pointer (F ⟨w.heap.size,0,O⟩),.int .u64 150] 170)) (by rw[World.cell?_alloc_lt _ _ ⟨w.heap.size,0,O⟩ (by simp<;>omega)];simp);have st:=Ah3 t ⟨w.heap.size+1+1+1,0,O⟩ e old ((((w.alloc (.cells #[.pointer (F t)] 326)).alloc (.cells #[.pointer (F ⟨10,326,O⟩),.pointer (F ⟨w.heap.size,0,O⟩),.int .u64 150] 170)).alloc (.cells #[.pointer (F ⟨10,326,O⟩),.pointer (F ⟨w.heap.size,0,O⟩),.int .u64 150] 170)).alloc (.cells #[I J e] 325))
  (by rw[World.cell?_alloc_at _ _ _ _ (by simp)];rfl)
  (by rw[World.cell?_alloc_lt _ _ t (by simp;omega),World.cell?_alloc_lt _ _ t (by simp;omega),World.cell?_alloc_lt _ _ t (by simp;omega),World.cell?_alloc_lt _ _ t htl];exact ht0)
  (by rw[World.frozen?_alloc_old _ _ t (by simp;omega),World.frozen?_alloc_old _ _ t (by simp;omega),World.frozen?_alloc_old _ _ t (by simp;omega),World.frozen?_alloc_old _ _ t (Nat.ne_of_lt htl)];exact hf0)
 go_enter Tryz.func52,Tryz.ntmps52;go_wp2;refine wp_loop_rounds 1 ?_;rw[rounds_succ];go_wp2;go_ret;exact⟨rfl,rfl⟩
theorem Ac0 (e:Int) (w:Y) (hg:H7 w):
  Calls Tryz.prog 149 #[.iface 325 (.agg #[I J e])] w fun ev w'=>ev=.returned (I J e)/\Below w.heap.size w w':=by
 have b0:=Boxed.new w 325 (I J 0);have hg1:H7 (w.alloc (.cells #[I J 0] 325)):=hg.below ((Bq _ w).alloc Nr _);have HG:=hid hg1;clear hg1 hg;have hA:=Aiz e ⟨w.heap.size,0,O⟩ (I J 0) (w.alloc (.cells #[I J 0] 325)) HG.out b0.cell b0.frozen;go_enter Tryz.func149,Tryz.ntmps149;go_wp2_with fail;refine hA.mono ?_;rintro ev w1 ⟨rfl,hw1⟩;have c1:w1.cell? ⟨w.heap.size,0,O⟩=F (I J e):=by
  rw[hw1];exact((((((b0.alloc _).alloc _).alloc _).alloc _).set (I J e))).cell
 have hb1:Below w.heap.size w w1:=by
  rw[hw1];exact(((((((Bq _ w).alloc Nr _).alloc (by simp) _).alloc (by simp;omega) _).alloc (by simp;omega) _).alloc (by simp;omega) _).setCell (p:=⟨w.heap.size,0,O⟩) Nr _)
 clear hw1 hA b0;go_wp2;go_ret;exact⟨rfl,hb1⟩
end
end Go.Proofs.YtdpppepmkeinaaaGreatDoor
