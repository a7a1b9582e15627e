/- What is proved: a part of the walk of the program and of its plain laws; no condition beside those that each theorem names. -/
import Derived.Test.YtdpppepmkeinaaaGreatDoorYc
import Derived.Test.YtdpppepmkeinaaaGreatDoorYb
import Derived.Test.YtdpppepmkeinaaaGreatDoorYa
import Derived.Stop.RegionWithIn
import Derived.LaidEql
import Derived.Stop.Asserts
import Derived.RowKitTokens
namespace Go.Proofs.YtdpppepmkeinaaaGreatDoor
open Go Go.RowKit Go.Lib
open Go.Value renaming int->I,string->Q,slice->Z
open Go.IntKind renaming i64->J
open Option renaming none->O,some->F
open _root_.Go renaming World->Y
set_option linter.unusedSimpArgs false
set_option linter.unusedVariables false
set_option linter.unusedSectionVars false
section
set_option maxRecDepth 100000
set_option maxHeartbeats 4000000
attribute [local go_sem] Oper.semAt_some GA D4
theorem RN (v:Value) (w:Y):(Instr.typeAssert (.iface 433 v) 429 433 true).run Tryz.prog w=.ok (.tuple #[v,.bool true]) w:=by kernel_rfl
theorem P9 (v:Value) (w:Y):(Instr.typeAssert (.iface 435 v) 429 433 true).run Tryz.prog w=.ok (.tuple #[.agg #[I J 0],.bool false]) w:=by kernel_rfl
theorem PF (v:Value) (w:Y):(Instr.typeAssert (.iface 435 v) 429 435 true).run Tryz.prog w=.ok (.tuple #[v,.bool true]) w:=by kernel_rfl
theorem Ko (s:ByteArray) (q:Int):∀ (f i:Nat) (r:Int) (tq:Nat),i<=s.size->(i<s.size->validD (s.data.toList.drop i)=true)->QP.sign r tq∈B3 s q f i->Lib.validRune r=true
 | 0,_,_,_,_,_,h=>by simp[B3] at h
 | f+1,i,r,tq,hi,hv,h=>by
  unfold B3 at h;cases ho:CX s q i with
  | fin to2=>rw[ho] at h;simp at h
  | bad e=>rw[ho] at h;simp at h
  | sign r2 to2=>
   rw[ho] at h;obtain⟨_,_,h3,h4,h5⟩:=Fh hi hv ho;rcases List.mem_cons.1 h with e | h
   ·injection e with e1 e2;subst e1;exact h5
   ·exact Ko s q f to2 r tq h3 h4 h
theorem FY (s:ByteArray) (q:Int):∀ (f i:Nat),(B3 s q f i).length<=f
 | 0,_=>by simp[B3]
 | f+1,i=>by
  unfold B3;cases CX s q i with
  | fin to2=>simp
  | bad e=>simp
  | sign r2 to2=>simp[FY s q f to2]
theorem Ot {r:Int} (h:Lib.validRune r=true):0<=r/\r<=1114111:=by
 unfold Lib.validRune at h;rw[decide_eq_true_eq] at h;omega
theorem Un (pre:List QP) (r:Int) (tq:Nat) (acc:List UInt8) (h:∀ rest,CB (pre++rest) []=CB rest acc) (rest:List QP):CB ((pre++[.sign r tq])++rest) []=CB rest (acc++encodeRune r):=by
 rw[List.append_assoc,h];rfl
theorem I7 {B b:Nat} {bs:List Value} {w:Y} (h:Lib.IsBuilderF TB T8 B b bs w):AT w b TB:=by
 rcases h with ⟨_,v,h,_⟩ | ⟨_,v,h,_⟩<;>exact⟨_,_,h⟩
theorem Fe {X Yz:Y} {k B:Nat} {t:TypeId} {v:Value} (h:Boxed X k t v) (hb:Below B X Yz) (hk:k<B):Boxed Yz k t v:=(hb.block k hk).trans h
theorem ET {C:Nat->Prop} {W:Y} {N:Nat} {t0 t1 t2:TypeId} {u0 u1 u2:Value} (b0:Boxed W N t0 u0) (b1:Boxed W (N+1) t1 u1) (b2:Boxed W (N+1+1) t2 u2) (h0:¬C N) (h1:¬C (N+1)) (h2:¬C (N+1+1)) (v0 v1 v2:Value):
  Ae Ar C N W (((W.setCell ⟨N,0,O⟩ v0).setCell ⟨N+1,0,O⟩ v1).setCell ⟨N+1+1,0,O⟩ v2)/\Boxed (((W.setCell ⟨N,0,O⟩ v0).setCell ⟨N+1,0,O⟩ v1).setCell ⟨N+1+1,0,O⟩ v2) N t0 v0/\Boxed (((W.setCell ⟨N,0,O⟩ v0).setCell ⟨N+1,0,O⟩ v1).setCell ⟨N+1+1,0,O⟩ v2) (N+1) t1 v1/\Boxed (((W.setCell ⟨N,0,O⟩ v0).setCell ⟨N+1,0,O⟩ v1).setCell ⟨N+1+1,0,O⟩ v2) (N+1+1) t2 v2:=
 ⟨((Ae.setCell W ⟨N,0,O⟩ v0 Nr h0).trans (Ae.setCell _ ⟨N+1,0,O⟩ v1 (by simp) h1)).trans (Ae.setCell _ ⟨N+1+1,0,O⟩ v2 (by simp;omega) h2),
  Ag (Ag (b0.set v0) (by simp) v1) (by simp;omega) v2,Ag ((Ag b1 (by simp) v0).set v1) (by simp) v2,(Ag (Ag b2 (by simp;omega) v0) (by simp) v1).set v2⟩
theorem Wi (s:ByteArray) (n:Nat) (hn:n<s.size) (q:Int) (hcq:(((s[n]'hn).toNat:Nat):Int)=q) (hq:q=34\/q=39) (w:Y) (hs:s.size<=1000000) (hv:validD s.data.toList=true) (hv1:n+1<s.size->validD (s.data.toList.drop (n+1))=true) (hT:Bf w):
  Calls Tryz.prog 268 #[Q s,I J n] w fun e w'=>e=.returned (FK (CB (AG s q (n+1)) []))/\Below w.heap.size w w':=by
 have hR:=fun wx hx=>B2 s wx hs hx;rw[hv] at hR;clear hv;have HV1:=hid hv1;clear hv1;have hz0:n+1<=s.size:=hn;have hit:=fun Br Bi n₀ (hN:w.heap.size<=n₀) (hBi:w.heap.size<=Bi) (hne:Br≠Bi)=>RM s q hq (n+1) Br Bi n₀ w hT hN hBi hne hs hz0 HV1.out;obtain⟨ps,hps⟩:∃ ps,AG s q (n+1)=ps:=⟨_,rfl⟩
 have hmem:∀ r tq,QP.sign r tq∈ps->Lib.validRune r=true:=fun r tq h=>by
  rw[<- hps] at h;exact Ko s _ _ _ r tq hz0 HV1.out h
 have hpl:ps.length<=s.size:=by rw[<- hps];have:=FY s q (s.size+1 - (n+1)) (n+1);unfold AG;omega
 rw[hps] at hit |-;have HPS:=hid (Ai hmem hpl);have HIT:=hid hit;clear hmem hpl hps hit HV1;refine(callsIn_wide (n:=0)).1 ?_;refine callsIn_of_wp_marks Tryz.func268 rfl trivial ?_ rfl;refine wpIn_wide.2 ?_;simp only[Tryz.ntmps268,List.size_toArray,List.length_cons,List.length_nil,Nat.reduceAdd,Nat.reduceSub,Array.replicate_succ,Array.replicate_zero,List.push_toArray,List.append_toArray,List.nil_append,List.cons_append]
 obtain⟨N,hN⟩:∃ N,w.heap.size=N:=⟨_,rfl⟩
 have hb0:Below N w (((w.alloc (.cells #[Q ⟨#[]⟩] 9)).alloc (.cells #[I J 0] 3)).alloc (.cells #[I J 0] 27)):=(((Bq N w).alloc (by omega) _).alloc (by simp;omega) _).alloc (by simp;omega) _;go_wp2_with fail;refine(hR _ (hT.below (hN▸hb0))).mono ?_;rintro e w1 ⟨rfl,hb1⟩;obtain⟨b0,b1,b2⟩:=FS w 9 3 27 (Q ⟨#[]⟩) (I J 0) (I J 0);rw[hN] at b0 b1 b2;replace b0:=Ab b0 hb1;replace b1:=Ab b1 hb1;replace b2:=Ab b2 hb1;have hb2:=hb0.trans (hb1.mono (by have:=hb0.size;omega));clear hb0 hb1 hR;have h0:¬(n:Int)<0:=by omega
 have h1:(n:Int)<(s.size:Int):=by omega
 have hQ:=fun wx=>E2 q [34,39] 2 2 wx rfl (by decide);rw[show Bw [34,39] q=true by rcases hq with rfl | rfl<;>rfl] at hQ;obtain⟨c,hc⟩:∃ c,s[n]'hn=c:=⟨_,rfl⟩
 rw[hc] at hcq;have hc256:(c.toNat:Int)<256:=by have:=c.toNat_lt;omega
 have HQQ:=hid hq;clear hq;subst hcq;have HC:=hid hc;go_wp2_with fail;refine(hQ _).mono ?_;rintro e w2 ⟨rfl,hb3⟩;clear hQ;replace b0:=Ab b0 hb3;replace b1:=Ab b1 hb3;replace b2:=Ab b2 hb3;have hb4:=hb2.trans (hb3.mono (by have:=hb2.size;omega));clear hb2 hb3;obtain⟨M,hM⟩:∃ M,w2.heap.size=M:=⟨_,rfl⟩
 have hNM:N+1+1<M:=by have:=b2.lt;omega
 have hI0:Lib.IsBuilderF TB T8 M M [] (w2.alloc (.cells #[.pointer O,Z O 0 0] TB)):=.inl ⟨Nat.le_refl _,Z O 0 0,by rw[<- hM];exact Wn _ _,World.ownsRowF_nil _ _ _ _,by simp[Value.ownBlock]⟩;have hb5:Below N w (w2.alloc (.cells #[.pointer O,Z O 0 0] TB)):=hb4.alloc (by have:=hb4.size;omega) _;replace b0:=b0.alloc (.cells #[.pointer O,Z O 0 0] TB);replace b1:=b1.alloc (.cells #[.pointer O,Z O 0 0] TB);replace b2:=b2.alloc (.cells #[.pointer O,Z O 0 0] TB);have hz3:(w2.alloc (.cells #[.pointer O,Z O 0 0] TB)).heap.size=M+1:=by simp[hM]
 obtain⟨w3,hw3⟩:∃ w3,w2.alloc (.cells #[.pointer O,Z O 0 0] TB)=w3:=⟨_,rfl⟩
 rw[hw3] at hI0 hb5 b0 b1 b2 hz3;have HW3:=hid hw3;clear hw3;go_wp2_with fail;refine(SQ s (c.toNat:Int) (n+1) _).mono ?_;rintro e w4 ⟨rfl,hw4⟩;clear hc;rw[show w2.alloc (.cells #[.pointer O,Z O 0 0] 73)=w3 from HW3.out] at hw4 |-;rw[hz3];have hz4:w4.heap.size=M+1+1+1:=by rw[hw4];simp[hz3]
 have hR4:Dl w4 (M+1) s (c.toNat:Int):=by
  rw[hw4,<- hz3];exact Dl.below (Wn _ _) ((Bq _ _).alloc Nr _)
 have hI4:Boxed w4 (M+1+1) 3 (I J ((n+1:Nat):Int)):=by
  have:=Boxed.new (w3.alloc (.cells #[Q s,.int .i32 (c.toNat:Int)] 426)) 3 (I J ((n+1:Nat):Int));rw[World.size_alloc,hz3] at this;rw[hw4];exact this
 have hb6:Below N w w4:=by rw[hw4];exact(hb5.alloc (by have:=hb5.size;omega) _).alloc (by have:=hb5.size;simp;omega) _
 replace b0:Boxed w4 N 9 (Q ⟨#[]⟩):=by rw[hw4];exact(b0.alloc _).alloc _
 replace b1:Boxed w4 (N+1) 3 (I J 0):=by rw[hw4];exact(b1.alloc _).alloc _
 replace b2:Boxed w4 (N+1+1) 27 (I J 0):=by rw[hw4];exact(b2.alloc _).alloc _
 replace hI0:Lib.IsBuilderF TB T8 M M [] w4:=by rw[hw4];exact(hI0.alloc _).alloc _
 clear hw4 hb5 hb4;go_wp2;have HC1:c.toNat=34\/c.toNat=39:=by have:=HQQ.out;omega
 refine(wpIn_wide (n:=0)).1 ?_;refine DC (gf:=290) (lb:=#[.pointer (F ⟨M+1,0,O⟩),.pointer (F ⟨M+1+1,0,O⟩)]) rfl (enters_of Tryz.func290 (by kernel_rfl) rfl) (HIT.out (M+1) (M+1+1) N (by omega) (by omega) (by omega))
  (fun Yz hY=>⟨hR4.below hY,Ab hI4 hY,hN▸hb6.trans (hY.mono (by have:=hb6.size;omega))⟩) (fun k hk=>by omega) (by omega) (fun _=>rfl)
  (fun pre W=>∃ acc,Hid (acc.length<=4*pre.length/\∀ rest,CB (pre++rest) []=CB rest acc)/\Lib.IsBuilderF TB T8 M M (Lib.byteCells acc) W/\AT W (M+1) 426/\AT W (M+1+1) 3/\Boxed W N 9 (Q ⟨#[]⟩)/\Boxed W (N+1) 3 (I J 0)/\Boxed W (N+1+1) 27 (I J 0)/\Below N w W/\M+1+1<W.heap.size)
  (fun co pre W=>co=.ret/\∃ x,Hid (CB ps []=x)/\Boxed W N 9 (Q ⟨x.1.toArray⟩)/\Boxed W (N+1) 3 (I J x.2.1)/\Boxed W (N+1+1) 27 (I J x.2.2)/\Below N w W)
  ?hI ?hIx ⟨[],hid ⟨by simp,fun _=>rfl⟩,hI0,⟨_,_,hR4⟩,⟨_,_,hI4⟩,b0,b1,b2,hb6,by omega⟩ ?round ?done ?stop
 case hI=>
  rintro pre X Yz ⟨acc,h1,h2,k1,k2,h3,h4,h5,h6,h7⟩ ht;exact⟨acc,h1,IsBuilderF.turn h2 ht (fun k hk=>by rcases hk with rfl | rfl;exact⟨_,by decide,by decide,k1⟩;exact⟨_,by decide,by decide,k2⟩),k1.turn ht,k2.turn ht,
   Ad h3 ht (by omega),Ad h4 ht (by omega),Ad h5 ht (by omega),ht.below h6 (fun k hk=>by omega) (by omega) (by omega),Nat.lt_of_lt_of_le h7 ht.size⟩
 case hIx=>
  rintro co pre X Yz ⟨h1,x,h2,h3,h4,h5,h6⟩ ht;exact⟨h1,x,h2,Ad h3 ht (by omega),Ad h4 ht (by omega),Ad h5 ht (by omega),ht.below h6 (fun k hk=>by omega) (by omega) (by omega)⟩
 case round=>
  rintro l pre x W hl ⟨acc,h1,h2,k1,k2,h3,h4,h5,h6,h7⟩ hpre
  gi_wp2
  refine⟨Ae.refl _ _ _ _,fun Wb ht _=>?_⟩;replace h2:=IsBuilderF.turn h2 ht (fun k hk=>by rcases hk with rfl | rfl;exact⟨_,by decide,by decide,k1⟩;exact⟨_,by decide,by decide,k2⟩);replace k1:=k1.turn ht;replace k2:=k2.turn ht;replace h3:=Ad h3 ht (by omega);replace h4:=Ad h4 ht (by omega);replace h5:=Ad h5 ht (by omega);replace h6:=ht.below h6 (fun k hk=>by omega) (by omega) (by omega);replace h7:=Nat.lt_of_lt_of_le h7 ht.size;clear ht;have HPR:=hid hpre;have h6z:N<=Wb.heap.size:=by omega
  clear hpre;cases x with
  | sign r tq=>
   have hvr:Lib.validRune r=true:=HPS.out.1 r tq (HPR.out.subset (by simp));obtain⟨hr0,hr1⟩:=Ot hvr;have hacc:acc.length<=4*s.size:=by
    have e1:=h1.out.1;have e2:=HPR.out.length_le;have e3:=HPS.out.2;simp at e2;omega
   have hta:=LF (.agg #[.int .i32 r,I J tq]);unfold EN;have h2':=h2.alloc (.cells #[.int .i32 r,I J tq] 431);clear hvr h2
   gi_wp2_with fail
   refine(CallsIn.inRound l (callsIn_wide.2 (JY M M (Lib.byteCells acc) r (by omega) (by omega) _ h2' (by simp[Lib.byteCells];omega) (by simp;omega)))).mono ?_;rintro e w5 ⟨rfl,hB,hb,ho⟩;rw[<- Lib.byteCells_encodeRune,<- Lib.byteCells_append] at hB;have fin:Ae Ar (fun k=>k=M+1\/k=M+1+1) N Wb w5/\(∃ acc,Hid (acc.length<=4*(pre++[QP.sign r tq]).length/\∀ rest,CB ((pre++[QP.sign r tq])++rest) []=CB rest acc)/\Lib.IsBuilderF TB T8 M M (Lib.byteCells acc) w5/\AT w5 (M+1) 426/\AT w5 (M+1+1) 3/\Boxed w5 N 9 (Q ⟨#[]⟩)/\Boxed w5 (N+1) 3 (I J 0)/\Boxed w5 (N+1+1) 27 (I J 0)/\Below N w w5/\M+1+1<w5.heap.size):=by
    have k1':=k1.below ((Bq _ Wb).alloc Nr (.cells #[.int .i32 r,I J tq] 431));have k2':=k2.below ((Bq _ Wb).alloc Nr (.cells #[.int .i32 r,I J tq] 431));refine⟨(Ae.alloc Wb _).trans (Ae.others ho hb (by omega) (I7 h2') (fun k hk=>by rcases hk with rfl | rfl;exact⟨by omega,_,by decide,k1'⟩;exact⟨by omega,_,by decide,k2'⟩)),acc++encodeRune r,hid ⟨?_,Un pre r tq acc h1.out.2⟩,.inr hB,k1'.others ho (by omega) (by decide),k2'.others ho (by omega) (by decide),Fe (h3.alloc _) hb (by omega),Fe (h4.alloc _) hb (by omega),Fe (h5.alloc _) hb (by omega),(h6.alloc (by omega) _).trans (hb.mono (by omega)),?_⟩
    ·have e1:=h1.out.1;have e2:=Lib.runeCells_le r;rw[<- Lib.byteCells_encodeRune,Lib.byteCells_length] at e2;simp only[List.length_append,List.length_cons,List.length_nil]
     omega
    ·have:=hb.size;simp at this;omega
   have FIN:=hid fin;clear fin hB ho hb h1 h2' k1 k2 h3 h4 h5 hta hr0 hr1
   gi_wp2
   exact FIN.out
  | fin tq=>
   have HF:=hid (show CB ps []=(acc,tq,0) by
    obtain⟨rest,hrest⟩:=HPR.out;rw[<- hrest,List.append_assoc,h1.out.2];rfl)
   have hta:=Nt (.agg #[I J tq]);have htb:=RN (.agg #[I J tq]);unfold EN;have h2':=h2.alloc (.cells #[I J tq] 433);have STR:=CallsIn.inRound l ((callsIn_wide (n:=0)).2 (Tryz.Builder_String_any_k M M acc (Wb.alloc (.cells #[I J tq] 433)).drew h2' (by simp;omega)));have fin:∀ w5,Below M (Wb.alloc (.cells #[I J tq] 433)) w5->Lib.OthersKept T8 (F M) (Wb.alloc (.cells #[I J tq] 433)) w5->w5.cell? ⟨Wb.heap.size,0,O⟩=F (I J tq)/\Boxed w5 N 9 (Q ⟨#[]⟩)/\Boxed w5 (N+1) 3 (I J 0)/\Boxed w5 (N+1+1) 27 (I J 0)/\Below N w w5/\Wb.heap.size<w5.heap.size/\Ae Ar (fun k=>k=M+1\/k=M+1+1) N Wb w5:=fun w5 hb ho=>by
    have k1':=k1.below ((Bq _ Wb).alloc Nr (.cells #[I J tq] 433));have k2':=k2.below ((Bq _ Wb).alloc Nr (.cells #[I J tq] 433));have hnew:w5.heap[Wb.heap.size]? =F (.cells #[I J tq] 433):=ho _ _ (Wn _ _) (fun e=>by have:=Option.some.inj e;omega) (fun c fz e=>by injection e with _ e;exact absurd e (by decide));refine⟨by simp[World.cell?,hnew],Fe (h3.alloc _) hb (by omega),Fe (h4.alloc _) hb (by omega),Fe (h5.alloc _) hb (by omega),(h6.alloc (by omega) _).trans (hb.mono (by omega)),by have:=hb.size;simp at this;omega,?_⟩;exact(Ae.alloc Wb _).trans (Ae.others ho hb (by omega) (I7 h2') (fun k hk=>by rcases hk with rfl | rfl;exact⟨by omega,_,by decide,k1'⟩;exact⟨by omega,_,by decide,k2'⟩))
   have FIN:=hid fin;have hd1:Wb.heap.size≠N:=by omega
   have hd2:Wb.heap.size≠N+1:=by omega
   have hd3:Wb.heap.size≠N+1+1:=by omega
   clear h2 fin h1 h3 h4 h5 k1 k2 h2'
   gi_wp2
   gi_region_with ((gi_at_call 38;refine STR.mono ?_;rintro e w5 ⟨rfl,hB,hb,ho⟩;obtain⟨e0,e1,e2,e3,e4,e5,e6⟩:=FIN.out w5 ⟨hb.os,hb.tape,hb.output,hb.size,hb.block⟩ ho;have c1:=e1.cell;have f1:=e1.frozen;have c2:=e2.cell;have f2:=e2.frozen;have c3:=e3.cell;have f3:=e3.frozen))
   all_goals (gi_wp2;exact(by
    obtain⟨q1,q2,q3,q4⟩:=ET (C:=fun k=>k=M+1\/k=M+1+1) e1 e2 e3 (by omega) (by omega) (by omega) (Q ⟨acc.toArray⟩) (I J tq) (I J 0);exact⟨e6.trans q1,rfl,_,HF,q2,q3,q4,((e4.setCell (p:=⟨N,0,O⟩) (by simp) _).setCell (p:=⟨N+1,0,O⟩) (by simp) _).setCell (p:=⟨N+1+1,0,O⟩) (by simp;omega) _⟩))
  | bad e0=>
   have HF:=hid (show CB ps []=([],0,e0) by
    obtain⟨rest,hrest⟩:=HPR.out;rw[<- hrest,List.append_assoc,h1.out.2];rfl)
   have hta:=N1 (.agg #[I J e0]);have htb:=P9 (.agg #[I J e0]);have htc:=PF (.agg #[I J e0]);unfold EN;have c1:=h3.cell;have f1:=h3.frozen;have c2:=h4.cell;have f2:=h4.frozen;have c3:=h5.cell;have f3:=h5.frozen;have hd1:Wb.heap.size≠N:=by omega
   have hd2:Wb.heap.size≠N+1:=by omega
   have hd3:Wb.heap.size≠N+1+1:=by omega
   have hl1:N<Wb.heap.size:=by omega
   have hl2:N+1<Wb.heap.size:=by omega
   have hl3:N+1+1<Wb.heap.size:=by omega
   clear h2 h1 k1 k2
   gi_wp2
   gi_region
   all_goals (gi_wp2;exact(by
    obtain⟨q1,q2,q3,q4⟩:=ET (C:=fun k=>k=M+1\/k=M+1+1) h3 h4 h5 (by omega) (by omega) (by omega) (Q ⟨#[]⟩) (I J 0) (I J e0);have q5:=(((h6.setCell (p:=⟨N,0,O⟩) (by simp) (Q ⟨#[]⟩)).setCell (p:=⟨N+1,0,O⟩) (by simp) (I J 0)).setCell (p:=⟨N+1+1,0,O⟩) (by simp;omega) (I J e0)).alloc (by simp[World.setCell];omega) (.cells #[I J e0] 435);have q6:=q1.trans (Ae.alloc _ (.cells #[I J e0] 435));exact⟨⟨q6.os,q6.tape,q6.output,q6.size,q6.block⟩,rfl,_,HF,q2.alloc _,q3.alloc _,q4.alloc _,⟨q5.os,q5.tape,q5.output,q5.size,q5.block⟩⟩))
 case done=>
  rintro D W hD ⟨acc,h1,h2,k1,k2,h3,h4,h5,h6,h7⟩ hK;have c3:=h3.cell;have f3:=h3.frozen;have c4:=h4.cell;have f4:=h4.frozen;have c5:=h5.cell;have f5:=h5.frozen;have HF:=hid (show CB ps []=([],0,42) by have:=h1.out.2 [];rw[List.append_nil] at this;exact this);clear h1;go_wp2;have hK':(((W.setCell ⟨N,0,O⟩ (Q ⟨#[]⟩)).setCell ⟨N+1,0,O⟩ (I J 0)).setCell ⟨N+1+1,0,O⟩ (I J 42)).heap[D]? =F (.deferred (F [])):=(KeepsOthers.setCell _ _ _).same D _ ((KeepsOthers.setCell _ _ _).same D _ ((KeepsOthers.setCell W ⟨N,0,O⟩ _).same D _ hK rfl) rfl) rfl;refine⟨by simp,.inl ⟨_,_,rfl,run_takeDeferred hK',?_⟩⟩;have d1:=(Au (Ag (Ag (h3.set (Q ⟨#[]⟩)) (show N≠N+1 by simp) (I J 0)) (show N≠N+1+1 by simp;omega) (I J 42)) hK' (.deferred O)).cell;have d2:=(Au (Ag ((Ag h4 (show N+1≠N by simp) (Q ⟨#[]⟩)).set (I J 0)) (show N+1≠N+1+1 by simp) (I J 42)) hK' (.deferred O)).cell;have d3:=(Au ((Ag (Ag h5 (show N+1+1≠N by simp;omega) (Q ⟨#[]⟩)) (show N+1+1≠N+1 by simp) (I J 0)).set (I J 42)) hK' (.deferred O)).cell;refine⟨FK ([],0,42),by simp[results,Tryz.f268,go_sem,d1,d2,d3,FK],by rw[HF.out],?_⟩;rw[hN];exact BP (((h6.setCell (p:=⟨N,0,O⟩) (by simp) _).setCell (p:=⟨N+1,0,O⟩) (by simp) _).setCell (p:=⟨N+1+1,0,O⟩) (by simp;omega) _) hK' (by omega) (by omega) _
 case stop=>
  rintro D co pre W hD hpre ⟨rfl,x,hx,h3,h4,h5,h6⟩ hK;refine wpIn_wide.2 ?_;go_wp2;refine⟨by simp,.inl ⟨_,_,rfl,run_takeDeferred hK,?_⟩⟩;have d1:=(Au h3 hK (.deferred O)).cell;have d2:=(Au h4 hK (.deferred O)).cell;have d3:=(Au h5 hK (.deferred O)).cell;refine⟨FK x,by simp[results,Tryz.f268,go_sem,d1,d2,d3,FK],by rw[hx.out],?_⟩;rw[hN];exact BP h6 hK (by omega) (by omega) _
theorem FZ:∀ (f:Nat) (l:List UInt8) (n:Nat),l.length<=f->validD l=true->(h:n<l.length)->(l[n]'h).toNat<128->validD (l.drop (n+1))=true
 | 0,l,n,hf,_,h,_=>by omega
 | f+1,l,n,hf,hv,h,hb=>by
  have hne:l≠[]:=by rintro rfl;simp at h
  have hw:=decodeL_width l;have hbad:¬((decodeL l).1=65533/\(decodeL l).2=1):=fun hbad=>by
   rw[validD_step _ hne,if_pos hbad] at hv;cases hv
  rw[validD_step _ hne,if_neg hbad] at hv;have henc:=encode_decode l hne hbad;by_cases hk:n<(decodeL l).2
  ·have hmem:l[n]'h∈encodeRune ((decodeL l).1:Int):=by
    rw[henc];exact List.mem_take_iff_getElem.2 ⟨n,by omega,rfl⟩
   have hlow:(decodeL l).1<128:=by
    rcases Nat.lt_or_ge (decodeL l).1 128 with h1 | h1
    ·exact h1
    ·have:=Ql ((decodeL l).1:Int) (by omega) _ hmem;omega
   have Se:(decodeL l).2=1:=by
    have h1:=DD l hne hbad;unfold runeLen at h1;rw[if_neg (by omega),if_pos (by omega)] at h1;omega
   obtain rfl:n=0:=by omega
   rw[Se] at hv;exact hv
  ·have h2:n - (decodeL l).2<(l.drop (decodeL l).2).length:=by rw[List.length_drop];omega
   have:=FZ f (l.drop (decodeL l).2) (n - (decodeL l).2) (by rw[List.length_drop];omega) hv h2 (by rw[List.getElem_drop];simpa[show(decodeL l).2+(n - (decodeL l).2)=n by omega] using hb);rw[List.drop_drop] at this;rw[show n+1=(decodeL l).2+(n - (decodeL l).2+1) by omega];exact this
theorem Na (s:ByteArray) (p:Int) (w:Y) (hs:s.size<=1000000) (hT:Bf w):
  Calls Tryz.prog 268 #[Q s,I J p] w fun e w'=>e=.returned (FK (C2 s p))/\Below w.heap.size w w':=by
 unfold C2;cases hv:validD s.data.toList with
 | false=>exact Aar s p w hs hv hT
 | true=>
  rw[if_pos rfl];cases hq:Ec s p with
  | none=>exact WL s p w hs hv hq hT
  | some q=>
   obtain⟨n,hn,rfl,h2,h3⟩:=Oi hq;have hlt:(s[n]'hn).toNat<128:=by omega
   rw[show((n:Nat):Int).toNat=n by omega];exact Wi s n hn q h2 h3 w hs hv (fun _=>FZ _ s.data.toList n Nr hv (by rw[<- Lib.size_eq];exact hn) hlt) hT
end
section
set_option maxHeartbeats 4000000
open Go Go.RowKit Go.Extern.Stop Go.Stop Go.Extern
def Gc (w:Y):Prop:=w.cell? ⟨0,0,O⟩=F (.iface 233 (.agg #[.pointer (F ⟨10,61,O⟩)]))
theorem Gc.below {w w':Y} (h:Gc w) (hb:Below w.heap.size w w'):Gc w':=cell_below h hb
theorem valueOfP (t:Addr) (w:Y):(ReflectliteValue.unpack (.iface 326 (.pointer (F t)))).run Tryz.prog w
  =.ok (.agg #[.pointer (F ⟨10,326,O⟩),.pointer (F ⟨w.heap.size,0,O⟩),.int .u64 150]) (w.alloc (.cells #[.pointer (F t)] 326)):=by kernel_rfl
theorem typeP (a:Addr) (w:Y):(ReflectliteValue.methodAny (ReflectliteValue.valueError "reflectlite.Value.Type" 0) (fun t _ _ _=>ReflectliteType.toType t) #[.agg #[.pointer (F ⟨10,326,O⟩),.pointer (F a),.int .u64 150]]).run Tryz.prog w
  =.ok (.iface 233 (.agg #[.pointer (F ⟨10,326,O⟩)])) w:=by kernel_rfl
theorem S6 (n:Nat) (h:Value) (w:Y):(Go.method (n+1) 233 (.agg #[h]) "Kind").run Tryz.prog w=.ok (315,h) w:=by kernel_rfl
theorem kindP (w:Y):((ReflectliteType.abiMethod fun t=>(fun a:Nat=>Value.int IntKind.u8 (a:Int))<$>Rtype.kind t) #[.pointer (F ⟨10,326,O⟩)]).run Tryz.prog w=.ok (.int .u8 22) w:=by kernel_rfl
theorem kindE (w:Y):((ReflectliteType.abiMethod fun t=>(fun a:Nat=>Value.int IntKind.u8 (a:Int))<$>Rtype.kind t) #[.pointer (F ⟨10,325,O⟩)]).run Tryz.prog w=.ok (.int .u8 25) w:=by kernel_rfl
theorem rlm (z:Sem Value) (f:TypeId->Addr->Nat->Nat->Sem Value) (v:Value):
  ReflectliteValue.method z f #[v]=(do match <- ReflectliteValue.parts v with | none=>z | some (t,a,fl)=>f t a fl (fl%32)):=rfl
theorem partsP (a:Addr) (w:Y):(ReflectliteValue.parts (.agg #[.pointer (F ⟨10,326,O⟩),.pointer (F a),.int .u64 150])).run Tryz.prog w=.ok (F (326,a,150)) w:=by kernel_rfl
theorem Th (a p:Addr) (W:Y) (ha:W.cell? a=F (.pointer (F p))):
  (ReflectliteValue.method (ReflectliteValue.valueError "reflectlite.Value.IsNil" 0) ReflectliteValue.isNil #[.agg #[.pointer (F ⟨10,326,O⟩),.pointer (F a),.int .u64 150]]).run Tryz.prog W=.ok (.bool false) W:=by
 rw[rlm];simp only[Sem.run_bind,partsP,Result.andThen]
 simp[ReflectliteValue.isNil,loadVar,isAgg,underlying,Tryz.underlying326,ha,Result.andThen]
theorem Tq (n:Nat) (h:Value) (w:Y):(Go.method (n+1) 233 (.agg #[h]) "Elem").run Tryz.prog w=.ok (332,.agg #[h]) w:=by kernel_rfl
theorem Jr (n:Nat) (h:Value) (w:Y):(Go.method (n+1) 233 (.agg #[h]) "Implements").run Tryz.prog w=.ok (333,.agg #[h]) w:=by kernel_rfl
theorem Hz (n:Nat) (h:Value) (w:Y):(Go.method (n+1) 233 (.agg #[h]) "AssignableTo").run Tryz.prog w=.ok (330,.agg #[h]) w:=by kernel_rfl
theorem elemP (w:Y):(ReflectliteType.method ReflectliteType.elem #[.agg #[.pointer (F ⟨10,326,O⟩)]]).run Tryz.prog w=.ok (.iface 233 (.agg #[.pointer (F ⟨10,325,O⟩)])) w:=by kernel_rfl
theorem RT (w:Y):(ReflectliteType.relation "Implements" ReflectliteType.implements_ #[.agg #[.pointer (F ⟨10,325,O⟩)],.iface 233 (.agg #[.pointer (F ⟨10,61,O⟩)])]).run Tryz.prog w=.ok (.bool true) w:=by kernel_rfl
theorem typeOfE (v:Value) (w:Y):(ReflectliteType.typeOf #[.iface 325 v]).run Tryz.prog w=.ok (.iface 233 (.agg #[.pointer (F ⟨10,325,O⟩)])) w:=by kernel_rfl
theorem Rv (w:Y):(ReflectliteType.relation "AssignableTo" ReflectliteType.assignableTo #[.agg #[.pointer (F ⟨10,325,O⟩)],.iface 233 (.agg #[.pointer (F ⟨10,325,O⟩)])]).run Tryz.prog w=.ok (.bool true) w:=by kernel_rfl
theorem valueOfE (e:Int) (w:Y):(ReflectliteValue.unpack (.iface 325 (.agg #[I J e]))).run Tryz.prog w
  =.ok (.agg #[.pointer (F ⟨10,325,O⟩),.pointer (F ⟨w.heap.size,0,O⟩),.int .u64 153]) (w.alloc (.cells #[I J e] 325)):=by kernel_rfl
theorem elemOfP (w:Y):(Rtype.elem? 326).run Tryz.prog w=.ok (F 325) w:=by kernel_rfl
theorem mkE (p:Addr) (w:Y):(ReflectliteValue.mk 325 p ReflectliteValue.flagAddr).run Tryz.prog w=.ok (.agg #[.pointer (F ⟨10,325,O⟩),.pointer (F p),.int .u64 409]) w:=by kernel_rfl
theorem U2 (a p:Addr) (W:Y) (ha:W.cell? a=F (.pointer (F p))):
  (ReflectliteValue.method (ReflectliteValue.valueError "reflectlite.Value.Elem" 0) ReflectliteValue.elem #[.agg #[.pointer (F ⟨10,326,O⟩),.pointer (F a),.int .u64 150]]).run Tryz.prog W
   =.ok (.agg #[.pointer (F ⟨10,325,O⟩),.pointer (F p),.int .u64 409]) W:=by
 rw[rlm];simp only[Sem.run_bind,partsP,Result.andThen]
 simp[ReflectliteValue.elem,loadVar,isAgg,underlying,Tryz.underlying326,ha,Result.andThen,elemOfP,mkE]
theorem rls (v x:Value):ReflectliteValue.set #[v,x]=(do
  let (F (dst,a,fl),F (src,b,_)):=(<- ReflectliteValue.parts v,<- ReflectliteValue.parts x)
   | unsupported (.noEntry "extern/(internal/reflectlite.Value).Set.zeroValue")
  if fl / ReflectliteValue.flagAddr%2==0 then unsupported (.noEntry "extern/(internal/reflectlite.Value).Set.unaddressable")
  let val <- loadVar src b
  if <- Rtype.directlyAssignable dst src then storeVar dst a val
  else if <- Rtype.implements dst src then
   if (<- Rtype.kind src)==20 then
    match val with
    | .nilIface=>unsupported (.noEntry "extern/reflectlite: a nil value of one interface type handed on as a value of another")
    | _=>storeVar dst a val
   else storeVar dst a (.iface src val)
  else panicString ("reflectlite.Set: value of type "++(<- Rtype.spelt src)++ " is not assignable to type "++(<- Rtype.spelt dst))
  pure (.tuple #[])):=rfl
theorem Adi (a:Addr) (w:Y):(ReflectliteValue.parts (.agg #[.pointer (F ⟨10,325,O⟩),.pointer (F a),.int .u64 409])).run Tryz.prog w=.ok (F (325,a,409)) w:=by kernel_rfl
theorem partsE (a:Addr) (w:Y):(ReflectliteValue.parts (.agg #[.pointer (F ⟨10,325,O⟩),.pointer (F a),.int .u64 153])).run Tryz.prog w=.ok (F (325,a,153)) w:=by kernel_rfl
theorem Ac2 (w:Y):(Rtype.directlyAssignable 325 325).run Tryz.prog w=.ok true w:=by kernel_rfl
theorem sizeE (w:Y):(sizeOf 325).run Tryz.prog w=.ok 1 w:=by kernel_rfl
theorem Ag2 (w:Y):(isAgg 325).run Tryz.prog w=.ok true w:=by kernel_rfl
theorem Agk (ta b:Addr) (e:Int) (old:Value) (W:Y) (hb:W.cell? b=F (I J e)) (ht:W.cell? ta=F old) (hf:W.frozen? ta=false):
  (ReflectliteValue.set #[.agg #[.pointer (F ⟨10,325,O⟩),.pointer (F ta),.int .u64 409],.agg #[.pointer (F ⟨10,325,O⟩),.pointer (F b),.int .u64 153]]).run Tryz.prog W
   =.ok (.tuple #[]) (W.setCell ta (I J e)):=by
 rw[rls];simp only[Sem.run_bind,Adi,partsE,Result.andThen]
 have hld:(loadCells b 1).run Tryz.prog W=.ok #[I J e] W:=by
  simp[loadCells,loadCellsFrom,Addr.add,hb,Result.andThen]
 have hst:(storeVar 325 ta (.agg #[I J e])).run Tryz.prog W=.ok () (W.setCell ta (I J e)):=by
  have hsc:(storeCells ta [I J e]).run Tryz.prog W=.ok () (W.setCell ta (I J e)):=by
   simp only[storeCells,Addr.add,Nat.add_zero,Sem.run_bind,if_true]
   rw[run_store Tryz.prog W ta _ _ (by rfl)];simp[ht,hf,Result.andThen]
  unfold storeVar;simp only[Sem.run_bind,sizeE,Result.andThen]
  exact hsc
 simp[ReflectliteValue.flagAddr,loadVar,Ag2,sizeE,hld,Result.andThen,Ac2,hst]
theorem Agx (e:Int) (t:Addr) (old:Value) (w:Y) (hg:Gc w) (ht0:w.cell? t=F old) (hf0:w.frozen? t=false):
  Calls Tryz.prog 52 #[.iface 325 (.agg #[I J e]),.iface 326 (.pointer (F t))] w fun ev w'=>ev=.returned (.bool true)/\w'=((((w.alloc (.cells #[.pointer (F t)] 326)).alloc (.cells #[.pointer (F ⟨10,326,O⟩),.pointer (F ⟨w.heap.size,0,O⟩),.int .u64 150] 170)).alloc (.cells #[.pointer (F ⟨10,326,O⟩),.pointer (F ⟨w.heap.size,0,O⟩),.int .u64 150] 170)).alloc (.cells #[I J e] 325)).setCell t (I J e):=by
 have h6:=@run_callFunc_extern Tryz.prog 76 _ (fun args=>ReflectliteValue.unpack (args.getD 0 (.tuple #[]))) Tryz.func76 (by kernel_rfl) (by kernel_rfl) (by kernel_rfl) (by kernel_rfl);have h7:=@run_callFunc_extern Tryz.prog 77 _ (ReflectliteValue.methodAny (ReflectliteValue.valueError "reflectlite.Value.Type" 0) (fun t _ _ _=>ReflectliteType.toType t)) Tryz.func77 (by kernel_rfl) (by kernel_rfl) (by kernel_rfl) (by kernel_rfl);have h8:=@run_callFunc_extern Tryz.prog 78 _ (ReflectliteValue.method (ReflectliteValue.valueError "reflectlite.Value.IsNil" 0) ReflectliteValue.isNil) Tryz.func78 (by kernel_rfl) (by kernel_rfl) (by kernel_rfl) (by kernel_rfl);have h27:=@run_callFunc_extern Tryz.prog 315 _ (ReflectliteType.abiMethod fun t=>do pure (.int .u8 (<- Rtype.kind t))) Tryz.func315 (by kernel_rfl) (by kernel_rfl) (by kernel_rfl) (by kernel_rfl);have h37:=@run_callFunc_extern Tryz.prog 332 _ (ReflectliteType.method ReflectliteType.elem) Tryz.func332 (by kernel_rfl) (by kernel_rfl) (by kernel_rfl) (by kernel_rfl);have h38:=@run_callFunc_extern Tryz.prog 333 _ (ReflectliteType.relation "Implements" ReflectliteType.implements_) Tryz.func333 (by kernel_rfl) (by kernel_rfl) (by kernel_rfl) (by kernel_rfl);have h10:=@run_callFunc_extern Tryz.prog 117 _ (ReflectliteType.typeOf) Tryz.func117 (by kernel_rfl) (by kernel_rfl) (by kernel_rfl) (by kernel_rfl)
 have h35:=@run_callFunc_extern Tryz.prog 330 _ (ReflectliteType.relation "AssignableTo" ReflectliteType.assignableTo) Tryz.func330 (by kernel_rfl) (by kernel_rfl) (by kernel_rfl) (by kernel_rfl);have h11:=@run_callFunc_extern Tryz.prog 118 _ (ReflectliteValue.method (ReflectliteValue.valueError "reflectlite.Value.Elem" 0) ReflectliteValue.elem) Tryz.func118 (by kernel_rfl) (by kernel_rfl) (by kernel_rfl) (by kernel_rfl);have h12:=@run_callFunc_extern Tryz.prog 119 _ (ReflectliteValue.set) Tryz.func119 (by kernel_rfl) (by kernel_rfl) (by kernel_rfl) (by kernel_rfl);have tO:=typeOfE;have mA:=Hz;have a25:=Rv;have v25:=valueOfE;have f6:=valueOfP;have f7:=typeP;have mK:=S6;have mE:=Tq;have mI:=Jr;have k27:=kindP;have k25:=kindE;have e27:=elemP;have i25:=RT;have n8:=Th ⟨w.heap.size,0,O⟩ t ((w.alloc (.cells #[.pointer (F t)] 326)).alloc (.cells #[.pointer (F ⟨10,326,O⟩),.pointer (F ⟨w.heap.size,0,O⟩),.int .u64 150] 170)) (by simp);have hlt:0<w.heap.size:=Ic hg;have hg2:((w.alloc (.cells #[.pointer (F t)] 326)).alloc (.cells #[.pointer (F ⟨10,326,O⟩),.pointer (F ⟨w.heap.size,0,O⟩),.int .u64 150] 170)).cell? ⟨0,0,O⟩=F (.iface 233 (.agg #[.pointer (F ⟨10,61,O⟩)])):=by
  rw[World.cell?_alloc_lt _ _ ⟨0,0,O⟩ (by simp<;>omega),World.cell?_alloc_lt _ _ ⟨0,0,O⟩ hlt];exact hg
 have htl:t.block<w.heap.size:=by
  rcases Nat.lt_or_ge t.block w.heap.size with h | h
  ·exact h
  ·simp[World.cell?,Array.getElem?_eq_none h] at ht0
 have el:=U2 ⟨w.heap.size,0,O⟩ t (((w.alloc (.cells #[.pointer (F t)] 326)).alloc (.cells #[.pointer (F ⟨10,326,O⟩),.pointer (F ⟨w.heap.size,0,O⟩),.int .u64 150] 170)).alloc (.cells #[.pointer (F ⟨10,326,O⟩),.pointer (F ⟨w.heap.size,0,O⟩),.int .u64 150] 170)) (by rw[World.cell?_alloc_lt _ _ ⟨w.heap.size,0,O⟩ (by simp<;>omega)];simp);have st:=Agk t ⟨w.heap.size+1+1+1,0,O⟩ e old ((((w.alloc (.cells #[.pointer (F t)] 326)).alloc (.cells #[.pointer (F ⟨10,326,O⟩),.pointer (F ⟨w.heap.size,0,O⟩),.int .u64 150] 170)).alloc (.cells #[.pointer (F ⟨10,326,O⟩),.pointer (F ⟨w.heap.size,0,O⟩),.int .u64 150] 170)).alloc (.cells #[I J e] 325))
  (by rw[World.cell?_alloc_at _ _ _ _ (by simp)];rfl)
  (by rw[World.cell?_alloc_lt _ _ t (by simp;omega),World.cell?_alloc_lt _ _ t (by simp;omega),World.cell?_alloc_lt _ _ t (by simp;omega),World.cell?_alloc_lt _ _ t htl];exact ht0)
  (by rw[World.frozen?_alloc_old _ _ t (by simp;omega),World.frozen?_alloc_old _ _ t (by simp;omega),World.frozen?_alloc_old _ _ t (by simp;omega),World.frozen?_alloc_old _ _ t (Nat.ne_of_lt htl)];exact hf0)
 go_enter Tryz.func52,Tryz.ntmps52;go_wp2;refine wp_loop_rounds 1 ?_;rw[rounds_succ];go_wp2;go_ret;exact⟨rfl,rfl⟩
theorem Zv (e:Int) (w:Y) (hg:Gc w):
  Calls Tryz.prog 149 #[.iface 325 (.agg #[I J e])] w fun ev w'=>ev=.returned (I J e)/\Below w.heap.size w w':=by
 have b0:=Boxed.new w 325 (I J 0);have hg1:Gc (w.alloc (.cells #[I J 0] 325)):=hg.below ((Bq _ w).alloc Nr _);have HG:=hid hg1;clear hg1 hg;have hA:=Agx e ⟨w.heap.size,0,O⟩ (I J 0) (w.alloc (.cells #[I J 0] 325)) HG.out b0.cell b0.frozen;go_enter Tryz.func149,Tryz.ntmps149;go_wp2_with fail;refine hA.mono ?_;rintro ev w1 ⟨rfl,hw1⟩;have c1:w1.cell? ⟨w.heap.size,0,O⟩=F (I J e):=by
  rw[hw1];exact((((((b0.alloc _).alloc _).alloc _).alloc _).set (I J e))).cell
 have hb1:Below w.heap.size w w1:=by
  rw[hw1];exact(((((((Bq _ w).alloc Nr _).alloc (by simp) _).alloc (by simp;omega) _).alloc (by simp;omega) _).alloc (by simp;omega) _).setCell (p:=⟨w.heap.size,0,O⟩) Nr _)
 clear hw1 hA b0;go_wp2;go_ret;exact⟨rfl,hb1⟩
end
section
def DV (l:List UInt8) (i:Nat) (bs:List UInt8):Bool:=decide (i<l.length)&&Av bs (l.getD i 0)
def Fv (l:List UInt8) (i:Nat):Bool:=decide (l.length<=i)||DV l i [32]
def CC (l:List UInt8) (i:Nat):Bool:=DV l i [35]&&(i==0||DV l (i - 1) [32])
def Bj (l:List UInt8) (i d:Nat):Bool:=Fv l i||(decide (0<d)&&DV l i BL)
def L4 (l:List UInt8) (i d:Nat):Bool:=decide (l.length<=i)||(CC l i||((DV l i [58]&&Bj l (i+1) d)||(decide (0<d)&&DV l i BL)))
def Jj (l:List UInt8) (d:Nat):Nat->Nat->Nat
 | 0,p=>p
 | f+1,p=>if L4 l p d then p else Jj l d f (p+1)
def Fi (l:List UInt8) (p d:Nat):Nat:=Jj l d (l.length - p) p
def Ce (c:UInt8):Bool:=(decide (65<=c.toNat)&&decide (c.toNat<=90))||((decide (97<=c.toNat)&&decide (c.toNat<=122))||(AX c||(c.toNat==95||c.toNat==45)))
def Fa (l:List UInt8):Bool:=l.all Ce&&(!l.isEmpty&&decide (l.length<=20))
def Gd (l:List UInt8):List UInt8:=(l.reverse.dropWhile (·==32)).reverse
inductive TR
 | ok (k:Nat) (t:List UInt8) (tq d:Nat)
 | bad (e:Nat)
deriving Inhabited
def Cz (l:List UInt8) (p d:Nat):TR:=
 if Fl (Gd ((l.take (Fi l p d)).drop p)) (decide (0<d)) then .ok 1 (Gd ((l.take (Fi l p d)).drop p)) (Fi l p d) d else .bad 51
def I4 (l:List UInt8) (p d:Nat):TR:=
 if (C2 ⟨l.toArray⟩ p).2.2=0 then
  (if Bj l (C2 ⟨l.toArray⟩ p).2.1 d||DV l (C2 ⟨l.toArray⟩ p).2.1 [58] then .ok 2 (C2 ⟨l.toArray⟩ p).1 (C2 ⟨l.toArray⟩ p).2.1 d else .bad 90)
 else .bad (C2 ⟨l.toArray⟩ p).2.2.toNat
def nameOf (l:List UInt8) (p:Nat):List UInt8:=(l.drop (p+1)).takeWhile Ce
def Lr (l:List UInt8) (p d:Nat):TR:=
 if Fa (nameOf l p)&&Bj l (p+1+(nameOf l p).length) d then .ok (if DV l p [42] then 4 else 3) (nameOf l p) (p+1+(nameOf l p).length) d else .bad 90
def GZ (l:List UInt8) (p d:Nat):TR:=if Fv l (p+1) then (if 0<d then .bad 90 else .ok 5 [] (p+1) d) else Cz l p d
def FX (l:List UInt8) (p d:Nat):TR:=if Bj l (p+1) d then .ok 6 [] (p+1) d else Cz l p d
def CT (c:UInt8) (p d:Nat):TR:=if d=0 then .bad 90 else if c=44 then .ok 7 [] (p+1) d else .ok (if c=93 then 9 else 11) [] (p+1) (d - 1)
def Ace (l:List UInt8) (p d:Nat) (c:UInt8):TR:=
 if c=34\/c=39 then I4 l p d
 else if c=38\/c=42 then Lr l p d
 else if c=45 then GZ l p d
 else if c=58 then FX l p d
 else if c=91\/c=123 then .ok (if c=91 then 8 else 10) [] (p+1) (d+1)
 else if c=44\/c=93\/c=125 then CT c p d
 else Cz l p d
def Hk (l:List UInt8) (p d:Nat):TR:=Ace l p d (l.getD p 0)
inductive TP
 | tok (k:Nat) (t:List UInt8) (p:Nat)
 | bad (e p:Nat)
deriving Inhabited
def C3 (l:List UInt8):Nat->Nat->Nat->List TP
 | 0,_,_=>[]
 | f+1,p,d=>
  if l.length<=p then [] else if DV l p [32] then C3 l f (p+1) d else if CC l p then [] else
   match Hk l p d with
   | .ok k t tq d'=>.tok k t p::C3 l f tq d'
   | .bad e=>[.bad e p]
def BH (l:List UInt8) (p d:Nat):List TP:=C3 l (l.length+1 - p) p d
structure Tk where
 kind:Nat
 str:List UInt8
 at_:Nat
deriving DecidableEq
def Iq:List TP->List Tk->List Tk×Nat×Nat
 | [],acc=>(acc,0,0)
 | .tok k t p::r,acc=>Iq r (acc++[⟨k,t,p⟩])
 | .bad e p::_,_=>([],p,e)
def Bu (l:List UInt8):List Tk×Nat×Nat:=
 if validD l then (if (AJ l).all An then Iq (BH l 0 0) [] else ([],0,80)) else ([],0,40)
theorem Vv (l:List UInt8) (d:Nat):∀ f p,p<=Jj l d f p/\Jj l d f p<=p+f
 | 0,p=>by simp[Jj]
 | f+1,p=>by
  unfold Jj;split
  ·omega
  ·have:=Vv l d f (p+1);omega
theorem Ac1 {l:List UInt8} {p:Nat} (d:Nat) (h:p<=l.length):p<=Fi l p d/\Fi l p d<=l.length:=by
 have:=Vv l d (l.length - p) p;unfold Fi;omega
theorem NU (l:List UInt8) (d:Nat):∀ f g p,l.length - p<=f->l.length - p<=g->Jj l d f p=Jj l d g p
 | 0,0,_,_,_=>rfl
 | 0,g+1,p,hf,_=>by
  unfold Jj;rw[if_pos (by unfold L4;simp;left;omega)]
 | f+1,0,p,_,hg=>by
  unfold Jj;rw[if_pos (by unfold L4;simp;left;omega)]
 | f+1,g+1,p,hf,hg=>by
  unfold Jj;split
  ·rfl
  ·exact NU l d f g (p+1) (by omega) (by omega)
theorem Aai {l:List UInt8} {p d:Nat} (h:L4 l p d=true):Fi l p d=p:=by
 unfold Fi;cases hn:l.length - p with
 | zero=>rfl
 | succ n=>unfold Jj;rw[if_pos h]
theorem WY {l:List UInt8} {p d:Nat} (h:L4 l p d=false):Fi l p d=Fi l (p+1) d:=by
 have hp:p<l.length:=by
  rcases Nat.lt_or_ge p l.length with h1 | h1
  ·exact h1
  ·unfold L4 at h;simp at h;omega
 unfold Fi;obtain⟨n,hn⟩:∃ n,l.length - p=n+1:=⟨l.length - p - 1,by omega⟩
 rw[hn];show(if L4 l p d=true then p else Jj l d n (p+1))=_;rw[h,if_neg (by decide)];exact NU l d _ _ _ (by omega) (by omega)
theorem XP {l:List UInt8} {p d k tq d':Nat} {t:List UInt8} (hp:p<=l.length) (h:Cz l p d=.ok k t tq d'):k=1/\d'=d/\tq=Fi l p d/\t=Gd ((l.take tq).drop p)/\Fl t (decide (0<d))=true/\p<tq/\tq<=l.length:=by
 have he:=Ac1 d hp;unfold Cz at h;split at h
 ·rename_i hm;injection h with h1 h2 h3 h4;subst h1 h2 h3 h4;refine⟨rfl,rfl,rfl,rfl,hm,?_,he.2⟩;rcases Nat.lt_or_ge p (Fi l p d) with h1 | h1
  ·exact h1
  ·have h2:Fi l p d=p:=by omega
   rw[h2,List.drop_take,Nat.sub_self,List.take_zero] at hm;cases hm
 ·cases h
def Yr (n:Nat):QP->QP
 | .sign r tq=>.sign r (n+tq)
 | .fin tq=>.fin (n+tq)
 | .bad e=>.bad e
theorem OZ (a b:Nat) (p:QP):Yr a (Yr b p)=Yr (a+b) p:=by
 cases p<;>simp[Yr,Nat.add_assoc]
def Bn (l:List UInt8):Int:=if l=[] then 65533 else ((decodeL l).1:Int)
theorem Mn (s:ByteArray) (i:Nat):AF s i=Bn (s.data.toList.drop i):=by
 rcases Nat.lt_or_ge i s.size with h | h
 ·rw[EX s i h,<- Lib.decodeL_drop];unfold Bn;rw[if_neg (CS s i h)]
 ·rw[NF s i h,List.drop_eq_nil_of_le (by rw[<- Lib.size_eq];exact h)];rfl
def LH (l:List UInt8) (k:Nat):QP:=match KX l k with
 | some v=>.sign v k
 | none=>.bad 41
theorem Y8 (s:ByteArray) (p k:Nat):ES s p k=Yr p (LH (s.data.toList.drop p) k):=by
 unfold ES LH;cases KX (s.data.toList.drop p) k<;>rfl
def Xw (l:List UInt8):QP:=
 if l.length=0 then .bad 41
 else if Bw [34,92,47] (Bn l) then .sign (Bn l) 1
 else if Bn l=48 then .sign 0 1
 else if Bn l=120 then Yr 1 (LH (l.drop 1) 2)
 else if Bn l=117 then Yr 1 (LH (l.drop 1) 4)
 else match E8 (Bn l) with
 | some y=>.sign y 1
 | none=>.bad 41
theorem QA (s:ByteArray) (i:Nat):(s.data.toList.drop i).length=s.size - i:=by rw[List.length_drop,<- Lib.size_eq]
theorem Aid (s:ByteArray) (p:Nat):MS s p=Yr p (Xw (s.data.toList.drop p)):=by
 unfold MS MY Xw;rw[Mn,QA,Y8,Y8,<- List.drop_drop];by_cases h:s.size<=p
 ·have h2:s.size - p=0:=by omega
  rw[if_pos h,if_pos h2];rfl
 ·have h2:¬s.size - p=0:=by omega
  rw[if_neg h,if_neg h2];by_cases h3:Bw [34,92,47] (Bn (s.data.toList.drop p))=true
  ·rw[if_pos h3,if_pos h3];rfl
  ·rw[if_neg h3,if_neg h3];by_cases h4:Bn (s.data.toList.drop p)=48
   ·rw[if_pos h4,if_pos h4];rfl
   ·rw[if_neg h4,if_neg h4];by_cases h5:Bn (s.data.toList.drop p)=120
    ·rw[if_pos h5,if_pos h5];rw[OZ]
    ·rw[if_neg h5,if_neg h5];by_cases h6:Bn (s.data.toList.drop p)=117
     ·rw[if_pos h6,if_pos h6];rw[OZ]
     ·rw[if_neg h6,if_neg h6];cases E8 (Bn (s.data.toList.drop p))<;>rfl
def K2 (q:Int) (l:List UInt8):QP:=
 if l.length=0 then .bad 42
 else if Bn l=q then (if Bn l=39/\Bn (l.drop 1)=39/\1<l.length then .sign 39 2 else .fin 1)
 else if Bn l=92/\q=34 then Yr 1 (Xw (l.drop 1))
 else if BA (Bn l) then .sign (Bn l) (decodeL l).2 else .bad 42
theorem Zd (s:ByteArray) (q:Int) (i:Nat):CX s q i=Yr i (K2 q (s.data.toList.drop i)):=by
 unfold CX SS K2;rw[Mn,Mn,<- Lib.decodeL_drop,QA,Aid,List.drop_drop];by_cases h:s.size<=i
 ·have h2:s.size - i=0:=by omega
  rw[if_pos h,if_pos h2];rfl
 ·have h2:¬s.size - i=0:=by omega
  rw[if_neg h,if_neg h2];by_cases h3:Bn (s.data.toList.drop i)=q
  ·rw[if_pos h3,if_pos h3];by_cases h4:Bn (s.data.toList.drop i)=39/\Bn (s.data.toList.drop (i+1))=39/\i+1<s.size
   ·rw[if_pos h4,if_pos ⟨h4.1,h4.2.1,by omega⟩];rfl
   ·rw[if_neg h4,if_neg (fun h5=>h4 ⟨h5.1,h5.2.1,by omega⟩)];rfl
  ·rw[if_neg h3,if_neg h3];by_cases h4:Bn (s.data.toList.drop i)=92/\q=34
   ·rw[if_pos h4,if_pos h4];rw[OZ]
   ·rw[if_neg h4,if_neg h4];by_cases h5:BA (Bn (s.data.toList.drop i))=true
    ·rw[if_pos h5,if_pos h5];rfl
    ·rw[if_neg h5,if_neg h5];rfl
def DY (q:Int):Nat->List UInt8->List UInt8->Nat->List UInt8×Nat×Int
 | 0,_,_,_=>([],0,42)
 | f+1,l,acc,n=>match K2 q l with
  | .sign r k=>DY q f (l.drop k) (acc++encodeRune r) (n+k)
  | .fin k=>(acc,n+k,0)
  | .bad e=>([],0,e)
theorem Aat (s:ByteArray) (q:Int):∀ (f i:Nat) (acc:List UInt8),CB (B3 s q f i) acc=DY q f (s.data.toList.drop i) acc i
 | 0,i,acc=>rfl
 | f+1,i,acc=>by
  unfold B3 DY;rw[Zd];cases K2 q (s.data.toList.drop i) with
  | sign r k=>
   show CB (B3 s q f (i+k)) (acc++encodeRune r)=_;rw[Aat s q f (i+k),<- List.drop_drop]
  | fin k=>rfl
  | bad e=>rfl
theorem Kv (l:List UInt8) (k:Nat):(∃ v:Nat,LH l k=.sign v k)\/LH l k=.bad 41:=by
 unfold LH;cases KX l k with
 | some v=>exact .inl ⟨v,rfl⟩
 | none=>exact .inr rfl
theorem LC (l:List UInt8):(∃ r k,Xw l=.sign r k/\1<=k)\/Xw l=.bad 41:=by
 unfold Xw;split
 ·exact .inr rfl
 ·split
  ·exact .inl ⟨_,_,rfl,by omega⟩
  ·split
   ·exact .inl ⟨_,_,rfl,by omega⟩
   ·split
    ·rcases Kv (l.drop 1) 2 with ⟨v,h⟩ | h
     ·rw[h];exact .inl ⟨_,_,rfl,by omega⟩
     ·rw[h];exact .inr rfl
    ·split
     ·rcases Kv (l.drop 1) 4 with ⟨v,h⟩ | h
      ·rw[h];exact .inl ⟨_,_,rfl,by omega⟩
      ·rw[h];exact .inr rfl
     ·cases E8 (Bn l) with
      | some y=>exact .inl ⟨_,_,rfl,by omega⟩
      | none=>exact .inr rfl
theorem Hm (q:Int) (l:List UInt8):(l≠[]/\((∃ r k,K2 q l=.sign r k/\1<=k)\/K2 q l=.fin 1\/K2 q l=.bad 41))\/K2 q l=.bad 42:=by
 unfold K2;split
 ·exact .inr rfl
 ·rename_i hne;have hne:l≠[]:=fun e=>hne (by rw[e];rfl);split
  ·split
   ·exact .inl ⟨hne,.inl ⟨_,_,rfl,by omega⟩⟩
   ·exact .inl ⟨hne,.inr (.inl rfl)⟩
  ·split
   ·rcases LC (l.drop 1) with ⟨r,k,h,hk⟩ | h
    ·rw[h];exact .inl ⟨hne,.inl ⟨_,_,rfl,by omega⟩⟩
    ·rw[h];exact .inl ⟨hne,.inr (.inr rfl)⟩
   ·split
    ·exact .inl ⟨hne,.inl ⟨_,_,rfl,decodeL_width l⟩⟩
    ·exact .inr rfl
theorem KM (l:List UInt8) (hne:l≠[]) (hv:validD l=true):validD (l.drop (decodeL l).2)=true:=by
 rw[validD_step l hne] at hv;split at hv
 ·cases hv
 ·exact hv
theorem Uc (c:UInt8) (m:List UInt8) (h:c.toNat<128):Bn (c::m)=(c.toNat:Int):=by
 unfold Bn;rw[if_neg (by simp),decodeL_ascii c m h]
theorem BM (l:List UInt8):(⟨l.toArray⟩:ByteArray).data.toList=l:=by simp
theorem size_mk (l:List UInt8):(⟨l.toArray⟩:ByteArray).size=l.length:=by rw[Lib.size_eq,BM]
theorem T5 {l:List UInt8} (hne:l≠[]) (hv:validD l=true) (hb:Bn l<128):∃ c t,l=c::t/\c.toNat<128/\Bn l=(c.toNat:Int)/\validD t=true:=by
 obtain⟨c,t,rfl⟩:∃ c t,l=c::t:=by cases l with | nil=>exact absurd rfl hne | cons c t=>exact⟨c,t,rfl⟩
 have hlt:c.toNat<128:=by
  rcases Nat.lt_or_ge c.toNat 128 with h | h
  ·exact h
  ·have:=Em c t h;unfold Bn at hb;rw[if_neg (by simp)] at hb;omega
 refine⟨c,t,rfl,hlt,Uc c t hlt,?_⟩;rw[validD_cons c t hlt] at hv;exact hv
theorem Xy {q:Int} {l:List UInt8} {r:Int} {k:Nat} (hv:validD l=true) (h:K2 q l=.sign r k):l≠[]/\1<=k/\k<=l.length/\validD (l.drop k)=true/\Lib.validRune r=true:=by
 have h0:CX ⟨l.toArray⟩ q 0=.sign r k:=by rw[Zd,BM,List.drop_zero,h];simp[Yr]
 obtain⟨h1,h2,h3,h4,h5⟩:=Fh (by omega) (fun _=>by rw[BM,List.drop_zero];exact hv) h0;rw[size_mk] at h1 h3 h4;refine⟨fun e=>by rw[e] at h1;simp at h1,by omega,h3,?_,h5⟩;rcases Nat.lt_or_ge k l.length with h6 | h6
 ·have:=h4 h6;rwa [BM] at this
 ·rw[List.drop_eq_nil_of_le h6];rfl
theorem QE (q:Int) (hq128:q<128):∀ (f:Nat) (l acc:List UInt8) (n:Nat),validD l=true->(DY q f l acc n).2.2=0->n<(DY q f l acc n).2.1/\(DY q f l acc n).2.1<=n+l.length/\validD (l.drop ((DY q f l acc n).2.1 - n))=true
 | 0,l,acc,n,_,h=>by simp[DY] at h
 | f+1,l,acc,n,hv,h=>by
  unfold DY at h |-;cases ho:K2 q l with
  | sign r k=>
   rw[ho] at h;obtain⟨_,h2,h3,h4,_⟩:=Xy hv ho;have:=QE q hq128 f (l.drop k) _ _ h4 h;rw[List.length_drop,List.drop_drop] at this;dsimp only
   refine⟨by omega,by omega,?_⟩;rw[show(DY q f (List.drop k l) (acc++encodeRune r) (n+k)).2.1 - n=k+((DY q f (List.drop k l) (acc++encodeRune r) (n+k)).2.1 - (n+k)) by omega];exact this.2.2
  | fin k=>
   rw[ho] at h;have hlen:l≠[]/\k=1:=by
    rcases Hm q l with ⟨hne,⟨r,k,h,hk⟩ | h | h⟩ | h<;>rw[ho] at h<;>first | (injection h with h;exact⟨hne,h⟩) | cases h
   have hl:0<l.length:=List.length_pos_iff.2 hlen.1;dsimp only
   refine⟨by omega,by omega,?_⟩;rw[show n+k - n=1 by omega];have hq:Bn l=q:=by
    unfold K2 at ho;split at ho
    ·cases ho
    ·split at ho
     ·assumption
     ·split at ho
      ·rcases LC (l.drop 1) with ⟨r,k,h,hk⟩ | h<;>rw[h] at ho<;>cases ho
      ·split at ho<;>cases ho
   obtain⟨c,t,rfl,_,_,hvt⟩:=T5 hlen.1 hv (by omega);exact hvt
  | bad e=>
   rw[ho] at h;simp at h;rcases Hm q l with ⟨hne,⟨r,k,h2,hk⟩ | h2 | h2⟩ | h2<;>rw[ho] at h2<;>first | (injection h2 with h2;omega) | cases h2
def Jv (l:List UInt8) (p:Nat) (q:Int):Prop:=p<l.length/\((l.getD p 0=34/\q=34)\/(l.getD p 0=39/\q=39))
theorem NH {l:List UInt8} {p:Nat} (hp:p<l.length) (h:l.getD p 0=34\/l.getD p 0=39):∃ q,Jv l p q/\q<128:=by
 rcases h with h | h
 ·exact⟨34,⟨hp,.inl ⟨h,rfl⟩⟩,by decide⟩
 ·exact⟨39,⟨hp,.inr ⟨h,rfl⟩⟩,by decide⟩
theorem Acu (l:List UInt8) (p:Nat) (h:p<(⟨l.toArray⟩:ByteArray).size):(⟨l.toArray⟩:ByteArray)[p]'h=l.getD p 0:=by
 have:=Cq ⟨l.toArray⟩ p h;rw[BM] at this;exact this.symm
theorem XE {l:List UInt8} {p:Nat} {q:Int} (h:Jv l p q):Ec ⟨l.toArray⟩ p=F q:=by
 have hlt:p<(⟨l.toArray⟩:ByteArray).size:=by rw[size_mk];exact h.1
 unfold Ec;rw[if_neg (by omega),dif_pos (by simpa using hlt)];have hg:=Acu l p hlt;have hg':(⟨l.toArray⟩:ByteArray)[((p:Nat):Int).toNat]'(by simpa using hlt)=l.getD p 0:=by simpa using hg
 rw[hg'];rcases h.2 with ⟨h1,rfl⟩ | ⟨h1,rfl⟩<;>rw[h1]<;>rfl
theorem UE {l:List UInt8} {p:Nat} {q:Int} (h:Jv l p q) (hv:validD l=true):C2 ⟨l.toArray⟩ p=DY q (l.length+1 - (p+1)) (l.drop (p+1)) [] (p+1):=by
 unfold C2;rw[BM,hv,if_pos rfl,XE h];show CB (AG ⟨l.toArray⟩ q (((p:Nat):Int).toNat+1)) []=_;rw[show((p:Nat):Int).toNat=p by omega];unfold AG;rw[Aat,BM,size_mk]
theorem RF {l:List UInt8} {p:Nat} {q:Int} (h:Jv l p q) (hv:validD l=true):validD (l.drop (p+1))=true:=by
 refine FZ _ l p Nr hv h.1 ?_;have:l[p]'h.1=l.getD p 0:=by simp[List.getD,List.getElem?_eq_getElem h.1]
 rw[this];rcases h.2 with ⟨h1,_⟩ | ⟨h1,_⟩<;>rw[h1]<;>decide
theorem QD {l:List UInt8} {p:Nat} {q:Int} (h:Jv l p q) (hq:q<128) (hv:validD l=true) (he:(C2 ⟨l.toArray⟩ p).2.2=0):p+1<(C2 ⟨l.toArray⟩ p).2.1/\(C2 ⟨l.toArray⟩ p).2.1<=l.length:=by
 rw[UE h hv] at he |-;have:=QE q hq _ (l.drop (p+1)) [] (p+1) (RF h hv) he;rw[List.length_drop] at this;have h1:=h.1;omega
theorem Nl (q:Int):∀ (f:Nat) (l acc:List UInt8) (n:Nat),(DY q f l acc n).2.2=0\/(DY q f l acc n).2.2=41\/(DY q f l acc n).2.2=42
 | 0,l,acc,n=>.inr (.inr rfl)
 | f+1,l,acc,n=>by
  unfold DY;rcases Hm q l with ⟨hne,⟨r,k,h,hk⟩ | h | h⟩ | h
  ·rw[h];exact Nl q f _ _ _
  ·rw[h];exact .inl rfl
  ·rw[h];exact .inr (.inl rfl)
  ·rw[h];exact .inr (.inr rfl)
theorem XI {l:List UInt8} {p:Nat} {q:Int} (h:Jv l p q) (hv:validD l=true):(C2 ⟨l.toArray⟩ p).2.2=0\/(C2 ⟨l.toArray⟩ p).2.2=41\/(C2 ⟨l.toArray⟩ p).2.2=42:=by
 rw[UE h hv];exact Nl q _ _ _ _
end
end Go.Proofs.YtdpppepmkeinaaaGreatDoor
