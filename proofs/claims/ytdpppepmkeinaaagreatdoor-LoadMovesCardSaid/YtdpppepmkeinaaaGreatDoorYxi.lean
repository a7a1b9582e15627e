/- What is proved: a part of the walk of the program and of its plain laws; no condition beside those that each theorem names. -/
import Derived.Test.YtdpppepmkeinaaaGreatDoorYo
import Derived.Test.YtdpppepmkeinaaaGreatDoorYxh
import Derived.Test.YtdpppepmkeinaaaGreatDoorYa
import Derived.Deep.RegionHeld3
import Derived.Stop.RegionWithIn
namespace Go.Proofs.YtdpppepmkeinaaaGreatDoor
open Go Go.RowKit Go.Lib
open Go.Value renaming int->I,string->Q,slice->Z
open Go.IntKind renaming i64->J
open Option renaming none->O,some->F
open _root_.Go renaming World->Y
set_option linter.unusedSimpArgs false
set_option linter.unusedVariables false
set_option linter.unusedSectionVars false
section
set_option maxRecDepth 100000
set_option maxHeartbeats 4000000
attribute [local go_sem] Oper.semAt_some ID EE
def QT (x:List Tk×Nat×Nat) (w:Y) (e:Ending) (w':Y):Prop:=
 ∃ v,e=.returned (.tuple #[v,I J x.2.1,I J x.2.2])/\Ii w' v x.1/\(∀ A n c,v=Z A n c->n<=c)/\(∀ b o l c,v=Z (F ⟨b,o,O⟩) l c->0<l->w.heap.size<=b)/\Below w.heap.size w w'
theorem QU (N:Nat):∀ b o l c,Value.slice O 0 0=Z (F ⟨b,o,O⟩) l c->0<l->N<=b:=by
 intro b o l c h;injection h with h;cases h
theorem V0 (s:ByteArray) (w:Y) (hs:s.size<=1000000) (hv:validD s.data.toList=false) (hT:BU w):
  Calls Tryz.prog 109 #[Q s] w (QT ([],0,40) w):=by
 have hR:=fun wx hx=>Cz s wx hs hx;rw[hv] at hR;clear hv;refine(callsIn_wide (n:=0)).1 ?_;refine callsIn_of_wp_marks Tryz.func109 rfl trivial ?_ rfl;refine wpIn_wide.2 ?_;simp only[Tryz.ntmps109,List.size_toArray,List.length_cons,List.length_nil,Nat.reduceAdd,Nat.reduceSub,Array.replicate_succ,Array.replicate_zero,List.push_toArray,List.append_toArray,List.nil_append,List.cons_append]
 obtain⟨N,hN⟩:∃ N,w.heap.size=N:=⟨_,rfl⟩
 have hb0:Below N w (((w.alloc (.cells #[Z O 0 0] 215)).alloc (.cells #[I J 0] 3)).alloc (.cells #[I J 0] 27)):=(((Bq N w).alloc (by omega) _).alloc (by simp;omega) _).alloc (by simp;omega) _;go_wp2_with fail;refine(hR _ (hT.below (hN▸hb0))).mono ?_;rintro e w1 ⟨rfl,hb1⟩;obtain⟨b0,b1,b2⟩:=H5 w 215 3 27 (Z O 0 0) (I J 0) (I J 0);rw[hN] at b0 b1 b2;replace b0:=Ab b0 hb1;replace b1:=Ab b1 hb1;replace b2:=Ab b2 hb1;have hb2:=hb0.trans (hb1.mono (by have:=hb0.size;omega));have c0:=b0.cell;have f0:=b0.frozen;have c1:=b1.cell;have f1:=b1.frozen;have c2:=b2.cell;have f2:=b2.frozen;go_wp2;obtain⟨e1,e2,e3,hb3⟩:=U2 hb2 b0 b1 b2 (by omega) (Z O 0 0) (I J 0) (I J 40);refine⟨.tuple #[Z O 0 0,I J 0,I J 40],by simp[results,Tryz.f109,go_sem,e1,e2,e3],?_⟩;exact⟨_,rfl,Ii.nil _,Q5,QU _,by rw[hN];exact hb3⟩
theorem RG (s:ByteArray) (w:Y) (hs:s.size<=1000000) (hv:validD s.data.toList=true) (hp:(Ag s.data.toList).all Ac=false) (hT:BU w):
  Calls Tryz.prog 109 #[Q s] w (QT ([],0,80) w):=by
 have hR:=fun wx hx=>Cz s wx hs hx;rw[hv] at hR;clear hv;have hC:=fun wx=>Tryz.strings_ContainsFunc_grows 147 #[] (enters_of Tryz.func147 (by kernel_rfl) rfl) Gh s wx (JZ wx);rw[OS,hp] at hC;clear hp;refine(callsIn_wide (n:=0)).1 ?_;refine callsIn_of_wp_marks Tryz.func109 rfl trivial ?_ rfl;refine wpIn_wide.2 ?_;simp only[Tryz.ntmps109,List.size_toArray,List.length_cons,List.length_nil,Nat.reduceAdd,Nat.reduceSub,Array.replicate_succ,Array.replicate_zero,List.push_toArray,List.append_toArray,List.nil_append,List.cons_append]
 obtain⟨N,hN⟩:∃ N,w.heap.size=N:=⟨_,rfl⟩
 have hb0:Below N w (((w.alloc (.cells #[Z O 0 0] 215)).alloc (.cells #[I J 0] 3)).alloc (.cells #[I J 0] 27)):=(((Bq N w).alloc (by omega) _).alloc (by simp;omega) _).alloc (by simp;omega) _;go_wp2_with fail;refine(hR _ (hT.below (hN▸hb0))).mono ?_;rintro e w1 ⟨rfl,hb1⟩;obtain⟨b0,b1,b2⟩:=H5 w 215 3 27 (Z O 0 0) (I J 0) (I J 0);rw[hN] at b0 b1 b2;replace b0:=Ab b0 hb1;replace b1:=Ab b1 hb1;replace b2:=Ab b2 hb1;have hb2:=hb0.trans (hb1.mono (by have:=hb0.size;omega));go_wp2_with fail;refine(hC _).mono ?_;rintro e w2 ⟨rfl,hb3⟩;replace b0:=Ab b0 hb3;replace b1:=Ab b1 hb3;replace b2:=Ab b2 hb3;have hb4:=hb2.trans (hb3.mono (by have:=hb2.size;omega));clear hb2 hb3 hC hR;have c0:=b0.cell;have f0:=b0.frozen;have c1:=b1.cell;have f1:=b1.frozen;have c2:=b2.cell;have f2:=b2.frozen;go_wp2;obtain⟨e1,e2,e3,hb5⟩:=U2 hb4 b0 b1 b2 (by omega) (Z O 0 0) (I J 0) (I J 80);refine⟨.tuple #[Z O 0 0,I J 0,I J 80],by simp[results,Tryz.f109,go_sem,e1,e2,e3],?_⟩;exact⟨_,rfl,Ii.nil _,Q5,QU _,by rw[hN];exact hb5⟩
theorem SN (s:ByteArray) (w:Y) (hs:s.size<=100000) (hv:validD s.data.toList=true) (hp:(Ag s.data.toList).all Ac=true) (hT:BU w) (hE:H7 w):
  Calls Tryz.prog 109 #[Q s] w (QT (Jb (BH s.data.toList 0 0) []) w):=by
 have hR:=fun wx hx=>Cz s wx (by omega) hx;rw[hv] at hR;have hC:=fun wx=>Tryz.strings_ContainsFunc_grows 147 #[] (enters_of Tryz.func147 (by kernel_rfl) rfl) Gh s wx (JZ wx);rw[OS,hp] at hC;clear hp;have hit:=fun R Bb n₀ (hN:w.heap.size<=n₀) (hR0:w.heap.size<=R) (hB:w.heap.size<=Bb) (hne:Bb≠R)=>PR s R Bb n₀ w hT hN hR0 hB hne (by omega) hv;obtain⟨ps,hps⟩:∃ ps,BH s.data.toList 0 0=ps:=⟨_,rfl⟩
 have hpl:ps.length<=s.size:=by rw[<- hps];have:=JV hv (s.data.toList.length+1 - 0) 0 0;unfold BH;rw[Lib.size_eq];omega
 rw[hps] at hit |-;have HPL:=hid hpl;have HIT:=hid hit;clear hpl hps hit hv;refine(callsIn_wide (n:=0)).1 ?_;refine callsIn_of_wp_marks Tryz.func109 rfl trivial ?_ rfl;refine wpIn_wide.2 ?_;simp only[Tryz.ntmps109,List.size_toArray,List.length_cons,List.length_nil,Nat.reduceAdd,Nat.reduceSub,Array.replicate_succ,Array.replicate_zero,List.push_toArray,List.append_toArray,List.nil_append,List.cons_append]
 obtain⟨N,hN⟩:∃ N,w.heap.size=N:=⟨_,rfl⟩
 have hb0:Below N w (((w.alloc (.cells #[Z O 0 0] 215)).alloc (.cells #[I J 0] 3)).alloc (.cells #[I J 0] 27)):=(((Bq N w).alloc (by omega) _).alloc (by simp;omega) _).alloc (by simp;omega) _;go_wp2_with fail;refine(hR _ (hT.below (hN▸hb0))).mono ?_;rintro e w1 ⟨rfl,hb1⟩;obtain⟨b0,b1,b2⟩:=H5 w 215 3 27 (Z O 0 0) (I J 0) (I J 0);rw[hN] at b0 b1 b2;replace b0:=Ab b0 hb1;replace b1:=Ab b1 hb1;replace b2:=Ab b2 hb1;have hb2:=hb0.trans (hb1.mono (by have:=hb0.size;omega));clear hb0 hb1 hR;go_wp2_with fail;refine(hC _).mono ?_;rintro e w2 ⟨rfl,hb3⟩;replace b0:=Ab b0 hb3;replace b1:=Ab b1 hb3;replace b2:=Ab b2 hb3;have hb4:=hb2.trans (hb3.mono (by have:=hb2.size;omega));clear hb2 hb3 hC;obtain⟨M,hM⟩:∃ M,w2.heap.size=M:=⟨_,rfl⟩
 have hNM:N+1+1<M:=by have:=b2.lt;omega
 have hb5:Below N w ((w2.alloc (.cells #[Z O 0 0] 215)).alloc (.cells #[Q s,I J 0,I J 0] 282)):=(hb4.alloc (by have:=hb4.size;omega) _).alloc (by have:=hb4.size;simp;omega) _;have bo:Boxed ((w2.alloc (.cells #[Z O 0 0] 215)).alloc (.cells #[Q s,I J 0,I J 0] 282)) M 215 (Z O 0 0):=by rw[<- hM];exact(Boxed.new w2 _ _).alloc _
 have hr:RA ((w2.alloc (.cells #[Z O 0 0] 215)).alloc (.cells #[Q s,I J 0,I J 0] 282)) (M+1) s 0 0:=by
  have:=Wn (w2.alloc (.cells #[Z O 0 0] 215)) (.cells #[Q s,I J 0,I J 0] 282);rw[World.size_alloc,hM] at this;exact this
 replace b0:=(b0.alloc (.cells #[Z O 0 0] 215)).alloc (.cells #[Q s,I J 0,I J 0] 282);replace b1:=(b1.alloc (.cells #[Z O 0 0] 215)).alloc (.cells #[Q s,I J 0,I J 0] 282);replace b2:=(b2.alloc (.cells #[Z O 0 0] 215)).alloc (.cells #[Q s,I J 0,I J 0] 282);have hz3:((w2.alloc (.cells #[Z O 0 0] 215)).alloc (.cells #[Q s,I J 0,I J 0] 282)).heap.size=M+1+1:=by simp[hM]
 obtain⟨w3,hw3⟩:∃ w3,(w2.alloc (.cells #[Z O 0 0] 215)).alloc (.cells #[Q s,I J 0,I J 0] 282)=w3:=⟨_,rfl⟩
 rw[hw3] at hb5 b0 b1 b2 bo hr hz3;have HW3:=hid hw3;clear hw3 hb4;go_wp2_with fail;refine(SR (M+1) _).mono ?_;rintro e w4 ⟨rfl,hw4⟩;rw[show(w2.alloc (.cells #[Z O 0 0] 215)).alloc (.cells #[Q s,I J 0,I J 0] 282)=w3 from HW3.out] at hw4 |-;rw[hz3];have hz4:w4.heap.size=M+1+1+1:=by rw[hw4];simp[hz3]
 have hBox:Boxed w4 (M+1+1) 278 (.pointer (F ⟨M+1,0,O⟩)):=by rw[hw4,<- hz3];exact Boxed.new _ _ _
 have hb6:Below N w w4:=by rw[hw4];exact hb5.alloc (by have:=hb5.size;omega) _
 replace hr:RA w4 (M+1) s 0 0:=by rw[hw4];exact hr.alloc _
 replace bo:Boxed w4 M 215 (Z O 0 0):=by rw[hw4];exact bo.alloc _
 replace b0:Boxed w4 N 215 (Z O 0 0):=by rw[hw4];exact b0.alloc _
 replace b1:Boxed w4 (N+1) 3 (I J 0):=by rw[hw4];exact b1.alloc _
 replace b2:Boxed w4 (N+1+1) 27 (I J 0):=by rw[hw4];exact b2.alloc _
 clear hw4 hb5;go_wp2;refine(wpIn_wide (n:=0)).1 ?_;refine MH (gf:=186) (lb:=#[.pointer (F ⟨M+1+1,0,O⟩)]) rfl (enters_of Tryz.func186 (by kernel_rfl) rfl) (HIT.out (M+1) (M+1+1) N (by omega) (by omega) (by omega) (by omega))
  (fun Yz hY=>⟨hr.below hY,Ab hBox hY,hN▸hb6.trans (hY.mono (by have:=hb6.size;omega))⟩) (fun k hk=>by omega) (by omega) (fun x=>by cases x<;>rfl)
  (fun pre W=>∃ v ts,Hid (DK pre=O/\ts=pre.map J7)/\Boxed W M 215 v/\I2 W (M+1) v ts/\BF W (M+1) 282/\BF W (M+1+1) 278/\Boxed W N 215 (Z O 0 0)/\Boxed W (N+1) 3 (I J 0)/\Boxed W (N+1+1) 27 (I J 0)/\Below N w W/\M+1+1<W.heap.size)
  (fun co pre W=>co=.ret/\∃ p e:Nat,Hid (Jb ps []=([],p,e))/\Boxed W N 215 (Z O 0 0)/\Boxed W (N+1) 3 (I J p)/\Boxed W (N+1+1) 27 (I J e)/\Below N w W)
  ?hI ?hIx ?hbad ⟨Z O 0 0,[],hid ⟨rfl,rfl⟩,bo,⟨rfl,.inl ⟨rfl,rfl⟩⟩,⟨_,_,hr⟩,⟨_,_,hBox⟩,b0,b1,b2,hb6,by omega⟩ ?round ?done ?stop
 case hI=>
  rintro pre X Yz ⟨v,ts,h1,h2,h3,k1,k2,h4,h5,h6,h7,h8⟩ ht;exact⟨v,ts,h1,Aj h2 ht (by omega),h3.turn ht (fun k hk=>by rcases hk with rfl | rfl;exact⟨_,by decide,k2⟩;exact⟨_,by decide,k1⟩),k1.turn ht,k2.turn ht,
   Aj h4 ht (by omega),Aj h5 ht (by omega),Aj h6 ht (by omega),ht.below h7 (fun k hk=>by omega) (by omega) (by omega),Nat.lt_of_lt_of_le h8 ht.size⟩
 case hIx=>
  rintro co pre X Yz ⟨h1,p,e,h2,h3,h4,h5,h6⟩ ht;exact⟨h1,p,e,h2,Aj h3 ht (by omega),Aj h4 ht (by omega),Aj h5 ht (by omega),ht.below h6 (fun k hk=>by omega) (by omega) (by omega)⟩
 case hbad=>
  rintro pre X hb ⟨v,ts,h1,_⟩;exact hb h1.out.1
 case round=>
  rintro l pre x W hl ⟨v,ts,h1,h2,h3,k1,k2,h4,h5,h6,h7,h8⟩ hpre;have HPR:=hid hpre;clear hpre;cases x with
  | tok k t p=>
   unfold ZD CJ
   gi_wp2
   refine⟨Ak.alloc W _,fun Wb ht _=>?_⟩;have hta:Au (fun k=>k=M+1+1\/k=M+1) w4.heap.size W Wb:=(Au.alloc W _).trans ht;have hTB:Wb.heap[W.heap.size]? =F (.cells #[I J k,Q ⟨t.toArray⟩,I J p] 287):=ht.heap (Wn W _) (fun hc=>by omega) rfl;have hkp:Ak AH (fun k=>k=M+1+1\/k=M+1) N Wb Wb:=Ak.refl _ _ _ _;have hkC:∀ j,(j=M+1+1\/j=M+1)->∃ T,T≠287/\BF W j T:=fun j hj=>by rcases hj with rfl | rfl;exact⟨_,by decide,k2⟩;exact⟨_,by decide,k1⟩
   replace h2:=Aj h2 hta (by omega);replace h3:=h3.turn hta hkC;replace h4:=Aj h4 hta (by omega);replace h5:=Aj h5 hta (by omega);replace h6:=Aj h6 hta (by omega);replace h7:=hta.below h7 (fun k hk=>by omega) (by omega) (by omega);replace k1:=k1.turn hta;replace k2:=k2.turn hta;have hWz:W.heap.size<=Wb.heap.size:=hta.size;replace h8:=Nat.lt_of_lt_of_le h8 hta.size;clear ht hta hkC;obtain⟨i0,hi,hz0,hz1,hz2⟩:=info_parts Abc;have hu:Tryz.prog.underlying 215=F (.slice 287):=by kernel_rfl
   have HU:=hid hu;clear hu;obtain⟨t0,t1,t2,_⟩:=EM hTB;have c1:=h2.cell;have f1:=h2.frozen;have hTl:W.heap.size<Wb.heap.size:=(Gl hTB)
   have hMl:M<Wb.heap.size:=by omega
   have htl:ts.length<=100000:=by
    have e1:=HPR.out.length_le;have e2:=HPL.out;rw[h1.out.2,List.length_map];simp at e1;omega
   have hown0:Wb.ownsRow (M+1) 287 3 v ts.length (ts.flatMap CQ):=h3
   gi_wp2_with (first
    | (gi_at_builtin;refine wpListIn_append_own _ rfl _ _ 215 rfl (M+1) 287 i0 (.agg #[I J 0,Q ⟨#[]⟩,I J 0]) 3 32 HU.out hi hz0 hz1 hz2 rfl (by decide) _ _ _ rfl (hown0.alloc _) ⟨Wb.heap.size,0,O⟩ 1 1 [I J k,Q ⟨t.toArray⟩,I J p] rfl rfl ?c1 ?c2 ?c3 ?c4 ?c5 ?_))
   case c1=>
    intro j u hj
    match j,hj with
    | 0,hj=>simp at hj;subst hj;simp[Addr.add]
    | 1,hj=>simp at hj;subst hj;simp[Addr.add]
    | 2,hj=>simp at hj;subst hj;simp[Addr.add]
   case c2=>intro u hu;simp at hu;rcases hu with rfl | rfl | rfl<;>rfl
   case c3=>unfold maxLen;omega
   case c4=>omega
   case c5=>simp;omega
   intro v' w5 hown hgrow _;obtain⟨q1,q2,q3,q4,q5,q6,q7⟩:=Agt (C:=fun k=>k=M+1+1\/k=M+1) (N:=N) (M:=M) (x:=⟨k,t,p⟩) (by omega) (by omega) (by omega) (by omega) h2 h3 (fun j hj=>by rcases hj with rfl | rfl;exact⟨_,by decide,k2⟩;exact⟨_,by decide,k1⟩) hown hgrow;have FIN:=hid (show Ak AH (fun k=>k=M+1+1\/k=M+1) N Wb (w5.setCell ⟨M,0,O⟩ v')/\∃ v ts,Hid (DK (pre++[TP.tok k t p])=O/\ts=(pre++[TP.tok k t p]).map J7)/\Boxed (w5.setCell ⟨M,0,O⟩ v') M 215 v/\I2 (w5.setCell ⟨M,0,O⟩ v') (M+1) v ts/\BF (w5.setCell ⟨M,0,O⟩ v') (M+1) 282/\BF (w5.setCell ⟨M,0,O⟩ v') (M+1+1) 278/\Boxed (w5.setCell ⟨M,0,O⟩ v') N 215 (Z O 0 0)/\Boxed (w5.setCell ⟨M,0,O⟩ v') (N+1) 3 (I J 0)/\Boxed (w5.setCell ⟨M,0,O⟩ v') (N+1+1) 27 (I J 0)/\Below N w (w5.setCell ⟨M,0,O⟩ v')/\M+1+1<(w5.setCell ⟨M,0,O⟩ v').heap.size from
    ⟨q1,v',ts++[⟨k,t,p⟩],hid ⟨by rw[MQ];exact h1.out.1,by rw[List.map_append,h1.out.2];rfl⟩,q2,q3,q7 _ _ (by decide) (by omega) k1,q7 _ _ (by decide) (by omega) k2,q6 N _ _ (by decide) (by omega) h4,q6 (N+1) _ _ (by decide) (by omega) h5,q6 (N+1+1) _ _ (by decide) (by omega) h6,q1.below h7 Nr (by omega),Nat.lt_of_lt_of_le h8 q1.size⟩)
   obtain⟨g,cap,rfl⟩:∃ g cap,v'=Z (F ⟨g,0,O⟩) (ts.length+1) cap:=by
    rcases hown.2 with ⟨_,h0⟩ | ⟨g,cap,cur,hv,_⟩
    ·omega
    ·exact⟨g,cap,hv⟩
   clear q1 q2 q3 q6 q7 hown hgrow h1 h2 h3 k1 k2 h4 h5 h6 h7 hown0 c1 f1 t0 t1 t2 hTB
   gi_wp2
   exact FIN.out
  | bad er p=>
   have HF:=hid (show Jb ps []=([],p,er) by
    obtain⟨rest,hrest⟩:=HPR.out;rw[<- hrest,FZ,List.append_assoc,NL _ _ h1.out.1];rfl)
   unfold ZD
   gi_wp2
   refine⟨Ak.alloc W _,fun Wb ht _=>?_⟩;have hta:Au (fun k=>k=M+1+1\/k=M+1) w4.heap.size W Wb:=(Au.alloc W _).trans ht;have hTB:Wb.heap[W.heap.size]? =F (.cells #[I J 0,Q ⟨#[]⟩,I J p] 287):=ht.heap (Wn W _) (fun hc=>by omega) rfl;replace h4:=Aj h4 hta (by omega);replace h5:=Aj h5 hta (by omega);replace h6:=Aj h6 hta (by omega);replace h7:=hta.below h7 (fun k hk=>by omega) (by omega) (by omega);have hWz:W.heap.size<=Wb.heap.size:=hta.size;have hTl:W.heap.size<Wb.heap.size:=(Gl hTB)
   have STR:=CallsIn.inRound l ((callsIn_wide (n:=0)).2 (Ac0 er Wb.drew ((hE.below (hN▸h7)).below (Bq _ _).drew)));have fin:∀ w5,Below Wb.heap.size Wb w5->w5.cell? ⟨W.heap.size,2,O⟩=F (I J p)/\Boxed w5 N 215 (Z O 0 0)/\Boxed w5 (N+1) 3 (I J 0)/\Boxed w5 (N+1+1) 27 (I J 0)/\Below N w w5/\W.heap.size<w5.heap.size/\Ak AH (fun k=>k=M+1+1\/k=M+1) N Wb w5:=fun w5 hb=>
    ⟨(EM (AW hTB hb)).2.2.1,Ab h4 hb,Ab h5 hb,Ab h6 hb,h7.trans (hb.mono (by omega)),Nat.lt_of_lt_of_le hTl hb.size,Ak.of_below hb⟩
   have FIN:=hid fin;have t2:=(EM hTB).2.2.1;have c1:=h4.cell;have f1:=h4.frozen;have c2:=h5.cell;have f2:=h5.frozen;have c3:=h6.cell;have f3:=h6.frozen;have hd1:W.heap.size≠N:=by omega
   have hd2:W.heap.size≠N+1:=by omega
   have hd3:W.heap.size≠N+1+1:=by omega
   clear fin h1 h2 h3 k1 k2 ht hta hTB h4 h5 h6 h7
   gi_wp2
   gi_region_with ((gi_at_call 149;refine STR.mono ?_;rintro e w5 ⟨rfl,hb⟩;obtain⟨e0,e1,e2,e3,e4,e5,e6⟩:=FIN.out w5 ⟨hb.os,hb.tape,hb.output,hb.size,hb.block⟩;have cc1:=e1.cell;have ff1:=e1.frozen;have cc2:=e2.cell;have ff2:=e2.frozen;have cc3:=e3.cell;have ff3:=e3.frozen))
   all_goals (gi_wp2;exact(by
    obtain⟨q1,q2,q3,q4⟩:=GL (C:=fun k=>k=M+1+1\/k=M+1) e1 e2 e3 (by omega) (by omega) (by omega) (Z O 0 0) (I J p) (I J er);exact⟨e6.trans q1,rfl,p,er,HF,q2,q3,q4,((e4.setCell (p:=⟨N,0,O⟩) (by simp) _).setCell (p:=⟨N+1,0,O⟩) (by simp) _).setCell (p:=⟨N+1+1,0,O⟩) (by simp;omega) _⟩))
 case done=>
  rintro D W hD ⟨v,ts,h1,h2,h3,k1,k2,h4,h5,h6,h7,h8⟩ hK;obtain⟨A,cap,rfl⟩:∃ A cap,v=Z A ts.length cap:=by
   rcases h3.2 with ⟨hv,h0⟩ | ⟨g,cap,cur,hv,_⟩
   ·exact⟨O,0,by rw[hv,h0]⟩
   ·exact⟨_,cap,hv⟩
  have c2:=h2.cell;have f2:=h2.frozen;have c3:=h4.cell;have f3:=h4.frozen;have c4:=h5.cell;have f4:=h5.frozen;have c5:=h6.cell;have f5:=h6.frozen;have HF:=hid (show Jb ps []=(ts,0,0) by rw[FZ,h1.out.1,h1.out.2];rfl);clear h1 k1 k2;have hne:M≠N:=by omega
  have hne1:M≠N+1:=by omega
  have hne2:M≠N+1+1:=by omega
  go_wp2;have hK':(((W.setCell ⟨N,0,O⟩ (Z A ts.length cap)).setCell ⟨N+1,0,O⟩ (I J 0)).setCell ⟨N+1+1,0,O⟩ (I J 0)).heap[D]? =F (.deferred (F [])):=(KeepsOthers.setCell _ _ _).same D _ ((KeepsOthers.setCell _ _ _).same D _ ((KeepsOthers.setCell W ⟨N,0,O⟩ _).same D _ hK rfl) rfl) rfl;refine⟨by simp,.inl ⟨_,_,rfl,run_takeDeferred hK',?_⟩⟩;have d1:=(AR (As (As (h4.set (Z A ts.length cap)) (show N≠N+1 by simp) (I J 0)) (show N≠N+1+1 by simp;omega) (I J 0)) hK' (.deferred O)).cell;have d2:=(AR (As ((As h5 (show N+1≠N by simp) (Z A ts.length cap)).set (I J 0)) (show N+1≠N+1+1 by simp) (I J 0)) hK' (.deferred O)).cell;have d3:=(AR ((As (As h6 (show N+1+1≠N by simp;omega) (Z A ts.length cap)) (show N+1+1≠N+1 by simp) (I J 0)).set (I J 0)) hK' (.deferred O)).cell;refine⟨.tuple #[Z A ts.length cap,I J 0,I J 0],by simp[results,Tryz.f109,go_sem,d1,d2,d3],?_⟩;rw[HF.out];refine⟨_,rfl,I2.sl (B:=M+1) (I2.keep h3 (fun j c hj=>?_)),h3.cap,?_,?_⟩
  ·refine(World.putObj_heap_other (fun e=>by subst e;rw[hK] at hj;cases hj)).trans ?_;exact(Bh _ ⟨N+1+1,0,O⟩ _ j (Wp hj h6 (by decide))).trans ((Bh _ ⟨N+1,0,O⟩ _ j (Wp hj h5 (by decide))).trans ((Bh W ⟨N,0,O⟩ _ j (Wp hj h4 (by decide))).trans hj))
  ·intro b o l c hv hl;rcases h3.2 with ⟨hv2,h0⟩ | ⟨g,cap2,cur,hv2,hg,_⟩
   ·rw[hv2] at hv;cases hv
   ·rw[hv2] at hv;injection hv with e1;injection e1 with e1;injection e1 with e1 _;rw[hN];omega
  ·rw[hN];exact CY (((h7.setCell (p:=⟨N,0,O⟩) (by simp) _).setCell (p:=⟨N+1,0,O⟩) (by simp) _).setCell (p:=⟨N+1+1,0,O⟩) (by simp;omega) _) hK' (by omega) (by omega) _
 case stop=>
  rintro D co pre W hD hpre ⟨rfl,p,e,hx,h3,h4,h5,h6⟩ hK;refine wpIn_wide.2 ?_;go_wp2;refine⟨by simp,.inl ⟨_,_,rfl,run_takeDeferred hK,?_⟩⟩;have d1:=(AR h3 hK (.deferred O)).cell;have d2:=(AR h4 hK (.deferred O)).cell;have d3:=(AR h5 hK (.deferred O)).cell;refine⟨.tuple #[Z O 0 0,I J p,I J e],by simp[results,Tryz.f109,go_sem,d1,d2,d3],?_⟩;rw[hx.out];refine⟨_,rfl,Ii.nil _,Q5,QU _,?_⟩;rw[hN];exact CY h6 hK (by omega) (by omega) _
theorem VO (s:ByteArray) (w:Y) (hs:s.size<=100000) (hT:BU w) (hE:H7 w):
  Calls Tryz.prog 109 #[Q s] w (QT (BP s.data.toList) w):=by
 unfold BP;cases hv:validD s.data.toList with
 | false=>exact V0 s w (by omega) hv hT
 | true=>
  rw[if_pos rfl];cases hp:(Ag s.data.toList).all Ac with
  | false=>exact RG s w (by omega) hv hp hT
  | true=>exact SN s w hs hv hp hT hE
end
section
theorem RT:∀ (ps:List QP) (acc:List UInt8),(DF ps acc).1.length<=acc.length+4*ps.length
 | [],acc=>by simp[DF]
 | .sign r z::t,acc=>by
  have h1:=RT t (acc++encodeRune r);have h2:=Lib.runeCells_le r;rw[<- Lib.byteCells_encodeRune,Lib.byteCells_length] at h2;replace h2:=h2.2;rw[List.length_append] at h1;show(DF t (acc++encodeRune r)).1.length<=_;simp only[List.length_cons];omega
 | .fin z::t,acc=>by show acc.length<=_;omega
 | .bad e::t,acc=>by show(0:Nat)<=_;omega
theorem Aai (s:ByteArray) (p:Int):(D1 s p).1.length<=4*(s.size+1):=by
 unfold D1;split
 ·split
  ·rename_i q hq;have h1:=RT (B1 s q (p.toNat+1)) [];have h2:=H4 s q (s.size+1 - (p.toNat+1)) (p.toNat+1);unfold B1 at h1 |-;simp only[List.length_nil] at h1;omega
  ·simp
 ·simp
theorem TL (l:List UInt8):(Dt l).length<=l.length:=by
 unfold Dt;have:=(List.dropWhile_sublist (·==(32:UInt8)) (l:=l.reverse)).length_le;rw[List.length_reverse] at this |-;exact this
theorem JG {l:List UInt8} {p d k q0 d':Nat} {t:List UInt8} (h:CM l p d=.ok k t q0 d'):t.length<=l.length:=by
 unfold CM at h;split at h
 ·injection h with _ h;rw[<- h];refine Nat.le_trans (TL _) ?_;rw[List.length_drop,List.length_take];omega
 ·cases h
theorem Aa1 {l:List UInt8} {p d k q0 d':Nat} {t:List UInt8} (h:Dx l p d=.ok k t q0 d'):t.length<=4*(l.length+1):=by
 unfold Dx Ql at h;split at h
 ·unfold Ht at h;split at h
  ·split at h
   ·injection h with _ h;rw[<- h];have:=Aai ⟨l.toArray⟩ p;rw[size_mk] at this;exact this
   ·cases h
  ·cases h
 ·split at h
  ·unfold Jv at h;split at h
   ·injection h with _ h;rw[<- h];unfold nameOf;have:=(List.takeWhile_sublist Cd (l:=l.drop (p+1))).length_le;rw[List.length_drop] at this;omega
   ·cases h
  ·split at h
   ·unfold Hw at h;split at h
    ·split at h
     ·cases h
     ·injection h with _ h;rw[<- h];simp
    ·have:=JG h;omega
   ·split at h
    ·unfold Fp at h;split at h
     ·injection h with _ h;rw[<- h];simp
     ·have:=JG h;omega
    ·split at h
     ·injection h with _ h;rw[<- h];simp
     ·split at h
      ·unfold Eu at h;split at h
       ·cases h
       ·split at h
        ·injection h with _ h;rw[<- h];simp
        ·injection h with _ h;rw[<- h];simp
      ·have:=JG h;omega
theorem Lu {l:List UInt8}:∀ (f p d:Nat),∀ x∈(DI l f p d).map J7,x.str.length<=4*(l.length+1)
 | 0,p,d=>by intro x hx;simp[DI] at hx
 | f+1,p,d=>by
  rcases Nat.lt_or_ge p l.length with hp | hp
  ·rw[Jy hp];split
   ·exact Lu f (p+1) d
   ·split
    ·intro x hx;simp at hx
    ·cases ho:Dx l p d with
     | ok k t q d'=>
      intro x hx;rcases List.mem_cons.1 hx with rfl | hx
      ·exact Aa1 ho
      ·exact Lu f q d' x hx
     | bad e=>
      intro x hx;rw[List.map_cons,List.map_nil,List.mem_singleton] at hx;subst hx;show(0:Nat)<=_;omega
  ·rw[MP hp];intro x hx;simp at hx
theorem R6 {n:Nat}:∀ {ts:List Tk} {last:Int} {d:Nat},ZO n last d ts->∀ t∈ts,t.at_<n
 | [],_,_,_=>by intro t ht;cases ht
 | t::r,last,d,h=>by
  intro u hu;obtain⟨_,h2,_,_,_,d',_,_,_,h3⟩:=h;rcases List.mem_cons.1 hu with rfl | hu
  ·exact h2
  ·exact R6 h3 u hu
theorem He (l:List UInt8):(BP l).1.length<=l.length/\(∀ t∈(BP l).1,t.at_<l.length/\t.str.length<=4*(l.length+1)):=by
 unfold BP;by_cases hv:validD l=true
 ·rw[if_pos hv];by_cases hp:(Ag l).all Ac=true
  ·rw[if_pos hp,FZ];cases hb:DK (BH l 0 0) with
   | some x=>exact⟨by simp,fun t ht=>by simp at ht⟩
   | none=>
    simp only[List.nil_append]
    have h1:=JV hv (l.length+1 - 0) 0 0;have h2:=I5 hv (l.length+1 - 0) 0 0 (-1) (by omega) hb;refine⟨by rw[List.length_map];exact h1,fun t ht=>⟨R6 h2 t ht,Lu _ _ _ t ht⟩⟩
  ·rw[if_neg hp];exact⟨by simp,fun t ht=>by simp at ht⟩
 ·rw[if_neg hv];exact⟨by simp,fun t ht=>by simp at ht⟩
theorem Abo {α:Type} (l:List α) (i:Nat) (d:α) (h:i<l.length):l.getD i d∈l:=by
 rw[List.getD,List.getElem?_eq_getElem h];exact List.getElem_mem h
structure GdL (x:En):Prop where
 g:GdN x
 len:x.l.length<=1000000
 small:∀ t∈x.l,t.str.length<=1000000
theorem ZC {x:IM} (hs:x.s.length<=100000) (h0:0<=x.ind) (h1:x.ind<=8000) (hne:(BP x.s).1.map LX≠[]):GdL ⟨x.no,x.ind,(BP x.s).1.map LX⟩:=by
 obtain⟨b1,b2⟩:=He x.s;have hb:∀ t∈(BP x.s).1.map LX,0<=t.at_/\t.at_<=100000/\t.str.length<=1000000:=fun t ht=>by
  obtain⟨u,hu,rfl⟩:=List.mem_map.1 ht;have:=b2 u hu;exact⟨by show(0:Int)<=(u.at_:Int);omega,by show(u.at_:Int)<=100000;omega,by show u.str.length<=1000000;omega⟩
 have hl:0<((BP x.s).1.map LX).length:=List.length_pos_iff.2 hne;have h00:=hb _ (Abo _ 0 WK hl);exact⟨⟨hne,by show -10000000<=x.ind - (((BP x.s).1.map LX).getD 0 WK).at_;omega,by show x.ind - (((BP x.s).1.map LX).getD 0 WK).at_<=10000000;omega,fun t ht=>by have:=hb t ht;omega⟩,by rw[List.length_map];show(BP x.s).1.length<=1000000;omega,fun t ht=>(hb t ht).2.2⟩
theorem M0:∀ {l:List IM} {es:List En},DW l=.ok es->(∀ x∈l,x.s.length<=100000/\0<=x.ind/\x.ind<=8000)->(∀ y∈es,GdL y)/\E4 es<=(l.map fun x=>x.s.length+1).sum
 | [],es,h,_=>by
  rw[DW] at h;injection h with h;subst h;exact⟨(fun x hx=>by cases hx),Nat.le_refl _⟩
 | x::r,es,h,hx=>by
  have hfull:=(NR h).2.1;rw[DW] at h;split at h
  ·cases h
  ·cases hr:DW r with
   | bad no e=>rw[hr] at h;cases h
   | ok es'=>
    rw[hr] at h;injection h with h;subst h;obtain⟨g1,g2⟩:=M0 hr (fun y hy=>hx y (List.mem_cons_of_mem _ hy));have h0:=hx x List.mem_cons_self;refine⟨fun y hy=>?_,?_⟩
    ·rcases List.mem_cons.1 hy with rfl | hy
     ·exact ZC h0.1 h0.2.1 h0.2.2 (hfull _ List.mem_cons_self)
     ·exact g1 y hy
    ·rw[AG,List.map_cons,List.sum_cons];have:=(He x.s).1;have e:((Du x.s).1).length=(BP x.s).1.length:=List.length_map _;show((Du x.s).1).length+1+E4 es'<=_;omega
end
section
set_option maxHeartbeats 16000000
set_option maxRecDepth 100000
def tkA (A:Option Addr) (l:List C8):Aw:=⟨fun Fz w=>Hu w Fz A l,fun Fz w w' h x=>x.to fun b o v hb hv=>⟨(World.cell?_of_block (w:=w) (a:=⟨b,o,O⟩) (h b hb)).trans hv,hb⟩⟩
theorem WB (s:ByteArray) (w:Y) (hs:s.size<=100000) (hT:BU w) (hE:Ea.ErrC w):
  Calls Tryz.prog 109 #[Q s] w fun e w'=>∃ q:Option Addr×Nat,e=.returned (.tuple #[Z q.1 ((BP s.data.toList).1.map LX).length q.2,I J (BP s.data.toList).2.1,I J (BP s.data.toList).2.2])/\Fr w w' [tkA q.1 ((BP s.data.toList).1.map LX),pr (((BP s.data.toList).1.map LX).length<=q.2)]:=by
 refine(VO s w hs hT hE).mono ?_;rintro e w' ⟨v,he,⟨A,c,rfl,ht⟩,hc,hn,hb⟩;refine⟨(A,c),by rw[List.length_map];exact he,hb,fun b=>w.heap.size<=b/\b<w'.heap.size,fun j t hj=>?_,fun b h=>h,fun _=>False,by rw[List.length_map];exact hc A _ c rfl,fun b h=>h.elim,trivial⟩;rw[List.getElem?_map] at hj;cases hg:(BP s.data.toList).1[j]? with
 | none=>rw[hg] at hj;cases hj
 | some u=>
  rw[hg] at hj;cases hj;have hlt:=(List.getElem?_eq_some_iff.1 hg).1;obtain⟨b,o,e1,hlt2,c0,c1,c2⟩:=ht j hlt;rw[List.getD,hg] at c0 c1 c2;refine⟨b,o,e1,⟨hn b o _ c (by rw[e1]) (by omega),hlt2⟩,fun i v hv=>?_⟩
  match i,hv with
  | 0,hv=>cases hv;exact c0
  | 1,hv=>cases hv;exact c1
  | 2,hv=>cases hv;exact c2
def BM (x:Sc):IM:=⟨x.kind,x.num,x.str.data.toList⟩
theorem Al9:El Tryz.prog 149 219 3 40:=⟨by kernel_rfl,by kernel_rfl,by decide,by decide⟩
def tkP (x:D8):Aw:=tkA x.2.1 x.1.l
def ofS (evs:List D8) (z:Option Addr×Nat):List Aw:=[NQ (Z z.1 evs.length z.2) evs.length (evs.flatMap Oi),star (evs.map tkP),pr (∀ x∈evs,x.1.l.length<=x.2.2)]
def lnE (x:IM):En:=⟨x.no,x.ind,(Du x.s).1⟩
theorem Tj:∀ l:List IM,(∀ x∈l,(Du x.s).2=0)->DW l=.ok (l.map lnE)
 | [],_=>rfl
 | x::r,h=>by
  rw[DW,if_neg (fun h2=>h2 (h x (by simp))),Tj r (fun y hy=>h y (by simp[hy]))];rfl
theorem Ado:∀ (l:List IM) (k:Nat) (x:IM),l[k]? =F x->(∀ y∈l.take k,(Du y.s).2=0)->(Du x.s).2≠0->DW l=.bad x.no (Du x.s).2
 | y::r,0,x,h,_,hb=>by cases h;rw[DW,if_pos hb]
 | y::r,k+1,x,h,hg,hb=>by
  rw[DW,if_neg (fun h2=>h2 (hg y (by simp))),Ado r k x h (fun z hz=>hg z (by simp[hz])) hb];rfl
def ofM (r:Za) (z:List D8×Option Addr×Nat):List Aw:=match r with
 | .ok es=>pr (Bv z.1=es)::ofS z.1 z.2
 | .bad _ _=>[]
def ofV (r:Za) (z:List D8×Option Addr×Nat):Value:=match r with
 | .ok _=>.tuple #[Z z.2.1 z.1.length z.2.2,.nilIface]
 | .bad no e=>.tuple #[Z O 0 0,Oq no e]
theorem Ab5 {l:List IM} {k:Nat} {x:IM} (h:l[k]? =F x) (hx:Kq x=false):LF l=.bad 0 2:=by
 unfold LF;rw[if_neg];rw[Bool.not_eq_true,List.all_eq_false];exact⟨x,List.mem_of_getElem? h,by rw[hx];simp⟩
theorem Af1 (S:Nat->Prop) (A:Option Addr) (c:Nat) (xs:List Sc) (w:Y) (hx:GZ w S A xs) (hl:xs.length<=1000000) (hs:∀ x∈xs,x.str.size<=100000) (hT:BU w) (hE:Ea.ErrC w):
  Calls Tryz.prog 71 #[Z A xs.length c] w fun e w'=>∃ z,e=.returned (ofV (LF (xs.map BM)) z)/\Fr w w' (ofM (LF (xs.map BM)) z):=by
 refine V.enter _ Tryz.func71 (Mem.start (C:=A5) w) ?_
 repeat refine W ?_
 refine V.loop (fun i=>i<=xs.length/\∀ y∈(xs.map BM).take i,Kq y=true) (fun i=>Mem A5 w []) (fun i=>[(14,I J i),(13,I J xs.length),(12,Z A xs.length c),(0,Z A xs.length c)]) (xs.length - ·) 0 ⟨Nat.zero_le _,fun y hy=>by simp at hy⟩ (fun w h=>h.sel) ⟨rfl,rfl,rfl,rfl,trivial⟩ ?_;rintro i ⟨hi,hok⟩
 repeat refine W ?_
 refine V.ifp (fun hlt=>?_) (fun hge=>?_)
 ·have hlt:i<xs.length:=by omega
  obtain⟨x,hxi⟩:∃ x,xs[i]? =F x:=⟨_,List.getElem?_eq_getElem hlt⟩
  obtain⟨b,o,rfl,_,hc⟩:=hx i x hxi;have hxm:(xs.map BM)[i]? =F (BM x):=by rw[List.getElem?_map,hxi];rfl
  obtain⟨xk,xn,xs0⟩:=x
  repeat refine W ?_
  refine R.ix hlt ?_;refine R.lo (m:=3) 0 hc ?_
  repeat (first | refine W ?_ | refine R.new fun _ _=>?_)
  by_cases h1:xn<0
  ·rw[Ab5 hxm (by unfold Kq BM;simp;omega)];refine R.yes (p:=xn<0) 21 h1 ?_
   repeat refine W ?_
   refine V.end fun w' h'=>?_;exact⟨([],O,0),rfl,(h'.sel:Mem A5 w [] w').to_fr⟩
  ·refine R.no (p:=xn<0) 21 h1 ?_
   repeat refine W ?_
   refine V.ifp (fun h2=>?_) (fun h2=>?_)
   ·rw[Ab5 hxm (by unfold Kq BM;simp;omega)]
    repeat refine W ?_
    refine V.end fun w' h'=>?_;exact⟨([],O,0),rfl,(h'.sel:Mem A5 w [] w').to_fr⟩
   ·repeat refine W ?_
    refine V.again (i+1) rfl ⟨hlt,fun y hy=>?_⟩;rw[List.take_add_one,hxm] at hy;rcases List.mem_append.1 hy with h | h
    ·exact hok y h
    ·obtain rfl:y=BM ⟨xk,xn,xs0⟩:=by simpa using h
     unfold Kq BM;simp;omega
 ·have he:i=xs.length:=by omega
  subst he;have hB:LF (xs.map BM)=DW (xs.map BM):=if_pos (List.all_eq_true.2 fun y hy=>hok y (by rw[List.take_of_length_le (by simp)];exact hy));rw[hB]
  repeat refine W ?_
  refine V.loop (ι:=List D8×Option Addr×Nat) (fun z=>z.1.length<=xs.length/\Bv z.1=((xs.map BM).take z.1.length).map lnE/\∀ y∈(xs.map BM).take z.1.length,(Du y.s).2=0) (fun z=>Mem A5 w (ofS z.1 z.2)) (fun z=>[(31,I J z.1.length),(30,I J xs.length),(29,Z A xs.length c),(6,Z z.2.1 z.1.length z.2.2)]) (xs.length - ·.1.length) ([],O,0) ⟨Nat.zero_le _,rfl,fun y hy=>by simp at hy⟩ (fun w h=>?_) ⟨rfl,rfl,rfl,rfl,trivial⟩ ?_
  ·have h0:Mem A5 _ [] w:=h.sel;exact((Mem.toStar (B:=[]) (h0.pr (p:=∀ x∈([]:List D8),x.1.l.length<=x.2.2) (fun x hx=>by cases hx))).ownNil 219 3).sel
  rintro⟨evs,z⟩ ⟨hi2,hev,hgood⟩;dsimp only at hi2 hev hgood;unfold ofS;dsimp only
  repeat refine W ?_
  refine V.ifp (fun hlt=>?_) (fun hge=>?_)
  ·have hlt:evs.length<xs.length:=by omega
   obtain⟨x,hxi⟩:∃ x,xs[evs.length]? =F x:=⟨_,List.getElem?_eq_getElem hlt⟩
   obtain⟨b,o,rfl,_,hc⟩:=hx _ x hxi;have hxs:=hs x (List.mem_of_getElem? hxi);have hxm:(xs.map BM)[evs.length]? =F (BM x):=by rw[List.getElem?_map,hxi];rfl
   obtain⟨xk,xn,xs0⟩:=x;have hrd:=fun w' (h:Below w.heap.size w w')=>WB xs0 w' hxs (hT.below h) (hE.to (B4.of_below (C:=A5) h) (fun e=>e));have hone:Du (BM ⟨xk,xn,xs0⟩).s=((BP xs0.data.toList).1.map LX,if (BP xs0.data.toList).2.2=0/\(BP xs0.data.toList).1=[] then 93 else ((BP xs0.data.toList).2.2:Int)):=rfl;have hbad:=Ado (xs.map BM) evs.length _ hxm hgood;rw[hone] at hbad;have hlne:lnE (BM ⟨xk,xn,xs0⟩)=⟨xk,xn,(BP xs0.data.toList).1.map LX⟩:=rfl;obtain⟨⟨l0,p0,e0⟩,hr⟩:∃ r,BP xs0.data.toList=r:=⟨_,rfl⟩
   rw[hr] at hrd hone hbad hlne;dsimp only at hrd hone hbad hlne;have hnil:l0=[]↔l0.map LX=[]:=by simp
   obtain⟨lt,hlt2⟩:∃ z,l0.map LX=z:=⟨_,rfl⟩
   rw[hlt2] at hrd hone hlne hnil;have hce:(if e0=0/\l0=[] then (93:Int) else (e0:Int))=if e0=0/\lt=[] then 93 else (e0:Int):=by simp only[hnil]
   rw[hce] at hone hbad;clear hlt2 hnil hr hce
   repeat refine W ?_
   refine R.ix hlt ?_;refine R.lo (m:=3) 0 hc ?_
   repeat (first | refine W ?_ | refine R.new fun _ _=>?_)
   refine R.cf (fun w' h'=>hrd w' h'.1.below) (fun q=>?_)
   repeat refine W ?_
   by_cases he:e0=0
   ·refine R.re 44 (v:=.bool ((e0:Int)==0)) (v':=.bool true) (by simp[he]) ?_;subst he;by_cases hl0:lt=[]
    ·subst hl0;rw[if_pos ⟨rfl,rfl⟩] at hbad;rw[hbad (by decide)]
     repeat refine W ?_
     refine V.end fun w' h'=>?_;exact⟨([],O,0),rfl,(h'.sel:Mem A5 w [] w').to_fr⟩
    ·have hll:=List.length_pos_iff.2 hl0;rw[if_neg (fun h=>hl0 h.2)] at hone
     repeat refine W ?_
     refine V.re 48 (v:=.bool ((lt.length:Int)==0)) (v':=.bool false) (by simp;exact hl0) ?_
     repeat refine W ?_
     refine R.bs (m:=1) (cs:=Oi (⟨xk,xn,lt⟩,q)) (bt:=219) (fun bk hbk=>?_);refine R.app Al9 (k:=evs.length) (m:=1) (xs:=evs.flatMap Oi) (news:=Oi (⟨xk,xn,lt⟩,q)) (fun w' h'=>(Cs.of_blk (h'.blk (by repeat (first | exact List.Mem.head _ | apply List.Mem.tail)))).add) (by omega) (fun A2 c2=>?_)
     repeat refine W ?_
     refine V.prop (p:=lt.length<=q.2) (fun hcq=>?_);refine V.prop (p:=∀ x∈evs,x.1.l.length<=x.2.2) (fun hcp=>?_);refine V.again (evs++[(⟨xk,xn,lt⟩,q)],A2,c2) rfl ⟨by rw[List.length_append];exact hlt,?_,?_⟩ (by dsimp only;rw[List.length_append];show _ - (_+1)<_;omega) (by dsimp only;rw[List.length_append];exact⟨rfl,rfl,rfl,rfl,trivial⟩) (fun w' h'=>?_)
     ·dsimp only
      rw[show Bv (evs++[(⟨xk,xn,lt⟩,q)])=Bv evs++[⟨xk,xn,lt⟩] by simp,List.length_append,List.length_singleton,List.take_add_one,hxm,hev,List.map_append];show _=_++[lnE (BM ⟨xk,xn,xs0⟩)]
      rw[hlne]
     ·dsimp only
      rw[List.length_append,List.length_singleton,List.take_add_one,hxm];intro y hy;rcases List.mem_append.1 hy with h | h
      ·exact hgood y h
      ·obtain rfl:y=BM ⟨xk,xn,xs0⟩:=by simpa using h
       rw[hone];rfl
     ·have g1:Mem A5 w (star (evs.map tkP)::tkP (⟨xk,xn,lt⟩,q)::NQ (Z A2 (evs.length+1) c2) (evs.length+1) (evs.flatMap Oi++Oi (⟨xk,xn,lt⟩,q))::[]) w':=h'.sel;have g2:=(FK (B:=[tkP (⟨xk,xn,lt⟩,q)]) g1).pr (p:=∀ x∈evs++[((⟨xk,xn,lt⟩,q):D8)],x.1.l.length<=x.2.2) (fun x hx=>by
       rcases List.mem_append.1 hx with h | h
       ·exact hcp x h
       ·obtain rfl:=List.mem_singleton.1 h;exact hcq)
      dsimp only
      rw[List.length_append,List.length_singleton,List.map_append,List.flatMap_append];exact g2.sel
   ·rw[if_neg (fun h=>he h.1)] at hbad;rw[hbad (by omega)];refine R.re 44 (v:=.bool ((e0:Int)==0)) (v':=.bool false) (by simp[he]) ?_
    repeat refine W ?_
    refine V.re 50 (v:=.bool ((e0:Int) !=0)) (v':=.bool true) (by simp[he]) ?_
    repeat refine W ?_
    refine V.end fun w' h'=>?_;exact⟨([],O,0),rfl,(h'.sel:Mem A5 w [] w').to_fr⟩
  ·have he:evs.length=xs.length:=by omega
   have hall:(xs.map BM).take evs.length=xs.map BM:=List.take_of_length_le (by simp;omega);rw[hall] at hev hgood;rw[Tj _ hgood]
   repeat refine W ?_
   refine V.end fun w' h'=>?_;exact⟨(evs,z.1,z.2),rfl,(Mem.sel (h'.pr hev):Mem A5 w (ofM (.ok ((xs.map BM).map lnE)) (evs,z.1,z.2)) w').to_fr⟩
end
end Go.Proofs.YtdpppepmkeinaaaGreatDoor
