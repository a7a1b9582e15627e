/- What is proved: a part of the walk of the program and of its plain laws; no condition beside those that each theorem names. -/
import Derived.Test.YtdpppepmkeinaaaGreatDoorYa
import Derived.Test.YtdpppepmkeinaaaGreatDoorYk
import Derived.Stop.RegionWithIn
import GoSem.Core.Lib
import Derived.RowKit
import Derived.Laws.Strings
import Derived.Lib.ItoaNum
namespace Go.Proofs.YtdpppepmkeinaaaGreatDoor
open Go Go.RowKit Go.Lib
open Go.Value renaming int->I,string->Q,slice->Z
open Go.IntKind renaming i64->J
open Option renaming none->O,some->F
open _root_.Go renaming World->Y
set_option linter.unusedSimpArgs false
set_option linter.unusedVariables false
set_option linter.unusedSectionVars false
section
set_option maxRecDepth 100000
set_option maxHeartbeats 4000000
theorem ZU (s:ByteArray):(⟨(Lib.trimLeftB s.data.toList 32).toArray⟩:ByteArray).size<=s.size:=by
 rw[size_mk,Lib.size_eq];exact Po _
theorem Adl (s:ByteArray) (no:Int) (w:Y) (hs:s.size<=1000000):
  Calls Tryz.prog 70 #[.agg #[Q s,I J no]] w fun e w'=>
   e=.returned (.tuple #[.agg #[I J no,I J ((s.size:Int) - (AK s.data.toList).length),Q ⟨(Dt (AK s.data.toList)).toArray⟩],.bool (AO s.data.toList)])/\Below w.heap.size w w':=by
 have hX:=Wn w (.cells #[Q s,I J no] 147);have hbA:Below w.heap.size w (w.alloc (.cells #[Q s,I J no] 147)):=(Bq _ w).alloc Nr _;have hbB:=(Bq _ (w.alloc (.cells #[Q s,I J no] 147))).alloc Nr (.cells #[I J 0,I J 0,Q ⟨#[]⟩] 144);have hY:=Wn (w.alloc (.cells #[Q s,I J no] 147)) (.cells #[I J 0,I J 0,Q ⟨#[]⟩] 144);rw[World.size_alloc] at hY;have hTL:=fun wx=>Tryz.strings_TrimLeft_one s 32 (by decide) wx;obtain⟨L,hL⟩:∃ L:ByteArray,(⟨(Lib.trimLeftB s.data.toList 32).toArray⟩:ByteArray)=L:=⟨_,rfl⟩
 have hLs:L.size<=s.size:=by rw[<- hL];exact ZU s
 have HLd:=hid (show L.data.toList=AK s.data.toList by rw[<- hL];rfl);rw[hL] at hTL;have hTR:=fun wx=>Tryz.strings_TrimRight_one L 32 (by decide) wx (by omega);obtain⟨T,hT⟩:∃ T:ByteArray,(⟨(Lib.trimRightB L.data.toList 32).toArray⟩:ByteArray)=T:=⟨_,rfl⟩
 have HTd:=hid (show(⟨(Dt (AK s.data.toList)).toArray⟩:ByteArray)=T by rw[<- hT,HLd.out];rfl);rw[hT] at hTR;have hX1:=AW hX hbB;obtain⟨W1,hW1⟩:∃ z,(w.alloc (.cells #[Q s,I J no] 147)).alloc (.cells #[I J 0,I J 0,Q ⟨#[]⟩] 144)=z:=⟨_,rfl⟩
 have hB1:Below w.heap.size w W1:=by rw[<- hW1];exact hbA.trans (hbB.mono (by simp))
 rw[hW1] at hX1 hY;obtain⟨n,hn⟩:∃ n,s.size=n:=⟨_,rfl⟩
 obtain⟨m,hm⟩:∃ m,L.size=m:=⟨_,rfl⟩
 have HN:=hid (Ai hn (Ai hm (show(AK s.data.toList).length=m by rw[<- HLd.out,<- Lib.size_eq,hm])));have hmn:m<=n:=by omega
 have hn6:n<=1000000:=by omega
 have hXY:=hid (Ai hX1 (Ai hY hB1));have hsub:IntKind.i64.wrap ((n:Int) - (m:Int))=(n:Int) - (m:Int):=by go_arith
 have hsz1:W1.heap.size=w.heap.size+1+1:=by rw[<- hW1];simp
 clear hX hbA hbB hL hT hB1 hX1 hY hLs hs;obtain⟨x0,x1,_,_⟩:=Aml hXY.out.1;have HS1:=hid hsz1;clear hsz1;go_enter Tryz.func70,Tryz.ntmps70;go_wp2_with fail;refine(hTL _).mono ?_;rintro e w1 ⟨rfl,hw1⟩;subst w1;have HSS:=hid (fun(X:Y) (hT:Below W1.heap.size W1 X)=>Ai (cell_below x0 hT) (cell_below x1 hT));have hd4:Below W1.heap.size W1 W1.drew:=(Bq _ _).drew;go_wp2;refine wp_region_noPanic ?_;refine wp_region_held_drew (S:=(fun w'=>w'.cell? ⟨w.heap.size,0,O⟩=F (Q s)/\w'.cell? ⟨w.heap.size,1,O⟩=F (I J no))) (by kernel_rfl) (HSS.out _ hd4) (fun hHeld=>?_);refine wI 0 hHeld ?_;try simp only[gS]
 refine wI 1 hHeld ?_;try simp only[gS]
 refine wI 2 hHeld ?_;try simp only[gS]
 refine wI 3 hHeld ?_;try simp only[gS]
 refine wI 4 hHeld ?_;try simp only[gS]
 refine wI 5 hHeld ?_;try simp only[gS]
 refine wI 6 hHeld ?_;try simp only[gS]
 refine wI 7 hHeld ?_;try simp only[gS]
 refine wI 8 hHeld ?_;try simp only[gS]
 refine wI 9 hHeld ?_;try simp only[gS]
 have hNN:(W1.alloc (.cells #[I J 0,I J 0,Q ⟨#[]⟩] 144)).drew.heap[W1.heap.size]? =F (.cells #[I J 0,I J 0,Q ⟨#[]⟩] 144):=Wn W1 _;refine wpAnyH_ready (rs:=[10,12]) (by kernel_rfl) (by simp) ?_;refine AllReadyH.cons rfl (fun K hK=>?goA) (AllReadyH.cons rfl (fun K hK=>?goB) AllReadyH.nil)
 case' goA=>
  go_simp;refine(hTR _).mono ?_;rintro e w5 ⟨rfl,hw5⟩;subst w5;refine hK.out _ _ (HSS.out _ hd4) (fun hHeld2=>?_);clear hK K hHeld;have hHeld:=hHeld2;clear hHeld2;try simp only[gS]
  refine wI 11 hHeld ?_;try simp only[gS]
  refine wB 12 rfl (fun K hK=>?_);go_simp;refine hK.out _ _ (HSS.out _ (((Bq _ W1).alloc Nr _).drew)) (fun hHeld2=>?_);clear hK K hHeld;have hHeld:=hHeld2;clear hHeld2;try simp only[gS]
  refine wB 13 rfl (fun K hK=>?_);refine KJ (by rfl) _ _ _ (by rfl) W1.heap.size #[I J no,I J ((n:Int) - (m:Int)),Q T] (by rfl) (by rfl) _ _ hNN (by kernel_rfl) (by rfl) (by simp[Value.oneCell']) ?_;refine hK.out _ _ (HSS.out _ (GR (((Bq _ W1).alloc Nr _).drew) Nr _)) (fun hHeld2=>?_);clear hK K hHeld;have hHeld:=hHeld2;clear hHeld2;try simp only[gS]
  refine wpAnyH_done (by kernel_rfl) ?_ _;refine NoPanic.normal ?_
 case' goB=>
  go_simp;refine hK.out _ _ (HSS.out _ (((Bq _ W1).alloc Nr _).drew)) (fun hHeld2=>?_);clear hK K hHeld;have hHeld:=hHeld2;clear hHeld2;try simp only[gS]
  refine wB 10 rfl (fun K hK=>?_);go_simp;refine(hTR _).mono ?_;rintro e w5 ⟨rfl,hw5⟩;subst w5;refine hK.out _ _ (HSS.out _ (((Bq _ W1).alloc Nr _).drew)) (fun hHeld2=>?_);clear hK K hHeld;have hHeld:=hHeld2;clear hHeld2;try simp only[gS]
  refine wI 11 hHeld ?_;try simp only[gS]
  refine wB 13 rfl (fun K hK=>?_);refine KJ (by rfl) _ _ _ (by rfl) W1.heap.size #[I J no,I J ((n:Int) - (m:Int)),Q T] (by rfl) (by rfl) _ _ hNN (by kernel_rfl) (by rfl) (by simp[Value.oneCell']) ?_;refine hK.out _ _ (HSS.out _ (GR (((Bq _ W1).alloc Nr _).drew) Nr _)) (fun hHeld2=>?_);clear hK K hHeld;have hHeld:=hHeld2;clear hHeld2;try simp only[gS]
  refine wpAnyH_done (by kernel_rfl) ?_ _;refine NoPanic.normal ?_
 all_goals
  have hbW:Below W1.heap.size W1 ((W1.alloc (.cells #[I J 0,I J 0,Q ⟨#[]⟩] 144)).drew.setRow W1.heap.size #[I J no,I J ((n:Int) - (m:Int)),Q T]):=GR (((Bq _ W1).alloc Nr _).drew) Nr _;have hL6:=setRow_heap _ _ _ #[I J no,I J ((n:Int) - (m:Int)),Q T] _ _ hNN;have hR6:=AW hXY.out.2.1 hbW;have hB6:=hXY.out.2.2.trans (hbW.mono hXY.out.2.2.size);obtain⟨w6,hw6⟩:∃ z,(W1.alloc (.cells #[I J 0,I J 0,Q ⟨#[]⟩] 144)).drew.setRow W1.heap.size #[I J no,I J ((n:Int) - (m:Int)),Q T]=z:=⟨_,rfl⟩
  rw[hw6] at hL6 hR6 hB6 |-;have HB6:=hid hB6;have HR6:=hid hR6;obtain⟨y0,y1,y2,_⟩:=EM hL6;have hNl:w.heap.size+1≠W1.heap.size:=by have:=HS1.out;omega
  clear hHeld hTR hNN hbW hw6 hW1 hL6 hR6 hB6 x0 x1 hd4 HSS hXY hTL;have hN3:=hid (fun(X:Y) (hT:Au (fun k=>k=w.heap.size+1) w.heap.size w6 X)=>Ai (Au.cell hT y0 (Ne.symm hNl)) (Ai (Au.cell hT y1 (Ne.symm hNl)) (Au.cell hT y2 (Ne.symm hNl))));have hd6:Au (fun k=>k=w.heap.size+1) w.heap.size w6 w6.drew:=Au.of_below (Bq _ _).drew;have hR6d:w6.drew.heap[w.heap.size+1]? =F (.cells #[I J 0,I J 0,Q ⟨#[]⟩] 144):=HR6.out;by_cases hz:0<m
  ·have hz1:0<L.size:=by omega
   have he1:=AY hz1;have hg:=DB L 0 hz1;obtain⟨c,hc⟩:∃ c,L[0]=c:=⟨_,rfl⟩
   rw[hc] at hg;have hee:L.data.toList.isEmpty=false:=by rw[<- Lib.toList_data];exact he1
   have HF:=hid (show AO s.data.toList=(c !=35) by unfold AO;rw[<- HLd.out,hee,hg];rfl);clear hg hee;obtain⟨bq,hbq⟩:∃ z,((c.toNat:Int) !=35)=z:=⟨_,rfl⟩
   have HQ:=hid (show bq=(c !=35) by rw[<- hbq,Bool.eq_iff_iff];simp only[bne_iff_ne,ne_eq];exact not_congr ⟨fun e=>UInt8.toNat_inj.1 (by show c.toNat=35;omega),fun e=>by rw[e];rfl⟩);go_wp2;refine wp_region_noPanic ?_;refine wp_region_held_drew (S:=(fun w'=>w'.cell? ⟨W1.heap.size,0,O⟩=F (I J no)/\w'.cell? ⟨W1.heap.size,1,O⟩=F (I J ((n:Int) - (m:Int)))/\w'.cell? ⟨W1.heap.size,2,O⟩=F (Q T))) (by kernel_rfl) (hN3.out _ hd6) (fun hHeld=>?_);refine wI 0 hHeld ?_;try simp only[gS]
   refine wI 1 hHeld ?_;try simp only[gS]
   refine wI 2 hHeld ?_;try simp only[gS]
   refine wI 3 hHeld ?_;try simp only[gS]
   refine wI 4 hHeld ?_;try simp only[gS]
   refine wI 5 hHeld ?_;try simp only[gS]
   refine wI 6 hHeld ?_;try simp only[gS]
   refine wI 7 hHeld ?_;try simp only[gS]
   refine wB 8 rfl (fun K hK=>?_);refine KJ (by rfl) _ _ _ (by rfl) (w.heap.size+1) #[I J no,I J ((n:Int) - (m:Int)),Q T] (by rfl) (by rfl) _ _ hR6d (by kernel_rfl) (by rfl) (by simp[Value.oneCell']) ?_;refine hK.out _ _ (hN3.out _ (hd6.trans (Au.setRow _ _ _ rfl))) (fun hHeld2=>?_);clear hK K hHeld;have hHeld:=hHeld2;clear hHeld2;try simp only[gS]
   refine wI 9 hHeld ?_;try simp only[gS]
   refine wpAnyH_done (by kernel_rfl) ?_ _;refine NoPanic.normal ?_;have hZ:=setRow_heap _ _ _ #[I J no,I J ((n:Int) - (m:Int)),Q T] _ _ hR6d;obtain⟨q0,q1,q2,_⟩:=EM hZ;try go_wp2
   refine bodyPost_ret (v:=.tuple #[.agg #[I J no,I J ((n:Int) - (m:Int)),Q T],.bool bq]) (by simp[results,Tryz.results70,go_sem,q0,q1,q2]) rfl ?_;refine⟨by rw[HQ.out,HF.out,HN.out.1,HN.out.2.2,HTd.out],?_⟩;exact GR ((HB6.out).drew) (by omega) _
  ·have hz1:¬0<L.size:=by omega
   have he1:=Bn hz1;have hee:L.data.toList.isEmpty=true:=by rw[<- Lib.toList_data];exact he1
   have HF:=hid (show AO s.data.toList=false by unfold AO;rw[<- HLd.out,hee];rfl);clear hee;go_wp2;refine wp_region_noPanic ?_;refine wp_region_held_drew (S:=(fun w'=>w'.cell? ⟨W1.heap.size,0,O⟩=F (I J no)/\w'.cell? ⟨W1.heap.size,1,O⟩=F (I J ((n:Int) - (m:Int)))/\w'.cell? ⟨W1.heap.size,2,O⟩=F (Q T))) (by kernel_rfl) (hN3.out _ hd6) (fun hHeld=>?_);refine wI 0 hHeld ?_;try simp only[gS]
   refine wI 1 hHeld ?_;try simp only[gS]
   refine wI 2 hHeld ?_;try simp only[gS]
   refine wI 3 hHeld ?_;try simp only[gS]
   refine wU 4 rfl (by rfl) hHeld ?_;try simp only[gS]
   refine wU 5 rfl (by rfl) hHeld ?_;try simp only[gS]
   refine wU 6 rfl (by rfl) hHeld ?_;try simp only[gS]
   refine wI 7 hHeld ?_;try simp only[gS]
   refine wB 8 rfl (fun K hK=>?_);refine KJ (by rfl) _ _ _ (by rfl) (w.heap.size+1) #[I J no,I J ((n:Int) - (m:Int)),Q T] (by rfl) (by rfl) _ _ hR6d (by kernel_rfl) (by rfl) (by simp[Value.oneCell']) ?_;refine hK.out _ _ (hN3.out _ (hd6.trans (Au.setRow _ _ _ rfl))) (fun hHeld2=>?_);clear hK K hHeld;have hHeld:=hHeld2;clear hHeld2;try simp only[gS]
   refine wI 9 hHeld ?_;try simp only[gS]
   refine wpAnyH_done (by kernel_rfl) ?_ _;refine NoPanic.normal ?_;have hZ:=setRow_heap _ _ _ #[I J no,I J ((n:Int) - (m:Int)),Q T] _ _ hR6d;obtain⟨q0,q1,q2,_⟩:=EM hZ;try go_wp2
   refine bodyPost_ret (v:=.tuple #[.agg #[I J no,I J ((n:Int) - (m:Int)),Q T],.bool false]) (by simp[results,Tryz.results70,go_sem,q0,q1,q2]) rfl ?_;refine⟨by rw[HF.out,HN.out.1,HN.out.2.2,HTd.out],?_⟩;exact GR ((HB6.out).drew) (by omega) _
end
section
set_option maxRecDepth 100000
set_option maxHeartbeats 4000000
attribute [local go_sem] Oper.semAt_some ID EE
def Ou (w:Y):Prop:=∃ m,w.cell? ⟨4,0,O⟩=F (I J m)
theorem Ou.below {w w':Y} (h:Ou w) (hb:Below w.heap.size w w'):Ou w':=by
 obtain⟨m,hm⟩:=h;exact⟨m,cell_below hm hb⟩
theorem Ou.of_shaped {w:Y} (h:w.ShapedOpen Tryz.prog):Ou w:=Tryz.laysM145.s1_3 w h
def BG:Nat->List (List UInt8)->List (Nat×List UInt8)
 | _,[]=>[]
 | k,r::rs=>(k,r)::BG (k+1) rs
def ZJ (x:Nat×List UInt8):Array Value:=#[I J x.1,.agg #[Q ⟨x.2.toArray⟩]]
def Ai4 (W:Y) (B:Nat):Nat:=match W.cell? ⟨B,0,O⟩ with | some (Q s)=>s.size | _=>0
theorem Xe {W:Y} {B:Nat} {s:ByteArray} (h:Boxed W B 9 (Q s)):Ai4 W B=s.size:=by unfold Ai4;rw[h.cell]
theorem Ab3 (s:ByteArray) (w:Y):
  Calls Tryz.prog 68 #[Q s] w fun e w'=>e=.returned (.func (.func 103) #[] #[.pointer (F ⟨w.heap.size,0,O⟩)])/\w'=w.alloc (.cells #[Q s] 9):=by
 go_enter Tryz.func68,Tryz.ntmps68;go_wp2;go_ret;exact⟨rfl,rfl⟩
theorem YL (s:ByteArray) (Bs n₀:Nat) (w0:Y) (hT:Ou w0) (hN:w0.heap.size<=n₀) (hBs:w0.heap.size<=Bs) (hs:s.size<=1000000):
  Afy Tryz.prog 103 #[.pointer (F ⟨Bs,0,O⟩)] ZJ (fun k=>k=Bs) n₀ (BG 1 (Be s.data.toList)) (fun W=>Boxed W Bs 9 (Q s)/\Below w0.heap.size w0 W):=by
 intro l Jz Jx W ⟨hbx,hbl⟩ hJ hJx hY h0;refine callsIn_of_wp Tryz.func103 rfl trivial ?_ rfl;simp only[Tryz.ntmps103,List.size_toArray,List.length_cons,List.length_nil,Nat.reduceAdd,Nat.reduceSub,Array.replicate_succ,Array.replicate_zero,List.push_toArray,List.append_toArray,List.nil_append,List.cons_append]
 gi_wp2
 refine Gk ?_
 gi_wp2
 refine wpIn_label ?_
 gi_wp2
 gi_loopw [3] (fun u wr=>∃ (k:Nat) (R:ByteArray) (pre:List (Nat×List UInt8)),u=I J k/\Boxed wr Bs 9 (Q R)/\Below w0.heap.size w0 wr/\W.heap.size<=wr.heap.size/\Jz pre wr/\k+R.size<=s.size+1/\Hid (BG 1 (Be s.data.toList)=pre++BG k (Be R.data.toList))) (fun _ wr=>Ai4 wr Bs)
 case atStart=>exact⟨1,s,[],rfl,hbx,hbl,Nat.le_refl _,h0,by omega,hid rfl⟩
 case round=>
  obtain⟨k,R,pre,rfl,hc1,hb1,hz1,hJ1,Up,HP⟩:=hrel;clear hbx hbl h0;have k0:=hc1.cell;have HM:=hid (Xe hc1);have hRz:R.size<=1000001:=by omega
  by_cases hz:0<R.size
  ·have he:=AY hz;have hne:R.data.toList≠[]:=fun e=>by rw[Lib.size_eq,e] at hz;exact absurd hz (by simp)
   have hrows:=DU hne;obtain⟨mm,hmm⟩:=hT.below hb1;have hcut:=Tryz.strings_Cut R ⟨#[10]⟩ mm wr (by omega) hmm;obtain⟨c1,c2⟩:=Ab2 R.data.toList;rw[show(⟨#[10]⟩:ByteArray).data.toList=[10] from rfl,c1,c2] at hcut;obtain⟨b3,hb3⟩:∃ b3,(Lib.cut R.data.toList [10]).2.2=b3:=⟨_,rfl⟩
   rw[hb3] at hcut;obtain⟨row,hrow⟩:∃ z,rowOf R.data.toList=z:=⟨_,rfl⟩
   obtain⟨S2,hS2⟩:∃ z:ByteArray,(⟨(AS R.data.toList).toArray⟩:ByteArray)=z:=⟨_,rfl⟩
   have hlt:S2.size<R.size:=by
    have:=D9 hne;rw[<- hS2,size_mk,Lib.size_eq];exact this
   have hsd:AS R.data.toList=S2.data.toList:=by rw[<- hS2]
   have HP2:=hid (show BG 1 (Be s.data.toList)=(pre++[(k,row)])++BG (k+1) (Be S2.data.toList) by rw[HP.out,hrows,hrow,hsd,List.append_assoc];rfl);rw[hrow,hS2] at hcut;clear hmm c1 c2 hb3 hrow hS2 hsd hrows HP hne
   gi_wp2_with fail
   refine(callsIn_wide.2 hcut).mono ?_;rintro e w2 ⟨rfl,nd,rfl⟩;clear hcut;have hJ2:Jz pre (wr.drewN nd):=hJ _ _ _ hJ1 (Au.of_below (below_drewN (Bq _ _)));have hpre:pre++[(k,row)]<+:BG 1 (Be s.data.toList):=⟨_,HP2.out.symm⟩
   obtain⟨fn,tmps,assign,body,hy,hR⟩:=hY pre (k,row) _ hJ2 hpre;dsimp only[ZJ] at hy;have HPR:=hid hpre;have hc2:Boxed (wr.drewN nd) Bs 9 (Q R):=Ab hc1 (below_drewN (Bq _ _));have hb2:Below w0.heap.size w0 (wr.drewN nd):=below_drewN hb1;clear hpre k0 hJ1 hc1 hb1;have hkw:IntKind.i64.wrap ((k:Int)+1)=(k:Int)+1:=by go_arith
   gi_wp2
   refine hR.mono ?_;rintro e W3 (⟨rfl,hJ4,hk4⟩ | ⟨rfl,hJ4,hk4⟩)
   ·have hc4:Boxed W3 Bs 9 (Q R):=I6 hc2 hk4 (.inr rfl);have hb5:Below w0.heap.size w0 W3:=hk4.below hb2 hN Nr;have hz4:W.heap.size<=W3.heap.size:=Nat.le_trans hz1 (Nat.le_trans (Below.size (below_drewN (Bq wr.heap.size wr))) hk4.size);have hc5:Boxed (W3.setCell ⟨Bs,0,O⟩ (Q S2)) Bs 9 (Q S2):=hc4.set _;have hb6:Below w0.heap.size w0 (W3.setCell ⟨Bs,0,O⟩ (Q S2)):=hb5.setCell (p:=⟨Bs,0,O⟩) hBs _;have hJ5:Jz (pre++[(k,row)]) (W3.setCell ⟨Bs,0,O⟩ (Q S2)):=hJ _ _ _ hJ4 (Au.setCell _ _ _ rfl);have hz5:W.heap.size<=(W3.setCell ⟨Bs,0,O⟩ (Q S2)).heap.size:=by simp[World.setCell];omega
    have HM2:=hid (Xe hc5);have k4:=hc4.cell;have f4:=hc4.frozen;clear hy hJ2 hc2 hb2 hk4 hc4 hb5 hJ4 hz4 hY hR
    gi_wp2
    go_roundw
    case rel=>exact⟨k+1,S2,_,rfl,hc5,hb6,hz5,hJ5,by omega,HP2⟩
    case measure=>rw[HM.out,HM2.out];omega
   ·clear hy hJ2 hc2 hb2 hk4
    gi_wp2
    try simp only[Exit.noGoto_normal]
    go_end0;exact⟨⟨_,rfl⟩,.inr ⟨_,HPR.out,hJ4⟩⟩
  ·have he:=Bn hz;have hnil:R.data.toList=[]:=List.eq_nil_of_length_eq_zero (by rw[<- Lib.size_eq];omega);have HP2:=hid (show BG 1 (Be s.data.toList)=pre by rw[HP.out,hnil,CO];simp[BG]);clear HP hnil
   gi_wp2
   try simp only[Exit.noGoto_normal]
   go_end0;exact⟨⟨_,rfl⟩,.inl (by rw[HP2.out];exact hJ1)⟩
end
section
open Go
structure Sc where
 kind:Int
 num:Int
 str:ByteArray
def Ev (x:Sc):Value:=.agg #[I J x.kind,I J x.num,Q x.str]
def AJ:Sc:=⟨0,0,⟨#[]⟩⟩
def Jf (x:Sc):Int×Int×List UInt8:=(x.kind,x.num,x.str.data.toList)
theorem KH {x y:Sc} (h:Jf x=Jf y):x=y:=by
 obtain⟨k,n,s⟩:=x;obtain⟨k2,n2,s2⟩:=y;simp only[Jf,Prod.mk.injEq] at h;obtain⟨rfl,rfl,h⟩:=h;have:s=s2:=by
  cases s;cases s2
  simp only at h;congr 1;exact Array.toList_inj.1 h
 rw[this]
instance:DecidableEq Sc:=fun x y=>decidable_of_iff (Jf x=Jf y) ⟨KH,fun h=>by rw[h]⟩
inductive Tr where
 | mk (kind:Int) (name:ByteArray) (x:Sc) (keys:List Sc) (kids:List Tr)
end
section
structure Good {α:Type} (c:α->α->Int):Prop where
 rng:∀ x y,c x y= -1\/c x y=0\/c x y=1
 sym:∀ x y,c y x= - c x y
 eq:∀ x y,c x y=0↔x=y
 tr:∀ x y z,c x y= -1->c y z= -1->c x z= -1
def Lf (a b:Int):Int:=if a<b then -1 else if b<a then 1 else 0
theorem Aaw:Good Lf:=by
 constructor
 ·intro x y;unfold Lf;split;exact .inl rfl;split;exact .inr (.inr rfl);exact .inr (.inl rfl)
 ·intro x y;unfold Lf;by_cases h1:x<y<;>by_cases h2:y<x<;>simp[h1,h2]<;>omega
 ·intro x y;unfold Lf;by_cases h1:x<y
  ·rw[if_pos h1];constructor
   ·intro h;cases h
   ·intro h;omega
  ·by_cases h2:y<x
   ·rw[if_neg h1,if_pos h2];constructor
    ·intro h;cases h
    ·intro h;omega
   ·rw[if_neg h1,if_neg h2];constructor
    ·intro _;omega
    ·intro _;rfl
 ·intro x y z;unfold Lf;intro h1 h2;by_cases a:x<y
  ·by_cases b:y<z
   ·rw[if_pos (by omega)]
   ·rw[if_neg b] at h2;split at h2<;>cases h2
  ·rw[if_neg a] at h1;split at h1<;>cases h1
def UL {α β:Type} (c:α->α->Int) (d:β->β->Int) (x y:α×β):Int:=if c x.1 y.1=0 then d x.2 y.2 else c x.1 y.1
theorem TI {α β:Type} {c:α->α->Int} {d:β->β->Int} (hc:Good c) (hd:Good d):Good (UL c d):=by
 constructor
 ·intro x y;unfold UL;split
  ·exact hd.rng _ _
  ·exact hc.rng _ _
 ·intro x y;unfold UL;rw[hc.sym];by_cases h:c x.1 y.1=0
  ·rw[if_pos (by omega),if_pos h,hd.sym]
  ·rw[if_neg (by omega),if_neg h]
 ·intro x y;unfold UL;by_cases h:c x.1 y.1=0
  ·rw[if_pos h,hd.eq];have:=(hc.eq _ _).1 h;constructor
   ·intro h2;exact Prod.ext this h2
   ·intro h2;rw[h2]
  ·rw[if_neg h];constructor
   ·intro h2;exact absurd h2 h
   ·intro h2;exact absurd ((hc.eq _ _).2 (by rw[h2])) h
 ·intro x y z;unfold UL;intro h1 h2;by_cases a:c x.1 y.1=0
  ·rw[if_pos a] at h1;have ea:=(hc.eq _ _).1 a;rw[ea];by_cases b:c y.1 z.1=0
   ·rw[if_pos b] at h2 |-;exact hd.tr _ _ _ h1 h2
   ·rw[if_neg b] at h2 |-;exact h2
  ·rw[if_neg a] at h1;by_cases b:c y.1 z.1=0
   ·have eb:=(hc.eq _ _).1 b;rw[<- eb,if_neg a];exact h1
   ·rw[if_neg b] at h2;have:=hc.tr _ _ _ h1 h2;rw[if_neg (by rw[this];decide)];exact this
def cmpL:List UInt8->List UInt8->Int
 | [],[]=>0
 | [],_::_=> -1
 | _::_,[]=>1
 | a::x,b::y=>if a.toNat<b.toNat then -1 else if b.toNat<a.toNat then 1 else cmpL x y
theorem Qw:Good cmpL:=by
 constructor
 ·intro x;induction x with
  | nil=>intro y;cases y;exact .inr (.inl rfl);exact .inl rfl
  | cons a x ih=>
   intro y;cases y with
   | nil=>exact .inr (.inr rfl)
   | cons b y=>
    unfold cmpL;split
    ·exact .inl rfl
    ·split
     ·exact .inr (.inr rfl)
     ·exact ih y
 ·intro x;induction x with
  | nil=>intro y;cases y<;>rfl
  | cons a x ih=>
   intro y;cases y with
   | nil=>rfl
   | cons b y=>
    show(if b.toNat<a.toNat then (-1:Int) else if a.toNat<b.toNat then 1 else cmpL y x)= -(if a.toNat<b.toNat then (-1:Int) else if b.toNat<a.toNat then 1 else cmpL x y);rcases Nat.lt_trichotomy a.toNat b.toNat with h | h | h
    ·rw[if_neg (by omega),if_pos h,if_pos h];rfl
    ·rw[if_neg (by omega),if_neg (by omega),if_neg (by omega),if_neg (by omega)];exact ih y
    ·rw[if_pos h,if_neg (by omega),if_pos h]
 ·intro x;induction x with
  | nil=>
   intro y;cases y with
   | nil=>exact⟨fun _=>rfl,fun _=>rfl⟩
   | cons b y=>exact⟨(fun h=>by cases h),(fun h=>by cases h)⟩
  | cons a x ih=>
   intro y;cases y with
   | nil=>exact⟨(fun h=>by cases h),(fun h=>by cases h)⟩
   | cons b y=>
    show(if a.toNat<b.toNat then (-1:Int) else if b.toNat<a.toNat then 1 else cmpL x y)=0↔_;rcases Nat.lt_trichotomy a.toNat b.toNat with h | h | h
    ·rw[if_pos h];exact⟨(fun e=>by cases e),(fun e=>by injection e with e1 e2;subst e1;omega)⟩
    ·rw[if_neg (by omega),if_neg (by omega),ih];have hab:a=b:=UInt8.toNat_inj.1 h;exact⟨(fun e=>by rw[hab,e]),(fun e=>by injection e)⟩
    ·rw[if_neg (by omega),if_pos h];exact⟨(fun e=>by cases e),(fun e=>by injection e with e1 e2;subst e1;omega)⟩
 ·intro x;induction x with
  | nil=>
   intro y z h1 h2;cases z with
   | nil=>cases y<;>cases h2
   | cons c z=>rfl
  | cons a x ih=>
   intro y z h1 h2;cases y with
   | nil=>cases h1
   | cons b y=>
    cases z with
    | nil=>cases h2
    | cons c z=>
     have e1:(if a.toNat<b.toNat then (-1:Int) else if b.toNat<a.toNat then 1 else cmpL x y)= -1:=h1;have e2:(if b.toNat<c.toNat then (-1:Int) else if c.toNat<b.toNat then 1 else cmpL y z)= -1:=h2;show(if a.toNat<c.toNat then (-1:Int) else if c.toNat<a.toNat then 1 else cmpL x z)= -1;rcases Nat.lt_trichotomy a.toNat b.toNat with h | h | h
     ·rcases Nat.lt_trichotomy b.toNat c.toNat with k | k | k
      ·rw[if_pos (by omega)]
      ·rw[if_pos (by omega)]
      ·rw[if_neg (by omega),if_pos k] at e2;cases e2
     ·rw[if_neg (by omega),if_neg (by omega)] at e1;rcases Nat.lt_trichotomy b.toNat c.toNat with k | k | k
      ·rw[if_pos (by omega)]
      ·rw[if_neg (by omega),if_neg (by omega)] at e2;rw[if_neg (by omega),if_neg (by omega)];exact ih y z e1 e2
      ·rw[if_neg (by omega),if_pos k] at e2;cases e2
     ·rw[if_neg (by omega),if_pos h] at e1;cases e1
theorem UH:∀ x y:List UInt8,Op.bytesLess x y=decide (cmpL x y= -1)
 | [],[]=>rfl
 | [],_::_=>rfl
 | _::_,[]=>rfl
 | a::x,b::y=>by
  show(decide (a<b)||(a==b&&Op.bytesLess x y))=decide ((if a.toNat<b.toNat then (-1:Int) else if b.toNat<a.toNat then 1 else cmpL x y)= -1);rw[UH x y];have hlt:(a<b)↔a.toNat<b.toNat:=UInt8.lt_iff_toNat_lt;rcases Nat.lt_trichotomy a.toNat b.toNat with h | h | h
  ·rw[if_pos h,decide_eq_true (hlt.2 h)];rfl
  ·have hab:a=b:=UInt8.toNat_inj.1 h;rw[if_neg (by omega),if_neg (by omega),decide_eq_false (fun e=>by have:=hlt.1 e;omega)];subst hab;simp
  ·have hne:(a==b)=false:=by rw[beq_eq_false_iff_ne];rintro rfl;omega
   rw[if_neg (by omega),if_pos h,decide_eq_false (fun e=>by have:=hlt.1 e;omega),hne];rfl
def DG (x y:Sc):Int:=UL Lf (UL Lf cmpL) (Jf x) (Jf y)
theorem EX:Good DG:=by
 have hg:=TI Aaw (TI Aaw Qw);exact⟨fun x y=>hg.rng _ _,fun x y=>hg.sym _ _,fun x y=>⟨fun h=>KH ((hg.eq _ _).1 h),fun h=>(hg.eq _ _).2 (by rw[h])⟩,fun x y z=>hg.tr _ _ _⟩
end
end Go.Proofs.YtdpppepmkeinaaaGreatDoor
