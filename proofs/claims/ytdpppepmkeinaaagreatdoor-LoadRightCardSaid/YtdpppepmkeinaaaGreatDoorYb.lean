/- What is proved: a part of the walk of the program and of its plain laws; no condition beside those that each theorem names. -/
import Derived.Test.YtdpppepmkeinaaaGreatDoorYa
import Derived.Test.YtdpppepmkeinaaaGreatDoorYMaps
import Derived.Laws.EntriesVeiled
import Derived.Lib.MapLaws
import Derived.Handy
import Derived.Deep.RegionHeld3
import Derived.Shelf.Strings.BuilderK
import Derived.Lib.RuneBytes
import Derived.Laws.Externs
import Derived.WalkSpells
import Derived.Lib.ConvBytes
import Derived.Lib.AtoiAllMem
import Derived.Laws.Closers25b
import Derived.BigCall
import Derived.BigGuard
import Derived.Laws.IdiomRangeMap
namespace Go.Proofs.YtdpppepmkeinaaaGreatDoor
open Go Go.RowKit Go.Lib
open Go.Value renaming int->I,string->Q,slice->Z
open Go.IntKind renaming i64->J
open Option renaming none->O,some->F
open _root_.Go renaming World->Y
set_option linter.unusedSimpArgs false
set_option linter.unusedVariables false
set_option linter.unusedSectionVars false
section
set_option maxHeartbeats 1000000
set_option maxRecDepth 100000
attribute [local go_sem] Oper.semAt_some GA D4
theorem Xt (s:ByteArray) (w:Y):
  Calls Tryz.prog 91 #[Q s] w fun e w'=>e=.returned (.func (.func 130) #[] #[.pointer (F ⟨w.heap.size,0,O⟩)])/\w'=w.alloc (.cells #[Q s] 9):=by
 go_enter Tryz.func91,Tryz.ntmps91;go_wp2;go_ret;exact⟨rfl,rfl⟩
theorem U0 (s:ByteArray) (flow:Bool) (w:Y) (hs:s.size<=1000000):
  Calls Tryz.prog 60 #[Q s,.bool flow] w fun e w'=>e=.returned (.bool (JA s.data.toList flow))/\Below w.heap.size w w':=by
 refine(callsIn_wide (n:=0)).1 ?_;refine callsIn_of_wp_marks Tryz.func60 rfl trivial ?_ rfl;refine wpIn_wide.2 ?_;simp only[Tryz.ntmps60,List.size_toArray,List.length_cons,List.length_nil,Nat.reduceAdd,Nat.reduceSub,Array.replicate_succ,Array.replicate_zero,List.push_toArray,List.append_toArray,List.nil_append,List.cons_append]
 obtain⟨N,hN⟩:∃ N,w.heap.size=N:=⟨_,rfl⟩
 go_wp2_with fail;refine(Xt s _).mono ?_;rintro e w0 ⟨rfl,hw0⟩;have hz:w0.heap.size=N+1+1+1+1:=by rw[hw0];simp[hN]
 have hb0:Below N w w0:=by rw[hw0];exact((((Bq N w).alloc (by omega) _).alloc (by simp;omega) _).alloc (by simp;omega) _).alloc (by simp;omega) _
 have b0:Boxed w0 N 4 (.bool flow):=by rw[hw0,<- hN];exact(((Boxed.new w _ _).alloc _).alloc _).alloc _
 have b1:Boxed w0 (N+1) 4 (.bool false):=by have:=Boxed.new (w.alloc (.cells #[.bool flow] 4)) 4 (.bool false);rw[World.size_alloc,hN] at this;rw[hw0];exact(this.alloc _).alloc _
 have b2:Boxed w0 (N+1+1) 82 (.func (.func 89) #[] #[.pointer (F ⟨N,0,O⟩)]):=by have:=Boxed.new ((w.alloc (.cells #[.bool flow] 4)).alloc (.cells #[.bool false] 4)) 82 (.func (.func 89) #[] #[.pointer (F ⟨N,0,O⟩)]);rw[World.size_alloc,World.size_alloc,hN] at this;rw[hw0];exact this.alloc _
 have b3:Boxed w0 (N+1+1+1) 9 (Q s):=by rw[hw0];have:=Boxed.new (((w.alloc (.cells #[.bool flow] 4)).alloc (.cells #[.bool false] 4)).alloc (.cells #[.func (.func 89) #[] #[.pointer (F ⟨N,0,O⟩)]] 82)) 9 (Q s);rw[World.size_alloc,World.size_alloc,World.size_alloc,hN] at this;exact this
 rw[World.size_alloc,World.size_alloc,World.size_alloc,hN];clear hw0;go_wp2;refine(wpIn_wide (n:=0)).1 ?_;refine DC (gf:=130) (lb:=#[.pointer (F ⟨N+1+1+1,0,O⟩)]) rfl (enters_of Tryz.func130 (by kernel_rfl) rfl) (Ud s (N+1+1+1) N hs)
  (fun Yz hY=>⟨(Ab b3 hY).cell,(Ab b3 hY).frozen⟩) (fun k hk=>by subst hk;omega) (by omega) (fun _=>rfl)
  (fun pre W=>Hid (Cr flow pre=true)/\Boxed W N 4 (.bool flow)/\Boxed W (N+1) 4 (.bool false)/\Boxed W (N+1+1) 82 (.func (.func 89) #[] #[.pointer (F ⟨N,0,O⟩)])/\Below N w W/\N+1+1+1+1<=W.heap.size)
  (fun c pre W=>c=.ret/\Hid (Cr flow pre=false)/\Boxed W (N+1) 4 (.bool false)/\Below N w W)
  ?hI ?hIx ⟨hid rfl,b0,b1,b2,hb0,by omega⟩ ?round ?done ?stop
 case hI=>
  rintro pre X Yz ⟨h1,h2,h3,h4,h5,h6⟩ ht;exact⟨h1,Ad h2 ht (by omega),Ad h3 ht (by omega),Ad h4 ht (by omega),ht.below h5 (fun k hk=>by omega) (by omega) (by omega),Nat.le_trans h6 ht.size⟩
 case hIx=>
  rintro c pre X Yz ⟨h1,h2,h3,h5⟩ ht;exact⟨h1,h2,Ad h3 ht (by omega),ht.below h5 (fun k hk=>by omega) (by omega) (by omega)⟩
 case round=>
  rintro l pre ⟨r,la,nx⟩ W hl ⟨h1,h2,h3,h4,h5,h6⟩ hpre;have hr:r<=1114111:=Td hpre;obtain⟨b,hb⟩:∃ b,W.heap.size=b:=⟨_,rfl⟩
  gi_wp2
  refine⟨Ae.alloc _ _,fun Wb ht _=>?_⟩;have g2:=Ad (h2.alloc _) ht (by omega);have g3:=Ad (h3.alloc _) ht (by omega);have g4:=Ad (h4.alloc _) ht (by omega);have g5:Below N w Wb:=ht.below (h5.alloc (by have:=h5.size;omega) _) (fun k hk=>by omega) (by omega) (by omega);have hnb:Wb.heap[b]? =F (.cells #[.int .i32 la,.int .i32 nx] 192):=ht.heap (by rw[<- hb];exact Wn _ _) (by omega) rfl;have g5z:N<=Wb.heap.size:=by rw[<- hN];exact g5.size
  have g6:N+1+1+1+1<=Wb.heap.size:=by have:=ht.size;simp at this;omega
  have n0:Wb.cell? ⟨b,0,O⟩=F (.int .i32 la):=by simp[World.cell?,hnb]
  have n1:Wb.cell? ⟨b,1,O⟩=F (.int .i32 nx):=by simp[World.cell?,hnb]
  have c4:=g4.cell;have c2:=g2.cell;have c3:=g3.cell;have f3:=g3.frozen;have stop:∀ w1,Below Wb.heap.size Wb w1->Du flow (r,la,nx)=true->Ae Ar (·=N+1+1+1) N Wb (w1.setCell ⟨N+1,0,O⟩ (.bool false))/\Hid (Cr flow (pre++[(r,la,nx)])=false)/\Boxed (w1.setCell ⟨N+1,0,O⟩ (.bool false)) (N+1) 4 (.bool false)/\Below N w (w1.setCell ⟨N+1,0,O⟩ (.bool false)):=fun w1 hb1 hbad=>
   ⟨(Ae.of_below hb1).trans (Ae.setCell _ _ _ (by simp) (by simp)),hid (by rw[L8,hbad];simp),(Ab g3 hb1).set _,(g5.trans (hb1.mono g5z)).setCell (p:=⟨N+1,0,O⟩) (by simp) _⟩
  have STOP:=hid stop;clear stop;have go:∀ w1,Below Wb.heap.size Wb w1->Du flow (r,la,nx)=false->Ae Ar (·=N+1+1+1) N Wb w1/\Hid (Cr flow (pre++[(r,la,nx)])=true)/\Boxed w1 N 4 (.bool flow)/\Boxed w1 (N+1) 4 (.bool false)/\Boxed w1 (N+1+1) 82 (.func (.func 89) #[] #[.pointer (F ⟨N,0,O⟩)])/\Below N w w1/\N+1+1+1+1<=w1.heap.size:=fun w1 hb1 hok=>
   ⟨Ae.of_below hb1,hid (by rw[L8,hok,h1.out];rfl),Ab g2 hb1,Ab g3 hb1,Ab g4 hb1,g5.trans (hb1.mono g5z),Nat.le_trans g6 hb1.size⟩
  have GO:=hid go;clear go;clear h2 h3 h4 hnb g2 ht;by_cases hA:r<32
  ·have hAi:(r:Int)<32:=by omega
   gi_wp2
   exact have h:=STOP.out _ (Bq _ _) (by simp[Du,hA]);⟨h.1,rfl,h.2⟩
  have hAi:¬(r:Int)<32:=by omega
  by_cases hB:r=127
  ·have hBi:((r:Int)==127)=true:=by simp;omega
   have HB:=hid hB;clear hB
   gi_wp2
   exact have h:=STOP.out _ (Bq _ _) (by simp[Du,HB.out]);⟨h.1,rfl,h.2⟩
  have hBi:((r:Int)==127)=false:=by simp;omega
  gi_wp2_with fail
  refine(CallsIn.inRound l (callsIn_wide.2 (O8 r flow N _ hr c2))).mono ?_;rintro e w1 ⟨rfl,hb1⟩;have c3':=cell_below c3 hb1;have f3':=I5 c3 f3 hb1;have n0':=cell_below n0 hb1;have n1':=cell_below n1 hb1;clear c3 f3 n0 n1 c2 c4;have HC0:Hid (∀ b,(flow&&Gt r)=b->(flow&&(r==44||r==91||r==93||r==123||r==125))=b):=hid (fun b h=>h);by_cases hC:(flow&&Gt r)=true
  ·have HC:=hid hC;rw[hC];clear hC
   gi_wp2
   exact have h:=STOP.out _ hb1 (by simp[Du,HC0.out _ HC.out]);⟨h.1,rfl,h.2⟩
  have hC':(flow&&Gt r)=false:=by simpa using hC
  have HC:=hid hC';rw[hC'];clear hC hC';by_cases hD:r=58
  ·have hDi:((r:Int)==58)=true:=by simp;omega
   have hEi:((r:Int)==35)=false:=by simp;omega
   have HD:=hid hD;clear hD
   gi_wp2_with fail
   refine(CallsIn.inRound l (callsIn_wide.2 (GN nx [0,32] _ _ _ rfl (by decide)))).mono ?_;rintro e w2 ⟨rfl,hb2⟩;have hb12:Below Wb.heap.size Wb w2:=hb1.trans (hb2.mono hb1.size);have c3'':=cell_below c3' hb2;have f3'':=I5 c3' f3' hb2;have n0'':=cell_below n0' hb2;clear c3' f3' n0' n1';cases hm:Bw [0,32] (nx:Int) with
   | true=>
    have HM:=hid (RD hm);clear hm
    gi_wp2
    exact have h:=STOP.out _ hb12 (by simp[Du,HD.out,HM.out]);⟨h.1,rfl,h.2⟩
   | false=>
    have HM:=hid (RD hm);clear hm
    gi_wp2
    exact GO.out _ hb12 (by simp[Du,HD.out,HM.out])
  have hDi:((r:Int)==58)=false:=by simp;omega
  have HD:=hid hD;clear hD;by_cases hE:r=35
  ·have hEi:((r:Int)==35)=true:=by simp;omega
   have HE:=hid hE;clear hE;by_cases hL:la=32
   ·have hLi:((la:Int)==32)=true:=by simp;omega
    have HL:=hid hL;clear hL
    gi_wp2
    exact have h:=STOP.out _ hb1 (by simp[Du,HE.out,HL.out]);⟨h.1,rfl,h.2⟩
   ·have hLi:((la:Int)==32)=false:=by simp;omega
    have HL:=hid hL;clear hL
    gi_wp2
    exact GO.out _ hb1 (by have:=HC0.out _ HC.out;simp[Du,HE.out,HL.out])
  ·have hEi:((r:Int)==35)=false:=by simp;omega
   have HE:=hid hE;clear hE;have HA:=hid hA;have HB:=hid hB
   gi_wp2
   exact GO.out _ hb1 (by simp[Du,HA.out,HB.out,HD.out,HE.out,HC0.out _ HC.out])
 case done=>
  rintro D W hD ⟨h1,h2,h3,h4,h5,h6⟩ hK;have c3:=h3.cell;have f3:=h3.frozen;go_wp2;have h3':=h3.set (.bool true);have hK':(W.setCell ⟨N+1,0,O⟩ (.bool true)).heap[D]? =F (.deferred (F [])):=(KeepsOthers.setCell W ⟨N+1,0,O⟩ (.bool true)).same D _ hK rfl;refine⟨by simp,.inl ⟨_,_,rfl,run_takeDeferred hK',?_⟩⟩;have hc5:=(Au h3' hK' (.deferred O)).cell;refine⟨.bool true,by simp[results,Tryz.f60,go_sem,hc5],by rw[show JA s.data.toList flow=true from h1.out],?_⟩;rw[hN];exact BP (h5.setCell (p:=⟨N+1,0,O⟩) (by simp) _) hK' (by omega) (by omega) _
 case stop=>
  rintro D c pre W hD hpre ⟨rfl,h2,h3,h5⟩ hK;refine wpIn_wide.2 ?_;go_wp2;refine⟨by simp,.inl ⟨_,_,rfl,run_takeDeferred hK,?_⟩⟩;have hc5:=(Au h3 hK (.deferred O)).cell;have hall:JA s.data.toList flow=false:=TM hpre h2.out;refine⟨.bool false,by simp[results,Tryz.f60,go_sem,hc5],by rw[hall],?_⟩;rw[hN];exact BP h5 hK (by omega) (by omega) _
theorem Aa4 (s:ByteArray) (w:Y) (hs:s.size<=1000000):
  Calls Tryz.prog 86 #[Q s,Q ⟨#[32]⟩] w fun e w'=>e=.returned (Q ⟨(Lib.trimB s.data.toList 32).toArray⟩)/\Below w.heap.size w w':=by
 refine(Tryz.strings_Trim_one s 32 (by decide) w (by omega)).mono ?_;rintro e w' ⟨rfl,hw⟩;refine⟨rfl,?_⟩;rcases hw with rfl | rfl
 ·exact Bq _ _
 ·exact(Bq _ _).drew
theorem J5 (s:ByteArray) (h0:0<s.size):s.data.toList=s[0]'h0::(s.extract 1 s.size).data.toList:=by
 rw[Lib.extract_data,List.take_of_length_le (by rw[List.length_drop,<- Lib.size_eq];omega)];have hl:0<s.data.toList.length:=by rw[<- Lib.size_eq];exact h0
 have:=List.drop_eq_getElem_cons hl;rw[List.drop_zero] at this;rw[Nat.zero_add] at this;exact this
theorem Acx (d e:UInt8):((d.toNat:Int) !=(e.toNat:Int))= !(d==e):=by
 rw[Bool.eq_iff_iff];simp[<- UInt8.toNat_inj];omega
theorem Ax {s:ByteArray} (h:0<s.size):s.toList.isEmpty=false:=by
 rw[Lib.toList_data];cases h':s.data.toList with
 | nil=>exact absurd (by rw[Lib.size_eq,h'];rfl) (show s.size≠0 by omega)
 | cons _ _=>rfl
theorem A9 {s:ByteArray} (h:¬0<s.size):s.toList.isEmpty=true:=by
 rw[D7 (show s.size=0 by omega),Lib.toList_data];rfl
theorem QV (s:ByteArray) (w:Y) (hs:s.size<=1000000) (h0:0<s.size):
  Calls Tryz.prog 59 #[Q s] w fun e w'=>e=.returned (.bool (Cd s.data.toList))/\Below w.heap.size w w':=by
 have h0i:(0:Int)<(s.size:Int):=by omega
 have h1i:(1:Int)<=(s.size:Int):=by omega
 have hl:=J5 s h0;obtain⟨c,hc⟩:∃ c,s[0]'h0=c:=⟨_,rfl⟩
 obtain⟨R,hR⟩:∃ R,s.extract 1 s.size=R:=⟨_,rfl⟩
 rw[hc,hR] at hl;have HL:=hid hl;clear hl;have hcb:(c.toNat:Int)<256:=by have:=c.toNat_lt;omega
 go_enter Tryz.func59,Tryz.ntmps59;go_wp2;go_quiet (fail);have hb0:=below_drewN (n:=nq) (Bq w.heap.size w);generalize w.drewN nq=w0 at hb0 |-;go_wp2_with fail;refine(Aa4 s _ hs).mono ?_;rintro e w1 ⟨rfl,hb1⟩;have hb01:Below w.heap.size w w1:=hb0.trans (hb1.mono hb0.size);clear hb0 hb1;by_cases hT:trimB s.data.toList 32=s.data.toList
 ·have hTi:(!trimB s.data.toList 32==s.toList)=false:=by rw[Lib.toList_data,hT];simp
  have HT:=hid hT;clear hT;go_wp2_with fail;refine(Tryz.strings_IndexByte ⟨GK.toArray⟩ c.toNat _).mono ?_;rintro e w2 ⟨rfl,hw2⟩;subst hw2;obtain⟨k,hk⟩:∃ k,Lib.indexByte GK c=k:=⟨_,rfl⟩
  have hk':Lib.indexByte (⟨GK.toArray⟩:ByteArray).data.toList ((c.toNat:Int).toNat.toUInt8)=k:=by rw[<- hk];simp
  rw[hk'];clear hk';have HK:=hid hk;clear hk;by_cases hk0:0<=k
  ·go_wp2;go_ret;exact⟨by rw[show Cd s.data.toList=false from(by unfold Cd;rw[HT.out,HL.out];simp only[List.headD_cons,List.tail_cons,HK.out];simp[hk0])];rfl,hb01⟩
  ·go_wp2_with fail;refine(GN c.toNat [45,63,58] _ _ _ rfl (by decide)).mono ?_;rintro e w3 ⟨rfl,hb3⟩;have hb03:Below w.heap.size w w3:=hb01.trans (hb3.mono hb01.size);clear hb3;cases hm:Bw [45,63,58] (c.toNat:Int) with
   | false=>
    have HM:=hid hm;clear hm;go_wp2;go_ret;exact⟨by rw[show Cd s.data.toList=true from(by unfold Cd;rw[HT.out,HL.out];simp only[List.headD_cons,List.tail_cons,HK.out,HM.out];simp[hk0])];rfl,hb03⟩
   | true=>
    have HM:=hid hm;clear hm;by_cases hR0:0<R.size
    ·have hRe:=Ax hR0;have hRi:(0:Int)<(R.size:Int):=by omega
     have hl2:=J5 R hR0;obtain⟨d,hd⟩:∃ d,R[0]'hR0=d:=⟨_,rfl⟩
     rw[hd] at hl2;have HL2:=hid hl2;clear hl2;go_wp2;go_ret;exact⟨by rw[show Cd s.data.toList=((d.toNat:Int) !=32) from(by unfold Cd;rw[HT.out,HL.out];simp only[List.headD_cons,List.tail_cons,HK.out,HM.out,HL2.out];rw[show((d.toNat:Int) !=32)= !(d==32) from Acx d 32];simp[hk0])];rfl,hb03⟩
    ·have hRe:=A9 hR0;go_wp2;go_ret;exact⟨by rw[show Cd s.data.toList=false from(by unfold Cd;rw[HT.out,HL.out];simp only[List.headD_cons,List.tail_cons,HK.out,HM.out];rw[show R.data.toList=[] from(by rw[D7 (show R.size=0 by omega)])];simp)];rfl,hb03⟩
 ·have hTi:(!trimB s.data.toList 32==s.toList)=true:=by rw[Lib.toList_data];simpa using hT
  have HT:=hid hT;clear hT;go_wp2;go_ret;exact⟨by rw[show Cd s.data.toList=false from(by unfold Cd;rw[show(trimB s.data.toList 32==s.data.toList)=false from(by simpa using HT.out)];simp)];rfl,hb01⟩
theorem UM (s:ByteArray) (flow:Bool) (w:Y) (hs:s.size<=1000000) (hT:Bf w):
  Calls Tryz.prog 41 #[Q s,.bool flow] w fun e w'=>e=.returned (.bool (Fl s.data.toList flow))/\Below w.heap.size w w':=by
 by_cases h0:0<s.size
 ·have he:=Ax h0;have hne:s.data.toList.isEmpty=false:=by rw[<- Lib.toList_data];exact he
  have HE:=hid hne;clear hne;go_enter Tryz.func41,Tryz.ntmps41;go_wp2_with fail;refine(B2 s _ hs hT).mono ?_;rintro e w1 ⟨rfl,hb1⟩;cases hv:validD s.data.toList with
  | false=>
   have HV:=hid hv;clear hv;go_wp2;go_ret;exact⟨by rw[show Fl s.data.toList flow=false from(by unfold Fl;rw[HV.out];simp)];rfl,hb1⟩
  | true=>
   have HV:=hid hv;clear hv;go_wp2_with fail;refine(QV s _ hs h0).mono ?_;rintro e w2 ⟨rfl,hb2⟩;have hb02:Below w.heap.size w w2:=hb1.trans (hb2.mono hb1.size);cases hb:Cd s.data.toList with
   | false=>
    have HB:=hid hb;clear hb;go_wp2;go_ret;exact⟨by rw[show Fl s.data.toList flow=false from(by unfold Fl;rw[HV.out,HB.out];simp)];rfl,hb02⟩
   | true=>
    have HB:=hid hb;clear hb;go_wp2_with fail;refine(U0 s flow _ hs).mono ?_;rintro e w3 ⟨rfl,hb3⟩;go_wp2;go_ret;exact⟨by rw[show Fl s.data.toList flow=JA s.data.toList flow from(by unfold Fl;rw[HV.out,HB.out,HE.out];simp)];rfl,hb02.trans (hb3.mono hb02.size)⟩
 ·have he:=A9 h0;have hne:s.data.toList.isEmpty=true:=by rw[<- Lib.toList_data];exact he
  have HE:=hid hne;clear hne;go_enter Tryz.func41,Tryz.ntmps41;go_wp2;go_ret;exact⟨by rw[show Fl s.data.toList flow=false from(by unfold Fl;rw[HE.out];simp)];rfl,Bq _ _⟩
end
section
def YT (n:Int):Bool:=decide (0<=n)&&decide (n<=1114111)&&(decide (n<55296)||decide (57343<n))
def BA (n:Int):Bool:=decide (32<=n)&& !(n==127)
theorem Ps (s:ByteArray) (a k:Nat):(s.extract a (a+k)).toList=(s.data.toList.drop a).take k:=by
 rw[Lib.toList_data,Lib.extract_data,Nat.add_sub_cancel_left]
end
section
theorem b8 (z:Int) (x:UInt8) (h0:0<=z) (h1:z<256) (h:z.toNat.toUInt8=x):(x.toNat:Int)=z:=by
 subst h;simp;omega
theorem NL (v:Int):YT v=true↔0<=v/\v<=1114111/\(v<55296\/57343<v):=by
 unfold YT;simp[and_assoc]
theorem YJ (v:Int) (h:v.toNat=65533):(encodeRune v).length=3:=by
 have:v=65533:=by omega
 subst this;decide
def Zr (l:List UInt8):List Int:=(AJ l).map fun n:Nat=>(n:Int)
def Uk (l:List UInt8):List Int×Int:=if validD l then (Zr l,0) else ([],40)
def Av (l:List UInt8) (c:UInt8):Bool:=l.contains c
theorem SU {l:List UInt8} {c:UInt8}:Av l c=true↔c∈l:=List.contains_iff_mem
theorem MD {l:List UInt8} {c:UInt8} {k:Nat} (h:k<l.length):Av (l.take (k+1)) c=(Av (l.take k) c||c==l[k]):=by
 unfold Av;rw[Bool.eq_iff_iff,List.contains_iff_mem,List.take_succ_eq_append_getElem h,List.mem_append,List.mem_singleton,Bool.or_eq_true,List.contains_iff_mem,beq_iff_eq]
def Us (l:List UInt8):Bool:=(Uk l).1.all BA&&(Uk l).2==0
end
section
def BL:List UInt8:=[44,91,93,123,125]
def Ai5 (l:List UInt8) (i:Nat):Bool:=l.getD i 0==58&&(i+1==l.length||l.getD (i+1) 0==32)
def Ajn (l:List UInt8) (i:Nat):Bool:=l.getD i 0==35&&(decide (0<i)&&l.getD (i - 1) 0==32)
def Aha (l:List UInt8) (flow:Bool) (i:Nat):Bool:=Ai5 l i||Ajn l i||(flow&&Av BL (l.getD i 0))
def okR (l:List UInt8) (flow:Bool) (k:Nat):Bool:=(List.range k).all fun i=> !Aha l flow i
def Afw (l:List UInt8):Bool:= !l.isEmpty&&(Us l&&(!(l.getD 0 0==32)&&(!(l.getD (l.length - 1) 0==32)&& !Av GK (l.getD 0 0))))
def YC (l:List UInt8):Bool:=Av [45,63,58] (l.getD 0 0)&&(l.length==1||l.getD 1 0==32)
def Xi (l:List UInt8) (flow:Bool):Bool:=Afw l&&(!YC l&&okR l flow l.length)
theorem Pm (d e:UInt8):((d.toNat:Int)==(e.toNat:Int))=(d==e):=by
 rw[Bool.eq_iff_iff];simp[<- UInt8.toNat_inj];omega
theorem Cq (s:ByteArray) (i:Nat) (h:i<s.size):s.data.toList.getD i 0=s[i]'h:=by
 have h2:i<s.data.toList.length:=by rw[<- Lib.size_eq];exact h
 rw[List.getD,List.getElem?_eq_getElem h2];rfl
end
section
def MT (flow:Bool) (prev c:UInt8) (r:List UInt8):Bool:=
 (c==58&&(r.isEmpty||r.getD 0 0==32))||(c==35&&prev==32)||(flow&&Av BL c)
def Qu (flow:Bool):UInt8->List UInt8->Bool
 | _,[]=>true
 | prev,c::r=> !MT flow prev c r&&Qu flow c r
def OM (flow:Bool) (prev:UInt8) (m:List UInt8) (i:Nat):Bool:=MT flow (if i=0 then prev else m.getD (i - 1) 0) (m.getD i 0) (m.drop (i+1))
theorem Vl (flow:Bool):∀ (prev:UInt8) (m:List UInt8),Qu flow prev m=true↔∀ i,i<m.length->OM flow prev m i=false
 | prev,[]=>by simp[Qu]
 | prev,c::r=>by
  have ih:=Vl flow c r;unfold Qu;rw[Bool.and_eq_true,ih];constructor
  ·rintro⟨h1,h2⟩ i hi;cases i with
   | zero=>simpa[OM] using h1
   | succ i=>
    have:=h2 i (by simpa using hi);cases i with
    | zero=>simpa[OM] using this
    | succ j=>simpa[OM] using this
  ·intro h;refine⟨?_,fun i hi=>?_⟩
   ·have:=h 0 (by simp);simpa[OM] using this
   ·have:=h (i+1) (by simpa using hi);cases i with
    | zero=>simpa[OM] using this
    | succ j=>simpa[OM] using this
theorem Aae {l:List UInt8} {flow:Bool} {i:Nat} (hi:i<l.length):Aha l flow i=OM flow 0 l i:=by
 unfold Aha OM MT Ai5 Ajn;have h1:(i+1==l.length||l.getD (i+1) 0==32)=((l.drop (i+1)).isEmpty||(l.drop (i+1)).getD 0 0==32):=by
  congr 1
  ·rw[Bool.eq_iff_iff,List.isEmpty_iff,List.drop_eq_nil_iff];simp;omega
  ·simp[List.getD,List.getElem?_drop]
 have h2:(decide (0<i)&&l.getD (i - 1) 0==32)=((if i=0 then (0:UInt8) else l.getD (i - 1) 0)==32):=by
  by_cases h0:i=0
  ·subst h0;simp
  ·rw[if_neg h0,decide_eq_true (by omega)];rfl
 rw[h1,h2]
theorem Aiy (l:List UInt8) (flow:Bool):okR l flow l.length=Qu flow 0 l:=by
 rw[Bool.eq_iff_iff,Vl];unfold okR;rw[List.all_eq_true];constructor
 ·intro h i hi;have:=h i (List.mem_range.2 hi);rw[<- Aae hi];simpa using this
 ·intro h i hi;have:=h i (List.mem_range.1 hi);rw[<- Aae (List.mem_range.1 hi)] at this;rw[this];rfl
theorem W7 {flow:Bool} {prev c:UInt8} {r:List UInt8} (h:128<=c.toNat):MT flow prev c r=false:=by
 have e:∀ d:UInt8,d.toNat<128->(c==d)=false:=fun d hd=>by
  rw[<- Bool.not_eq_true,beq_iff_eq];rintro rfl;omega
 have ne:∀ d:UInt8,d.toNat<128->¬c=d:=fun d hd=>by
  rintro rfl;omega
 unfold MT Av BL;simp[e 58 (by decide),e 35 (by decide),List.contains_cons];exact fun _=>⟨ne 44 (by decide),ne 91 (by decide),ne 93 (by decide),ne 123 (by decide),ne 125 (by decide)⟩
theorem Pn (flow:Bool):∀ (hs m:List UInt8) (prev:UInt8),(∀ b∈hs,128<=b.toNat)->Qu flow prev (hs++m)=Qu flow (hs.getLastD prev) m
 | [],m,prev,_=>rfl
 | h::hs,m,prev,hh=>by
  show(!MT flow prev h (hs++m)&&Qu flow h (hs++m))=_;rw[W7 (hh h (by simp)),Pn flow hs m h (fun b hb=>hh b (by simp[hb])),List.getLastD_cons];rfl
theorem Ql (v:Int) (h:128<=v):∀ b∈encodeRune v,128<=b.toNat:=by
 intro b hb;unfold encodeRune at hb;obtain⟨z,hz,rfl⟩:=List.mem_map.1 hb;have hb2:=encodeRuneZ_byte v z hz;have h128:128<=z:=by
  by_cases c1:v<=2047
  ·rw[encodeRuneZ_two h c1] at hz;simp at hz;omega
  by_cases c2:v<=65535
  ·by_cases c3:v<55296\/57343<v
   ·rw[encodeRuneZ_three (by omega)] at hz;simp at hz;omega
   ·rw[encodeRuneZ_bad (by omega)] at hz;simp at hz;omega
  ·by_cases c3:v<=1114111
   ·rw[encodeRuneZ_four (by omega) c3] at hz;simp at hz;omega
   ·rw[encodeRuneZ_bad (by omega)] at hz;simp at hz;omega
 have:=b8 z _ (by omega) (by omega) rfl;omega
theorem Em (b:UInt8) (t:List UInt8) (h:128<=b.toNat):128<=(decodeL (b::t)).1:=by
 have:=decode_high ⟨(b::t).toArray⟩ 0 (by rw[Lib.size_eq];simp) (show 128<=b.toNat from h);exact this.1
def An (r:Nat):Bool:=BA (r:Int)
theorem Ad1 (c:UInt8) (t:List UInt8):((decodeL (c::t)).1==32)=(c==32):=by
 by_cases h:c.toNat<128
 ·rw[decodeL_ascii c t h,Bool.eq_iff_iff];simp[<- UInt8.toNat_inj]
 ·have h1:=Em c t (by omega);rw[Bool.eq_iff_iff];simp[<- UInt8.toNat_inj];omega
theorem NI (b:UInt8):(b.toNat==44||b.toNat==91||b.toNat==93||b.toNat==123||b.toNat==125)=Av BL b:=by
 rw[Bool.eq_iff_iff];unfold Av BL;simp[<- UInt8.toNat_inj,List.contains_cons,or_assoc]
theorem OJ (flow:Bool):∀ (n:Nat) (l:List UInt8) (last:Nat) (prev:UInt8),l.length<=n->validD l=true->(last==32)=(prev==32)→
  Cr flow (B6 last (AJ l))=((AJ l).all An&&Qu flow prev l)
 | 0,l,last,prev,hn,_,_=>by
  have:l=[]:=List.eq_nil_of_length_eq_zero (by omega);subst this;rfl
 | n+1,[],last,prev,hn,_,_=>rfl
 | n+1,b::t,last,prev,hn,hv,hp=>by
  by_cases hb:b.toNat<128
  ·have hd:=decodeL_ascii b t hb;have hrs:AJ (b::t)=b.toNat::AJ t:=by rw[Bo _ (by simp),hd];rfl
   rw[validD_cons b t hb] at hv;have ih:=OJ flow n t b.toNat b (by simpa using hn) hv (by rw[Bool.eq_iff_iff];simp[<- UInt8.toNat_inj]);rw[hrs];have hplain:An b.toNat=(!decide (b.toNat<32)&& !(b.toNat==127)):=by
    unfold An BA;rw[Bool.eq_iff_iff];simp;omega
   have hb58:(b.toNat==58)=(b==58):=by rw[Bool.eq_iff_iff];simp[<- UInt8.toNat_inj]
   have hb35:(b.toNat==35)=(b==35):=by rw[Bool.eq_iff_iff];simp[<- UInt8.toNat_inj]
   cases t with
   | nil=>
    rw[show AJ []=[] from rfl];show Cr flow [(b.toNat,last,0)]=_;unfold Cr Qu Qu Du MT;simp only[List.all_cons,List.all_nil,Bool.and_true,hplain,NI,hb58,hb35,hp]
    cases (b==58)<;>cases (b==35)<;>cases (prev==32)<;>cases flow<;>cases Av BL b<;>cases decide (b.toNat<32)<;>cases (b.toNat==127)<;>rfl
   | cons c t'=>
    have hr2:AJ (c::t')=(decodeL (c::t')).1::AJ ((c::t').drop (decodeL (c::t')).2):=Bo _ (by simp);obtain⟨q,hq⟩:∃ q,(decodeL (c::t')).1=q:=⟨_,rfl⟩
    have h32:(q==32)=(c==32):=by rw[<- hq];exact Ad1 c t'
    rw[hq] at hr2;have hX:q=0->Cr flow (B6 b.toNat (AJ (c::t')))=false:=fun h0=>by
     rw[ih,hr2,h0];rfl
    have hL:Cr flow (B6 last (b.toNat::AJ (c::t')))=(!Du flow (b.toNat,last,q)&&Cr flow (B6 b.toNat (AJ (c::t')))):=by
     rw[hr2];rfl
    rw[hL,List.all_cons];show _=(_&&(!MT flow prev b (c::t')&&Qu flow b (c::t')))
    have hA:Du flow (b.toNat,last,q)=(decide (b.toNat<32)||b.toNat==127||(flow&&Av BL b)||(b==58&&(q==0||c==32))||(b==35&&prev==32)):=by
     unfold Du;simp only[NI,hb58,hb35,hp,h32]
    have hC:MT flow prev b (c::t')=((b==58&&c==32)||(b==35&&prev==32)||(flow&&Av BL b)):=by
     unfold MT;simp
    rw[hA,hC,hplain];by_cases h0:q=0
    ·rw[hX h0];have:=hX h0;rw[ih] at this;cases h1:(AJ (c::t')).all An
     ·simp
     ·rw[h1] at this;have h2:Qu flow b (c::t')=false:=by simpa using this
      rw[h2];simp
    ·have h00:(q==0)=false:=by simpa using h0
     rw[ih,h00];cases (b==58)<;>cases (b==35)<;>cases (prev==32)<;>cases flow<;>cases Av BL b<;>cases decide (b.toNat<32)<;>cases (b.toNat==127)<;>cases (c==32)<;>cases (AJ (c::t')).all An<;>cases Qu _ b (c::t')<;>rfl
  ·have hne:b::t≠[]:=by simp
   have hvs:=validD_step (b::t) hne;have hbad:¬((decodeL (b::t)).1=65533/\(decodeL (b::t)).2=1):=fun h=>by
    rw[if_pos h,hv] at hvs;cases hvs
   rw[if_neg hbad,hv] at hvs;have hr:=Em b t (by omega);have henc:=encode_decode (b::t) hne hbad;have hle:=decodeL_le (b::t) hne;have hw:=decodeL_width (b::t);have hall:∀ x∈(b::t).take (decodeL (b::t)).2,128<=x.toNat:=by rw[<- henc];exact Ql _ (by omega)
   have hrs:=Bo (b::t) hne;obtain⟨q,hq⟩:∃ q,(decodeL (b::t)).1=q:=⟨_,rfl⟩
   obtain⟨k,hk⟩:∃ k,(decodeL (b::t)).2=k:=⟨_,rfl⟩
   rw[hq] at hr;rw[hk] at hle hw hall hvs;rw[hq,hk] at hrs;have hsplit:b::t=(b::t).take k++(b::t).drop k:=(List.take_append_drop _ _).symm;have hoB:Qu flow prev (b::t)=Qu flow (((b::t).take k).getLastD prev) ((b::t).drop k):=by
    conv=>lhs;rw[hsplit]
    exact Pn flow _ _ _ hall
   have hlast:((q==32):Bool)=(((b::t).take k).getLastD prev==32):=by
    have h1:(q==32)=false:=by simp;omega
    rw[h1];have hne2:(b::t).take k≠[]:=by
     intro h;have:=congrArg List.length h;rw[List.length_take] at this;simp at this;omega
    have hmem:((b::t).take k).getLastD prev∈(b::t).take k:=by
     rw[List.getLastD_eq_getLast?,List.getLast?_eq_some_getLast hne2];exact List.getLast_mem hne2
    have:=hall _ hmem;symm;rw[<- Bool.not_eq_true,beq_iff_eq];intro h;rw[h] at this;exact absurd this (by decide)
   have ih:=OJ flow n ((b::t).drop k) q _ (by rw[List.length_drop];omega) hvs.symm hlast;rw[hrs,hoB,List.all_cons];have hpq:An q=true:=by unfold An BA;simp;omega
   have hbq:∀ z,Du flow (q,last,z)=false:=fun z=>by
    unfold Du;have e:∀ d,d<128->(q==d)=false:=fun d hd=>by simp;omega
    simp[e 127 (by omega),e 44 (by omega),e 91 (by omega),e 93 (by omega),e 123 (by omega),e 125 (by omega),e 58 (by omega),e 35 (by omega)];omega
   rw[hpq,Bool.true_and,<- ih];cases hrr:AJ ((b::t).drop k) with
   | nil=>show Cr flow [(q,last,0)]=Cr flow [];simp[Cr,hbq]
   | cons z rest=>
    show Cr flow ((q,last,z)::B6 q (z::rest))=_;unfold Cr;rw[List.all_cons,hbq];rfl
theorem CV (c:UInt8):∀ l:List UInt8,(l.dropWhile (·==c)).length<=l.length
 | []=>by simp
 | b::t=>by
  rw[List.dropWhile_cons];split
  ·have:=CV c t;simp;omega
  ·simp
theorem getD_at {l:List UInt8} {i:Nat} (h:i<l.length):l[i]? =F (l.getD i 0):=by
 rw[List.getD,List.getElem?_eq_getElem h];rfl
theorem Acg (l:List UInt8) (hne:l≠[]):(trimB l 32==l)=(!(l.getD 0 0==32)&& !(l.getD (l.length - 1) 0==32)):=by
 have hl:0<l.length:=List.length_pos_iff.2 hne;by_cases h2:l.getD (l.length - 1) 0=32
 ·have hlt:(trimRightB l 32).length<l.length:=by
   unfold trimRightB;rw[List.length_reverse];have hrev:l.reverse=32::l.reverse.tail:=by
    cases hr:l.reverse with
    | nil=>simp at hr;exact absurd hr hne
    | cons x xs=>
     have hx:l.reverse[0]? =F x:=by rw[hr];rfl
     rw[List.getElem?_reverse hl,getD_at (by omega)] at hx;have:l.getD (l.length - 1) 0=x:=by simpa using hx
     rw[<- this,h2];rfl
   rw[hrev,List.dropWhile_cons];simp only[BEq.rfl,if_true]
   have:=CV 32 l.reverse.tail;rw[List.length_tail,List.length_reverse] at this;omega
  have hne2:trimB l 32≠l:=fun h=>by
   have h3:=congrArg List.length h;unfold trimB trimLeftB at h3;have:=CV 32 (trimRightB l 32);omega
  rw[h2];simpa using hne2
 ·have hr:trimRightB l 32=l:=by
   rw[trimRightB_take l 32 l.length Nr (fun j b h1 h3=>by rw[List.getElem?_eq_none h1] at h3;cases h3) (fun b _ h3=>by
    rw[getD_at (by omega)] at h3;have:l.getD (l.length - 1) 0=b:=by simpa using h3
    rw[<- this];exact h2),List.take_length]
  have h2b:(l.getD (l.length - 1) 0==32)=false:=by simpa using h2
  rw[h2b];by_cases h1:l.getD 0 0=32
  ·have hne2:trimB l 32≠l:=fun h=>by
    have h3:=congrArg List.length h;unfold trimB at h3;rw[hr] at h3;unfold trimLeftB at h3;cases hll:l with
    | nil=>exact hne hll
    | cons b t=>
     rw[hll] at h1 h3;have hb:b=32:=h1;subst hb;rw[List.dropWhile_cons] at h3;simp only[BEq.rfl,if_true] at h3;have:=CV 32 t;simp at h3;omega
   rw[h1];simpa using hne2
  ·have:trimB l 32=l:=by
    unfold trimB;rw[hr,trimLeftB_drop l 32 0 (by omega) (fun j b h _=>by omega) (fun b h3=>by
     rw[getD_at hl] at h3;have:l.getD 0 0=b:=by simpa using h3
     rw[<- this];exact h1)]
    rfl
   rw[this];have h1b:(l.getD 0 0==32)=false:=by simpa using h1
   rw[h1b];simp
theorem RC (l:List UInt8) (c:UInt8):decide (0<=Lib.indexByte l c)=Av l c:=by
 unfold Av;induction l with
 | nil=>rfl
 | cons b t ih=>
  unfold Lib.indexByte;have hge:=Lib.indexByte_ge t c;rw[List.contains_cons,<- ih];by_cases h:b=c
  ·subst h;simp
  ·have h1:(b==c)=false:=by simpa using h
   have h2:(c==b)=false:=by simpa using fun e=>h e.symm
   rw[h1,h2];simp only[Bool.false_eq_true,if_false,Bool.false_or]
   by_cases h3:Lib.indexByte t c= -1
   ·simp[h3]
   ·have h4:(Lib.indexByte t c== -1)=false:=by simpa using h3
    rw[h4];simp only[Bool.false_eq_true,if_false]
    rw[Bool.eq_iff_iff];simp;omega
theorem Xc (c:UInt8):Bw [45,63,58] (c.toNat:Int)=Av [45,63,58] c:=by
 rw[Bool.eq_iff_iff];unfold Bw Av;simp[<- UInt8.toNat_inj,List.contains_cons];omega
theorem W9 (l:List UInt8):Us l=(validD l&&(AJ l).all An):=by
 unfold Us Uk Zr;cases validD l with
 | true=>simp[List.all_map,Function.comp_def];rfl
 | false=>simp
theorem LM (l:List UInt8):l.headD 0=l.getD 0 0:=by cases l<;>rfl
theorem Adj (l:List UInt8) (hne:l≠[]):(!YC l)=(!(Bw [45,63,58] ((l.headD 0).toNat:Int))||(!l.tail.isEmpty&& !(l.tail.headD 0==32))):=by
 unfold YC;rw[Xc,LM];cases l with
 | nil=>exact absurd rfl hne
 | cons b t=>
  cases t with
  | nil=>simp
  | cons c t'=>simp
theorem UY (l:List UInt8) (flow:Bool):Xi l flow=Fl l flow:=by
 cases hl:l with
 | nil=>rfl
 | cons b t=>
  rw[<- hl];have hne:l≠[]:=by rw[hl];simp
  have he:l.isEmpty=false:=by rw[hl];rfl
  unfold Xi Fl Afw Cd JA;rw[Acg l hne,RC,Aiy,W9,Adj l hne,he,LM];cases hv:validD l with
  | false=>simp
  | true=>
   rw[OJ flow l.length l 0 0 Nr hv rfl];cases (AJ l).all An<;>cases (l.getD 0 0==32)<;>cases (l.getD (l.length - 1) 0==32)<;>cases Av GK (l.getD 0 0)<;>cases Qu flow 0 l<;>simp
end
section
set_option maxHeartbeats 32000000
set_option maxRecDepth 100000
abbrev TB:TypeId:=73
abbrev T8:TypeId:=5
theorem I3:(Tryz.prog.info? TB).map (·.size)=F 2:=by kernel_rfl
theorem OH:liesAt Tryz.prog Tryz.prog.depth TB (2 / Tryz.prog.cellsOf TB) 0 TB 1=true:=by kernel_rfl
theorem FB:Tryz.prog.underlying 70=F (.pointer TB):=by kernel_rfl
theorem Mx:Tryz.prog.underlying 167=F .unsafePointer:=by kernel_rfl
theorem Gq (b:Nat) (w:Y) (h0:w.cell? ⟨b,0,O⟩=F (.pointer (F ⟨b,0,O⟩))):
  Calls Tryz.prog 54 #[.pointer (F ⟨b,0,O⟩)] w fun e w'=>e=.returned (.tuple #[])/\w'=w:=by
 obtain⟨j,hj,_⟩:=Option.map_eq_some_iff.1 I3;go_enter Tryz.func54,Tryz.ntmps54;go_wp2;rw[Lib.run_neq_ptr_same w _ FB hj];go_wp2;go_end0;exact⟨rfl,rfl⟩
theorem FE (b:Nat) (w:Y) (h0:w.cell? ⟨b,0,O⟩=F (.pointer O)) (hsh:w.shape? b=F (TB,2)) (hfz:w.frozen? ⟨b,0,O⟩=false):
  Calls Tryz.prog 54 #[.pointer (F ⟨b,0,O⟩)] w fun e w'=>e=.returned (.tuple #[])/\w'=w.setCell ⟨b,0,O⟩ (.pointer (F ⟨b,0,O⟩)):=by
 obtain⟨j,hj,hjs⟩:=Option.map_eq_some_iff.1 I3;go_enter Tryz.func54,Tryz.ntmps54;go_wp2;rw[Lib.run_to_unsafe w ⟨b,0,O⟩ FB Mx hj (by rw[hjs];decide) hsh (Nat.zero_lt_succ 1)];simp only[Result.andThen]
 rw[Oper.upon_value];go_wp2;rw[run_callFunc_extern Tryz.func81 (by kernel_rfl) (by kernel_rfl) (by kernel_rfl) (e:=Extern.AbiNoEscape.same) (by kernel_rfl)];rw[Lib.run_noEscape];simp only[Result.andThen]
 rw[Oper.upon_value];go_wp2;rw[Lib.run_from_unsafe w ⟨b,0,O⟩ Mx FB hj hsh OH];simp only[Result.andThen]
 rw[Oper.upon_value];go_wp2;go_end0;exact⟨rfl,rfl⟩
theorem R5 (B b:Nat) (bs:List Value) (w:Y) (h:Lib.IsBuilderF TB T8 B b bs w):
  Calls Tryz.prog 54 #[.pointer (F ⟨b,0,O⟩)] w fun e w'=>e=.returned (.tuple #[])/\(Lib.BuilderAtF TB T8 B b (.pointer (F ⟨b,0,O⟩)) bs w'/\Below B w w'/\Lib.OthersKept T8 (F b) w w'):=by
 rcases h with h | h
 ·refine(FE b w h.cell0 h.shape h.frozen0).mono ?_;rintro e w' ⟨rfl,rfl⟩;exact⟨rfl,h.used _,(Bq B w).setCell (p:=⟨b,0,O⟩) h.1 _,(Lib.OthersKept.refl _ _ w).setCell ⟨b,0,O⟩ rfl _⟩
 ·refine(Gq b w h.cell0).mono ?_;rintro e w' ⟨rfl,rfl⟩;exact⟨rfl,h,Bq B _,Lib.OthersKept.refl _ _ _⟩
theorem JY (B b:Nat) (bs:List Value) (r:Int) (hr0: -2147483648<=r) (hr1:r<=2147483647) (w:Y) (h:Lib.IsBuilderF TB T8 B b bs w) (hlen:bs.length+4<=140737488355328) (hBw:B<=w.heap.size):
  Calls Tryz.prog 34 #[.pointer (F ⟨b,0,O⟩),.int .i32 r] w fun e w'=>e=.returned (.tuple #[I J (Lib.runeCells r).length,.nilIface])/\(Lib.BuilderAtF TB T8 B b (.pointer (F ⟨b,0,O⟩)) (bs++Lib.runeCells r) w'/\Below B w w'/\Lib.OthersKept T8 (F b) w w'):=by
 have hk4:=Lib.runeCells_le r;go_enter Tryz.func34,Tryz.ntmps34;go_wp2_with fail;refine(R5 B b bs _ h).mono ?_;rintro e w1 ⟨rfl,h1,hb1,Se⟩;obtain⟨hB,v,hbk,hown,hne⟩:=h1;obtain⟨ao,cap,rfl⟩:∃ ao cap,v=Z ao bs.length cap:=by
  rcases hown.2 with ⟨hv,h0⟩ | ⟨g,cap,cur,fz,hv,_⟩
  ·exact⟨O,0,by rw[hv,h0]⟩
  ·exact⟨_,_,hv⟩
 have c0:w1.cell? ⟨b,0,O⟩=F (.pointer (F ⟨b,0,O⟩)):=by rw[Lib.cell_of_heap hbk];rfl
 have c1:w1.cell? ⟨b,1,O⟩=F (Z ao bs.length cap):=by rw[Lib.cell_of_heap hbk];rfl
 go_wp2_with fail;refine(Tryz.utf8_AppendRune_row B _ bs.length bs r hr0 hr1 _ hown hlen (by have:=hb1.size;omega)).mono ?_;rintro e w2 ⟨v',rfl,hown',o,hgrow⟩;have hlt:b<w1.heap.size:=by
  rcases Nat.lt_or_ge b w1.heap.size with h' | h'
  ·exact h'
  ·simp[Array.getElem?_eq_none h'] at hbk
 have hb2:w2.heap[b]? =F (.cells #[.pointer (F ⟨b,0,O⟩),Z ao bs.length cap] TB (0,0)):=by
  rw[hgrow.block b (by simp;omega) (fun e=>hne e.symm),Lib.alloc_old w1 _ b hlt];exact hbk
 have d0:w2.cell? ⟨b,0,O⟩=F (.pointer (F ⟨b,0,O⟩)):=by rw[Lib.cell_of_heap hb2];rfl
 have d1:w2.cell? ⟨b,1,O⟩=F (Z ao bs.length cap):=by rw[Lib.cell_of_heap hb2];rfl
 have f1:w2.frozen? ⟨b,1,O⟩=false:=Lib.frozen_of_heap hb2 1;obtain⟨g,cap',rfl⟩:∃ g cap',v'=Z (F ⟨g,0,O⟩) (bs.length+(Lib.runeCells r).length) cap':=by
  rcases hown'.2 with ⟨_,h0⟩ | ⟨g,cap',cur,fz,hv,_⟩
  ·omega
  ·exact⟨g,cap',hv⟩
 go_wp2;go_ret2;refine⟨?_,?_,?_,((Se.alloc _).grown hgrow (Lib.ownsRowF_kind (hown.alloc _))).setCell ⟨b,1,O⟩ rfl _⟩
 ·have e:((bs.length:Int)+((Lib.runeCells r).length:Int) - (bs.length:Int))=((Lib.runeCells r).length:Int):=by omega
  simp[e]
 ·exact Lib.BuilderAtF.put (T:=TB) (e:=T8) hB hb2 (bs':=bs++Lib.runeCells r) (by simpa using hown') (by decide)
 ·exact((hb1.alloc (by have:=hb1.size;omega) _).grown hgrow (by have:=hb1.size;simp;omega) (fun k hk=>(hown.lt k hk).1)).setCell (p:=⟨b,1,O⟩) hB _
theorem Q9 (r:Int) (zs:List Int) (b n cap:Nat) (w:Y) (hn:zs.length=n) (hs:n<=1000) (hc:∀ i,i<n->w.cell? ⟨b,i,O⟩=F (.int .i32 (zs[i]?.getD 0))):
  Calls Tryz.prog 36 #[.int .i32 r,Z (F ⟨b,0,O⟩) n cap] w fun e w'=>e=.returned (.bool (Bw zs r))/\w=w':=by
 subst hn;go_enter Tryz.func36,Tryz.ntmps36;go_wp2;go_loop [9] (fun i=>∃ k:Nat,k<=zs.length/\i=I J k/\Hid (Bw (zs.take k) r=false)) (fun i=>zs.length - (intOf i).toNat)
 case atStart=>exact⟨0,by omega,rfl,hid rfl⟩
 case round=>
  obtain⟨k,hk,rfl,HN⟩:=hrel;by_cases hlt:k<zs.length
  ·have hck:=hc k hlt;clear hc;go_wp2
   ·have hx:(r==zs[k])=true:=by assumption
    go_ret;exact⟨by rw[R8 hlt hx];rfl,rfl⟩
   ·have hx:(r==zs[k])=false:=by assumption
    go_round
    case rel=>exact⟨k+1,by omega,by go_num,hid (by rw[N7 hlt,HN.out,hx];rfl)⟩
    case measure=>simp[intOf];omega
  ·go_wp2;go_ret;have h:=HN.out;rw[List.take_of_length_le (by omega)] at h;exact⟨by rw[h];rfl,rfl⟩
theorem E2 (r:Int) (zs:List Int) (n cap:Nat) (w:Y) (hn:zs.length=n) (hs:n<=1000):
  Calls Tryz.prog 36 #[.int .i32 r,Z (F ⟨w.heap.size,0,O⟩) n cap] (w.alloc (.cells (zs.map (Value.int .i32)).toArray 21)) fun e w'=>e=.returned (.bool (Bw zs r))/\Below w.heap.size w w':=by
 refine(Q9 r zs w.heap.size n cap _ hn hs (fun i hi=>?_)).mono ?_
 ·have h:=Wn w (.cells (zs.map (Value.int .i32)).toArray 21);unfold World.cell?;rw[h];simp[show i<zs.length by omega]
 ·rintro e w' ⟨rfl,rfl⟩;exact⟨rfl,(Bq _ w).alloc Nr _⟩
theorem F8 (n:Int) (w:Y):
  Calls Tryz.prog 37 #[.int .i32 n] w fun e w'=>e=.returned (.bool (BA n))/\w'=w:=by
 go_enter Tryz.func37,Tryz.ntmps37;go_wp2;all_goals (go_ret;refine⟨?_,rfl⟩)
 all_goals (refine congrArg (fun b=>Ending.returned (Value.bool b)) (?_:_=BA n);unfold BA;rw[Bool.eq_iff_iff];simp;omega)
def encR (r:Int):Value:=.int .i32 r
def DT:List (Int×Value):=[(10,.int .i32 110),(9,.int .i32 116),(13,.int .i32 114)]
def AW (k:Nat):Obj:=AZ encR (DT.take k)
theorem Afk (a b:Int):Instr.sameNow (.int .i32) (encR a) (encR b)=F (a==b):=rfl
theorem Aa5 (a:Int):MapKept.IsKey (.int .i32) (encR a):=by unfold encR;simp[MapKept.IsKey]
theorem FD (w:Y) (k:Nat) (a:Int) (v:Value) (h:AN a (DT.take k)=O) (hk:DT.take (k+1)=DT.take k++[(a,v)]):
  (Instr.mapUpdate 79 (.map (F w.heap.size)) (.int .i32 a) v).run Tryz.prog (w.alloc (AW k))=.ok () (w.alloc (AW (k+1))):=by
 unfold AW;rw[hk];have:=Ed (P:=Tryz.prog) (enc:=encR) Afk Aa5 (t:=79) (k:=21) (e:=21) (w:=w.alloc (AZ encR (DT.take k))) (l:=DT.take k) Tryz.underlying79 Tryz.underlying21 (Wn w _) a v h;rw[Fq] at this;exact this
theorem JI (w:Y):
  Calls Tryz.prog 35 #[] w fun e w'=>e=.returned (.map (F w.heap.size))/\w'=w.alloc (AW 3):=by
 have hmm:=@run_makeMap Tryz.prog;have h0:(Instr.mapUpdate 79 (.map (F w.heap.size)) (.int .i32 10) (.int .i32 110)).run Tryz.prog (w.alloc (.map #[] 0))=.ok () (w.alloc (AW 1)):=FD w 0 10 _ rfl rfl;have h1:(Instr.mapUpdate 79 (.map (F w.heap.size)) (.int .i32 9) (.int .i32 116)).run Tryz.prog (w.alloc (AW 1))=.ok () (w.alloc (AW 2)):=FD w 1 9 _ (by decide+kernel) rfl;have h2:(Instr.mapUpdate 79 (.map (F w.heap.size)) (.int .i32 13) (.int .i32 114)).run Tryz.prog (w.alloc (AW 2))=.ok () (w.alloc (AW 3)):=FD w 2 13 _ (by decide+kernel) rfl;go_enter Tryz.func35,Tryz.ntmps35;go_wp2;go_ret;exact⟨rfl,rfl⟩
abbrev rdV (s:ByteArray) (q:Int):Value:=.agg #[Q s,.int .i32 q]
def AF (s:ByteArray) (i:Nat):Int:=(Lib.decodeGo (s.extract (min i s.size) s.size)).1
theorem EX (s:ByteArray) (i:Nat) (h:i<s.size):AF s i=(Utf8.decode s i).1:=by
 unfold AF;rw[Nat.min_eq_left (by omega),He s i h]
theorem NF (s:ByteArray) (i:Nat) (h:s.size<=i):AF s i=65533:=by
 unfold AF;rw[Nat.min_eq_right h];unfold Lib.decodeGo;rw[if_pos (by simp[ByteArray.size_extract])];rfl
theorem F9 (s:ByteArray) (q:Int) (i:Nat) (w:Y) (hs:s.size<=1000000) (hi:i<=2000000) (hT:Bf w):
  Calls Tryz.prog 295 #[rdV s q,I J i] w fun e w'=>e=.returned (.int .i32 (AF s i))/\Below w.heap.size w w':=by
 have hT1:Bf (w.alloc (.cells #[Q s,.int .i32 q] 426)):=hT.below ((Bq _ w).alloc Nr _);by_cases h:i<s.size
 ·have hlt:(i:Int)<=(s.size:Int):=by omega
  have HD:=hid (show((Lib.decodeGo (s.extract (min (i:Int) (s.size:Int)).toNat s.size)).1:Int)=AF s i by unfold AF;rw[show(min (i:Int) (s.size:Int)).toNat=min i s.size by omega]);go_enter Tryz.func295,Tryz.ntmps295;go_wp2_with fail;refine(Ev _ _ hT1).mono ?_;rintro e w1 ⟨rfl,hb1⟩;rw[HD.out];go_wp2;go_ret;exact⟨rfl,(((Bq _ w).alloc Nr _).trans (hb1.mono (by simp)))⟩
 ·have hge:(s.size:Int)<=(i:Int):=by omega
  have HD:=hid (show((Lib.decodeGo (s.extract (min (i:Int) (s.size:Int)).toNat s.size)).1:Int)=AF s i by unfold AF;rw[show(min (i:Int) (s.size:Int)).toNat=min i s.size by omega]);go_enter Tryz.func295,Tryz.ntmps295;go_wp2_with fail;refine(Ev _ _ hT1).mono ?_;rintro e w1 ⟨rfl,hb1⟩;rw[HD.out];go_wp2;go_ret;exact⟨rfl,(((Bq _ w).alloc Nr _).trans (hb1.mono (by simp)))⟩
def MG (c:UInt8):Option Nat:=if 48<=c.toNat/\c.toNat<=57 then F (c.toNat - 48) else if 97<=(c|||32).toNat/\(c|||32).toNat<=102 then F ((c|||32).toNat - 87) else O
def D2:Nat->List UInt8->Option Nat
 | acc,[]=>F acc
 | acc,c::t=>match MG c with
  | none=>O
  | some d=>D2 (acc*16+d) t
theorem Ae3 {c:UInt8} {d:Nat} (h:MG c=F d):d<16:=by
 unfold MG at h;split at h
 ·injection h with h;omega
 ·split at h
  ·injection h with h;omega
  ·cases h
theorem VA:∀ (l:List UInt8) (acc v:Nat),D2 acc l=F v->v<(acc+1)*16 ^ l.length
 | [],acc,v,h=>by unfold D2 at h;injection h with h;simp;omega
 | c::t,acc,v,h=>by
  unfold D2 at h;split at h
  ·cases h
  ·rename_i d hd;have h1:=VA t _ v h;have h2:=Ae3 hd;have h3:(acc*16+d+1)*16 ^ t.length<=((acc+1)*16)*16 ^ t.length:=Nat.mul_le_mul_right _ (by omega);rw[List.length_cons,Nat.pow_succ]
   calc v<(acc*16+d+1)*16 ^ t.length:=h1
    _<=((acc+1)*16)*16 ^ t.length:=h3
    _=(acc+1)*(16 ^ t.length*16):=by rw[Nat.mul_assoc,Nat.mul_comm 16]
theorem Xl (c:UInt8):bits .or .u8 (c.toNat:Int) 32=((c|||32).toNat:Int):=by
 have h:∀ n:Fin 256,bits .or .u8 (n.val:Int) 32=(((UInt8.ofNat n.val)|||32).toNat:Int):=by decide+kernel
 have:=h ⟨c.toNat,c.toNat_lt⟩;simpa using this
def Tu:Option Nat->Value
 | some n=>.tuple #[.int .u64 n,.nilIface]
 | none=>.tuple #[.int .u64 0,.iface 306 (I J 2)]
theorem IN (t:ByteArray) (hne:t.size≠0) (hmax:t.size<=4) (w:Y):
  Calls Tryz.prog 207 #[Q t,I J 16,I J 32] w fun e w'=>e=.returned (Tu (D2 0 t.data.toList))/\w'=Lib.bytesWorld w 5 t:=by
 have hemp:t.toList.isEmpty=false:=by
  rw[<- decide_eq_emptyBytes];exact decide_eq_false (fun h=>hne (by rw[h];rfl))
 have hcv:=Lib.run_convert_string_bytes (P:=Tryz.prog) w 9 71 5 t (u:=.string) Tryz.underlying9 Tryz.underlying71 Tryz.underlying5;have hB:∀ j,j<t.size->(Lib.bytesWorld w 5 t).cell? ⟨w.heap.size,j,O⟩=F (.int .u8 (t.data.toList.getD j 0).toNat):=fun j hj=>Lib.bytesWorld_cell w 5 t j hj;obtain⟨W1,hW1⟩:∃ W1,W1=Lib.bytesWorld w 5 t:=⟨_,rfl⟩
 rw[<- hW1] at hcv hB |-;clear hW1;obtain⟨bs,hL⟩:∃ bs,bs=t.data.toList:=⟨_,rfl⟩
 have hLn:bs.length=t.size:=by rw[hL,Lib.size_eq]
 rw[<- hL] at hB |-;clear hL;have hmv:IntKind.u64.wrap (IntKind.u64.wrap 4294967296 - 1)=4294967295:=by
  rw[IntKind.wrap_u64,IntKind.wrap_u64];decide
 go_enter Tryz.func207,Tryz.ntmps207;go_wp2;go_loop [12,13,101] (fun vu vn vi=>∃ (k acc:Nat) (a:Int),vu=.bool false/\vn=.int .u64 a/\vi=I J k/\k<=t.size/\0<=a/\a<=4095+61440*(k:Int)/\Hid (a=(acc:Int)/\acc+1<=16 ^ k/\D2 0 bs=D2 acc (bs.drop k)))
  (fun _ _ vi=>t.size - (intOf vi).toNat)
 case atStart=>exact⟨0,0,0,rfl,rfl,rfl,by omega,by omega,by omega,rfl,by omega,rfl⟩
 case round=>
  obtain⟨k,acc,a,rfl,rfl,rfl,hk,a0,_,hh⟩:=hrel;obtain⟨ha,hacc,hdec⟩:=hh.out;clear hh;by_cases hkn:k<t.size
  ·have a1:a<=4095:=by
    have:16 ^ k<=16 ^ 3:=Nat.pow_le_pow_right (by omega) (by omega);omega
   have hc:=hB k hkn;have hdrop:bs.drop k=bs[k]'(by omega)::bs.drop (k+1):=List.drop_eq_getElem_cons (by omega);have hget:bs.getD k 0=bs[k]'(by omega):=by simp[List.getD,List.getElem?_eq_getElem (show k<bs.length by omega)]
   rw[hdrop] at hdec;rw[hget] at hc;generalize bs[k]'(by omega)=c at hc hdec;have hc256:c.toNat<256:=c.toNat_lt;clear hB hdrop hget;by_cases hdig:48<=c.toNat/\c.toNat<=57
   ·obtain⟨hd0,hd1⟩:=hdig;have hF:D2 acc (c::bs.drop (k+1))=D2 (acc*16+(c.toNat - 48)) (bs.drop (k+1)):=by
     show(match MG c with | none=>O | some d=>D2 (acc*16+d) (bs.drop (k+1)))=_;unfold MG;rw[if_pos ⟨hd0,hd1⟩]
    have HN:Hid (a*16+((c.toNat:Int) - 48)=((acc*16+(c.toNat - 48):Nat):Int)/\(acc*16+(c.toNat - 48))+1<=16 ^ (k+1)/\D2 0 bs=D2 (acc*16+(c.toNat - 48)) (bs.drop (k+1))):=Lib.hid ⟨by omega,by rw[Nat.pow_succ];omega,hdec.trans hF⟩;have hbd:a*16+((c.toNat:Int) - 48)<=4095+61440*((k+1:Nat):Int):=by omega
    have hge:0<=a*16+((c.toNat:Int) - 48):=by omega
    clear hacc hF hdec ha;go_wp2;refine⟨⟨k+1,acc*16+(c.toNat - 48),a*16+((c.toNat:Int) - 48),rfl,(by first | rfl | (congr 1;omega)),(by first | rfl | (congr 1;omega)),by omega,hge,hbd,HN⟩,by simp[intOf];omega⟩
   ·have hlo:=Xl c;obtain⟨lc,hlc⟩:∃ lc:Nat,(c|||32).toNat=lc:=⟨_,rfl⟩
    rw[hlc] at hlo;have hl256:lc<256:=by rw[<- hlc];exact(c|||32).toNat_lt
    have hF:D2 acc (c::bs.drop (k+1))=if 97<=lc/\lc<=102 then D2 (acc*16+(lc - 87)) (bs.drop (k+1)) else O:=by
     show(match MG c with | none=>O | some d=>D2 (acc*16+d) (bs.drop (k+1)))=_;unfold MG;rw[if_neg hdig,hlc];by_cases hx:97<=lc/\lc<=102
     ·rw[if_pos hx,if_pos hx]
     ·rw[if_neg hx,if_neg hx]
    have hlw:=fun wx=>Tryz.internal_strconv_lower (c.toNat:Int) wx;rw[hlo] at hlw;have h95:c.toNat=95->lc=127:=fun h=>by
     have:c=95:=UInt8.toNat_inj.1 (by simpa using h);rw[<- hlc,this];rfl
    clear hlo hlc;by_cases hlet:97<=lc/\lc<=102
    ·rw[if_pos hlet] at hF;obtain⟨hd0,hd1⟩:=hlet;have HN:Hid (a*16+((lc:Int) - 87)=((acc*16+(lc - 87):Nat):Int)/\(acc*16+(lc - 87))+1<=16 ^ (k+1)/\D2 0 bs=D2 (acc*16+(lc - 87)) (bs.drop (k+1))):=Lib.hid ⟨by omega,by rw[Nat.pow_succ];omega,hdec.trans hF⟩;have hbd:a*16+((lc:Int) - 87)<=4095+61440*((k+1:Nat):Int):=by omega
     have hge:0<=a*16+((lc:Int) - 87):=by omega
     have hn95:((c.toNat:Int)==95)=false:=by
      rw[<- Bool.not_eq_true,beq_iff_eq];intro h;have:=h95 (by omega);omega
     clear hacc hF hdec ha h95;go_wp2_with (go_at_call 237;refine(hlw _).mono ?_;rintro e w' ⟨rfl,rfl⟩);all_goals first
      | (exfalso;omega)
      | (refine⟨⟨k+1,acc*16+(lc - 87),a*16+((lc:Int) - 87),rfl,(by first | rfl | (congr 1;omega)),(by first | rfl | (congr 1;omega)),by omega,hge,hbd,HN⟩,by simp[intOf];omega⟩)
    ·rw[if_neg hlet] at hF;rw[hF] at hdec;clear hacc hF ha;by_cases e95:c.toNat=95
     ·have hw95:=fun wx=>Tryz.internal_strconv_lower 95 wx;rw[show bits .or .u8 95 32=127 by decide+kernel] at hw95;have e95i:(c.toNat:Int)=95:=by omega
      rw[e95i] at hc;clear h95 hlw e95 e95i hdig;go_wp2_with (go_at_call 237;refine(hw95 _).mono ?_;rintro e w' ⟨rfl,rfl⟩);all_goals (go_ret2;first | exact⟨rfl,rfl⟩ | exact⟨by rw[hdec];rfl,rfl⟩)
     ·have hn95:((c.toNat:Int)==95)=false:=by
       rw[<- Bool.not_eq_true,beq_iff_eq];intro h;omega
      clear h95 e95;go_wp2_with (go_at_call 237;refine(hlw _).mono ?_;rintro e w' ⟨rfl,rfl⟩);all_goals first
       | (exfalso;omega)
       | (go_ret2;first | exact⟨rfl,rfl⟩ | exact⟨by rw[hdec];rfl,rfl⟩)
  ·have hkk:k=t.size:=by omega
   subst hkk;have hF:D2 acc (bs.drop t.size)=F acc:=by rw[List.drop_eq_nil_of_le (by omega)];rfl
   rw[hF] at hdec;subst ha;clear hacc hF;go_wp2;go_ret2;first | exact⟨rfl,rfl⟩ | exact⟨by rw[hdec];rfl,rfl⟩
theorem RR (t:ByteArray) (hne:t.size≠0) (hmax:t.size<=4) (v:Nat) (h:D2 0 t.data.toList=F v) (w:Y):
  Calls Tryz.prog 300 #[Q t,I J 16,I J 32] w fun e w'=>e=.returned (.tuple #[.int .u64 v,.nilIface])/\Below w.heap.size w w':=by
 have hI:=IN t hne hmax w;rw[h] at hI;unfold Tu at hI;clear h;go_enter Tryz.func300,Tryz.ntmps300;go_wp2_with fail;refine hI.mono ?_;rintro e W1 ⟨rfl,hW⟩;have hb1:Below w.heap.size w W1:=by rw[hW];exact Lib.bytesWorld_below _ _ _
 clear hW;go_wp2;go_ret2;exact⟨rfl,hb1⟩
theorem Oy (t:ByteArray) (hne:t.size≠0) (hmax:t.size<=4) (h:D2 0 t.data.toList=O) (w:Y) (hT:Bf w):
  Calls Tryz.prog 300 #[Q t,I J 16,I J 32] w fun e w'=>∃ N,e=.returned (.tuple #[.int .u64 0,.iface 309 (.pointer (F ⟨N,0,O⟩))])/\Below w.heap.size w w':=by
 have hI:=IN t hne hmax w;rw[h] at hI;unfold Tu at hI;clear h;obtain⟨te,pe,hv⟩:=hT.syn;have HV:=hid hv;clear hv;go_enter Tryz.func300,Tryz.ntmps300;go_wp2_with fail;refine hI.mono ?_;rintro e W1 ⟨rfl,hW⟩;have hb1:Below w.heap.size w W1:=by rw[hW];exact Lib.bytesWorld_below _ _ _
 have HV1:=hid (cell_below HV.out hb1);clear hW HV;go_wp2_with fail;refine(Tryz.strconv_toError_syntax ⟨#[80,97,114,115,101,85,105,110,116]⟩ t 16 32 _ _ (by omega) HV1.out (.inr ⟨te,pe,rfl⟩)).mono ?_;rintro e W2 ⟨N,rfl,h1,_,h3⟩;go_wp2;go_ret2;exact⟨N,rfl,hb1.trans (h3.mono hb1.size)⟩
end
section
open Go
section
variable {P:Program}
theorem MN (w:Y) (ty:TypeId) (bm since c0:Nat) (seen:Array Nat) (es:Array MapEntry) (clock:Nat) (hb:w.heap[bm]? =F (.map es clock)) (hold:∀ x∈es.toList,x.born<since) (hsc:since<=c0):
  ((leftOf es seen).size=0/\(Instr.next (.pointer (F ⟨w.heap.size,0,O⟩)) false ty).run P (w.alloc (.mapIter (F bm) since seen c0))=.ok (.tuple #[.bool false]) (w.alloc (.mapIter (F bm) since seen c0)))∨
  ∃ e∈(leftOf es seen).toList,∃ w1:Y,(w1=w\/w1=w.drew)/\(Instr.next (.pointer (F ⟨w.heap.size,0,O⟩)) false ty).run P (w.alloc (.mapIter (F bm) since seen c0))=.ok (.tuple #[.bool true,e.key,e.val]) (w1.alloc (.mapIter (F bm) since (seen.push e.born) clock)):=by
 have hlt:bm<w.heap.size:=by
  rcases Nat.lt_or_ge bm w.heap.size with h | h
  ·exact h
  ·simp[Array.getElem?_eq_none h] at hb
 have hb':(w.alloc (.mapIter (F bm) since seen c0)).heap[bm]? =F (.map es clock):=by rw[heap_alloc_old w _ hlt,hb]
 simp only[Instr.next,getObj,Sem.run_bind,Sem.run,heap_alloc_new,hb',Result.andThen,next_test_false seen es since c0 hold hsc,Bool.false_eq_true,if_false]
 unfold leftOf;have hmem:∀ x∈(Array.filter (fun e=> !seen.contains e.born) es).toList,x.born<since:=fun x hx=>hold x (by simp at hx |-;exact hx.1);generalize Array.filter (fun e=> !seen.contains e.born) es=L at hmem |-;have e1:L.filter (fun x=>decide (x.born<since))=L:=Array.filter_eq_self.2 (fun x hx=>by simpa using hmem x (by simpa using hx));have e2:L.filter (fun x=>decide (x.born≥since))=#[]:=by
  rw[Array.filter_eq_empty_iff];intro x hx;have:=hmem x (by simpa using hx);simp;omega
 simp only[e1,e2,Array.append_empty]
 by_cases h0:L.size=0
 ·left;have:L=#[]:=Array.eq_empty_of_size_eq_zero h0;subst this;refine⟨rfl,?_⟩;simp[choose,Sem.run,Question.forced]
 ·right;have hne:L.isEmpty=false:=by simp[Array.isEmpty,h0]
  simp only[hne,Bool.false_eq_true,if_false,Array.empty_append,Array.size_map]
  have hch:∃ (j:Nat) (w1:Y),j<L.size/\(w1=w\/w1=w.drew)/\(choose (Question.mapNext L.size)).run P (w.alloc (.mapIter (F bm) since seen c0))=.ok j (w1.alloc (.mapIter (F bm) since seen c0)):=by
   by_cases hf:L.size<=1
   ·exact⟨0,w,by omega,.inl rfl,by simp[choose,Sem.run,Question.forced,hf]⟩
   ·exact⟨_,w.drew,Nat.mod_lt _ (by omega),.inr rfl,by
     simp only[choose,Sem.run,Question.forced,decide_eq_true_eq,hf,if_false,Question.cut]
     rfl⟩
  obtain⟨j,w1,hj,hal,hrun⟩:=hch;refine⟨L[j],by simp,w1,hal,?_⟩;have hsz:w1.heap.size=w.heap.size:=by rcases hal with rfl | rfl<;>rfl
  have hp:∀ (h:Array Obj) (x y:Obj),(h.push x).setIfInBounds h.size y=h.push y:=by
   intro h x y;apply Array.toList_inj.1;simp
  have hset:∀ (a:Option Nat) (b:Nat) (c:Array Nat) (d:Nat) (o':Obj),(setObj w.heap.size o').run P (w1.alloc (.mapIter a b c d))=.ok () (w1.alloc o'):=fun a b c d o'=>by
   simp only[setObj,Sem.run]
   rw[<- hsz,heap_alloc_new];show Result.ok () ({w1.alloc (.mapIter a b c d) with heap:=(w1.heap.push (.mapIter a b c d)).setIfInBounds w1.heap.size o'}:Y)=_;rw[hp];rfl
  simp only[hrun,Array.getElem?_map,Array.getElem?_eq_getElem hj,Option.map_some,Sem.run_bind,hset,Result.andThen]
  rfl
end
end
end Go.Proofs.YtdpppepmkeinaaaGreatDoor
