/- What is proved: a part of the walk of the program and of its plain laws; no condition beside those that each theorem names. -/
import Derived.Test.YtdpppepmkeinaaaGreatDoorYb
import Derived.Test.YtdpppepmkeinaaaGreatDoorYMaps
import Derived.Test.YtdpppepmkeinaaaGreatDoorYa
import Derived.Laws.EntriesVeiled
import Derived.Lib.MapLaws
import Derived.Handy
import Derived.Deep.RegionHeld3
namespace Go.Proofs.YtdpppepmkeinaaaGreatDoor
open Go Go.RowKit Go.Lib
open Go.Value renaming int->I,string->Q,slice->Z
open Go.IntKind renaming i64->J
open Option renaming none->O,some->F
open _root_.Go renaming World->Y
set_option linter.unusedSimpArgs false
set_option linter.unusedVariables false
set_option linter.unusedSectionVars false
section
set_option maxHeartbeats 1000000
set_option maxRecDepth 100000
attribute [local go_sem] Oper.semAt_some ID EE
theorem XM (s:ByteArray) (w:Y):
  Calls Tryz.prog 91 #[Q s] w fun e w'=>e=.returned (.func (.func 130) #[] #[.pointer (F ⟨w.heap.size,0,O⟩)])/\w'=w.alloc (.cells #[Q s] 9):=by
 go_enter Tryz.func91,Tryz.ntmps91;go_wp2;go_ret;exact⟨rfl,rfl⟩
theorem Wr (s:ByteArray) (flow:Bool) (w:Y) (hs:s.size<=1000000):
  Calls Tryz.prog 60 #[Q s,.bool flow] w fun e w'=>e=.returned (.bool (Ju s.data.toList flow))/\Below w.heap.size w w':=by
 refine(callsIn_wide (n:=0)).1 ?_;refine callsIn_of_wp_marks Tryz.func60 rfl trivial ?_ rfl;refine wpIn_wide.2 ?_;simp only[Tryz.ntmps60,List.size_toArray,List.length_cons,List.length_nil,Nat.reduceAdd,Nat.reduceSub,Array.replicate_succ,Array.replicate_zero,List.push_toArray,List.append_toArray,List.nil_append,List.cons_append]
 obtain⟨N,hN⟩:∃ N,w.heap.size=N:=⟨_,rfl⟩
 go_wp2_with fail;refine(XM s _).mono ?_;rintro e w0 ⟨rfl,hw0⟩;have hz:w0.heap.size=N+1+1+1+1:=by rw[hw0];simp[hN]
 have hb0:Below N w w0:=by rw[hw0];exact((((Bq N w).alloc (by omega) _).alloc (by simp;omega) _).alloc (by simp;omega) _).alloc (by simp;omega) _
 have b0:Boxed w0 N 4 (.bool flow):=by rw[hw0,<- hN];exact(((Boxed.new w _ _).alloc _).alloc _).alloc _
 have b1:Boxed w0 (N+1) 4 (.bool false):=by have:=Boxed.new (w.alloc (.cells #[.bool flow] 4)) 4 (.bool false);rw[World.size_alloc,hN] at this;rw[hw0];exact(this.alloc _).alloc _
 have b2:Boxed w0 (N+1+1) 82 (.func (.func 89) #[] #[.pointer (F ⟨N,0,O⟩)]):=by have:=Boxed.new ((w.alloc (.cells #[.bool flow] 4)).alloc (.cells #[.bool false] 4)) 82 (.func (.func 89) #[] #[.pointer (F ⟨N,0,O⟩)]);rw[World.size_alloc,World.size_alloc,hN] at this;rw[hw0];exact this.alloc _
 have b3:Boxed w0 (N+1+1+1) 9 (Q s):=by rw[hw0];have:=Boxed.new (((w.alloc (.cells #[.bool flow] 4)).alloc (.cells #[.bool false] 4)).alloc (.cells #[.func (.func 89) #[] #[.pointer (F ⟨N,0,O⟩)]] 82)) 9 (Q s);rw[World.size_alloc,World.size_alloc,World.size_alloc,hN] at this;exact this
 rw[World.size_alloc,World.size_alloc,World.size_alloc,hN];clear hw0;go_wp2;refine(wpIn_wide (n:=0)).1 ?_;refine EU (gf:=130) (lb:=#[.pointer (F ⟨N+1+1+1,0,O⟩)]) rfl (enters_of Tryz.func130 (by kernel_rfl) rfl) (WD s (N+1+1+1) N hs)
  (fun Yz hY=>⟨(Ab b3 hY).cell,(Ab b3 hY).frozen⟩) (fun k hk=>by subst hk;omega) (by omega) (fun _=>rfl)
  (fun pre W=>Hid (Dj flow pre=true)/\Boxed W N 4 (.bool flow)/\Boxed W (N+1) 4 (.bool false)/\Boxed W (N+1+1) 82 (.func (.func 89) #[] #[.pointer (F ⟨N,0,O⟩)])/\Below N w W/\N+1+1+1+1<=W.heap.size)
  (fun c pre W=>c=.ret/\Hid (Dj flow pre=false)/\Boxed W (N+1) 4 (.bool false)/\Below N w W)
  ?hI ?hIx ⟨hid rfl,b0,b1,b2,hb0,by omega⟩ ?round ?done ?stop
 case hI=>
  rintro pre X Yz ⟨h1,h2,h3,h4,h5,h6⟩ ht;exact⟨h1,Aj h2 ht (by omega),Aj h3 ht (by omega),Aj h4 ht (by omega),ht.below h5 (fun k hk=>by omega) (by omega) (by omega),Nat.le_trans h6 ht.size⟩
 case hIx=>
  rintro c pre X Yz ⟨h1,h2,h3,h5⟩ ht;exact⟨h1,h2,Aj h3 ht (by omega),ht.below h5 (fun k hk=>by omega) (by omega) (by omega)⟩
 case round=>
  rintro l pre ⟨r,la,nx⟩ W hl ⟨h1,h2,h3,h4,h5,h6⟩ hpre;have hr:r<=1114111:=V1 hpre;obtain⟨b,hb⟩:∃ b,W.heap.size=b:=⟨_,rfl⟩
  gi_wp2
  refine⟨Ak.alloc _ _,fun Wb ht _=>?_⟩;have g2:=Aj (h2.alloc _) ht (by omega);have g3:=Aj (h3.alloc _) ht (by omega);have g4:=Aj (h4.alloc _) ht (by omega);have g5:Below N w Wb:=ht.below (h5.alloc (by have:=h5.size;omega) _) (fun k hk=>by omega) (by omega) (by omega);have hnb:Wb.heap[b]? =F (.cells #[.int .i32 la,.int .i32 nx] 192):=ht.heap (by rw[<- hb];exact Wn _ _) (by omega) rfl;have g5z:N<=Wb.heap.size:=by rw[<- hN];exact g5.size
  have g6:N+1+1+1+1<=Wb.heap.size:=by have:=ht.size;simp at this;omega
  have n0:Wb.cell? ⟨b,0,O⟩=F (.int .i32 la):=by simp[World.cell?,hnb]
  have n1:Wb.cell? ⟨b,1,O⟩=F (.int .i32 nx):=by simp[World.cell?,hnb]
  have c4:=g4.cell;have c2:=g2.cell;have c3:=g3.cell;have f3:=g3.frozen;have stop:∀ w1,Below Wb.heap.size Wb w1->Er flow (r,la,nx)=true->Ak AH (·=N+1+1+1) N Wb (w1.setCell ⟨N+1,0,O⟩ (.bool false))/\Hid (Dj flow (pre++[(r,la,nx)])=false)/\Boxed (w1.setCell ⟨N+1,0,O⟩ (.bool false)) (N+1) 4 (.bool false)/\Below N w (w1.setCell ⟨N+1,0,O⟩ (.bool false)):=fun w1 hb1 hbad=>
   ⟨(Ak.of_below hb1).trans (Ak.setCell _ _ _ (by simp) (by simp)),hid (by rw[N0,hbad];simp),(Ab g3 hb1).set _,(g5.trans (hb1.mono g5z)).setCell (p:=⟨N+1,0,O⟩) (by simp) _⟩
  have STOP:=hid stop;clear stop;have go:∀ w1,Below Wb.heap.size Wb w1->Er flow (r,la,nx)=false->Ak AH (·=N+1+1+1) N Wb w1/\Hid (Dj flow (pre++[(r,la,nx)])=true)/\Boxed w1 N 4 (.bool flow)/\Boxed w1 (N+1) 4 (.bool false)/\Boxed w1 (N+1+1) 82 (.func (.func 89) #[] #[.pointer (F ⟨N,0,O⟩)])/\Below N w w1/\N+1+1+1+1<=w1.heap.size:=fun w1 hb1 hok=>
   ⟨Ak.of_below hb1,hid (by rw[N0,hok,h1.out];rfl),Ab g2 hb1,Ab g3 hb1,Ab g4 hb1,g5.trans (hb1.mono g5z),Nat.le_trans g6 hb1.size⟩
  have GO:=hid go;clear go;clear h2 h3 h4 hnb g2 ht;by_cases hA:r<32
  ·have hAi:(r:Int)<32:=by omega
   gi_wp2
   exact have h:=STOP.out _ (Bq _ _) (by simp[Er,hA]);⟨h.1,rfl,h.2⟩
  have hAi:¬(r:Int)<32:=by omega
  by_cases hB:r=127
  ·have hBi:((r:Int)==127)=true:=by simp;omega
   have HB:=hid hB;clear hB
   gi_wp2
   exact have h:=STOP.out _ (Bq _ _) (by simp[Er,HB.out]);⟨h.1,rfl,h.2⟩
  have hBi:((r:Int)==127)=false:=by simp;omega
  gi_wp2_with fail
  refine(CallsIn.inRound l (callsIn_wide.2 (Ru r flow N _ hr c2))).mono ?_;rintro e w1 ⟨rfl,hb1⟩;have c3':=cell_below c3 hb1;have f3':=K5 c3 f3 hb1;have n0':=cell_below n0 hb1;have n1':=cell_below n1 hb1;clear c3 f3 n0 n1 c2 c4;have HC0:Hid (∀ b,(flow&&I3 r)=b->(flow&&(r==44||r==91||r==93||r==123||r==125))=b):=hid (fun b h=>h);by_cases hC:(flow&&I3 r)=true
  ·have HC:=hid hC;rw[hC];clear hC
   gi_wp2
   exact have h:=STOP.out _ hb1 (by simp[Er,HC0.out _ HC.out]);⟨h.1,rfl,h.2⟩
  have hC':(flow&&I3 r)=false:=by simpa using hC
  have HC:=hid hC';rw[hC'];clear hC hC';by_cases hD:r=58
  ·have hDi:((r:Int)==58)=true:=by simp;omega
   have hEi:((r:Int)==35)=false:=by simp;omega
   have HD:=hid hD;clear hD
   gi_wp2_with fail
   refine(CallsIn.inRound l (callsIn_wide.2 (IU nx [0,32] _ _ _ rfl (by decide)))).mono ?_;rintro e w2 ⟨rfl,hb2⟩;have hb12:Below Wb.heap.size Wb w2:=hb1.trans (hb2.mono hb1.size);have c3'':=cell_below c3' hb2;have f3'':=K5 c3' f3' hb2;have n0'':=cell_below n0' hb2;clear c3' f3' n0' n1';cases hm:BC [0,32] (nx:Int) with
   | true=>
    have HM:=hid (Uf hm);clear hm
    gi_wp2
    exact have h:=STOP.out _ hb12 (by simp[Er,HD.out,HM.out]);⟨h.1,rfl,h.2⟩
   | false=>
    have HM:=hid (Uf hm);clear hm
    gi_wp2
    exact GO.out _ hb12 (by simp[Er,HD.out,HM.out])
  have hDi:((r:Int)==58)=false:=by simp;omega
  have HD:=hid hD;clear hD;by_cases hE:r=35
  ·have hEi:((r:Int)==35)=true:=by simp;omega
   have HE:=hid hE;clear hE;by_cases hL:la=32
   ·have hLi:((la:Int)==32)=true:=by simp;omega
    have HL:=hid hL;clear hL
    gi_wp2
    exact have h:=STOP.out _ hb1 (by simp[Er,HE.out,HL.out]);⟨h.1,rfl,h.2⟩
   ·have hLi:((la:Int)==32)=false:=by simp;omega
    have HL:=hid hL;clear hL
    gi_wp2
    exact GO.out _ hb1 (by have:=HC0.out _ HC.out;simp[Er,HE.out,HL.out])
  ·have hEi:((r:Int)==35)=false:=by simp;omega
   have HE:=hid hE;clear hE;have HA:=hid hA;have HB:=hid hB
   gi_wp2
   exact GO.out _ hb1 (by simp[Er,HA.out,HB.out,HD.out,HE.out,HC0.out _ HC.out])
 case done=>
  rintro D W hD ⟨h1,h2,h3,h4,h5,h6⟩ hK;have c3:=h3.cell;have f3:=h3.frozen;go_wp2;have h3':=h3.set (.bool true);have hK':(W.setCell ⟨N+1,0,O⟩ (.bool true)).heap[D]? =F (.deferred (F [])):=(KeepsOthers.setCell W ⟨N+1,0,O⟩ (.bool true)).same D _ hK rfl;refine⟨by simp,.inl ⟨_,_,rfl,run_takeDeferred hK',?_⟩⟩;have hc5:=(AR h3' hK' (.deferred O)).cell;refine⟨.bool true,by simp[results,Tryz.f60,go_sem,hc5],by rw[show Ju s.data.toList flow=true from h1.out],?_⟩;rw[hN];exact CY (h5.setCell (p:=⟨N+1,0,O⟩) (by simp) _) hK' (by omega) (by omega) _
 case stop=>
  rintro D c pre W hD hpre ⟨rfl,h2,h3,h5⟩ hK;refine wpIn_wide.2 ?_;go_wp2;refine⟨by simp,.inl ⟨_,_,rfl,run_takeDeferred hK,?_⟩⟩;have hc5:=(AR h3 hK (.deferred O)).cell;have hall:Ju s.data.toList flow=false:=VK hpre h2.out;refine⟨.bool false,by simp[results,Tryz.f60,go_sem,hc5],by rw[hall],?_⟩;rw[hN];exact CY h5 hK (by omega) (by omega) _
theorem Zx (s:ByteArray) (w:Y) (hs:s.size<=1000000):
  Calls Tryz.prog 86 #[Q s,Q ⟨#[32]⟩] w fun e w'=>e=.returned (Q ⟨(Lib.trimB s.data.toList 32).toArray⟩)/\Below w.heap.size w w':=by
 refine(Tryz.strings_Trim_one s 32 (by decide) w (by omega)).mono ?_;rintro e w' ⟨rfl,hw⟩;refine⟨rfl,?_⟩;rcases hw with rfl | rfl
 ·exact Bq _ _
 ·exact(Bq _ _).drew
theorem Lo (s:ByteArray) (h0:0<s.size):s.data.toList=s[0]'h0::(s.extract 1 s.size).data.toList:=by
 rw[Lib.extract_data,List.take_of_length_le (by rw[List.length_drop,<- Lib.size_eq];omega)];have hl:0<s.data.toList.length:=by rw[<- Lib.size_eq];exact h0
 have:=List.drop_eq_getElem_cons hl;rw[List.drop_zero] at this;rw[Nat.zero_add] at this;exact this
theorem Ad7 (d e:UInt8):((d.toNat:Int) !=(e.toNat:Int))= !(d==e):=by
 rw[Bool.eq_iff_iff];simp[<- UInt8.toNat_inj];omega
theorem AY {s:ByteArray} (h:0<s.size):s.toList.isEmpty=false:=by
 rw[Lib.toList_data];cases h':s.data.toList with
 | nil=>exact absurd (by rw[Lib.size_eq,h'];rfl) (show s.size≠0 by omega)
 | cons _ _=>rfl
theorem Bn {s:ByteArray} (h:¬0<s.size):s.toList.isEmpty=true:=by
 rw[EH (show s.size=0 by omega),Lib.toList_data];rfl
theorem Ub (s:ByteArray) (w:Y) (hs:s.size<=1000000) (h0:0<s.size):
  Calls Tryz.prog 59 #[Q s] w fun e w'=>e=.returned (.bool (Dv s.data.toList))/\Below w.heap.size w w':=by
 have h0i:(0:Int)<(s.size:Int):=by omega
 have h1i:(1:Int)<=(s.size:Int):=by omega
 have hl:=Lo s h0;obtain⟨c,hc⟩:∃ c,s[0]'h0=c:=⟨_,rfl⟩
 obtain⟨R,hR⟩:∃ R,s.extract 1 s.size=R:=⟨_,rfl⟩
 rw[hc,hR] at hl;have HL:=hid hl;clear hl;have hcb:(c.toNat:Int)<256:=by have:=c.toNat_lt;omega
 go_enter Tryz.func59,Tryz.ntmps59;go_wp2;go_quiet (fail);have hb0:=below_drewN (n:=nq) (Bq w.heap.size w);generalize w.drewN nq=w0 at hb0 |-;go_wp2_with fail;refine(Zx s _ hs).mono ?_;rintro e w1 ⟨rfl,hb1⟩;have hb01:Below w.heap.size w w1:=hb0.trans (hb1.mono hb0.size);clear hb0 hb1;by_cases hT:trimB s.data.toList 32=s.data.toList
 ·have hTi:(!trimB s.data.toList 32==s.toList)=false:=by rw[Lib.toList_data,hT];simp
  have HT:=hid hT;clear hT;go_wp2_with fail;refine(Tryz.strings_IndexByte ⟨ET.toArray⟩ c.toNat _).mono ?_;rintro e w2 ⟨rfl,hw2⟩;subst hw2;obtain⟨k,hk⟩:∃ k,Lib.indexByte ET c=k:=⟨_,rfl⟩
  have hk':Lib.indexByte (⟨ET.toArray⟩:ByteArray).data.toList ((c.toNat:Int).toNat.toUInt8)=k:=by rw[<- hk];simp
  rw[hk'];clear hk';have HK:=hid hk;clear hk;by_cases hk0:0<=k
  ·go_wp2;go_ret;exact⟨by rw[show Dv s.data.toList=false from(by unfold Dv;rw[HT.out,HL.out];simp only[List.headD_cons,List.tail_cons,HK.out];simp[hk0])];rfl,hb01⟩
  ·go_wp2_with fail;refine(IU c.toNat [45,63,58] _ _ _ rfl (by decide)).mono ?_;rintro e w3 ⟨rfl,hb3⟩;have hb03:Below w.heap.size w w3:=hb01.trans (hb3.mono hb01.size);clear hb3;cases hm:BC [45,63,58] (c.toNat:Int) with
   | false=>
    have HM:=hid hm;clear hm;go_wp2;go_ret;exact⟨by rw[show Dv s.data.toList=true from(by unfold Dv;rw[HT.out,HL.out];simp only[List.headD_cons,List.tail_cons,HK.out,HM.out];simp[hk0])];rfl,hb03⟩
   | true=>
    have HM:=hid hm;clear hm;by_cases hR0:0<R.size
    ·have hRe:=AY hR0;have hRi:(0:Int)<(R.size:Int):=by omega
     have hl2:=Lo R hR0;obtain⟨d,hd⟩:∃ d,R[0]'hR0=d:=⟨_,rfl⟩
     rw[hd] at hl2;have HL2:=hid hl2;clear hl2;go_wp2;go_ret;exact⟨by rw[show Dv s.data.toList=((d.toNat:Int) !=32) from(by unfold Dv;rw[HT.out,HL.out];simp only[List.headD_cons,List.tail_cons,HK.out,HM.out,HL2.out];rw[show((d.toNat:Int) !=32)= !(d==32) from Ad7 d 32];simp[hk0])];rfl,hb03⟩
    ·have hRe:=Bn hR0;go_wp2;go_ret;exact⟨by rw[show Dv s.data.toList=false from(by unfold Dv;rw[HT.out,HL.out];simp only[List.headD_cons,List.tail_cons,HK.out,HM.out];rw[show R.data.toList=[] from(by rw[EH (show R.size=0 by omega)])];simp)];rfl,hb03⟩
 ·have hTi:(!trimB s.data.toList 32==s.toList)=true:=by rw[Lib.toList_data];simpa using hT
  have HT:=hid hT;clear hT;go_wp2;go_ret;exact⟨by rw[show Dv s.data.toList=false from(by unfold Dv;rw[show(trimB s.data.toList 32==s.data.toList)=false from(by simpa using HT.out)];simp)];rfl,hb01⟩
theorem QH (s:ByteArray) (flow:Bool) (w:Y) (hs:s.size<=1000000) (hT:BU w):
  Calls Tryz.prog 41 #[Q s,.bool flow] w fun e w'=>e=.returned (.bool (Cm s.data.toList flow))/\Below w.heap.size w w':=by
 by_cases h0:0<s.size
 ·have he:=AY h0;have hne:s.data.toList.isEmpty=false:=by rw[<- Lib.toList_data];exact he
  have HE:=hid hne;clear hne;go_enter Tryz.func41,Tryz.ntmps41;go_wp2_with fail;refine(Cz s _ hs hT).mono ?_;rintro e w1 ⟨rfl,hb1⟩;cases hv:validD s.data.toList with
  | false=>
   have HV:=hid hv;clear hv;go_wp2;go_ret;exact⟨by rw[show Cm s.data.toList flow=false from(by unfold Cm;rw[HV.out];simp)];rfl,hb1⟩
  | true=>
   have HV:=hid hv;clear hv;go_wp2_with fail;refine(Ub s _ hs h0).mono ?_;rintro e w2 ⟨rfl,hb2⟩;have hb02:Below w.heap.size w w2:=hb1.trans (hb2.mono hb1.size);cases hb:Dv s.data.toList with
   | false=>
    have HB:=hid hb;clear hb;go_wp2;go_ret;exact⟨by rw[show Cm s.data.toList flow=false from(by unfold Cm;rw[HV.out,HB.out];simp)];rfl,hb02⟩
   | true=>
    have HB:=hid hb;clear hb;go_wp2_with fail;refine(Wr s flow _ hs).mono ?_;rintro e w3 ⟨rfl,hb3⟩;go_wp2;go_ret;exact⟨by rw[show Cm s.data.toList flow=Ju s.data.toList flow from(by unfold Cm;rw[HV.out,HB.out,HE.out];simp)];rfl,hb02.trans (hb3.mono hb02.size)⟩
 ·have he:=Bn h0;have hne:s.data.toList.isEmpty=true:=by rw[<- Lib.toList_data];exact he
  have HE:=hid hne;clear hne;go_enter Tryz.func41,Tryz.ntmps41;go_wp2;go_ret;exact⟨by rw[show Cm s.data.toList flow=false from(by unfold Cm;rw[HE.out];simp)];rfl,Bq _ _⟩
end
section
def PH (n:Int):Bool:=decide (0<=n)&&decide (n<=1114111)&&(decide (n<55296)||decide (57343<n))
def BW (n:Int):Bool:=decide (32<=n)&& !(n==127)
theorem Sq (s:ByteArray) (a k:Nat):(s.extract a (a+k)).toList=(s.data.toList.drop a).take k:=by
 rw[Lib.toList_data,Lib.extract_data,Nat.add_sub_cancel_left]
end
section
theorem b8 (z:Int) (x:UInt8) (h0:0<=z) (h1:z<256) (h:z.toNat.toUInt8=x):(x.toNat:Int)=z:=by
 subst h;simp;omega
theorem GT (v:Int):PH v=true↔0<=v/\v<=1114111/\(v<55296\/57343<v):=by
 unfold PH;simp[and_assoc]
theorem Gy (v:Int) (hv:PH v=true) (t:List UInt8):decodeL (encodeRune v++t)=(v.toNat,(encodeRune v).length):=by
 obtain⟨h0,h1,h2⟩:=(GT v).1 hv;rw[decodeL_N];unfold encodeRune;by_cases c1:v<128
 ·rw[encodeRuneZ_one (by omega) (by omega)];simp only[List.map_cons,List.map_nil,List.cons_append,List.nil_append,List.length_cons,List.getD_cons_zero,List.getD_cons_succ,List.length_nil]
  have e0:=b8 v _ (by omega) (by omega) rfl;generalize v.toNat.toUInt8=x0 at*
  unfold decodeN;rw[if_pos (by omega)];congr 1;omega
 by_cases c2:v<2048
 ·rw[encodeRuneZ_two (by omega) (by omega)];simp only[List.map_cons,List.map_nil,List.cons_append,List.nil_append,List.length_cons,List.getD_cons_zero,List.getD_cons_succ,List.length_nil]
  have e0:=b8 (192+v / 64) _ (by omega) (by omega) rfl;have e1:=b8 (128+v%64) _ (by omega) (by omega) rfl;generalize (192+v / 64).toNat.toUInt8=x0 at*
  generalize (128+v%64).toNat.toUInt8=x1 at*
  unfold decodeN;rw[if_neg (by omega),if_pos (by omega),if_pos (by omega)];congr 1;omega
 by_cases c3:v<65536
 ·rw[encodeRuneZ_three (by omega)];simp only[List.map_cons,List.map_nil,List.cons_append,List.nil_append,List.length_cons,List.getD_cons_zero,List.getD_cons_succ,List.length_nil]
  have e0:=b8 (224+v / 4096) _ (by omega) (by omega) rfl;have e1:=b8 (128+v / 64%64) _ (by omega) (by omega) rfl;have e2:=b8 (128+v%64) _ (by omega) (by omega) rfl;generalize (224+v / 4096).toNat.toUInt8=x0 at*
  generalize (128+v / 64%64).toNat.toUInt8=x1 at*
  generalize (128+v%64).toNat.toUInt8=x2 at*
  unfold decodeN;rw[if_neg (by omega),if_neg (by omega),if_pos (by omega),if_pos (by omega)];congr 1;omega
 ·rw[encodeRuneZ_four (by omega) (by omega)];simp only[List.map_cons,List.map_nil,List.cons_append,List.nil_append,List.length_cons,List.getD_cons_zero,List.getD_cons_succ,List.length_nil]
  have e0:=b8 (240+v / 262144) _ (by omega) (by omega) rfl;have e1:=b8 (128+v / 4096%64) _ (by omega) (by omega) rfl;have e2:=b8 (128+v / 64%64) _ (by omega) (by omega) rfl;have e3:=b8 (128+v%64) _ (by omega) (by omega) rfl;generalize (240+v / 262144).toNat.toUInt8=x0 at*
  generalize (128+v / 4096%64).toNat.toUInt8=x1 at*
  generalize (128+v / 64%64).toNat.toUInt8=x2 at*
  generalize (128+v%64).toNat.toUInt8=x3 at*
  unfold decodeN;rw[if_neg (by omega),if_neg (by omega),if_neg (by omega),if_pos (by omega),if_pos (by omega)];congr 1;omega
theorem MG (v:Int) (h:v.toNat=65533):(encodeRune v).length=3:=by
 have:v=65533:=by omega
 subst this;decide
def Acy (l:List UInt8):List Int:=(Ag l).map fun n:Nat=>(n:Int)
def Uu (l:List UInt8):List Int×Int:=if validD l then (Acy l,0) else ([],40)
def Ar (l:List UInt8) (c:UInt8):Bool:=l.contains c
theorem U8 {l:List UInt8} {c:UInt8}:Ar l c=true↔c∈l:=List.contains_iff_mem
theorem OF {l:List UInt8} {c:UInt8} {k:Nat} (h:k<l.length):Ar (l.take (k+1)) c=(Ar (l.take k) c||c==l[k]):=by
 unfold Ar;rw[Bool.eq_iff_iff,List.contains_iff_mem,List.take_succ_eq_append_getElem h,List.mem_append,List.mem_singleton,Bool.or_eq_true,List.contains_iff_mem,beq_iff_eq]
def WC (l:List UInt8):Bool:=(Uu l).1.all BW&&(Uu l).2==0
end
section
def Cc:List UInt8:=[44,91,93,123,125]
def XK (l:List UInt8) (i:Nat):Bool:=l.getD i 0==58&&(i+1==l.length||l.getD (i+1) 0==32)
def Afd (l:List UInt8) (i:Nat):Bool:=l.getD i 0==35&&(decide (0<i)&&l.getD (i - 1) 0==32)
def Nq (l:List UInt8) (flow:Bool) (i:Nat):Bool:=XK l i||Afd l i||(flow&&Ar Cc (l.getD i 0))
def okR (l:List UInt8) (flow:Bool) (k:Nat):Bool:=(List.range k).all fun i=> !Nq l flow i
def Xf (l:List UInt8):Bool:= !l.isEmpty&&(WC l&&(!(l.getD 0 0==32)&&(!(l.getD (l.length - 1) 0==32)&& !Ar ET (l.getD 0 0))))
def NH (l:List UInt8):Bool:=Ar [45,63,58] (l.getD 0 0)&&(l.length==1||l.getD 1 0==32)
def RF (l:List UInt8) (flow:Bool):Bool:=Xf l&&(!NH l&&okR l flow l.length)
theorem PO (d e:UInt8):((d.toNat:Int)==(e.toNat:Int))=(d==e):=by
 rw[Bool.eq_iff_iff];simp[<- UInt8.toNat_inj];omega
theorem DB (s:ByteArray) (i:Nat) (h:i<s.size):s.data.toList.getD i 0=s[i]'h:=by
 have h2:i<s.data.toList.length:=by rw[<- Lib.size_eq];exact h
 rw[List.getD,List.getElem?_eq_getElem h2];rfl
end
section
def Oo (flow:Bool) (prev c:UInt8) (r:List UInt8):Bool:=
 (c==58&&(r.isEmpty||r.getD 0 0==32))||(c==35&&prev==32)||(flow&&Ar Cc c)
def SZ (flow:Bool):UInt8->List UInt8->Bool
 | _,[]=>true
 | prev,c::r=> !Oo flow prev c r&&SZ flow c r
def QS (flow:Bool) (prev:UInt8) (m:List UInt8) (i:Nat):Bool:=Oo flow (if i=0 then prev else m.getD (i - 1) 0) (m.getD i 0) (m.drop (i+1))
theorem Xm (flow:Bool):∀ (prev:UInt8) (m:List UInt8),SZ flow prev m=true↔∀ i,i<m.length->QS flow prev m i=false
 | prev,[]=>by simp[SZ]
 | prev,c::r=>by
  have ih:=Xm flow c r;unfold SZ;rw[Bool.and_eq_true,ih];constructor
  ·rintro⟨h1,h2⟩ i hi;cases i with
   | zero=>simpa[QS] using h1
   | succ i=>
    have:=h2 i (by simpa using hi);cases i with
    | zero=>simpa[QS] using this
    | succ j=>simpa[QS] using this
  ·intro h;refine⟨?_,fun i hi=>?_⟩
   ·have:=h 0 (by simp);simpa[QS] using this
   ·have:=h (i+1) (by simpa using hi);cases i with
    | zero=>simpa[QS] using this
    | succ j=>simpa[QS] using this
theorem Abs {l:List UInt8} {flow:Bool} {i:Nat} (hi:i<l.length):Nq l flow i=QS flow 0 l i:=by
 unfold Nq QS Oo XK Afd;have h1:(i+1==l.length||l.getD (i+1) 0==32)=((l.drop (i+1)).isEmpty||(l.drop (i+1)).getD 0 0==32):=by
  congr 1
  ·rw[Bool.eq_iff_iff,List.isEmpty_iff,List.drop_eq_nil_iff];simp;omega
  ·simp[List.getD,List.getElem?_drop]
 have h2:(decide (0<i)&&l.getD (i - 1) 0==32)=((if i=0 then (0:UInt8) else l.getD (i - 1) 0)==32):=by
  by_cases h0:i=0
  ·subst h0;simp
  ·rw[if_neg h0,decide_eq_true (by omega)];rfl
 rw[h1,h2]
theorem Akt (l:List UInt8) (flow:Bool):okR l flow l.length=SZ flow 0 l:=by
 rw[Bool.eq_iff_iff,Xm];unfold okR;rw[List.all_eq_true];constructor
 ·intro h i hi;have:=h i (List.mem_range.2 hi);rw[<- Abs hi];simpa using this
 ·intro h i hi;have:=h i (List.mem_range.1 hi);rw[<- Abs (List.mem_range.1 hi)] at this;rw[this];rfl
theorem XA {flow:Bool} {prev c:UInt8} {r:List UInt8} (h:128<=c.toNat):Oo flow prev c r=false:=by
 have e:∀ d:UInt8,d.toNat<128->(c==d)=false:=fun d hd=>by
  rw[<- Bool.not_eq_true,beq_iff_eq];rintro rfl;omega
 have ne:∀ d:UInt8,d.toNat<128->¬c=d:=fun d hd=>by
  rintro rfl;omega
 unfold Oo Ar Cc;simp[e 58 (by decide),e 35 (by decide),List.contains_cons];exact fun _=>⟨ne 44 (by decide),ne 91 (by decide),ne 93 (by decide),ne 123 (by decide),ne 125 (by decide)⟩
theorem Tz (flow:Bool):∀ (hs m:List UInt8) (prev:UInt8),(∀ b∈hs,128<=b.toNat)->SZ flow prev (hs++m)=SZ flow (hs.getLastD prev) m
 | [],m,prev,_=>rfl
 | h::hs,m,prev,hh=>by
  show(!Oo flow prev h (hs++m)&&SZ flow h (hs++m))=_;rw[XA (hh h (by simp)),Tz flow hs m h (fun b hb=>hh b (by simp[hb])),List.getLastD_cons];rfl
theorem MM (v:Int) (h:128<=v):∀ b∈encodeRune v,128<=b.toNat:=by
 intro b hb;unfold encodeRune at hb;obtain⟨z,hz,rfl⟩:=List.mem_map.1 hb;have hb2:=encodeRuneZ_byte v z hz;have h128:128<=z:=by
  by_cases c1:v<=2047
  ·rw[encodeRuneZ_two h c1] at hz;simp at hz;omega
  by_cases c2:v<=65535
  ·by_cases c3:v<55296\/57343<v
   ·rw[encodeRuneZ_three (by omega)] at hz;simp at hz;omega
   ·rw[encodeRuneZ_bad (by omega)] at hz;simp at hz;omega
  ·by_cases c3:v<=1114111
   ·rw[encodeRuneZ_four (by omega) c3] at hz;simp at hz;omega
   ·rw[encodeRuneZ_bad (by omega)] at hz;simp at hz;omega
 have:=b8 z _ (by omega) (by omega) rfl;omega
theorem E7 (b:UInt8) (t:List UInt8) (h:128<=b.toNat):128<=(decodeL (b::t)).1:=by
 have:=decode_high ⟨(b::t).toArray⟩ 0 (by rw[Lib.size_eq];simp) (show 128<=b.toNat from h);exact this.1
def Ac (r:Nat):Bool:=BW (r:Int)
theorem Afx (c:UInt8) (t:List UInt8):((decodeL (c::t)).1==32)=(c==32):=by
 by_cases h:c.toNat<128
 ·rw[decodeL_ascii c t h,Bool.eq_iff_iff];simp[<- UInt8.toNat_inj]
 ·have h1:=E7 c t (by omega);rw[Bool.eq_iff_iff];simp[<- UInt8.toNat_inj];omega
theorem P4 (b:UInt8):(b.toNat==44||b.toNat==91||b.toNat==93||b.toNat==123||b.toNat==125)=Ar Cc b:=by
 rw[Bool.eq_iff_iff];unfold Ar Cc;simp[<- UInt8.toNat_inj,List.contains_cons,or_assoc]
theorem QJ (flow:Bool):∀ (n:Nat) (l:List UInt8) (last:Nat) (prev:UInt8),l.length<=n->validD l=true->(last==32)=(prev==32)→
  Dj flow (C4 last (Ag l))=((Ag l).all Ac&&SZ flow prev l)
 | 0,l,last,prev,hn,_,_=>by
  have:l=[]:=List.eq_nil_of_length_eq_zero (by omega);subst this;rfl
 | n+1,[],last,prev,hn,_,_=>rfl
 | n+1,b::t,last,prev,hn,hv,hp=>by
  by_cases hb:b.toNat<128
  ·have hd:=decodeL_ascii b t hb;have hrs:Ag (b::t)=b.toNat::Ag t:=by rw[Av _ (by simp),hd];rfl
   rw[validD_cons b t hb] at hv;have ih:=QJ flow n t b.toNat b (by simpa using hn) hv (by rw[Bool.eq_iff_iff];simp[<- UInt8.toNat_inj]);rw[hrs];have hplain:Ac b.toNat=(!decide (b.toNat<32)&& !(b.toNat==127)):=by
    unfold Ac BW;rw[Bool.eq_iff_iff];simp;omega
   have hb58:(b.toNat==58)=(b==58):=by rw[Bool.eq_iff_iff];simp[<- UInt8.toNat_inj]
   have hb35:(b.toNat==35)=(b==35):=by rw[Bool.eq_iff_iff];simp[<- UInt8.toNat_inj]
   cases t with
   | nil=>
    rw[show Ag []=[] from rfl];show Dj flow [(b.toNat,last,0)]=_;unfold Dj SZ SZ Er Oo;simp only[List.all_cons,List.all_nil,Bool.and_true,hplain,P4,hb58,hb35,hp]
    cases (b==58)<;>cases (b==35)<;>cases (prev==32)<;>cases flow<;>cases Ar Cc b<;>cases decide (b.toNat<32)<;>cases (b.toNat==127)<;>rfl
   | cons c t'=>
    have hr2:Ag (c::t')=(decodeL (c::t')).1::Ag ((c::t').drop (decodeL (c::t')).2):=Av _ (by simp);obtain⟨q,hq⟩:∃ q,(decodeL (c::t')).1=q:=⟨_,rfl⟩
    have h32:(q==32)=(c==32):=by rw[<- hq];exact Afx c t'
    rw[hq] at hr2;have hX:q=0->Dj flow (C4 b.toNat (Ag (c::t')))=false:=fun h0=>by
     rw[ih,hr2,h0];rfl
    have hL:Dj flow (C4 last (b.toNat::Ag (c::t')))=(!Er flow (b.toNat,last,q)&&Dj flow (C4 b.toNat (Ag (c::t')))):=by
     rw[hr2];rfl
    rw[hL,List.all_cons];show _=(_&&(!Oo flow prev b (c::t')&&SZ flow b (c::t')))
    have hA:Er flow (b.toNat,last,q)=(decide (b.toNat<32)||b.toNat==127||(flow&&Ar Cc b)||(b==58&&(q==0||c==32))||(b==35&&prev==32)):=by
     unfold Er;simp only[P4,hb58,hb35,hp,h32]
    have hC:Oo flow prev b (c::t')=((b==58&&c==32)||(b==35&&prev==32)||(flow&&Ar Cc b)):=by
     unfold Oo;simp
    rw[hA,hC,hplain];by_cases h0:q=0
    ·rw[hX h0];have:=hX h0;rw[ih] at this;cases h1:(Ag (c::t')).all Ac
     ·simp
     ·rw[h1] at this;have h2:SZ flow b (c::t')=false:=by simpa using this
      rw[h2];simp
    ·have h00:(q==0)=false:=by simpa using h0
     rw[ih,h00];cases (b==58)<;>cases (b==35)<;>cases (prev==32)<;>cases flow<;>cases Ar Cc b<;>cases decide (b.toNat<32)<;>cases (b.toNat==127)<;>cases (c==32)<;>cases (Ag (c::t')).all Ac<;>cases SZ _ b (c::t')<;>rfl
  ·have hne:b::t≠[]:=by simp
   have hvs:=validD_step (b::t) hne;have hbad:¬((decodeL (b::t)).1=65533/\(decodeL (b::t)).2=1):=fun h=>by
    rw[if_pos h,hv] at hvs;cases hvs
   rw[if_neg hbad,hv] at hvs;have hr:=E7 b t (by omega);have henc:=encode_decode (b::t) hne hbad;have hle:=decodeL_le (b::t) hne;have hw:=decodeL_width (b::t);have hall:∀ x∈(b::t).take (decodeL (b::t)).2,128<=x.toNat:=by rw[<- henc];exact MM _ (by omega)
   have hrs:=Av (b::t) hne;obtain⟨q,hq⟩:∃ q,(decodeL (b::t)).1=q:=⟨_,rfl⟩
   obtain⟨k,hk⟩:∃ k,(decodeL (b::t)).2=k:=⟨_,rfl⟩
   rw[hq] at hr;rw[hk] at hle hw hall hvs;rw[hq,hk] at hrs;have hsplit:b::t=(b::t).take k++(b::t).drop k:=(List.take_append_drop _ _).symm;have hoB:SZ flow prev (b::t)=SZ flow (((b::t).take k).getLastD prev) ((b::t).drop k):=by
    conv=>lhs;rw[hsplit]
    exact Tz flow _ _ _ hall
   have hlast:((q==32):Bool)=(((b::t).take k).getLastD prev==32):=by
    have h1:(q==32)=false:=by simp;omega
    rw[h1];have hne2:(b::t).take k≠[]:=by
     intro h;have:=congrArg List.length h;rw[List.length_take] at this;simp at this;omega
    have hmem:((b::t).take k).getLastD prev∈(b::t).take k:=by
     rw[List.getLastD_eq_getLast?,List.getLast?_eq_some_getLast hne2];exact List.getLast_mem hne2
    have:=hall _ hmem;symm;rw[<- Bool.not_eq_true,beq_iff_eq];intro h;rw[h] at this;exact absurd this (by decide)
   have ih:=QJ flow n ((b::t).drop k) q _ (by rw[List.length_drop];omega) hvs.symm hlast;rw[hrs,hoB,List.all_cons];have hpq:Ac q=true:=by unfold Ac BW;simp;omega
   have hbq:∀ z,Er flow (q,last,z)=false:=fun z=>by
    unfold Er;have e:∀ d,d<128->(q==d)=false:=fun d hd=>by simp;omega
    simp[e 127 (by omega),e 44 (by omega),e 91 (by omega),e 93 (by omega),e 123 (by omega),e 125 (by omega),e 58 (by omega),e 35 (by omega)];omega
   rw[hpq,Bool.true_and,<- ih];cases hrr:Ag ((b::t).drop k) with
   | nil=>show Dj flow [(q,last,0)]=Dj flow [];simp[Dj,hbq]
   | cons z rest=>
    show Dj flow ((q,last,z)::C4 q (z::rest))=_;unfold Dj;rw[List.all_cons,hbq];rfl
theorem Es (c:UInt8):∀ l:List UInt8,(l.dropWhile (·==c)).length<=l.length
 | []=>by simp
 | b::t=>by
  rw[List.dropWhile_cons];split
  ·have:=Es c t;simp;omega
  ·simp
theorem getD_at {l:List UInt8} {i:Nat} (h:i<l.length):l[i]? =F (l.getD i 0):=by
 rw[List.getD,List.getElem?_eq_getElem h];rfl
theorem Afq (l:List UInt8) (hne:l≠[]):(trimB l 32==l)=(!(l.getD 0 0==32)&& !(l.getD (l.length - 1) 0==32)):=by
 have hl:0<l.length:=List.length_pos_iff.2 hne;by_cases h2:l.getD (l.length - 1) 0=32
 ·have hlt:(trimRightB l 32).length<l.length:=by
   unfold trimRightB;rw[List.length_reverse];have hrev:l.reverse=32::l.reverse.tail:=by
    cases hr:l.reverse with
    | nil=>simp at hr;exact absurd hr hne
    | cons x xs=>
     have hx:l.reverse[0]? =F x:=by rw[hr];rfl
     rw[List.getElem?_reverse hl,getD_at (by omega)] at hx;have:l.getD (l.length - 1) 0=x:=by simpa using hx
     rw[<- this,h2];rfl
   rw[hrev,List.dropWhile_cons];simp only[BEq.rfl,if_true]
   have:=Es 32 l.reverse.tail;rw[List.length_tail,List.length_reverse] at this;omega
  have hne2:trimB l 32≠l:=fun h=>by
   have h3:=congrArg List.length h;unfold trimB trimLeftB at h3;have:=Es 32 (trimRightB l 32);omega
  rw[h2];simpa using hne2
 ·have hr:trimRightB l 32=l:=by
   rw[trimRightB_take l 32 l.length Nr (fun j b h1 h3=>by rw[List.getElem?_eq_none h1] at h3;cases h3) (fun b _ h3=>by
    rw[getD_at (by omega)] at h3;have:l.getD (l.length - 1) 0=b:=by simpa using h3
    rw[<- this];exact h2),List.take_length]
  have h2b:(l.getD (l.length - 1) 0==32)=false:=by simpa using h2
  rw[h2b];by_cases h1:l.getD 0 0=32
  ·have hne2:trimB l 32≠l:=fun h=>by
    have h3:=congrArg List.length h;unfold trimB at h3;rw[hr] at h3;unfold trimLeftB at h3;cases hll:l with
    | nil=>exact hne hll
    | cons b t=>
     rw[hll] at h1 h3;have hb:b=32:=h1;subst hb;rw[List.dropWhile_cons] at h3;simp only[BEq.rfl,if_true] at h3;have:=Es 32 t;simp at h3;omega
   rw[h1];simpa using hne2
  ·have:trimB l 32=l:=by
    unfold trimB;rw[hr,trimLeftB_drop l 32 0 (by omega) (fun j b h _=>by omega) (fun b h3=>by
     rw[getD_at hl] at h3;have:l.getD 0 0=b:=by simpa using h3
     rw[<- this];exact h1)]
    rfl
   rw[this];have h1b:(l.getD 0 0==32)=false:=by simpa using h1
   rw[h1b];simp
theorem Tx (l:List UInt8) (c:UInt8):decide (0<=Lib.indexByte l c)=Ar l c:=by
 unfold Ar;induction l with
 | nil=>rfl
 | cons b t ih=>
  unfold Lib.indexByte;have hge:=Lib.indexByte_ge t c;rw[List.contains_cons,<- ih];by_cases h:b=c
  ·subst h;simp
  ·have h1:(b==c)=false:=by simpa using h
   have h2:(c==b)=false:=by simpa using fun e=>h e.symm
   rw[h1,h2];simp only[Bool.false_eq_true,if_false,Bool.false_or]
   by_cases h3:Lib.indexByte t c= -1
   ·simp[h3]
   ·have h4:(Lib.indexByte t c== -1)=false:=by simpa using h3
    rw[h4];simp only[Bool.false_eq_true,if_false]
    rw[Bool.eq_iff_iff];simp;omega
theorem Ya (c:UInt8):BC [45,63,58] (c.toNat:Int)=Ar [45,63,58] c:=by
 rw[Bool.eq_iff_iff];unfold BC Ar;simp[<- UInt8.toNat_inj,List.contains_cons];omega
theorem Lr (l:List UInt8):WC l=(validD l&&(Ag l).all Ac):=by
 unfold WC Uu Acy;cases validD l with
 | true=>simp[List.all_map,Function.comp_def];rfl
 | false=>simp
theorem MU (l:List UInt8):l.headD 0=l.getD 0 0:=by cases l<;>rfl
theorem Aff (l:List UInt8) (hne:l≠[]):(!NH l)=(!(BC [45,63,58] ((l.headD 0).toNat:Int))||(!l.tail.isEmpty&& !(l.tail.headD 0==32))):=by
 unfold NH;rw[Ya,MU];cases l with
 | nil=>exact absurd rfl hne
 | cons b t=>
  cases t with
  | nil=>simp
  | cons c t'=>simp
theorem Mk (l:List UInt8) (flow:Bool):RF l flow=Cm l flow:=by
 cases hl:l with
 | nil=>rfl
 | cons b t=>
  rw[<- hl];have hne:l≠[]:=by rw[hl];simp
  have he:l.isEmpty=false:=by rw[hl];rfl
  unfold RF Cm Xf Dv Ju;rw[Afq l hne,Tx,Akt,Lr,Aff l hne,he,MU];cases hv:validD l with
  | false=>simp
  | true=>
   rw[QJ flow l.length l 0 0 Nr hv rfl];cases (Ag l).all Ac<;>cases (l.getD 0 0==32)<;>cases (l.getD (l.length - 1) 0==32)<;>cases Ar ET (l.getD 0 0)<;>cases SZ flow 0 l<;>simp
end
end Go.Proofs.YtdpppepmkeinaaaGreatDoor
