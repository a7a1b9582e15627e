/- What is proved: a part of the walk of the program and of its plain laws; no condition beside those that each theorem names. -/
import Derived.Test.YtdpppepmkeinaaaGreatDoorYa
import Derived.Test.YtdpppepmkeinaaaGreatDoorYj
import Derived.Test.YtdpppepmkeinaaaGreatDoorYh
import Derived.Deep.RegionHeldLaw
import Derived.Laws.Tables
namespace Go.Proofs.YtdpppepmkeinaaaGreatDoor
open Go Go.RowKit Go.Lib
open Go.Value renaming int->I,string->Q,slice->Z
open Go.IntKind renaming i64->J
open Option renaming none->O,some->F
open _root_.Go renaming World->Y
set_option linter.unusedSimpArgs false
set_option linter.unusedVariables false
set_option linter.unusedSectionVars false
section
set_option maxRecDepth 100000
set_option maxHeartbeats 4000000
theorem Afp (s:ByteArray):(⟨s.data.toList.toArray⟩:ByteArray)=s:=by cases s;simp
theorem K1 (w:Y) (a:Addr) (v:Value):(w.setCell a v).heap.size=w.heap.size:=by simp[World.setCell]
theorem VC (R:Nat) (s:ByteArray) (p d:Nat) (w:Y) (hs:s.size<=1000000) (hp:p<s.size) (hR:RA w R s p d) (hTab:IZ R w) (tt:List UInt8) (q en:Nat) (hq:D1 s p=(tt,q,(en:Int))) (hen:en≠0):
  Calls Tryz.prog 250 #[.pointer (F ⟨R,0,O⟩)] w (Bf R s p (.bad en) w):=by
 have hQ:=fun wx hx=>P8 s p wx hs hx;rw[hq] at hQ;clear hq;unfold H0 at hQ;have hne:((en:Int)==0)=false:=by rw[beq_eq_false_iff_ne];omega
 clear hen;have hlt:=hR.lt;have hS:=Sx.new hR;go_enter Tryz.func250,Tryz.ntmps250;go_wp2;replace hS:=hS.below (Bq _ _).drew;refine wp_region_noPanic ?_;refine wR 18 (S:=(fun w'=>w'.cell? ⟨R,0,O⟩=F (Q s)/\w'.cell? ⟨R,1,O⟩=F (I J p))) rfl ?_ (fun hHeld=>?_)
 ·(try dsimp only);exact⟨hS.ra.cells.1,hS.ra.cells.2.1⟩
 simp only[gR]
 iterate 10 (refine wN hHeld ?_;try simp only[gS])
 refine wB 10 rfl (fun K hK=>?_);go_simp;refine(hQ _ (hTab.mod hS.md).tabs).mono ?_;rintro e wz ⟨rfl,hb⟩;replace hS:=hS.below hb;try go_wp2_with fail
 refine hK.out _ _ ?_ (fun hHeld2=>?_)
 ·(try dsimp only);exact⟨hS.ra.cells.1,hS.ra.cells.2.1⟩
 clear hK K hHeld;have hHeld:=hHeld2;clear hHeld2;try simp only[gS]
 iterate 7 (refine wN hHeld ?_;try simp only[gS])
 refine wpAnyH_done (by kernel_rfl) ?_ _;refine NoPanic.normal ?_;obtain⟨n0,n1,n2,g0,g1,g2⟩:=hS.cells;clear hQ;go_wp2;obtain⟨e0,e1,e2,e3,e4⟩:=hS.fin hlt (I J 0) (Q ⟨#[]⟩) (I J 0);refine bodyPost_ret (v:=.tuple #[CJ ⟨0,[],0⟩,.iface 325 (.agg #[I J en])]) (by simp[results,Tryz.results250,go_sem,CJ,e0,e1,e2]) rfl (Bf.bad rfl rfl e4)
theorem Ze (R:Nat) (s:ByteArray) (p d:Nat) (w:Y) (hs:s.size<=1000000) (hp:p<s.size) (hR:RA w R s p d) (hTab:IZ R w) (tt:List UInt8) (q:Nat) (hq:D1 s p=(tt,q,0)) (hqs:q<=s.size) (r:TR) (HR:Hid ((if AC s.data.toList q d||Cg s.data.toList q [58] then .ok 2 tt q d else .bad 90)=r)):
  Calls Tryz.prog 250 #[.pointer (F ⟨R,0,O⟩)] w (Bf R s p r w):=by
 have hQ:=fun wx hx=>P8 s p wx hs hx;rw[hq] at hQ;clear hq;unfold H0 at hQ;have hC:=fun wx hx=>BQ R s q d 0 q wx hs rfl (by omega) hx;have hI:=fun wx hx=>FM R s q d 0 q [58] 1 1 wx hs (by omega) (by omega) rfl (by omega) hx;have hlt:=hR.lt;have hS:=Sx.new hR;obtain⟨cb,hcb⟩:∃ cb,AC s.data.toList q d=cb:=⟨_,rfl⟩
 obtain⟨ib,hib⟩:∃ ib,Cg s.data.toList q [58]=ib:=⟨_,rfl⟩
 have HCI:=hid (Ai hcb hib);rw[hcb] at hC;rw[hib] at hI;clear hcb hib;go_enter Tryz.func250,Tryz.ntmps250;go_wp2;replace hS:=hS.below (Bq _ _).drew;refine wp_region_noPanic ?_;refine wR 18 (S:=(fun w'=>w'.cell? ⟨R,0,O⟩=F (Q s)/\w'.cell? ⟨R,1,O⟩=F (I J p))) rfl ?_ (fun hHeld=>?_)
 ·(try dsimp only);exact⟨hS.ra.cells.1,hS.ra.cells.2.1⟩
 simp only[gR]
 iterate 10 (refine wN hHeld ?_;try simp only[gS])
 refine wB 10 rfl (fun K hK=>?_);go_simp;refine(hQ _ (hTab.mod hS.md).tabs).mono ?_;rintro e wz ⟨rfl,hb⟩;replace hS:=hS.below hb;try go_wp2_with fail
 refine hK.out _ _ ?_ (fun hHeld2=>?_)
 ·(try dsimp only);exact⟨hS.ra.cells.1,hS.ra.cells.2.1⟩
 clear hK K hHeld;have hHeld:=hHeld2;clear hHeld2;try simp only[gS]
 iterate 7 (refine wN hHeld ?_;try simp only[gS])
 refine wpAnyH_done (by kernel_rfl) ?_ _;refine NoPanic.normal ?_;clear hQ hb;have hTB:((wz.setCell ⟨R,1,O⟩ (I J q)).alloc (.cells #[I J 2,Q ⟨tt.toArray⟩,I J p] 287)).heap[wz.heap.size]? =F (.cells #[I J 2,Q ⟨tt.toArray⟩,I J p] 287):=by
  have:=Wn (wz.setCell ⟨R,1,O⟩ (I J q)) (.cells #[I J 2,Q ⟨tt.toArray⟩,I J p] 287)
  rwa [K1] at this
 obtain⟨r0,r1,r2,f0,f1,f2⟩:=hS.ra.cells;have hltz:R<wz.heap.size:=hS.ra.lt;replace hS:=(hS.set1 hlt q).alloc (.cells #[I J 2,Q ⟨tt.toArray⟩,I J p] 287);go_wp2_with fail;refine(hC _ hS.ra).mono ?_;rintro e w2 ⟨rfl,hb2⟩;replace hS:=hS.below hb2;replace hTB:=AW hTB hb2;clear hC hb2 r0 r1 r2 f0 f1 f2 hltz;cases cb with
 | true=>
  have HQ:=hid (show r=.ok 2 tt q d by rw[<- HR.out,HCI.out.1,Bool.true_or,if_pos rfl]);clear hI;obtain⟨n0,n1,n2,g0,g1,g2⟩:=hS.cells;obtain⟨t0,t1,t2,_⟩:=EM hTB;go_wp2;obtain⟨e0,e1,e2,e3,e4⟩:=hS.fin hlt (I J 2) (Q ⟨tt.toArray⟩) (I J p);refine bodyPost_ret (v:=.tuple #[CJ ⟨2,tt,p⟩,.nilIface]) (by simp[results,Tryz.results250,go_sem,CJ,e0,e1,e2]) rfl (Bf.ok HQ.out rfl e3 e4)
 | false=>
  go_wp2_with fail;refine(hI _ hS.ra).mono ?_;rintro e w3 ⟨rfl,hb3⟩;replace hS:=hS.below hb3;replace hTB:=AW hTB hb3;clear hI hb3;cases ib with
  | true=>
   have HQ:=hid (show r=.ok 2 tt q d by rw[<- HR.out,HCI.out.1,HCI.out.2,Bool.false_or,if_pos rfl]);obtain⟨n0,n1,n2,g0,g1,g2⟩:=hS.cells;obtain⟨t0,t1,t2,_⟩:=EM hTB;go_wp2;obtain⟨e0,e1,e2,e3,e4⟩:=hS.fin hlt (I J 2) (Q ⟨tt.toArray⟩) (I J p);refine bodyPost_ret (v:=.tuple #[CJ ⟨2,tt,p⟩,.nilIface]) (by simp[results,Tryz.results250,go_sem,CJ,e0,e1,e2]) rfl (Bf.ok HQ.out rfl e3 e4)
  | false=>
   have HQ:=hid (show r=.bad 90 by rw[<- HR.out,HCI.out.1,HCI.out.2,Bool.false_or,if_neg (by decide)]);obtain⟨n0,n1,n2,g0,g1,g2⟩:=hS.cells;obtain⟨t0,t1,t2,_⟩:=EM hTB;go_wp2;obtain⟨e0,e1,e2,e3,e4⟩:=hS.fin hlt (I J 0) (Q ⟨#[]⟩) (I J 0);refine bodyPost_ret (v:=.tuple #[CJ ⟨0,[],0⟩,.iface 325 (.agg #[I J 90])]) (by simp[results,Tryz.results250,go_sem,CJ,e0,e1,e2]) rfl (Bf.bad HQ.out rfl e4)
theorem VB (R:Nat) (s:ByteArray) (p d:Nat) (w:Y) (hs:s.size<=1000000) (hp:p<s.size) (hR:RA w R s p d) (hTab:IZ R w) (hv:validD s.data.toList=true) (hc:s.data.toList.getD p 0=34\/s.data.toList.getD p 0=39):
  Calls Tryz.prog 250 #[.pointer (F ⟨R,0,O⟩)] w (Bf R s p (Ht s.data.toList p d) w):=by
 obtain⟨q0,hq0,hq8⟩:=PN (l:=s.data.toList) (p:=p) (by rw[<- Lib.size_eq];exact hp) hc;have he:=XW hq0 hv;unfold Ht;have hto:=Ug hq0 hq8 hv;rw[Afp] at he hto |-;obtain⟨⟨tt,q,er⟩,hq⟩:∃ x,D1 s p=x:=⟨_,rfl⟩
 rw[hq] at he hto |-;dsimp only at he hto |-;by_cases h0:er=0
 ·subst h0;rw[if_pos rfl];exact Ze R s p d w hs hp hR hTab tt q hq (by have:=(hto rfl).2;rwa [<- Lib.size_eq] at this) _ (hid rfl)
 ·rw[if_neg h0];obtain⟨en,rfl⟩:∃ en:Nat,er=en:=⟨er.toNat,by omega⟩
  rw[show((en:Nat):Int).toNat=en by omega];exact VC R s p d w hs hp hR hTab tt q en hq (by omega)
def Gt (r:Nat):Bool:=(decide (65<=r)&&decide (r<=90))||((decide (97<=r)&&decide (r<=122))||((decide (48<=r)&&decide (r<=57))||(r==95||r==45)))
theorem NZ (c:UInt8):Gt c.toNat=Cd c:=rfl
theorem Mz (r:Nat) (h:128<=r):Gt r=false:=by
 unfold Gt;rw[Bool.eq_false_iff];simp;omega
theorem UB (c:UInt8) (h:128<=c.toNat):Cd c=false:=(NZ c).symm.trans (Mz _ h)
theorem LI (r:Nat) (w:Y):
  Calls Tryz.prog 40 #[.int .i32 (r:Int)] w fun e w'=>e=.returned (.bool (Gt r))/\w'=w:=by
 go_enter Tryz.func40,Tryz.ntmps40;go_wp2;all_goals (go_ret;refine⟨?_,rfl⟩)
 all_goals (refine congrArg (fun b=>Ending.returned (Value.bool b)) (?_:_=Gt r);unfold Gt;rw[Bool.eq_iff_iff];simp[*];try omega)
theorem Kx (w:Y):PredGrows Tryz.prog 40 #[] Gt w:=fun W x _ _=>by
 refine(LI x W).mono ?_;rintro e w' ⟨rfl,hw⟩;subst w';exact⟨rfl,Bq _ _⟩
theorem Xs (s:ByteArray) (pos:Nat) (h:pos<s.size):(Gt (Utf8.decode s pos).1=Cd (s[pos]'h))/\(Cd (s[pos]'h)=true->(Utf8.decode s pos).2=1):=by
 have hd:=IV s pos h;rw[<- Lib.decodeL_drop,hd];rcases Nat.lt_or_ge (s[pos]'h).toNat 128 with h1 | h1
 ·rw[decodeL_ascii _ _ h1];exact⟨NZ _,fun _=>rfl⟩
 ·rw[UB _ h1];exact⟨Mz _ (E7 _ _ h1),fun h=>by cases h⟩
theorem Ga (s:ByteArray) (w:Y) (hs:s.size<=1000000):
  Calls Tryz.prog 17 #[Q s] w fun e w'=>e=.returned (.bool (CG s.data.toList))/\Below w.heap.size w w':=by
 go_enter Tryz.func17,Tryz.ntmps17;go_wp2;go_loopw [2] (fun r wr=>r=.bool false/\∃ pos,pos<=s.size/\wr.heap[w.heap.size]? =F (.stringIter s pos)/\Below w.heap.size w wr/\Hid ((s.data.toList.take pos).all Cd=true)) (fun _ wr=>s.size - wr.iterPos w.heap.size)
 case atStart=>exact⟨rfl,0,by omega,World.iter_heap _ _ _,(Bq _ w).alloc Nr _,hid rfl⟩
 case round=>
  obtain⟨rfl,pos,hp,hit,hb,HV⟩:=hrel;by_cases hlt:pos<s.size
  ·have hnx:=fun ty=>run_next_any_at (P:=Tryz.prog) wr w.heap.size s pos ty hit hlt;have hbi:Below w.heap.size w (wr.iterAt w.heap.size s (pos+(Utf8.decode s pos).2)):=below_iterAt hb Nr _ _;have hit1:=iterAt_heap _ _ _ pos (pos+(Utf8.decode s pos).2) hit;have hw:=decode_le s pos hlt;obtain⟨c,hc⟩:∃ c,s[pos]'hlt=c:=⟨_,rfl⟩
   obtain⟨q1,q2⟩:=Xs s pos hlt;rw[hc] at q1 q2;have hS:=LI (Utf8.decode s pos).1;rw[q1] at hS;have HS:=hid (Yr (p:=Cd) (l:=s.data.toList) (k:=pos) (by rw[<- Lib.size_eq];exact hlt));have HX:=hid (fun h=>VH (p:=Cd) (l:=s.data.toList) (k:=pos) (by rw[<- Lib.size_eq];exact hlt) h);have HC:=hid ((DB s pos hlt).trans hc);have hm1:=C3 hit;have hm2:=C3 hit1;have HM:=hid (Ai hm1 hm2);have HI1:=hid hit1;clear hm1 hm2 q1 hc hit1;cases hcb:Cd c with
   | true=>
    rw[hcb] at hS;have hk:=q2 hcb;have HV':=hid (show(s.data.toList.take (pos+1)).all Cd=true by rw[HS.out,HV.out,HC.out,hcb];rfl);have HK:=hid hk;clear hcb q2 hk;go_wp2_with fail;refine(hS _).mono ?_;rintro e w1 ⟨rfl,hw1⟩;subst w1;clear hS hit;go_wp2;go_roundw
    case rel=>exact⟨rfl,pos+1,by omega,by rw[<- HK.out];exact HI1.out,hbi,HV'⟩
    case measure=>rw[HM.out.1,HM.out.2];omega
   | false=>
    rw[hcb] at hS;have HF:=hid (show CG s.data.toList=false by unfold CG;rw[HX.out (by rw[HC.out,hcb])];rfl);clear hcb q2;go_wp2_with fail;refine(hS _).mono ?_;rintro e w1 ⟨rfl,hw1⟩;subst w1;clear hS hit;go_wp2;go_ret;exact⟨by rw[HF.out];rfl,hbi⟩
  ·have hnx:=fun ty=>run_next_end_at (P:=Tryz.prog) wr w.heap.size s pos ty hit hlt;have hall:=HV.out;rw[List.take_of_length_le (by rw[<- Lib.size_eq];omega)] at hall;clear hit HV;by_cases h0:0<s.size
   ·have he:=AY h0;have HF:=hid (show CG s.data.toList=decide ((s.size:Int)<=20) by
     unfold CG;have hz:s.data.toList.isEmpty=false:=by rw[<- Lib.toList_data];exact he
     rw[hall,hz,<- Lib.size_eq,Bool.eq_iff_iff];simp;omega)
    clear hall;go_wp2;go_ret;exact⟨by rw[HF.out];rfl,by first | exact hb | exact(below_iterAt hb Nr _ _)⟩
   ·have he:=Bn h0;have HF:=hid (show CG s.data.toList=false by
     have h00:s.data.toList=[]:=List.eq_nil_of_length_eq_zero (by rw[<- Lib.size_eq];omega);rw[h00];rfl)
    clear hall;go_wp2;go_ret;exact⟨by rw[HF.out];rfl,by first | exact hb | exact(below_iterAt hb Nr _ _)⟩
theorem TZ (s:ByteArray):∀ (f pos:Nat),s.size - pos<=f->pos<=s.size->idxFuncFrom Gt false s f pos=if (s.data.toList.drop pos).all Cd then -1 else ((pos+((s.data.toList.drop pos).takeWhile Cd).length:Nat):Int)
 | 0,pos,hf,hp=>by
  rw[List.drop_eq_nil_of_le (by rw[<- Lib.size_eq];omega)];rfl
 | f+1,pos,hf,hp=>by
  unfold idxFuncFrom;by_cases hlt:pos<s.size
  ·rw[if_pos hlt,IV s pos hlt];obtain⟨q1,q2⟩:=Xs s pos hlt;rw[q1];cases hc:Cd (s[pos]'hlt) with
   | true=>
    rw[if_neg (by decide),q2 hc,TZ s f (pos+1) (by omega) (by omega)];simp only[List.all_cons,hc,Bool.true_and,List.takeWhile_cons,if_true,List.length_cons]
    split
    ·rfl
    ·omega
   | false=>
    rw[if_pos rfl];simp[hc]
  ·rw[if_neg hlt,List.drop_eq_nil_of_le (by rw[<- Lib.size_eq];omega)];rfl
theorem Jk:∀ (l:List UInt8),l.all Cd=true->l.takeWhile Cd=l
 | [],_=>rfl
 | c::t,h=>by
  rw[List.all_cons,Bool.and_eq_true] at h;rw[List.takeWhile_cons,if_pos h.1,Jk t h.2]
theorem PJ (s:ByteArray):(trimLeftF Gt s).size=s.size - (s.data.toList.takeWhile Cd).length:=by
 have h:=TZ s s.size 0 (by omega) (by omega);rw[List.drop_zero] at h;unfold trimLeftF idxFunc;rw[h];by_cases ha:s.data.toList.all Cd=true
 ·rw[if_pos ha,if_pos rfl];rw[Jk _ ha,<- Lib.size_eq];show 0=_;omega
 ·rw[if_neg ha,if_neg (by omega)];simp[ByteArray.size_extract]
end
section
set_option maxRecDepth 100000
set_option maxHeartbeats 1000000
def rowOf (s:List UInt8):List UInt8:=s.takeWhile (· !=10)
def AS (s:List UInt8):List UInt8:=(s.dropWhile (· !=10)).drop 1
theorem D9 {s:List UInt8} (h:s≠[]):(AS s).length<s.length:=by
 unfold AS;rw[List.length_drop];have h1:=(List.dropWhile_sublist (· !=10) (l:=s)).length_le;have h2:0<s.length:=List.length_pos_iff.2 h;omega
theorem Ry (s:List UInt8):(rowOf s).length<=s.length:=(List.takeWhile_sublist _).length_le
theorem Ab2:∀ s:List UInt8,(Lib.cut s [10]).1=rowOf s/\(Lib.cut s [10]).2.1=AS s
 | []=>by refine⟨by kernel_rfl,by kernel_rfl⟩
 | b::l=>by
  obtain⟨h1,h2⟩:=Ab2 l;have hge:=Lib.index_ge l [10];unfold Lib.cut at h1 h2 |-;have hi:Lib.index (b::l) [10]=if ([10]:List UInt8).isPrefixOf (b::l) then 0 else if Lib.index l [10]== -1 then -1 else Lib.index l [10]+1:=by rw[Lib.index]
  have hp:([10]:List UInt8).isPrefixOf (b::l)=(b==10):=by
   simp[List.isPrefixOf];rw[Bool.eq_iff_iff];simp;exact eq_comm
  rw[hp] at hi;by_cases hb:b=10
  ·subst hb;rw[if_pos (by rfl)] at hi;rw[hi];simp[rowOf,AS]
  ·have hb1:(b==10)=false:=by simpa using hb
   have hb2:(b !=10)=true:=by simpa using hb
   rw[hb1,if_neg (by simp)] at hi;have e1:rowOf (b::l)=b::rowOf l:=by unfold rowOf;rw[List.takeWhile_cons,if_pos hb2]
   have e2:AS (b::l)=AS l:=by unfold AS;rw[List.dropWhile_cons,if_pos hb2]
   rw[e1,e2];by_cases h0:0<=Lib.index l [10]
   ·rw[if_pos h0] at h1 h2;have hne:(Lib.index l [10]== -1)=false:=by rw[beq_eq_false_iff_ne];omega
    rw[hne,if_neg (by simp)] at hi;rw[hi,if_pos (by omega)];obtain⟨i,hii⟩:∃ i:Nat,Lib.index l [10]=i:=⟨(Lib.index l [10]).toNat,by omega⟩
    rw[hii] at h1 h2 |-;simp only[Int.toNat_natCast,List.length_cons,List.length_nil] at h1 h2 |-;rw[show((i:Int)+1).toNat=i+1 by omega];refine⟨by rw[List.take_succ_cons,h1],?_⟩;rw[show i+1+(0+1)=(i+(0+1))+1 by omega,List.drop_succ_cons,h2]
   ·rw[if_neg h0] at h1 h2;have hne:(Lib.index l [10]== -1)=true:=by rw[beq_iff_eq];omega
    rw[hne,if_pos rfl] at hi;rw[hi,if_neg (by omega)];exact⟨by rw[<- h1],h2⟩
def Iq:Nat->List UInt8->List (List UInt8)
 | 0,_=>[]
 | f+1,s=>if s=[] then [] else rowOf s::Iq f (AS s)
theorem Nn:∀ (f g:Nat) (s:List UInt8),s.length<=f->s.length<=g->Iq f s=Iq g s
 | 0,0,_,_,_=>rfl
 | 0,g+1,s,h,_=>by rw[List.eq_nil_of_length_eq_zero (by omega:s.length=0)];rfl
 | f+1,0,s,_,h=>by rw[List.eq_nil_of_length_eq_zero (by omega:s.length=0)];rfl
 | f+1,g+1,s,hf,hg=>by
  unfold Iq;split
  ·rfl
  ·rename_i h;have:=D9 h;rw[Nn f g _ (by omega) (by omega)]
def Be (s:List UInt8):List (List UInt8):=Iq s.length s
theorem CO:Be []=[]:=rfl
theorem DU {s:List UInt8} (h:s≠[]):Be s=rowOf s::Be (AS s):=by
 have hl:=D9 h;obtain⟨n,hn⟩:∃ n,s.length=n+1:=⟨s.length - 1,by omega⟩
 unfold Be;rw[hn]
 conv=>lhs;unfold Iq
 rw[if_neg h,Nn n (AS s).length _ (by omega) Nr]
def BZ (m r:List UInt8):Bool:=Lib.hasPrefix r m&&((r.drop m.length).isEmpty||(r.drop m.length).getD 0 0==32)
def B7 (r:List UInt8):Bool:=BZ [45,45,45] r||BZ [46,46,46] r
def Bd (r:List UInt8):Bool:=(Ag r).all Ac
def Ax (r:List UInt8):Int:=if Bd r then (if B7 r then 81 else 0) else 80
def AK (r:List UInt8):List UInt8:=Lib.trimLeftB r 32
def AO (r:List UInt8):Bool:= !(AK r).isEmpty&&(AK r).getD 0 0 !=35
theorem Po (r:List UInt8):(AK r).length<=r.length:=(List.dropWhile_sublist _).length_le
theorem M9 (s p:ByteArray) (w:Y) (hs:s.size<=1000000):
  Calls Tryz.prog 185 #[Q s,Q p] w fun e w'=>e=.returned (if Lib.hasPrefix s.data.toList p.data.toList then .tuple #[Q ⟨(s.data.toList.drop p.size).toArray⟩,.bool true] else .tuple #[Q s,.bool false])/\w'=w:=by
 have hH:=Tryz.stringslite_HasPrefix s p w;cases hp:Lib.hasPrefix s.data.toList p.data.toList with
 | false=>
  rw[hp] at hH;go_enter Tryz.func185,Tryz.ntmps185;go_wp2_with fail;refine hH.mono ?_;rintro e w1 ⟨rfl,hw⟩;subst w1;go_wp2;exact bodyPost_ret (v:=.tuple #[Q s,.bool false]) (by simp[results,Tryz.results185,go_sem]) rfl ⟨rfl,rfl⟩
 | true=>
  rw[hp] at hH;have hle:p.size<=s.size:=by
   have:=(List.isPrefixOf_iff_prefix.1 hp).length_le;rw[<- Lib.size_eq,<- Lib.size_eq] at this;exact this
  have hex:s.extract p.size s.size=⟨(s.data.toList.drop p.size).toArray⟩:=by
   rw[Lib.extract_eq,List.take_of_length_le (by rw[List.length_drop,<- Lib.size_eq];exact Nat.le_refl _)]
  have hlei:(p.size:Int)<=(s.size:Int):=by omega
  go_enter Tryz.func185,Tryz.ntmps185;go_wp2_with fail;refine hH.mono ?_;rintro e w1 ⟨rfl,hw⟩;subst w1;go_wp2;exact bodyPost_ret (v:=.tuple #[Q ⟨(s.data.toList.drop p.size).toArray⟩,.bool true]) (by simp[results,Tryz.results185,go_sem]) rfl ⟨rfl,rfl⟩
theorem Jh (s p:ByteArray) (w:Y) (hs:s.size<=1000000):
  Calls Tryz.prog 146 #[Q s,Q p] w fun e w'=>e=.returned (if Lib.hasPrefix s.data.toList p.data.toList then .tuple #[Q ⟨(s.data.toList.drop p.size).toArray⟩,.bool true] else .tuple #[Q s,.bool false])/\w'=w:=by
 have hH:=M9 s p w hs;cases hp:Lib.hasPrefix s.data.toList p.data.toList with
 | false=>
  rw[hp,if_neg (by simp)] at hH;go_enter Tryz.func146,Tryz.ntmps146;go_wp2_with fail;refine hH.mono ?_;rintro e w1 ⟨rfl,hw⟩;subst w1;go_wp2;exact bodyPost_ret (v:=.tuple #[Q s,.bool false]) (by simp[results,Tryz.results146,go_sem]) rfl ⟨rfl,rfl⟩
 | true=>
  rw[hp,if_pos rfl] at hH;go_enter Tryz.func146,Tryz.ntmps146;go_wp2_with fail;refine hH.mono ?_;rintro e w1 ⟨rfl,hw⟩;subst w1;go_wp2;exact bodyPost_ret (v:=.tuple #[Q ⟨(s.data.toList.drop p.size).toArray⟩,.bool true]) (by simp[results,Tryz.results146,go_sem]) rfl ⟨rfl,rfl⟩
theorem NK (s:ByteArray) (w:Y) (hs:s.size<=1000000):
  Calls Tryz.prog 105 #[.agg #[Q s]] w fun e w'=>e=.returned (.bool (Bd s.data.toList))/\Below w.heap.size w w':=by
 obtain⟨N,hN⟩:∃ N,w.heap.size+1=N:=⟨_,rfl⟩
 go_enter Tryz.func105,Tryz.ntmps105;go_wp2;go_loopw [2] (fun r wr=>r=.bool false/\∃ pos,pos<=s.size/\wr.heap[N]? =F (.stringIter s pos)/\Below w.heap.size w wr/\Hid (Bd s.data.toList=Bd (s.data.toList.drop pos))) (fun _ wr=>s.size - wr.iterPos N)
 case atStart=>exact⟨rfl,0,by omega,by rw[<- hN,<- World.size_alloc w (.cells #[Q s] 138)];exact World.iter_heap _ _ _,((Bq _ w).alloc Nr _).alloc (by simp) _,hid rfl⟩
 case round=>
  obtain⟨rfl,pos,hp,hit,hb,HV⟩:=hrel;have hNw:w.heap.size<=N:=by omega
  by_cases hlt:pos<s.size
  ·have hnx:=fun ty=>run_next_any_at (P:=Tryz.prog) wr N s pos ty hit hlt;have hbi:Below w.heap.size w (wr.iterAt N s (pos+(Utf8.decode s pos).2)):=below_iterAt hb hNw _ _;have hit1:=iterAt_heap _ _ _ pos (pos+(Utf8.decode s pos).2) hit;have hw:=decode_le s pos hlt;have hst:Bd (s.data.toList.drop pos)=(Ac (Utf8.decode s pos).1&&Bd (s.data.toList.drop (pos+(Utf8.decode s pos).2))):=by
    unfold Bd;rw[Av _ (by rw[IV s pos hlt];simp),List.all_cons,Lib.decodeL_drop,List.drop_drop]
   obtain⟨⟨r,k⟩,hrk⟩:∃ x,Utf8.decode s pos=x:=⟨_,rfl⟩
   rw[hrk] at hst hnx hbi hit1 hw;dsimp only at hst hnx hbi hit1 hw;have HST:=hid hst;have hm1:=C3 hit;have hm2:=C3 hit1;have HM:=hid (Ai hm1 (Ai hm2 hw));have HI1:=hid hit1;clear hm1 hm2 hst hit1 hrk;by_cases h1:r<32
   ·have h1i:(r:Int)<32:=by omega
    have HF:=hid (show Bd s.data.toList=false by
     have:Ac r=false:=by unfold Ac BW;simp;omega
     rw[HV.out,HST.out,this];rfl)
    go_wp2;go_ret;exact⟨by rw[HF.out];rfl,hbi⟩
   ·have h1i:¬(r:Int)<32:=by omega
    by_cases h2:r=127
    ·have h2i:((r:Int)==127)=true:=by simp;omega
     have HF:=hid (show Bd s.data.toList=false by
      have:Ac r=false:=by unfold Ac BW;simp;omega
      rw[HV.out,HST.out,this];rfl)
     clear h2;go_wp2;go_ret;exact⟨by rw[HF.out];rfl,hbi⟩
    ·have h2i:((r:Int)==127)=false:=by simp;omega
     have HV':=hid (show Bd s.data.toList=Bd (s.data.toList.drop (pos+k)) by
      have:Ac r=true:=by unfold Ac BW;simp;omega
      rw[HV.out,HST.out,this];rfl)
     clear h2 hit;go_wp2;go_roundw
     case rel=>exact⟨rfl,pos+k,HM.out.2.2.1,HI1.out,hbi,HV'⟩
     case measure=>rw[HM.out.1,HM.out.2.1];have:=HM.out.2.2.2;have:=HM.out.2.2.1;omega
  ·have hnx:=fun ty=>run_next_end_at (P:=Tryz.prog) wr N s pos ty hit hlt;have HF:=hid (show Bd s.data.toList=true by rw[HV.out,List.drop_eq_nil_of_le (by rw[<- Lib.size_eq];omega)];rfl);clear hit HV;go_wp2;go_ret;exact⟨by rw[HF.out];rfl,by first | exact hb | exact(below_iterAt hb hNw _ _)⟩
theorem Ajf (w:Y):(Instr.index 275 (.agg #[Q ⟨#[45,45,45]⟩,Q ⟨#[46,46,46]⟩]) (I J 0)).run Tryz.prog w=.ok (Q ⟨#[45,45,45]⟩) w:=by kernel_rfl
theorem Ajt (w:Y):(Instr.index 275 (.agg #[Q ⟨#[45,45,45]⟩,Q ⟨#[46,46,46]⟩]) (I J 1)).run Tryz.prog w=.ok (Q ⟨#[46,46,46]⟩) w:=by kernel_rfl
theorem ZF {c k:UInt8} (h:¬c=k):((c.toNat:Int)==(k.toNat:Int))=false:=by
 rw[beq_eq_false_iff_ne];intro e;exact h (UInt8.toNat_inj.1 (by omega))
theorem VY (s:ByteArray) (w:Y) (hs:s.size<=1000000):
  Calls Tryz.prog 106 #[.agg #[Q s]] w fun e w'=>e=.returned (.bool (B7 s.data.toList))/\Below w.heap.size w w':=by
 have b0:=Boxed.new w 138 (Q s);have c0:=b0.cell;have HB:=hid (show Below w.heap.size w (w.alloc (.cells #[Q s] 138)) from(Bq _ w).alloc Nr _);have h1:=fun wx=>Jh s ⟨#[45,45,45]⟩ wx hs;have h2:=fun wx=>Jh s ⟨#[46,46,46]⟩ wx hs;clear b0;have x0:=Ajf;have x1:=Ajt;go_enter Tryz.func106,Tryz.ntmps106;go_wp2;refine wp_loop_rounds 3 ?_;rw[rounds_succ];go_wp2_with fail;refine(h1 _).mono ?_;rintro e w1 ⟨he,hw⟩;subst w1;cases hp:Lib.hasPrefix s.data.toList [45,45,45] with
 | false=>
  rw[hp,if_neg (by simp)] at he;subst he;have HP1:=hid (show BZ [45,45,45] s.data.toList=false by unfold BZ;rw[hp];rfl);clear hp;go_wp2;rw[rounds_succ];go_wp2_with fail;refine(h2 _).mono ?_;rintro e w1 ⟨he,hw⟩;subst w1;cases hp:Lib.hasPrefix s.data.toList [46,46,46] with
  | false=>
   rw[hp,if_neg (by simp)] at he;subst he;have HP2:=hid (show BZ [46,46,46] s.data.toList=false by unfold BZ;rw[hp];rfl);clear hp;go_wp2;rw[rounds_succ];go_wp2;go_ret;exact⟨by unfold B7;rw[HP1.out,HP2.out];rfl,HB.out⟩
  | true=>
   obtain⟨R,hR⟩:∃ R:ByteArray,(⟨(s.data.toList.drop (⟨#[46,46,46]⟩:ByteArray).size).toArray⟩:ByteArray)=R:=⟨_,rfl⟩
   rw[hp,if_pos rfl,hR] at he;subst he;have HR:=hid (show BZ [46,46,46] s.data.toList=(R.data.toList.isEmpty||R.data.toList.getD 0 0==32) by unfold BZ;rw[hp,<- hR];rfl);clear hp hR;by_cases hz:0<R.size
   ·have he1:=AY hz;have hg:=DB R 0 hz;obtain⟨c,hc⟩:∃ c,R[0]=c:=⟨_,rfl⟩
    rw[hc] at hg;have hee:R.data.toList.isEmpty=false:=by rw[<- Lib.toList_data];exact he1
    by_cases h32:c=32
    ·have HP2:=hid (show BZ [46,46,46] s.data.toList=true by rw[HR.out,hg,h32];simp);have hci:((c.toNat:Int)==32)=true:=by rw[h32];rfl
     clear h32 hg hee HR;go_wp2;go_ret;exact⟨by unfold B7;rw[HP2.out];simp,HB.out⟩
    ·have HP2:=hid (show BZ [46,46,46] s.data.toList=false by rw[HR.out,hee,hg];simpa using h32);have hci:((c.toNat:Int)==32)=false:=ZF (k:=32) h32;clear h32 hg hee HR;go_wp2;rw[rounds_succ];go_wp2;go_ret;exact⟨by unfold B7;rw[HP1.out,HP2.out];rfl,HB.out⟩
   ·have he1:=Bn hz;have hee:R.data.toList.isEmpty=true:=by rw[<- Lib.toList_data];exact he1
    have HP2:=hid (show BZ [46,46,46] s.data.toList=true by rw[HR.out,hee];rfl);clear hee HR;go_wp2;go_ret;exact⟨by unfold B7;rw[HP2.out];simp,HB.out⟩
 | true=>
  obtain⟨R,hR⟩:∃ R:ByteArray,(⟨(s.data.toList.drop (⟨#[45,45,45]⟩:ByteArray).size).toArray⟩:ByteArray)=R:=⟨_,rfl⟩
  rw[hp,if_pos rfl,hR] at he;subst he;have HR:=hid (show BZ [45,45,45] s.data.toList=(R.data.toList.isEmpty||R.data.toList.getD 0 0==32) by unfold BZ;rw[hp,<- hR];rfl);clear hp hR;by_cases hz:0<R.size
  ·have he1:=AY hz;have hg:=DB R 0 hz;obtain⟨c,hc⟩:∃ c,R[0]=c:=⟨_,rfl⟩
   rw[hc] at hg;have hee:R.data.toList.isEmpty=false:=by rw[<- Lib.toList_data];exact he1
   by_cases h32:c=32
   ·have HP1:=hid (show BZ [45,45,45] s.data.toList=true by rw[HR.out,hg,h32];simp);have hci:((c.toNat:Int)==32)=true:=by rw[h32];rfl
    clear h32 hg hee HR;go_wp2;go_ret;exact⟨by unfold B7;rw[HP1.out];rfl,HB.out⟩
   ·have HP1:=hid (show BZ [45,45,45] s.data.toList=false by rw[HR.out,hee,hg];simpa using h32);have hci:((c.toNat:Int)==32)=false:=ZF (k:=32) h32;clear h32 hg hee HR;go_wp2;rw[rounds_succ];go_wp2_with fail;refine(h2 _).mono ?_;rintro e w1 ⟨he,hw⟩;subst w1;cases hp:Lib.hasPrefix s.data.toList [46,46,46] with
    | false=>
     rw[hp,if_neg (by simp)] at he;subst he;have HP2:=hid (show BZ [46,46,46] s.data.toList=false by unfold BZ;rw[hp];rfl);clear hp;go_wp2;rw[rounds_succ];go_wp2;go_ret;exact⟨by unfold B7;rw[HP1.out,HP2.out];rfl,HB.out⟩
    | true=>
     obtain⟨R,hR⟩:∃ R:ByteArray,(⟨(s.data.toList.drop (⟨#[46,46,46]⟩:ByteArray).size).toArray⟩:ByteArray)=R:=⟨_,rfl⟩
     rw[hp,if_pos rfl,hR] at he;subst he;have HR:=hid (show BZ [46,46,46] s.data.toList=(R.data.toList.isEmpty||R.data.toList.getD 0 0==32) by unfold BZ;rw[hp,<- hR];rfl);clear hp hR;by_cases hz:0<R.size
     ·have he1:=AY hz;have hg:=DB R 0 hz;obtain⟨c,hc⟩:∃ c,R[0]=c:=⟨_,rfl⟩
      rw[hc] at hg;have hee:R.data.toList.isEmpty=false:=by rw[<- Lib.toList_data];exact he1
      by_cases h32:c=32
      ·have HP2:=hid (show BZ [46,46,46] s.data.toList=true by rw[HR.out,hg,h32];simp);have hci:((c.toNat:Int)==32)=true:=by rw[h32];rfl
       clear h32 hg hee HR;go_wp2;go_ret;exact⟨by unfold B7;rw[HP2.out];simp,HB.out⟩
      ·have HP2:=hid (show BZ [46,46,46] s.data.toList=false by rw[HR.out,hee,hg];simpa using h32);have hci:((c.toNat:Int)==32)=false:=ZF (k:=32) h32;clear h32 hg hee HR;go_wp2;rw[rounds_succ];go_wp2;go_ret;exact⟨by unfold B7;rw[HP1.out,HP2.out];rfl,HB.out⟩
     ·have he1:=Bn hz;have hee:R.data.toList.isEmpty=true:=by rw[<- Lib.toList_data];exact he1
      have HP2:=hid (show BZ [46,46,46] s.data.toList=true by rw[HR.out,hee];rfl);clear hee HR;go_wp2;go_ret;exact⟨by unfold B7;rw[HP2.out];simp,HB.out⟩
  ·have he1:=Bn hz;have hee:R.data.toList.isEmpty=true:=by rw[<- Lib.toList_data];exact he1
   have HP1:=hid (show BZ [45,45,45] s.data.toList=true by rw[HR.out,hee];rfl);clear hee HR;go_wp2;go_ret;exact⟨by unfold B7;rw[HP1.out];rfl,HB.out⟩
def trV:Int->Value:=fun e=>if e=80 then .iface 211 (.agg #[]) else if e=81 then .iface 212 (.agg #[]) else .nilIface
theorem RH (s:ByteArray) (w:Y) (hs:s.size<=1000000):
  Calls Tryz.prog 69 #[.agg #[Q s]] w fun e w'=>e=.returned (trV (Ax s.data.toList))/\Below w.heap.size w w':=by
 have b0:=Boxed.new w 138 (Q s);have hP:=fun wx=>NK s wx hs;have hM:=fun wx=>VY s wx hs;have HB:=hid (show Below w.heap.size w (w.alloc (.cells #[Q s] 138)) from(Bq _ w).alloc Nr _);have c0:=b0.cell;cases hp:Bd s.data.toList with
 | false=>
  rw[hp] at hP;have HT:=hid (show Ax s.data.toList=80 by unfold Ax;rw[hp];rfl);clear hp hM b0;go_enter Tryz.func69,Tryz.ntmps69;go_wp2_with fail;refine(hP _).mono ?_;rintro e w1 ⟨rfl,hb1⟩;have HB1:=hid (HB.out.trans (hb1.mono HB.out.size));clear hP hb1 c0;go_wp2;go_ret;exact⟨by rw[HT.out];rfl,HB1.out⟩
 | true=>
  rw[hp] at hP;cases hm:B7 s.data.toList with
  | true=>
   rw[hm] at hM;have HT:=hid (show Ax s.data.toList=81 by unfold Ax;rw[hp,hm];rfl);clear hp hm;go_enter Tryz.func69,Tryz.ntmps69;go_wp2_with fail;refine(hP _).mono ?_;rintro e w1 ⟨rfl,hb1⟩;have HB1:=hid (HB.out.trans (hb1.mono HB.out.size));have c1:=(Ab b0 hb1).cell;clear hP hb1 c0 b0;go_wp2_with fail;refine(hM _).mono ?_;rintro e w2 ⟨rfl,hb2⟩;have HB2:=hid (HB1.out.trans (hb2.mono HB1.out.size));clear hM hb2 c1;go_wp2;go_ret;exact⟨by rw[HT.out];rfl,HB2.out⟩
  | false=>
   rw[hm] at hM;have HT:=hid (show Ax s.data.toList=0 by unfold Ax;rw[hp,hm];rfl);clear hp hm;go_enter Tryz.func69,Tryz.ntmps69;go_wp2_with fail;refine(hP _).mono ?_;rintro e w1 ⟨rfl,hb1⟩;have HB1:=hid (HB.out.trans (hb1.mono HB.out.size));have c1:=(Ab b0 hb1).cell;clear hP hb1 c0 b0;go_wp2_with fail;refine(hM _).mono ?_;rintro e w2 ⟨rfl,hb2⟩;have HB2:=hid (HB1.out.trans (hb2.mono HB1.out.size));clear hM hb2 c1;go_wp2;go_ret;exact⟨by rw[HT.out];rfl,HB2.out⟩
end
section
theorem Au.setRow {C:Nat->Prop} {B:Nat} (X:Y) (g:Nat) (cs:Array Value) (hC:C g):Au C B X (X.setRow g cs):=
 ⟨rfl,rfl,rfl,by simp,fun k o hk hc _=>(setRow_other X g k cs (fun e=>hc (e▸hC))).trans hk,fun k c e fz hk=>by
  by_cases hkg:k=g
  ·subst hkg;exact⟨cs,fz,setRow_heap X k c cs e fz hk⟩
  ·exact⟨c,fz,(setRow_other X g k cs hkg).trans hk⟩⟩
theorem GR {B g:Nat} {w0 w:Y} (hb:Below B w0 w) (hBg:B<=g) (cs:Array Value):Below B w0 (w.setRow g cs):=
 ⟨hb.os,hb.tape,hb.output,by rw[size_setRow];exact hb.size,fun k hk=>(setRow_other w g k cs (by omega)).trans (hb.block k hk)⟩
theorem KJ {ops:Array Oper} {o:Oper} {a:Act} {K:Act->Y->Prop} {Qz:Exit->Act->Y->Prop} {E:Prop} {w:Y} (hgd:o.guard=O) (ty:TypeId) (x y:Operand) (ho:o.op=.store ty x y)
  (g:Nat) (cells:Array Value) (hx:a.eval x=.pointer (F ⟨g,0,O⟩)) (hy:a.eval y=.agg cells)
  (t:TypeId) (old:Array Value) (hg:w.heap[g]? =F (.cells old t (0,0))) (hi:(Tryz.prog.info? ty).map (·.size)=F cells.size)
  (hold:old.size=cells.size) (h1:cells.all (·.oneCell')=true)
  (h:K (a.put o.dst undef) (w.setRow g cells)):if Region.wanted o (yielded ops a.tmps)=true then Oper.wp Tryz.prog o a w K Qz else E:=by
 have hw:Region.wanted o (yielded ops a.tmps)=true:=by simp[Region.wanted,hgd]
 rw[if_pos hw];exact wp_store_row ty x y ho g cells hx hy t old hg hi hold h1 h
theorem Aml {w:Y} {b:Nat} {t:TypeId} {v0 v1:Value} (h:w.heap[b]? =F (.cells #[v0,v1] t)):
  w.cell? ⟨b,0,O⟩=F v0/\w.cell? ⟨b,1,O⟩=F v1/\w.frozen? ⟨b,0,O⟩=false/\w.frozen? ⟨b,1,O⟩=false:=by
 refine⟨?_,?_,?_,?_⟩<;>simp[World.cell?,World.frozen?,h]
end
end Go.Proofs.YtdpppepmkeinaaaGreatDoor
