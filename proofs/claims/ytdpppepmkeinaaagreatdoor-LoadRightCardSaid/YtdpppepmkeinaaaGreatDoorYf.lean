/- What is proved: a part of the walk of the program and of its plain laws; no condition beside those that each theorem names. -/
import Derived.Test.YtdpppepmkeinaaaGreatDoorYa
import Derived.Test.YtdpppepmkeinaaaGreatDoorYe
import Derived.Test.YtdpppepmkeinaaaGreatDoorYd
import Derived.Deep.RegionHeldLaw
import Derived.Laws.Tables
namespace Go.Proofs.YtdpppepmkeinaaaGreatDoor
open Go Go.RowKit Go.Lib
open Go.Value renaming int->I,string->Q,slice->Z
open Go.IntKind renaming i64->J
open Option renaming none->O,some->F
open _root_.Go renaming World->Y
set_option linter.unusedSimpArgs false
set_option linter.unusedVariables false
set_option linter.unusedSectionVars false
section
set_option maxRecDepth 100000
set_option maxHeartbeats 4000000
def GU (R:Nat) (w:Y):Prop:=∃ w0,Bf w0/\w0.heap.size<=R/\Below w0.heap.size w0 w
theorem GU.tabs {R:Nat} {w:Y} (h:GU R w):Bf w:=by obtain⟨w0,h1,_,h3⟩:=h;exact h1.below h3
theorem GU.mod {R:Nat} {w w':Y} (h:GU R w) (hm:BC R w w'):GU R w':=by
 obtain⟨w0,h1,h2,h3⟩:=h;exact⟨w0,h1,h2,Ah.below hm h3 (fun k hk=>by omega) h3.size Nr⟩
structure Sy (w:Y) (R:Nat) (s:ByteArray) (p d:Nat) (k0 s0 a0:Value) (w':Y):Prop where
 sx:Sx w R s p d w'
 tb:w'.heap[w.heap.size+1]? =F (.cells #[k0,s0,a0] 287)
theorem Sy.below {w:Y} {R:Nat} {s:ByteArray} {p d:Nat} {k0 s0 a0:Value} {w1 w2:Y} (h:Sy w R s p d k0 s0 a0 w1) (hb:Below w1.heap.size w1 w2):Sy w R s p d k0 s0 a0 w2:=⟨h.sx.below hb,Ay h.tb hb⟩
theorem Sy.drew {w:Y} {R:Nat} {s:ByteArray} {p d:Nat} {k0 s0 a0:Value} {w1:Y} (h:Sy w R s p d k0 s0 a0 w1):Sy w R s p d k0 s0 a0 w1.drew:=h.below (Bq _ _).drew
theorem Sy.alloc {w:Y} {R:Nat} {s:ByteArray} {p d:Nat} {k0 s0 a0:Value} {w1:Y} (h:Sy w R s p d k0 s0 a0 w1) (o:Obj):Sy w R s p d k0 s0 a0 (w1.alloc o):=h.below ((Bq _ w1).alloc Nr o)
theorem Sy.new {w:Y} {R:Nat} {s:ByteArray} {p d:Nat} (h:RA w R s p d) (k0 s0 a0:Value):Sy w R s p d k0 s0 a0 ((w.alloc (.cells #[I J 0,Q ⟨#[]⟩,I J 0] 287)).alloc (.cells #[k0,s0,a0] 287)):=
 ⟨(Sx.new h).alloc _,by have:=Wn (w.alloc (.cells #[I J 0,Q ⟨#[]⟩,I J 0] 287)) (.cells #[k0,s0,a0] 287);rwa [World.size_alloc] at this⟩
theorem Sy.set1 {w:Y} {R:Nat} {s:ByteArray} {p d:Nat} {k0 s0 a0:Value} {w1:Y} (h:Sy w R s p d k0 s0 a0 w1) (hlt:R<w.heap.size) (p':Nat):Sy w R s p' d k0 s0 a0 (w1.setCell ⟨R,1,O⟩ (I J p')):=
 ⟨h.sx.set1 hlt p',(Bh w1 ⟨R,1,O⟩ _ _ (by simp;omega)).trans h.tb⟩
theorem Sy.putS {w:Y} {R:Nat} {s:ByteArray} {p d:Nat} {k0 s0 a0:Value} {w1:Y} (h:Sy w R s p d k0 s0 a0 w1) (hlt:R<w.heap.size) (v:Value):Sy w R s p d k0 v a0 (w1.setCell ⟨w.heap.size+1,1,O⟩ v):=
 ⟨⟨h.sx.ra.far (a:=⟨w.heap.size+1,1,O⟩) (by simp;omega) v,h.sx.md.put (a:=⟨w.heap.size+1,1,O⟩) (by simp) v,(Bh w1 ⟨w.heap.size+1,1,O⟩ _ _ (by simp)).trans h.sx.res⟩,heap_setCell_same w1 _ 1 _ _ v h.tb⟩
theorem Sy.putK {w:Y} {R:Nat} {s:ByteArray} {p d:Nat} {k0 s0 a0:Value} {w1:Y} (h:Sy w R s p d k0 s0 a0 w1) (hlt:R<w.heap.size) (v:Value):Sy w R s p d v s0 a0 (w1.setCell ⟨w.heap.size+1,0,O⟩ v):=
 ⟨⟨h.sx.ra.far (a:=⟨w.heap.size+1,0,O⟩) (by simp;omega) v,h.sx.md.put (a:=⟨w.heap.size+1,0,O⟩) (by simp) v,(Bh w1 ⟨w.heap.size+1,0,O⟩ _ _ (by simp)).trans h.sx.res⟩,heap_setCell_same w1 _ 0 _ _ v h.tb⟩
theorem Sy.cells {w:Y} {R:Nat} {s:ByteArray} {p d:Nat} {k0 s0 a0:Value} {w1:Y} (h:Sy w R s p d k0 s0 a0 w1):w1.cell? ⟨w.heap.size+1,0,O⟩=F k0/\w1.cell? ⟨w.heap.size+1,1,O⟩=F s0/\w1.cell? ⟨w.heap.size+1,2,O⟩=F a0/\w1.frozen? ⟨w.heap.size+1,0,O⟩=false/\w1.frozen? ⟨w.heap.size+1,1,O⟩=false/\w1.frozen? ⟨w.heap.size+1,2,O⟩=false:=DU h.tb
theorem Sy.all {w:Y} {R:Nat} {s:ByteArray} {p d:Nat} {k0 s0 a0:Value} {w1:Y} (h:Sy w R s p d k0 s0 a0 w1):w1.cell? ⟨R,0,O⟩=F (Q s)/\w1.cell? ⟨R,1,O⟩=F (I J p)/\w1.cell? ⟨R,2,O⟩=F (I J d)/\w1.cell? ⟨w.heap.size+1,2,O⟩=F a0/\w1.frozen? ⟨w.heap.size+1,1,O⟩=false:=
 ⟨h.sx.ra.cells.1,h.sx.ra.cells.2.1,h.sx.ra.cells.2.2.1,h.cells.2.2.1,h.cells.2.2.2.2.1⟩
theorem Sy.all2 {w:Y} {R:Nat} {s:ByteArray} {p d:Nat} {k0 s0 a0:Value} {w1:Y} (h:Sy w R s p d k0 s0 a0 w1):w1.cell? ⟨R,2,O⟩=F (I J d)/\w1.cell? ⟨w.heap.size+1,1,O⟩=F s0:=
 ⟨h.sx.ra.cells.2.2.1,h.cells.2.1⟩
theorem Ty (s:ByteArray) (p k:Nat):(s.extract p k).data.toList=(s.data.toList.take k).drop p:=by
 rw[Lib.extract_data,List.drop_take]
theorem Jl (R:Nat) (s:ByteArray) (p d:Nat) (w:Y) (hs:s.size<=1000000) (hp:p<s.size) (hR:RA w R s p d) (hTab:GU R w):
  Calls Tryz.prog 224 #[.pointer (F ⟨R,0,O⟩)] w (A5 R s p (Cz s.data.toList p d) w):=by
 obtain⟨r,hr⟩:∃ r,Cz s.data.toList p d=r:=⟨_,rfl⟩
 rw[hr];have HR:=hid hr;clear hr;have hlt:=hR.lt;obtain⟨fl,hf1⟩:∃ fl,decide (0<d)=fl:=⟨_,rfl⟩
 have hf2:decide ((0:Int)<(d:Int))=fl:=by rw[<- hf1,Bool.eq_iff_iff];simp
 have HF:=hid hf1;have hps:p<=s.size:=by omega
 obtain⟨r0,r1,r2,f0,f1,f2⟩:=hR.cells;go_enter Tryz.func224,Tryz.ntmps224;go_wp2;have hY0:=Sy.new hR (I J 1) (Q ⟨#[]⟩) (I J p);clear r0 r1 r2 f0 f1 f2;revert hY0;generalize (w.alloc (.cells #[I J 0,Q ⟨#[]⟩,I J 0] 287)).alloc (.cells #[I J 1,Q ⟨#[]⟩,I J p] 287)=W0;intro hY0;go_loopg [] (s.size - p) (fun g wx=>∃ k:Nat,k+g=s.size/\p<=k/\Sy w R s k d (I J 1) (Q ⟨#[]⟩) (I J p) wx/\Hid (Fi s.data.toList k d=Fi s.data.toList p d))
 case atStart=>exact⟨p,by omega,Nat.le_refl _,hY0,hid rfl⟩
 case round=>
  obtain⟨k,hkg,hpk,hY,HE⟩:=hrel;clear hY0;have hks:k<=s.size:=by omega
  have hEnd:=WK R s k d wr hs (by omega) hY.sx.ra;cases he:L4 s.data.toList k d with
  | false=>
   have HE':=hid (show Fi s.data.toList (k+1) d=Fi s.data.toList p d by rw[<- WY he];exact HE.out);have hks1:k<s.size:=by
    rcases Nat.lt_or_ge k s.size with h | h
    ·exact h
    ·unfold L4 at he;rw[<- Lib.size_eq,decide_eq_true h] at he;cases he
   rw[he] at hEnd;clear he HE;go_wp2_with fail;refine hEnd.mono ?_;rintro e w1 ⟨rfl,hb1⟩;replace hY:=hY.below hb1;clear hEnd hb1;obtain⟨r0,r1,r2,f0,f1,f2⟩:=hY.sx.ra.cells;go_wp2;go_roundg (gk - 1)
   case measure=>omega
   case rel=>exact⟨k+1,by omega,by omega,hY.set1 hlt (k+1),HE'⟩
  | true=>
   have HX:=hid (show Fi s.data.toList p d=k by rw[<- HE.out];exact Aai he);rw[he] at hEnd;clear he HE;obtain⟨TT,hTT⟩:∃ TT,Lib.trimRightB (s.extract p k).data.toList 32=TT:=⟨_,rfl⟩
   have hTR:=fun wx=>Tryz.strings_TrimRight_one (s.extract p k) 32 (by decide) wx (by rw[ByteArray.size_extract];omega);rw[hTT] at hTR;have hTs:(⟨TT.toArray⟩:ByteArray).size<=1000000:=by
    rw[size_mk,<- hTT];unfold Lib.trimRightB;have h1:=CV 32 (s.extract p k).data.toList.reverse;rw[List.length_reverse] at h1 |-;rw[<- Lib.size_eq,ByteArray.size_extract] at h1;omega
   have hMay:=fun wx hx=>UM ⟨TT.toArray⟩ fl wx hTs hx;rw[BM] at hMay;have HT:=hid (show Gd ((s.data.toList.take (Fi s.data.toList p d)).drop p)=TT by rw[HX.out,<- Ty];exact hTT);obtain⟨mb,hmb⟩:∃ mb,Fl TT fl=mb:=⟨_,rfl⟩
   rw[hmb] at hMay;have HM:=hid hmb;clear hmb hTT hTs;have hki:(k:Int)<=(s.size:Int):=by omega
   have hpi:(p:Int)<=(k:Int):=by omega
   go_wp2_with fail;refine hEnd.mono ?_;rintro e w1 ⟨rfl,hb1⟩;replace hY:=hY.below hb1;clear hEnd hb1;go_wp2;replace hY:=hY.drew;refine wp_region_noPanic ?_;refine wR 16 (S:=(fun w'=>w'.cell? ⟨R,0,O⟩=F (Q s)/\w'.cell? ⟨R,1,O⟩=F (I J k)/\w'.cell? ⟨R,2,O⟩=F (I J d)/\w'.cell? ⟨w.heap.size+1,2,O⟩=F (I J p)/\w'.frozen? ⟨w.heap.size+1,1,O⟩=false)) rfl ?_ (fun hHeld=>?_)
   ·(try dsimp only);exact hY.all
   simp only[gR]
   iterate 13 (refine wN hHeld ?_;try simp only[gS])
   refine wB 13 rfl (fun K hK=>?_);go_simp;refine(hTR _).mono ?_;rintro e wz ⟨rfl,hwz⟩;subst wz;try go_wp2_with fail
   refine hK.out _ _ ?_ (fun hHeld2=>?_)
   ·(try dsimp only);exact hY.all
   clear hK K hHeld;have hHeld:=hHeld2;clear hHeld2;try simp only[gS]
   refine wN hHeld ?_;try simp only[gS]
   refine wB 15 rfl (fun K hK=>?_);obtain⟨tc0,tc1,tc2,tc3,tc4,tc5⟩:=hY.cells;go_simp;replace hY:=hY.putS hlt (Q ⟨TT.toArray⟩);try go_wp2_with fail
   refine hK.out _ _ ?_ (fun hHeld2=>?_)
   ·(try dsimp only);exact hY.all
   clear hK K hHeld tc0 tc1 tc2 tc3 tc4 tc5;have hHeld:=hHeld2;clear hHeld2;try simp only[gS]
   refine wpAnyH_done (by kernel_rfl) ?_ _;refine NoPanic.normal ?_;go_wp2;replace hY:=hY.drew;refine wp_region_noPanic ?_;refine wR 9 (S:=(fun w'=>w'.cell? ⟨R,2,O⟩=F (I J d)/\w'.cell? ⟨w.heap.size+1,1,O⟩=F (Q ⟨TT.toArray⟩))) rfl ?_ (fun hHeld=>?_)
   ·(try dsimp only);exact hY.all2
   simp only[gR]
   iterate 7 (refine wN hHeld ?_;try simp only[gS])
   refine wB 7 rfl (fun K hK=>?_);go_simp;refine(hMay _ (hTab.mod hY.sx.md).tabs).mono ?_;rintro e wz ⟨rfl,hb⟩;replace hY:=hY.below hb;try go_wp2_with fail
   refine hK.out _ _ ?_ (fun hHeld2=>?_)
   ·(try dsimp only);exact hY.all2
   clear hK K hHeld;have hHeld:=hHeld2;clear hHeld2;try simp only[gS]
   refine wN hHeld ?_;try simp only[gS]
   refine wpAnyH_done (by kernel_rfl) ?_ _;refine NoPanic.normal ?_;clear hTR hMay;cases mb with
   | false=>
    have HQ:=hid (show r=.bad 51 by rw[<- HR.out];unfold Cz;rw[HT.out,HF.out,HM.out,if_neg (by decide)]);obtain⟨n0,n1,n2,g0,g1,g2⟩:=hY.sx.cells;go_wp2;obtain⟨e0,e1,e2,e3,e4⟩:=hY.sx.fin hlt (I J 0) (Q ⟨#[]⟩) (I J 0);refine bodyPost_ret (v:=.tuple #[BG ⟨0,[],0⟩,.iface 325 (.agg #[I J 51])]) (by simp[results,Tryz.results224,go_sem,BG,e0,e1,e2]) rfl (A5.bad HQ.out rfl e4)
   | true=>
    have HQ:=hid (show r=.ok 1 TT k d by rw[<- HR.out];unfold Cz;rw[HT.out,HF.out,HM.out,if_pos rfl,HX.out]);obtain⟨n0,n1,n2,g0,g1,g2⟩:=hY.sx.cells;obtain⟨t0,t1,t2,_⟩:=hY.cells;go_wp2;obtain⟨e0,e1,e2,e3,e4⟩:=hY.sx.fin hlt (I J 1) (Q ⟨TT.toArray⟩) (I J p);refine bodyPost_ret (v:=.tuple #[BG ⟨1,TT,p⟩,.nilIface]) (by simp[results,Tryz.results224,go_sem,BG,e0,e1,e2]) rfl (A5.ok HQ.out rfl e3 e4)
structure Sz (w:Y) (R:Nat) (w':Y):Prop where
 md:BC R w w'
 res:w'.heap[w.heap.size]? =F (.cells #[I J 0,Q ⟨#[]⟩,I J 0] 287)
theorem Sx.sz {w:Y} {R:Nat} {s:ByteArray} {p d:Nat} {w1 w2:Y} (h:Sx w R s p d w1) (hlt:R<w.heap.size) (hm:BC R w1 w2):Sz w R w2:=⟨h.md.trans hm,hm.heap h.res (by omega)⟩
theorem Sz.cells {w:Y} {R:Nat} {w1:Y} (h:Sz w R w1):w1.cell? ⟨w.heap.size,0,O⟩=F (I J 0)/\w1.cell? ⟨w.heap.size,1,O⟩=F (Q ⟨#[]⟩)/\w1.cell? ⟨w.heap.size,2,O⟩=F (I J 0)/\w1.frozen? ⟨w.heap.size,0,O⟩=false/\w1.frozen? ⟨w.heap.size,1,O⟩=false/\w1.frozen? ⟨w.heap.size,2,O⟩=false:=DU h.res
theorem Sz.fin {w:Y} {R:Nat} {w1:Y} (h:Sz w R w1) (v0 v1 v2:Value):
  (((w1.setCell ⟨w.heap.size,0,O⟩ v0).setCell ⟨w.heap.size,1,O⟩ v1).setCell ⟨w.heap.size,2,O⟩ v2).cell? ⟨w.heap.size,0,O⟩=F v0∧
  (((w1.setCell ⟨w.heap.size,0,O⟩ v0).setCell ⟨w.heap.size,1,O⟩ v1).setCell ⟨w.heap.size,2,O⟩ v2).cell? ⟨w.heap.size,1,O⟩=F v1∧
  (((w1.setCell ⟨w.heap.size,0,O⟩ v0).setCell ⟨w.heap.size,1,O⟩ v1).setCell ⟨w.heap.size,2,O⟩ v2).cell? ⟨w.heap.size,2,O⟩=F v2∧
  BC R w (((w1.setCell ⟨w.heap.size,0,O⟩ v0).setCell ⟨w.heap.size,1,O⟩ v1).setCell ⟨w.heap.size,2,O⟩ v2):=by
 have h0:=heap_setCell_same w1 w.heap.size 0 _ _ v0 h.res;have h1:=heap_setCell_same _ w.heap.size 1 _ _ v1 h0;have h2:=heap_setCell_same _ w.heap.size 2 _ _ v2 h1;have h3:(((w1.setCell ⟨w.heap.size,0,O⟩ v0).setCell ⟨w.heap.size,1,O⟩ v1).setCell ⟨w.heap.size,2,O⟩ v2).heap[w.heap.size]? =F (.cells #[v0,v1,v2] 287):=h2;obtain⟨c0,c1,c2,_⟩:=DU h3;exact⟨c0,c1,c2,((h.md.put (a:=⟨w.heap.size,0,O⟩) Nr v0).put (a:=⟨w.heap.size,1,O⟩) Nr v1).put (a:=⟨w.heap.size,2,O⟩) Nr v2⟩
theorem ZC (R:Nat) (s:ByteArray) (p d:Nat) (w:Y) (hs:s.size<=1000000) (hp:p<s.size) (hR:RA w R s p d) (hTab:GU R w):
  Calls Tryz.prog 252 #[.pointer (F ⟨R,0,O⟩)] w (A5 R s p (GZ s.data.toList p d) w):=by
 have hB:=fun wx hx=>JU R s p d 1 (p+1) wx hs rfl (by omega) hx;have hS:=Sx.new hR;have hlt:=hR.lt;cases hb:Fv s.data.toList (p+1) with
 | false=>
  have HV:=hid (show GZ s.data.toList p d=Cz s.data.toList p d by unfold GZ;rw[hb,if_neg (by decide)]);rw[hb] at hB;rw[HV.out];clear hb HV;obtain⟨r,hr⟩:∃ r,Cz s.data.toList p d=r:=⟨_,rfl⟩
  have hP:=fun wx hx hy=>Jl R s p d wx hs hp hx hy;rw[hr] at hP |-;clear hr;go_enter Tryz.func252,Tryz.ntmps252;go_wp2_with fail;refine(hB _ hS.ra).mono ?_;rintro e w1 ⟨rfl,hb1⟩;replace hS:=hS.below hb1;clear hB hb1;go_wp2_with fail;refine(hP _ hS.ra (hTab.mod hS.md)).mono ?_;rintro e w2 hQ;clear hP;cases r with
  | ok k t q d'=>
   obtain⟨rfl,hr2,hm2⟩:=hQ;replace hS:=hS.mod hlt hr2 hm2;clear hr2 hm2;obtain⟨n0,n1,n2,g0,g1,g2⟩:=hS.cells;unfold BG;go_wp2;obtain⟨e0,e1,e2,e3,e4⟩:=hS.fin hlt (I J k) (Q ⟨t.toArray⟩) (I J p);refine bodyPost_ret (v:=.tuple #[BG ⟨k,t,p⟩,.nilIface]) (by simp[results,Tryz.results252,go_sem,BG,e0,e1,e2]) rfl (A5.ok rfl rfl e3 e4)
  | bad er=>
   obtain⟨rfl,hm2⟩:=hQ;have hZ:=hS.sz hlt hm2;clear hS hm2;obtain⟨n0,n1,n2,g0,g1,g2⟩:=hZ.cells;unfold BG;go_wp2;obtain⟨e0,e1,e2,e4⟩:=hZ.fin (I J 0) (Q ⟨#[]⟩) (I J 0);refine bodyPost_ret (v:=.tuple #[BG ⟨0,[],0⟩,.iface 325 (.agg #[I J er])]) (by simp[results,Tryz.results252,go_sem,BG,e0,e1,e2]) rfl (A5.bad rfl rfl e4)
 | true=>
  rw[hb] at hB;by_cases hd:0<d
  ·rw[show GZ s.data.toList p d=.bad 90 by unfold GZ;rw[hb,if_pos rfl,if_pos hd]];have hdi:(0:Int)<(d:Int):=by omega
   clear hb hd;go_enter Tryz.func252,Tryz.ntmps252;go_wp2_with fail;refine(hB _ hS.ra).mono ?_;rintro e w1 ⟨rfl,hb1⟩;replace hS:=hS.below hb1;clear hB hb1;obtain⟨r0,r1,r2,f0,f1,f2⟩:=hS.ra.cells;obtain⟨n0,n1,n2,g0,g1,g2⟩:=hS.cells;go_wp2;obtain⟨e0,e1,e2,e3,e4⟩:=hS.fin hlt (I J 0) (Q ⟨#[]⟩) (I J 0);refine bodyPost_ret (v:=.tuple #[BG ⟨0,[],0⟩,.iface 325 (.agg #[I J 90])]) (by simp[results,Tryz.results252,go_sem,BG,e0,e1,e2]) rfl (A5.bad rfl rfl e4)
  rw[show GZ s.data.toList p d=.ok 5 [] (p+1) d by unfold GZ;rw[hb,if_pos rfl,if_neg hd]];have hdi:¬(0:Int)<(d:Int):=by omega
  clear hb hd;go_enter Tryz.func252,Tryz.ntmps252;go_wp2_with fail;refine(hB _ hS.ra).mono ?_;rintro e w1 ⟨rfl,hb1⟩;replace hS:=hS.below hb1;clear hB hb1;obtain⟨r0,r1,r2,f0,f1,f2⟩:=hS.ra.cells;go_wp2_with fail;refine(I0 R s p d 5 _ (by omega) hS.ra).mono ?_;rintro e w2 ⟨rfl,hr2,hm2⟩;replace hS:=hS.mod hlt hr2 hm2;clear hr2 hm2 r0 r1 r2 f0 f1 f2;obtain⟨n0,n1,n2,g0,g1,g2⟩:=hS.cells;unfold BG;go_wp2;obtain⟨e0,e1,e2,e3,e4⟩:=hS.fin hlt (I J 5) (Q ⟨#[]⟩) (I J p);refine bodyPost_ret (v:=.tuple #[BG ⟨5,[],p⟩,.nilIface]) (by simp[results,Tryz.results252,go_sem,BG,e0,e1,e2]) rfl (A5.ok rfl rfl e3 e4)
theorem XA (R:Nat) (s:ByteArray) (p d:Nat) (w:Y) (hs:s.size<=1000000) (hp:p<s.size) (hR:RA w R s p d) (hTab:GU R w):
  Calls Tryz.prog 253 #[.pointer (F ⟨R,0,O⟩)] w (A5 R s p (FX s.data.toList p d) w):=by
 have hB:=fun wx hx=>Be R s p d 1 (p+1) wx hs rfl (by omega) hx;have hS:=Sx.new hR;have hlt:=hR.lt;cases hb:Bj s.data.toList (p+1) d with
 | false=>
  have HV:=hid (show FX s.data.toList p d=Cz s.data.toList p d by unfold FX;rw[hb,if_neg (by decide)]);rw[hb] at hB;rw[HV.out];clear hb HV;obtain⟨r,hr⟩:∃ r,Cz s.data.toList p d=r:=⟨_,rfl⟩
  have hP:=fun wx hx hy=>Jl R s p d wx hs hp hx hy;rw[hr] at hP |-;clear hr;go_enter Tryz.func253,Tryz.ntmps253;go_wp2_with fail;refine(hB _ hS.ra).mono ?_;rintro e w1 ⟨rfl,hb1⟩;replace hS:=hS.below hb1;clear hB hb1;go_wp2_with fail;refine(hP _ hS.ra (hTab.mod hS.md)).mono ?_;rintro e w2 hQ;clear hP;cases r with
  | ok k t q d'=>
   obtain⟨rfl,hr2,hm2⟩:=hQ;replace hS:=hS.mod hlt hr2 hm2;clear hr2 hm2;obtain⟨n0,n1,n2,g0,g1,g2⟩:=hS.cells;unfold BG;go_wp2;obtain⟨e0,e1,e2,e3,e4⟩:=hS.fin hlt (I J k) (Q ⟨t.toArray⟩) (I J p);refine bodyPost_ret (v:=.tuple #[BG ⟨k,t,p⟩,.nilIface]) (by simp[results,Tryz.results253,go_sem,BG,e0,e1,e2]) rfl (A5.ok rfl rfl e3 e4)
  | bad er=>
   obtain⟨rfl,hm2⟩:=hQ;have hZ:=hS.sz hlt hm2;clear hS hm2;obtain⟨n0,n1,n2,g0,g1,g2⟩:=hZ.cells;unfold BG;go_wp2;obtain⟨e0,e1,e2,e4⟩:=hZ.fin (I J 0) (Q ⟨#[]⟩) (I J 0);refine bodyPost_ret (v:=.tuple #[BG ⟨0,[],0⟩,.iface 325 (.agg #[I J er])]) (by simp[results,Tryz.results253,go_sem,BG,e0,e1,e2]) rfl (A5.bad rfl rfl e4)
 | true=>
  rw[hb] at hB;rw[show FX s.data.toList p d=.ok 6 [] (p+1) d by unfold FX;rw[hb,if_pos rfl]];clear hb;go_enter Tryz.func253,Tryz.ntmps253;go_wp2_with fail;refine(hB _ hS.ra).mono ?_;rintro e w1 ⟨rfl,hb1⟩;replace hS:=hS.below hb1;clear hB hb1;obtain⟨r0,r1,r2,f0,f1,f2⟩:=hS.ra.cells;go_wp2_with fail;refine(I0 R s p d 6 _ (by omega) hS.ra).mono ?_;rintro e w2 ⟨rfl,hr2,hm2⟩;replace hS:=hS.mod hlt hr2 hm2;clear hr2 hm2 r0 r1 r2 f0 f1 f2;obtain⟨n0,n1,n2,g0,g1,g2⟩:=hS.cells;unfold BG;go_wp2;obtain⟨e0,e1,e2,e3,e4⟩:=hS.fin hlt (I J 6) (Q ⟨#[]⟩) (I J p);refine bodyPost_ret (v:=.tuple #[BG ⟨6,[],p⟩,.nilIface]) (by simp[results,Tryz.results253,go_sem,BG,e0,e1,e2]) rfl (A5.ok rfl rfl e3 e4)
end
section
set_option maxRecDepth 100000
set_option maxHeartbeats 4000000
theorem Ac3 (s:ByteArray):(⟨s.data.toList.toArray⟩:ByteArray)=s:=by cases s;simp
theorem I8 (w:Y) (a:Addr) (v:Value):(w.setCell a v).heap.size=w.heap.size:=by simp[World.setCell]
theorem TX (R:Nat) (s:ByteArray) (p d:Nat) (w:Y) (hs:s.size<=1000000) (hp:p<s.size) (hR:RA w R s p d) (hTab:GU R w) (tt:List UInt8) (q en:Nat) (hq:C2 s p=(tt,q,(en:Int))) (hen:en≠0):
  Calls Tryz.prog 250 #[.pointer (F ⟨R,0,O⟩)] w (A5 R s p (.bad en) w):=by
 have hQ:=fun wx hx=>Na s p wx hs hx;rw[hq] at hQ;clear hq;unfold FK at hQ;have hne:((en:Int)==0)=false:=by rw[beq_eq_false_iff_ne];omega
 clear hen;have hlt:=hR.lt;have hS:=Sx.new hR;go_enter Tryz.func250,Tryz.ntmps250;go_wp2;replace hS:=hS.below (Bq _ _).drew;refine wp_region_noPanic ?_;refine wR 18 (S:=(fun w'=>w'.cell? ⟨R,0,O⟩=F (Q s)/\w'.cell? ⟨R,1,O⟩=F (I J p))) rfl ?_ (fun hHeld=>?_)
 ·(try dsimp only);exact⟨hS.ra.cells.1,hS.ra.cells.2.1⟩
 simp only[gR]
 iterate 10 (refine wN hHeld ?_;try simp only[gS])
 refine wB 10 rfl (fun K hK=>?_);go_simp;refine(hQ _ (hTab.mod hS.md).tabs).mono ?_;rintro e wz ⟨rfl,hb⟩;replace hS:=hS.below hb;try go_wp2_with fail
 refine hK.out _ _ ?_ (fun hHeld2=>?_)
 ·(try dsimp only);exact⟨hS.ra.cells.1,hS.ra.cells.2.1⟩
 clear hK K hHeld;have hHeld:=hHeld2;clear hHeld2;try simp only[gS]
 iterate 7 (refine wN hHeld ?_;try simp only[gS])
 refine wpAnyH_done (by kernel_rfl) ?_ _;refine NoPanic.normal ?_;obtain⟨n0,n1,n2,g0,g1,g2⟩:=hS.cells;clear hQ;go_wp2;obtain⟨e0,e1,e2,e3,e4⟩:=hS.fin hlt (I J 0) (Q ⟨#[]⟩) (I J 0);refine bodyPost_ret (v:=.tuple #[BG ⟨0,[],0⟩,.iface 325 (.agg #[I J en])]) (by simp[results,Tryz.results250,go_sem,BG,e0,e1,e2]) rfl (A5.bad rfl rfl e4)
theorem WU (R:Nat) (s:ByteArray) (p d:Nat) (w:Y) (hs:s.size<=1000000) (hp:p<s.size) (hR:RA w R s p d) (hTab:GU R w) (tt:List UInt8) (q:Nat) (hq:C2 s p=(tt,q,0)) (hqs:q<=s.size) (r:TR) (HR:Hid ((if Bj s.data.toList q d||DV s.data.toList q [58] then .ok 2 tt q d else .bad 90)=r)):
  Calls Tryz.prog 250 #[.pointer (F ⟨R,0,O⟩)] w (A5 R s p r w):=by
 have hQ:=fun wx hx=>Na s p wx hs hx;rw[hq] at hQ;clear hq;unfold FK at hQ;have hC:=fun wx hx=>Be R s q d 0 q wx hs rfl (by omega) hx;have hI:=fun wx hx=>E3 R s q d 0 q [58] 1 1 wx hs (by omega) (by omega) rfl (by omega) hx;have hlt:=hR.lt;have hS:=Sx.new hR;obtain⟨cb,hcb⟩:∃ cb,Bj s.data.toList q d=cb:=⟨_,rfl⟩
 obtain⟨ib,hib⟩:∃ ib,DV s.data.toList q [58]=ib:=⟨_,rfl⟩
 have HCI:=hid (Ai hcb hib);rw[hcb] at hC;rw[hib] at hI;clear hcb hib;go_enter Tryz.func250,Tryz.ntmps250;go_wp2;replace hS:=hS.below (Bq _ _).drew;refine wp_region_noPanic ?_;refine wR 18 (S:=(fun w'=>w'.cell? ⟨R,0,O⟩=F (Q s)/\w'.cell? ⟨R,1,O⟩=F (I J p))) rfl ?_ (fun hHeld=>?_)
 ·(try dsimp only);exact⟨hS.ra.cells.1,hS.ra.cells.2.1⟩
 simp only[gR]
 iterate 10 (refine wN hHeld ?_;try simp only[gS])
 refine wB 10 rfl (fun K hK=>?_);go_simp;refine(hQ _ (hTab.mod hS.md).tabs).mono ?_;rintro e wz ⟨rfl,hb⟩;replace hS:=hS.below hb;try go_wp2_with fail
 refine hK.out _ _ ?_ (fun hHeld2=>?_)
 ·(try dsimp only);exact⟨hS.ra.cells.1,hS.ra.cells.2.1⟩
 clear hK K hHeld;have hHeld:=hHeld2;clear hHeld2;try simp only[gS]
 iterate 7 (refine wN hHeld ?_;try simp only[gS])
 refine wpAnyH_done (by kernel_rfl) ?_ _;refine NoPanic.normal ?_;clear hQ hb;have hTB:((wz.setCell ⟨R,1,O⟩ (I J q)).alloc (.cells #[I J 2,Q ⟨tt.toArray⟩,I J p] 287)).heap[wz.heap.size]? =F (.cells #[I J 2,Q ⟨tt.toArray⟩,I J p] 287):=by
  have:=Wn (wz.setCell ⟨R,1,O⟩ (I J q)) (.cells #[I J 2,Q ⟨tt.toArray⟩,I J p] 287)
  rwa [I8] at this
 obtain⟨r0,r1,r2,f0,f1,f2⟩:=hS.ra.cells;have hltz:R<wz.heap.size:=hS.ra.lt;replace hS:=(hS.set1 hlt q).alloc (.cells #[I J 2,Q ⟨tt.toArray⟩,I J p] 287);go_wp2_with fail;refine(hC _ hS.ra).mono ?_;rintro e w2 ⟨rfl,hb2⟩;replace hS:=hS.below hb2;replace hTB:=Ay hTB hb2;clear hC hb2 r0 r1 r2 f0 f1 f2 hltz;cases cb with
 | true=>
  have HQ:=hid (show r=.ok 2 tt q d by rw[<- HR.out,HCI.out.1,Bool.true_or,if_pos rfl]);clear hI;obtain⟨n0,n1,n2,g0,g1,g2⟩:=hS.cells;obtain⟨t0,t1,t2,_⟩:=DU hTB;go_wp2;obtain⟨e0,e1,e2,e3,e4⟩:=hS.fin hlt (I J 2) (Q ⟨tt.toArray⟩) (I J p);refine bodyPost_ret (v:=.tuple #[BG ⟨2,tt,p⟩,.nilIface]) (by simp[results,Tryz.results250,go_sem,BG,e0,e1,e2]) rfl (A5.ok HQ.out rfl e3 e4)
 | false=>
  go_wp2_with fail;refine(hI _ hS.ra).mono ?_;rintro e w3 ⟨rfl,hb3⟩;replace hS:=hS.below hb3;replace hTB:=Ay hTB hb3;clear hI hb3;cases ib with
  | true=>
   have HQ:=hid (show r=.ok 2 tt q d by rw[<- HR.out,HCI.out.1,HCI.out.2,Bool.false_or,if_pos rfl]);obtain⟨n0,n1,n2,g0,g1,g2⟩:=hS.cells;obtain⟨t0,t1,t2,_⟩:=DU hTB;go_wp2;obtain⟨e0,e1,e2,e3,e4⟩:=hS.fin hlt (I J 2) (Q ⟨tt.toArray⟩) (I J p);refine bodyPost_ret (v:=.tuple #[BG ⟨2,tt,p⟩,.nilIface]) (by simp[results,Tryz.results250,go_sem,BG,e0,e1,e2]) rfl (A5.ok HQ.out rfl e3 e4)
  | false=>
   have HQ:=hid (show r=.bad 90 by rw[<- HR.out,HCI.out.1,HCI.out.2,Bool.false_or,if_neg (by decide)]);obtain⟨n0,n1,n2,g0,g1,g2⟩:=hS.cells;obtain⟨t0,t1,t2,_⟩:=DU hTB;go_wp2;obtain⟨e0,e1,e2,e3,e4⟩:=hS.fin hlt (I J 0) (Q ⟨#[]⟩) (I J 0);refine bodyPost_ret (v:=.tuple #[BG ⟨0,[],0⟩,.iface 325 (.agg #[I J 90])]) (by simp[results,Tryz.results250,go_sem,BG,e0,e1,e2]) rfl (A5.bad HQ.out rfl e4)
theorem Ss (R:Nat) (s:ByteArray) (p d:Nat) (w:Y) (hs:s.size<=1000000) (hp:p<s.size) (hR:RA w R s p d) (hTab:GU R w) (hv:validD s.data.toList=true) (hc:s.data.toList.getD p 0=34\/s.data.toList.getD p 0=39):
  Calls Tryz.prog 250 #[.pointer (F ⟨R,0,O⟩)] w (A5 R s p (I4 s.data.toList p d) w):=by
 obtain⟨q0,hq0,hq8⟩:=NH (l:=s.data.toList) (p:=p) (by rw[<- Lib.size_eq];exact hp) hc;have he:=XI hq0 hv;unfold I4;have hto:=QD hq0 hq8 hv;rw[Ac3] at he hto |-;obtain⟨⟨tt,q,er⟩,hq⟩:∃ x,C2 s p=x:=⟨_,rfl⟩
 rw[hq] at he hto |-;dsimp only at he hto |-;by_cases h0:er=0
 ·subst h0;rw[if_pos rfl];exact WU R s p d w hs hp hR hTab tt q hq (by have:=(hto rfl).2;rwa [<- Lib.size_eq] at this) _ (hid rfl)
 ·rw[if_neg h0];obtain⟨en,rfl⟩:∃ en:Nat,er=en:=⟨er.toNat,by omega⟩
  rw[show((en:Nat):Int).toNat=en by omega];exact TX R s p d w hs hp hR hTab tt q en hq (by omega)
def EE (r:Nat):Bool:=(decide (65<=r)&&decide (r<=90))||((decide (97<=r)&&decide (r<=122))||((decide (48<=r)&&decide (r<=57))||(r==95||r==45)))
theorem Ld (c:UInt8):EE c.toNat=Ce c:=rfl
theorem M3 (r:Nat) (h:128<=r):EE r=false:=by
 unfold EE;rw[Bool.eq_false_iff];simp;omega
theorem Uu (c:UInt8) (h:128<=c.toNat):Ce c=false:=(Ld c).symm.trans (M3 _ h)
theorem Kt (r:Nat) (w:Y):
  Calls Tryz.prog 40 #[.int .i32 (r:Int)] w fun e w'=>e=.returned (.bool (EE r))/\w'=w:=by
 go_enter Tryz.func40,Tryz.ntmps40;go_wp2;all_goals (go_ret;refine⟨?_,rfl⟩)
 all_goals (refine congrArg (fun b=>Ending.returned (Value.bool b)) (?_:_=EE r);unfold EE;rw[Bool.eq_iff_iff];simp[*];try omega)
theorem IT (w:Y):PredGrows Tryz.prog 40 #[] EE w:=fun W x _ _=>by
 refine(Kt x W).mono ?_;rintro e w' ⟨rfl,hw⟩;subst w';exact⟨rfl,Bq _ _⟩
theorem V7 (s:ByteArray) (pos:Nat) (h:pos<s.size):(EE (Utf8.decode s pos).1=Ce (s[pos]'h))/\(Ce (s[pos]'h)=true->(Utf8.decode s pos).2=1):=by
 have hd:=G6 s pos h;rw[<- Lib.decodeL_drop,hd];rcases Nat.lt_or_ge (s[pos]'h).toNat 128 with h1 | h1
 ·rw[decodeL_ascii _ _ h1];exact⟨Ld _,fun _=>rfl⟩
 ·rw[Uu _ h1];exact⟨M3 _ (Em _ _ h1),fun h=>by cases h⟩
theorem Hq (s:ByteArray) (w:Y) (hs:s.size<=1000000):
  Calls Tryz.prog 17 #[Q s] w fun e w'=>e=.returned (.bool (Fa s.data.toList))/\Below w.heap.size w w':=by
 go_enter Tryz.func17,Tryz.ntmps17;go_wp2;go_loopw [2] (fun r wr=>r=.bool false/\∃ pos,pos<=s.size/\wr.heap[w.heap.size]? =F (.stringIter s pos)/\Below w.heap.size w wr/\Hid ((s.data.toList.take pos).all Ce=true)) (fun _ wr=>s.size - wr.iterPos w.heap.size)
 case atStart=>exact⟨rfl,0,by omega,World.iter_heap _ _ _,(Bq _ w).alloc Nr _,hid rfl⟩
 case round=>
  obtain⟨rfl,pos,hp,hit,hb,HV⟩:=hrel;by_cases hlt:pos<s.size
  ·have hnx:=fun ty=>run_next_any_at (P:=Tryz.prog) wr w.heap.size s pos ty hit hlt;have hbi:Below w.heap.size w (wr.iterAt w.heap.size s (pos+(Utf8.decode s pos).2)):=below_iterAt hb Nr _ _;have hit1:=iterAt_heap _ _ _ pos (pos+(Utf8.decode s pos).2) hit;have hw:=decode_le s pos hlt;obtain⟨c,hc⟩:∃ c,s[pos]'hlt=c:=⟨_,rfl⟩
   obtain⟨q1,q2⟩:=V7 s pos hlt;rw[hc] at q1 q2;have hS:=Kt (Utf8.decode s pos).1;rw[q1] at hS;have HS:=hid (Ws (p:=Ce) (l:=s.data.toList) (k:=pos) (by rw[<- Lib.size_eq];exact hlt));have HX:=hid (fun h=>S7 (p:=Ce) (l:=s.data.toList) (k:=pos) (by rw[<- Lib.size_eq];exact hlt) h);have HC:=hid ((Cq s pos hlt).trans hc);have hm1:=B4 hit;have hm2:=B4 hit1;have HM:=hid (Ai hm1 hm2);have HI1:=hid hit1;clear hm1 hm2 q1 hc hit1;cases hcb:Ce c with
   | true=>
    rw[hcb] at hS;have hk:=q2 hcb;have HV':=hid (show(s.data.toList.take (pos+1)).all Ce=true by rw[HS.out,HV.out,HC.out,hcb];rfl);have HK:=hid hk;clear hcb q2 hk;go_wp2_with fail;refine(hS _).mono ?_;rintro e w1 ⟨rfl,hw1⟩;subst w1;clear hS hit;go_wp2;go_roundw
    case rel=>exact⟨rfl,pos+1,by omega,by rw[<- HK.out];exact HI1.out,hbi,HV'⟩
    case measure=>rw[HM.out.1,HM.out.2];omega
   | false=>
    rw[hcb] at hS;have HF:=hid (show Fa s.data.toList=false by unfold Fa;rw[HX.out (by rw[HC.out,hcb])];rfl);clear hcb q2;go_wp2_with fail;refine(hS _).mono ?_;rintro e w1 ⟨rfl,hw1⟩;subst w1;clear hS hit;go_wp2;go_ret;exact⟨by rw[HF.out];rfl,hbi⟩
  ·have hnx:=fun ty=>run_next_end_at (P:=Tryz.prog) wr w.heap.size s pos ty hit hlt;have hall:=HV.out;rw[List.take_of_length_le (by rw[<- Lib.size_eq];omega)] at hall;clear hit HV;by_cases h0:0<s.size
   ·have he:=Ax h0;have HF:=hid (show Fa s.data.toList=decide ((s.size:Int)<=20) by
     unfold Fa;have hz:s.data.toList.isEmpty=false:=by rw[<- Lib.toList_data];exact he
     rw[hall,hz,<- Lib.size_eq,Bool.eq_iff_iff];simp;omega)
    clear hall;go_wp2;go_ret;exact⟨by rw[HF.out];rfl,by first | exact hb | exact(below_iterAt hb Nr _ _)⟩
   ·have he:=A9 h0;have HF:=hid (show Fa s.data.toList=false by
     have h00:s.data.toList=[]:=List.eq_nil_of_length_eq_zero (by rw[<- Lib.size_eq];omega);rw[h00];rfl)
    clear hall;go_wp2;go_ret;exact⟨by rw[HF.out];rfl,by first | exact hb | exact(below_iterAt hb Nr _ _)⟩
theorem Qm (s:ByteArray):∀ (f pos:Nat),s.size - pos<=f->pos<=s.size->idxFuncFrom EE false s f pos=if (s.data.toList.drop pos).all Ce then -1 else ((pos+((s.data.toList.drop pos).takeWhile Ce).length:Nat):Int)
 | 0,pos,hf,hp=>by
  rw[List.drop_eq_nil_of_le (by rw[<- Lib.size_eq];omega)];rfl
 | f+1,pos,hf,hp=>by
  unfold idxFuncFrom;by_cases hlt:pos<s.size
  ·rw[if_pos hlt,G6 s pos hlt];obtain⟨q1,q2⟩:=V7 s pos hlt;rw[q1];cases hc:Ce (s[pos]'hlt) with
   | true=>
    rw[if_neg (by decide),q2 hc,Qm s f (pos+1) (by omega) (by omega)];simp only[List.all_cons,hc,Bool.true_and,List.takeWhile_cons,if_true,List.length_cons]
    split
    ·rfl
    ·omega
   | false=>
    rw[if_pos rfl];simp[hc]
  ·rw[if_neg hlt,List.drop_eq_nil_of_le (by rw[<- Lib.size_eq];omega)];rfl
theorem Hj:∀ (l:List UInt8),l.all Ce=true->l.takeWhile Ce=l
 | [],_=>rfl
 | c::t,h=>by
  rw[List.all_cons,Bool.and_eq_true] at h;rw[List.takeWhile_cons,if_pos h.1,Hj t h.2]
theorem Nj (s:ByteArray):(trimLeftF EE s).size=s.size - (s.data.toList.takeWhile Ce).length:=by
 have h:=Qm s s.size 0 (by omega) (by omega);rw[List.drop_zero] at h;unfold trimLeftF idxFunc;rw[h];by_cases ha:s.data.toList.all Ce=true
 ·rw[if_pos ha,if_pos rfl];rw[Hj _ ha,<- Lib.size_eq];show 0=_;omega
 ·rw[if_neg ha,if_neg (by omega)];simp[ByteArray.size_extract]
end
section
set_option maxRecDepth 100000
set_option maxHeartbeats 1000000
def rowOf (s:List UInt8):List UInt8:=s.takeWhile (· !=10)
def Bz (s:List UInt8):List UInt8:=(s.dropWhile (· !=10)).drop 1
theorem EP {s:List UInt8} (h:s≠[]):(Bz s).length<s.length:=by
 unfold Bz;rw[List.length_drop];have h1:=(List.dropWhile_sublist (· !=10) (l:=s)).length_le;have h2:0<s.length:=List.length_pos_iff.2 h;omega
theorem QX (s:List UInt8):(rowOf s).length<=s.length:=(List.takeWhile_sublist _).length_le
theorem Aay:∀ s:List UInt8,(Lib.cut s [10]).1=rowOf s/\(Lib.cut s [10]).2.1=Bz s
 | []=>by refine⟨by kernel_rfl,by kernel_rfl⟩
 | b::l=>by
  obtain⟨h1,h2⟩:=Aay l;have hge:=Lib.index_ge l [10];unfold Lib.cut at h1 h2 |-;have hi:Lib.index (b::l) [10]=if ([10]:List UInt8).isPrefixOf (b::l) then 0 else if Lib.index l [10]== -1 then -1 else Lib.index l [10]+1:=by rw[Lib.index]
  have hp:([10]:List UInt8).isPrefixOf (b::l)=(b==10):=by
   simp[List.isPrefixOf];rw[Bool.eq_iff_iff];simp;exact eq_comm
  rw[hp] at hi;by_cases hb:b=10
  ·subst hb;rw[if_pos (by rfl)] at hi;rw[hi];simp[rowOf,Bz]
  ·have hb1:(b==10)=false:=by simpa using hb
   have hb2:(b !=10)=true:=by simpa using hb
   rw[hb1,if_neg (by simp)] at hi;have e1:rowOf (b::l)=b::rowOf l:=by unfold rowOf;rw[List.takeWhile_cons,if_pos hb2]
   have e2:Bz (b::l)=Bz l:=by unfold Bz;rw[List.dropWhile_cons,if_pos hb2]
   rw[e1,e2];by_cases h0:0<=Lib.index l [10]
   ·rw[if_pos h0] at h1 h2;have hne:(Lib.index l [10]== -1)=false:=by rw[beq_eq_false_iff_ne];omega
    rw[hne,if_neg (by simp)] at hi;rw[hi,if_pos (by omega)];obtain⟨i,hii⟩:∃ i:Nat,Lib.index l [10]=i:=⟨(Lib.index l [10]).toNat,by omega⟩
    rw[hii] at h1 h2 |-;simp only[Int.toNat_natCast,List.length_cons,List.length_nil] at h1 h2 |-;rw[show((i:Int)+1).toNat=i+1 by omega];refine⟨by rw[List.take_succ_cons,h1],?_⟩;rw[show i+1+(0+1)=(i+(0+1))+1 by omega,List.drop_succ_cons,h2]
   ·rw[if_neg h0] at h1 h2;have hne:(Lib.index l [10]== -1)=true:=by rw[beq_iff_eq];omega
    rw[hne,if_pos rfl] at hi;rw[hi,if_neg (by omega)];exact⟨by rw[<- h1],h2⟩
def Gv:Nat->List UInt8->List (List UInt8)
 | 0,_=>[]
 | f+1,s=>if s=[] then [] else rowOf s::Gv f (Bz s)
theorem La:∀ (f g:Nat) (s:List UInt8),s.length<=f->s.length<=g->Gv f s=Gv g s
 | 0,0,_,_,_=>rfl
 | 0,g+1,s,h,_=>by rw[List.eq_nil_of_length_eq_zero (by omega:s.length=0)];rfl
 | f+1,0,s,_,h=>by rw[List.eq_nil_of_length_eq_zero (by omega:s.length=0)];rfl
 | f+1,g+1,s,hf,hg=>by
  unfold Gv;split
  ·rfl
  ·rename_i h;have:=EP h;rw[La f g _ (by omega) (by omega)]
def Cc (s:List UInt8):List (List UInt8):=Gv s.length s
theorem GR:Cc []=[]:=rfl
theorem LR {s:List UInt8} (h:s≠[]):Cc s=rowOf s::Cc (Bz s):=by
 have hl:=EP h;obtain⟨n,hn⟩:∃ n,s.length=n+1:=⟨s.length - 1,by omega⟩
 unfold Cc;rw[hn]
 conv=>lhs;unfold Gv
 rw[if_neg h,La n (Bz s).length _ (by omega) Nr]
def Cj (m r:List UInt8):Bool:=Lib.hasPrefix r m&&((r.drop m.length).isEmpty||(r.drop m.length).getD 0 0==32)
def ER (r:List UInt8):Bool:=Cj [45,45,45] r||Cj [46,46,46] r
def BF (r:List UInt8):Bool:=(AJ r).all An
def AK (r:List UInt8):Int:=if BF r then (if ER r then 81 else 0) else 80
def Cx (r:List UInt8):List UInt8:=Lib.trimLeftB r 32
def FJ (r:List UInt8):Bool:= !(Cx r).isEmpty&&(Cx r).getD 0 0 !=35
theorem Oh (r:List UInt8):(Cx r).length<=r.length:=(List.dropWhile_sublist _).length_le
theorem Lc (s p:ByteArray) (w:Y) (hs:s.size<=1000000):
  Calls Tryz.prog 185 #[Q s,Q p] w fun e w'=>e=.returned (if Lib.hasPrefix s.data.toList p.data.toList then .tuple #[Q ⟨(s.data.toList.drop p.size).toArray⟩,.bool true] else .tuple #[Q s,.bool false])/\w'=w:=by
 have hH:=Tryz.stringslite_HasPrefix s p w;cases hp:Lib.hasPrefix s.data.toList p.data.toList with
 | false=>
  rw[hp] at hH;go_enter Tryz.func185,Tryz.ntmps185;go_wp2_with fail;refine hH.mono ?_;rintro e w1 ⟨rfl,hw⟩;subst w1;go_wp2;exact bodyPost_ret (v:=.tuple #[Q s,.bool false]) (by simp[results,Tryz.results185,go_sem]) rfl ⟨rfl,rfl⟩
 | true=>
  rw[hp] at hH;have hle:p.size<=s.size:=by
   have:=(List.isPrefixOf_iff_prefix.1 hp).length_le;rw[<- Lib.size_eq,<- Lib.size_eq] at this;exact this
  have hex:s.extract p.size s.size=⟨(s.data.toList.drop p.size).toArray⟩:=by
   rw[Lib.extract_eq,List.take_of_length_le (by rw[List.length_drop,<- Lib.size_eq];exact Nat.le_refl _)]
  have hlei:(p.size:Int)<=(s.size:Int):=by omega
  go_enter Tryz.func185,Tryz.ntmps185;go_wp2_with fail;refine hH.mono ?_;rintro e w1 ⟨rfl,hw⟩;subst w1;go_wp2;exact bodyPost_ret (v:=.tuple #[Q ⟨(s.data.toList.drop p.size).toArray⟩,.bool true]) (by simp[results,Tryz.results185,go_sem]) rfl ⟨rfl,rfl⟩
theorem GY (s p:ByteArray) (w:Y) (hs:s.size<=1000000):
  Calls Tryz.prog 146 #[Q s,Q p] w fun e w'=>e=.returned (if Lib.hasPrefix s.data.toList p.data.toList then .tuple #[Q ⟨(s.data.toList.drop p.size).toArray⟩,.bool true] else .tuple #[Q s,.bool false])/\w'=w:=by
 have hH:=Lc s p w hs;cases hp:Lib.hasPrefix s.data.toList p.data.toList with
 | false=>
  rw[hp,if_neg (by simp)] at hH;go_enter Tryz.func146,Tryz.ntmps146;go_wp2_with fail;refine hH.mono ?_;rintro e w1 ⟨rfl,hw⟩;subst w1;go_wp2;exact bodyPost_ret (v:=.tuple #[Q s,.bool false]) (by simp[results,Tryz.results146,go_sem]) rfl ⟨rfl,rfl⟩
 | true=>
  rw[hp,if_pos rfl] at hH;go_enter Tryz.func146,Tryz.ntmps146;go_wp2_with fail;refine hH.mono ?_;rintro e w1 ⟨rfl,hw⟩;subst w1;go_wp2;exact bodyPost_ret (v:=.tuple #[Q ⟨(s.data.toList.drop p.size).toArray⟩,.bool true]) (by simp[results,Tryz.results146,go_sem]) rfl ⟨rfl,rfl⟩
theorem Mw (s:ByteArray) (w:Y) (hs:s.size<=1000000):
  Calls Tryz.prog 105 #[.agg #[Q s]] w fun e w'=>e=.returned (.bool (BF s.data.toList))/\Below w.heap.size w w':=by
 obtain⟨N,hN⟩:∃ N,w.heap.size+1=N:=⟨_,rfl⟩
 go_enter Tryz.func105,Tryz.ntmps105;go_wp2;go_loopw [2] (fun r wr=>r=.bool false/\∃ pos,pos<=s.size/\wr.heap[N]? =F (.stringIter s pos)/\Below w.heap.size w wr/\Hid (BF s.data.toList=BF (s.data.toList.drop pos))) (fun _ wr=>s.size - wr.iterPos N)
 case atStart=>exact⟨rfl,0,by omega,by rw[<- hN,<- World.size_alloc w (.cells #[Q s] 138)];exact World.iter_heap _ _ _,((Bq _ w).alloc Nr _).alloc (by simp) _,hid rfl⟩
 case round=>
  obtain⟨rfl,pos,hp,hit,hb,HV⟩:=hrel;have hNw:w.heap.size<=N:=by omega
  by_cases hlt:pos<s.size
  ·have hnx:=fun ty=>run_next_any_at (P:=Tryz.prog) wr N s pos ty hit hlt;have hbi:Below w.heap.size w (wr.iterAt N s (pos+(Utf8.decode s pos).2)):=below_iterAt hb hNw _ _;have hit1:=iterAt_heap _ _ _ pos (pos+(Utf8.decode s pos).2) hit;have hw:=decode_le s pos hlt;have hst:BF (s.data.toList.drop pos)=(An (Utf8.decode s pos).1&&BF (s.data.toList.drop (pos+(Utf8.decode s pos).2))):=by
    unfold BF;rw[Bo _ (by rw[G6 s pos hlt];simp),List.all_cons,Lib.decodeL_drop,List.drop_drop]
   obtain⟨⟨r,k⟩,hrk⟩:∃ x,Utf8.decode s pos=x:=⟨_,rfl⟩
   rw[hrk] at hst hnx hbi hit1 hw;dsimp only at hst hnx hbi hit1 hw;have HST:=hid hst;have hm1:=B4 hit;have hm2:=B4 hit1;have HM:=hid (Ai hm1 (Ai hm2 hw));have HI1:=hid hit1;clear hm1 hm2 hst hit1 hrk;by_cases h1:r<32
   ·have h1i:(r:Int)<32:=by omega
    have HF:=hid (show BF s.data.toList=false by
     have:An r=false:=by unfold An BA;simp;omega
     rw[HV.out,HST.out,this];rfl)
    go_wp2;go_ret;exact⟨by rw[HF.out];rfl,hbi⟩
   ·have h1i:¬(r:Int)<32:=by omega
    by_cases h2:r=127
    ·have h2i:((r:Int)==127)=true:=by simp;omega
     have HF:=hid (show BF s.data.toList=false by
      have:An r=false:=by unfold An BA;simp;omega
      rw[HV.out,HST.out,this];rfl)
     clear h2;go_wp2;go_ret;exact⟨by rw[HF.out];rfl,hbi⟩
    ·have h2i:((r:Int)==127)=false:=by simp;omega
     have HV':=hid (show BF s.data.toList=BF (s.data.toList.drop (pos+k)) by
      have:An r=true:=by unfold An BA;simp;omega
      rw[HV.out,HST.out,this];rfl)
     clear h2 hit;go_wp2;go_roundw
     case rel=>exact⟨rfl,pos+k,HM.out.2.2.1,HI1.out,hbi,HV'⟩
     case measure=>rw[HM.out.1,HM.out.2.1];have:=HM.out.2.2.2;have:=HM.out.2.2.1;omega
  ·have hnx:=fun ty=>run_next_end_at (P:=Tryz.prog) wr N s pos ty hit hlt;have HF:=hid (show BF s.data.toList=true by rw[HV.out,List.drop_eq_nil_of_le (by rw[<- Lib.size_eq];omega)];rfl);clear hit HV;go_wp2;go_ret;exact⟨by rw[HF.out];rfl,by first | exact hb | exact(below_iterAt hb hNw _ _)⟩
theorem Ago (w:Y):(Instr.index 275 (.agg #[Q ⟨#[45,45,45]⟩,Q ⟨#[46,46,46]⟩]) (I J 0)).run Tryz.prog w=.ok (Q ⟨#[45,45,45]⟩) w:=by kernel_rfl
theorem Aia (w:Y):(Instr.index 275 (.agg #[Q ⟨#[45,45,45]⟩,Q ⟨#[46,46,46]⟩]) (I J 1)).run Tryz.prog w=.ok (Q ⟨#[46,46,46]⟩) w:=by kernel_rfl
theorem Zh {c k:UInt8} (h:¬c=k):((c.toNat:Int)==(k.toNat:Int))=false:=by
 rw[beq_eq_false_iff_ne];intro e;exact h (UInt8.toNat_inj.1 (by omega))
theorem SO (s:ByteArray) (w:Y) (hs:s.size<=1000000):
  Calls Tryz.prog 106 #[.agg #[Q s]] w fun e w'=>e=.returned (.bool (ER s.data.toList))/\Below w.heap.size w w':=by
 have b0:=Boxed.new w 138 (Q s);have c0:=b0.cell;have HB:=hid (show Below w.heap.size w (w.alloc (.cells #[Q s] 138)) from(Bq _ w).alloc Nr _);have h1:=fun wx=>GY s ⟨#[45,45,45]⟩ wx hs;have h2:=fun wx=>GY s ⟨#[46,46,46]⟩ wx hs;clear b0;have x0:=Ago;have x1:=Aia;go_enter Tryz.func106,Tryz.ntmps106;go_wp2;refine wp_loop_rounds 3 ?_;rw[rounds_succ];go_wp2_with fail;refine(h1 _).mono ?_;rintro e w1 ⟨he,hw⟩;subst w1;cases hp:Lib.hasPrefix s.data.toList [45,45,45] with
 | false=>
  rw[hp,if_neg (by simp)] at he;subst he;have HP1:=hid (show Cj [45,45,45] s.data.toList=false by unfold Cj;rw[hp];rfl);clear hp;go_wp2;rw[rounds_succ];go_wp2_with fail;refine(h2 _).mono ?_;rintro e w1 ⟨he,hw⟩;subst w1;cases hp:Lib.hasPrefix s.data.toList [46,46,46] with
  | false=>
   rw[hp,if_neg (by simp)] at he;subst he;have HP2:=hid (show Cj [46,46,46] s.data.toList=false by unfold Cj;rw[hp];rfl);clear hp;go_wp2;rw[rounds_succ];go_wp2;go_ret;exact⟨by unfold ER;rw[HP1.out,HP2.out];rfl,HB.out⟩
  | true=>
   obtain⟨R,hR⟩:∃ R:ByteArray,(⟨(s.data.toList.drop (⟨#[46,46,46]⟩:ByteArray).size).toArray⟩:ByteArray)=R:=⟨_,rfl⟩
   rw[hp,if_pos rfl,hR] at he;subst he;have HR:=hid (show Cj [46,46,46] s.data.toList=(R.data.toList.isEmpty||R.data.toList.getD 0 0==32) by unfold Cj;rw[hp,<- hR];rfl);clear hp hR;by_cases hz:0<R.size
   ·have he1:=Ax hz;have hg:=Cq R 0 hz;obtain⟨c,hc⟩:∃ c,R[0]=c:=⟨_,rfl⟩
    rw[hc] at hg;have hee:R.data.toList.isEmpty=false:=by rw[<- Lib.toList_data];exact he1
    by_cases h32:c=32
    ·have HP2:=hid (show Cj [46,46,46] s.data.toList=true by rw[HR.out,hg,h32];simp);have hci:((c.toNat:Int)==32)=true:=by rw[h32];rfl
     clear h32 hg hee HR;go_wp2;go_ret;exact⟨by unfold ER;rw[HP2.out];simp,HB.out⟩
    ·have HP2:=hid (show Cj [46,46,46] s.data.toList=false by rw[HR.out,hee,hg];simpa using h32);have hci:((c.toNat:Int)==32)=false:=Zh (k:=32) h32;clear h32 hg hee HR;go_wp2;rw[rounds_succ];go_wp2;go_ret;exact⟨by unfold ER;rw[HP1.out,HP2.out];rfl,HB.out⟩
   ·have he1:=A9 hz;have hee:R.data.toList.isEmpty=true:=by rw[<- Lib.toList_data];exact he1
    have HP2:=hid (show Cj [46,46,46] s.data.toList=true by rw[HR.out,hee];rfl);clear hee HR;go_wp2;go_ret;exact⟨by unfold ER;rw[HP2.out];simp,HB.out⟩
 | true=>
  obtain⟨R,hR⟩:∃ R:ByteArray,(⟨(s.data.toList.drop (⟨#[45,45,45]⟩:ByteArray).size).toArray⟩:ByteArray)=R:=⟨_,rfl⟩
  rw[hp,if_pos rfl,hR] at he;subst he;have HR:=hid (show Cj [45,45,45] s.data.toList=(R.data.toList.isEmpty||R.data.toList.getD 0 0==32) by unfold Cj;rw[hp,<- hR];rfl);clear hp hR;by_cases hz:0<R.size
  ·have he1:=Ax hz;have hg:=Cq R 0 hz;obtain⟨c,hc⟩:∃ c,R[0]=c:=⟨_,rfl⟩
   rw[hc] at hg;have hee:R.data.toList.isEmpty=false:=by rw[<- Lib.toList_data];exact he1
   by_cases h32:c=32
   ·have HP1:=hid (show Cj [45,45,45] s.data.toList=true by rw[HR.out,hg,h32];simp);have hci:((c.toNat:Int)==32)=true:=by rw[h32];rfl
    clear h32 hg hee HR;go_wp2;go_ret;exact⟨by unfold ER;rw[HP1.out];rfl,HB.out⟩
   ·have HP1:=hid (show Cj [45,45,45] s.data.toList=false by rw[HR.out,hee,hg];simpa using h32);have hci:((c.toNat:Int)==32)=false:=Zh (k:=32) h32;clear h32 hg hee HR;go_wp2;rw[rounds_succ];go_wp2_with fail;refine(h2 _).mono ?_;rintro e w1 ⟨he,hw⟩;subst w1;cases hp:Lib.hasPrefix s.data.toList [46,46,46] with
    | false=>
     rw[hp,if_neg (by simp)] at he;subst he;have HP2:=hid (show Cj [46,46,46] s.data.toList=false by unfold Cj;rw[hp];rfl);clear hp;go_wp2;rw[rounds_succ];go_wp2;go_ret;exact⟨by unfold ER;rw[HP1.out,HP2.out];rfl,HB.out⟩
    | true=>
     obtain⟨R,hR⟩:∃ R:ByteArray,(⟨(s.data.toList.drop (⟨#[46,46,46]⟩:ByteArray).size).toArray⟩:ByteArray)=R:=⟨_,rfl⟩
     rw[hp,if_pos rfl,hR] at he;subst he;have HR:=hid (show Cj [46,46,46] s.data.toList=(R.data.toList.isEmpty||R.data.toList.getD 0 0==32) by unfold Cj;rw[hp,<- hR];rfl);clear hp hR;by_cases hz:0<R.size
     ·have he1:=Ax hz;have hg:=Cq R 0 hz;obtain⟨c,hc⟩:∃ c,R[0]=c:=⟨_,rfl⟩
      rw[hc] at hg;have hee:R.data.toList.isEmpty=false:=by rw[<- Lib.toList_data];exact he1
      by_cases h32:c=32
      ·have HP2:=hid (show Cj [46,46,46] s.data.toList=true by rw[HR.out,hg,h32];simp);have hci:((c.toNat:Int)==32)=true:=by rw[h32];rfl
       clear h32 hg hee HR;go_wp2;go_ret;exact⟨by unfold ER;rw[HP2.out];simp,HB.out⟩
      ·have HP2:=hid (show Cj [46,46,46] s.data.toList=false by rw[HR.out,hee,hg];simpa using h32);have hci:((c.toNat:Int)==32)=false:=Zh (k:=32) h32;clear h32 hg hee HR;go_wp2;rw[rounds_succ];go_wp2;go_ret;exact⟨by unfold ER;rw[HP1.out,HP2.out];rfl,HB.out⟩
     ·have he1:=A9 hz;have hee:R.data.toList.isEmpty=true:=by rw[<- Lib.toList_data];exact he1
      have HP2:=hid (show Cj [46,46,46] s.data.toList=true by rw[HR.out,hee];rfl);clear hee HR;go_wp2;go_ret;exact⟨by unfold ER;rw[HP2.out];simp,HB.out⟩
  ·have he1:=A9 hz;have hee:R.data.toList.isEmpty=true:=by rw[<- Lib.toList_data];exact he1
   have HP1:=hid (show Cj [45,45,45] s.data.toList=true by rw[HR.out,hee];rfl);clear hee HR;go_wp2;go_ret;exact⟨by unfold ER;rw[HP1.out];rfl,HB.out⟩
def trV:Int->Value:=fun e=>if e=80 then .iface 211 (.agg #[]) else if e=81 then .iface 212 (.agg #[]) else .nilIface
theorem Q8 (s:ByteArray) (w:Y) (hs:s.size<=1000000):
  Calls Tryz.prog 69 #[.agg #[Q s]] w fun e w'=>e=.returned (trV (AK s.data.toList))/\Below w.heap.size w w':=by
 have b0:=Boxed.new w 138 (Q s);have hP:=fun wx=>Mw s wx hs;have hM:=fun wx=>SO s wx hs;have HB:=hid (show Below w.heap.size w (w.alloc (.cells #[Q s] 138)) from(Bq _ w).alloc Nr _);have c0:=b0.cell;cases hp:BF s.data.toList with
 | false=>
  rw[hp] at hP;have HT:=hid (show AK s.data.toList=80 by unfold AK;rw[hp];rfl);clear hp hM b0;go_enter Tryz.func69,Tryz.ntmps69;go_wp2_with fail;refine(hP _).mono ?_;rintro e w1 ⟨rfl,hb1⟩;have HB1:=hid (HB.out.trans (hb1.mono HB.out.size));clear hP hb1 c0;go_wp2;go_ret;exact⟨by rw[HT.out];rfl,HB1.out⟩
 | true=>
  rw[hp] at hP;cases hm:ER s.data.toList with
  | true=>
   rw[hm] at hM;have HT:=hid (show AK s.data.toList=81 by unfold AK;rw[hp,hm];rfl);clear hp hm;go_enter Tryz.func69,Tryz.ntmps69;go_wp2_with fail;refine(hP _).mono ?_;rintro e w1 ⟨rfl,hb1⟩;have HB1:=hid (HB.out.trans (hb1.mono HB.out.size));have c1:=(Ab b0 hb1).cell;clear hP hb1 c0 b0;go_wp2_with fail;refine(hM _).mono ?_;rintro e w2 ⟨rfl,hb2⟩;have HB2:=hid (HB1.out.trans (hb2.mono HB1.out.size));clear hM hb2 c1;go_wp2;go_ret;exact⟨by rw[HT.out];rfl,HB2.out⟩
  | false=>
   rw[hm] at hM;have HT:=hid (show AK s.data.toList=0 by unfold AK;rw[hp,hm];rfl);clear hp hm;go_enter Tryz.func69,Tryz.ntmps69;go_wp2_with fail;refine(hP _).mono ?_;rintro e w1 ⟨rfl,hb1⟩;have HB1:=hid (HB.out.trans (hb1.mono HB.out.size));have c1:=(Ab b0 hb1).cell;clear hP hb1 c0 b0;go_wp2_with fail;refine(hM _).mono ?_;rintro e w2 ⟨rfl,hb2⟩;have HB2:=hid (HB1.out.trans (hb2.mono HB1.out.size));clear hM hb2 c1;go_wp2;go_ret;exact⟨by rw[HT.out];rfl,HB2.out⟩
end
section
theorem Ah.setRow {C:Nat->Prop} {B:Nat} (X:Y) (g:Nat) (cs:Array Value) (hC:C g):Ah C B X (X.setRow g cs):=
 ⟨rfl,rfl,rfl,by simp,fun k o hk hc _=>(setRow_other X g k cs (fun e=>hc (e▸hC))).trans hk,fun k c e fz hk=>by
  by_cases hkg:k=g
  ·subst hkg;exact⟨cs,fz,setRow_heap X k c cs e fz hk⟩
  ·exact⟨c,fz,(setRow_other X g k cs hkg).trans hk⟩⟩
theorem EW {B g:Nat} {w0 w:Y} (hb:Below B w0 w) (hBg:B<=g) (cs:Array Value):Below B w0 (w.setRow g cs):=
 ⟨hb.os,hb.tape,hb.output,by rw[size_setRow];exact hb.size,fun k hk=>(setRow_other w g k cs (by omega)).trans (hb.block k hk)⟩
theorem Id {ops:Array Oper} {o:Oper} {a:Act} {K:Act->Y->Prop} {Qz:Exit->Act->Y->Prop} {E:Prop} {w:Y} (hgd:o.guard=O) (ty:TypeId) (x y:Operand) (ho:o.op=.store ty x y)
  (g:Nat) (cells:Array Value) (hx:a.eval x=.pointer (F ⟨g,0,O⟩)) (hy:a.eval y=.agg cells)
  (t:TypeId) (old:Array Value) (hg:w.heap[g]? =F (.cells old t (0,0))) (hi:(Tryz.prog.info? ty).map (·.size)=F cells.size)
  (hold:old.size=cells.size) (h1:cells.all (·.oneCell')=true)
  (h:K (a.put o.dst undef) (w.setRow g cells)):if Region.wanted o (yielded ops a.tmps)=true then Oper.wp Tryz.prog o a w K Qz else E:=by
 have hw:Region.wanted o (yielded ops a.tmps)=true:=by simp[Region.wanted,hgd]
 rw[if_pos hw];exact wp_store_row ty x y ho g cells hx hy t old hg hi hold h1 h
theorem Ak3 {w:Y} {b:Nat} {t:TypeId} {v0 v1:Value} (h:w.heap[b]? =F (.cells #[v0,v1] t)):
  w.cell? ⟨b,0,O⟩=F v0/\w.cell? ⟨b,1,O⟩=F v1/\w.frozen? ⟨b,0,O⟩=false/\w.frozen? ⟨b,1,O⟩=false:=by
 refine⟨?_,?_,?_,?_⟩<;>simp[World.cell?,World.frozen?,h]
end
section
set_option maxRecDepth 100000
set_option maxHeartbeats 4000000
theorem Aaf (s:ByteArray):(⟨(Lib.trimLeftB s.data.toList 32).toArray⟩:ByteArray).size<=s.size:=by
 rw[size_mk,Lib.size_eq];exact Oh _
theorem Z2 (s:ByteArray) (no:Int) (w:Y) (hs:s.size<=1000000):
  Calls Tryz.prog 70 #[.agg #[Q s,I J no]] w fun e w'=>
   e=.returned (.tuple #[.agg #[I J no,I J ((s.size:Int) - (Cx s.data.toList).length),Q ⟨(Gd (Cx s.data.toList)).toArray⟩],.bool (FJ s.data.toList)])/\Below w.heap.size w w':=by
 have hX:=Wn w (.cells #[Q s,I J no] 147);have hbA:Below w.heap.size w (w.alloc (.cells #[Q s,I J no] 147)):=(Bq _ w).alloc Nr _;have hbB:=(Bq _ (w.alloc (.cells #[Q s,I J no] 147))).alloc Nr (.cells #[I J 0,I J 0,Q ⟨#[]⟩] 144);have hY:=Wn (w.alloc (.cells #[Q s,I J no] 147)) (.cells #[I J 0,I J 0,Q ⟨#[]⟩] 144);rw[World.size_alloc] at hY;have hTL:=fun wx=>Tryz.strings_TrimLeft_one s 32 (by decide) wx;obtain⟨L,hL⟩:∃ L:ByteArray,(⟨(Lib.trimLeftB s.data.toList 32).toArray⟩:ByteArray)=L:=⟨_,rfl⟩
 have hLs:L.size<=s.size:=by rw[<- hL];exact Aaf s
 have HLd:=hid (show L.data.toList=Cx s.data.toList by rw[<- hL];rfl);rw[hL] at hTL;have hTR:=fun wx=>Tryz.strings_TrimRight_one L 32 (by decide) wx (by omega);obtain⟨T,hT⟩:∃ T:ByteArray,(⟨(Lib.trimRightB L.data.toList 32).toArray⟩:ByteArray)=T:=⟨_,rfl⟩
 have HTd:=hid (show(⟨(Gd (Cx s.data.toList)).toArray⟩:ByteArray)=T by rw[<- hT,HLd.out];rfl);rw[hT] at hTR;have hX1:=Ay hX hbB;obtain⟨W1,hW1⟩:∃ z,(w.alloc (.cells #[Q s,I J no] 147)).alloc (.cells #[I J 0,I J 0,Q ⟨#[]⟩] 144)=z:=⟨_,rfl⟩
 have hB1:Below w.heap.size w W1:=by rw[<- hW1];exact hbA.trans (hbB.mono (by simp))
 rw[hW1] at hX1 hY;obtain⟨n,hn⟩:∃ n,s.size=n:=⟨_,rfl⟩
 obtain⟨m,hm⟩:∃ m,L.size=m:=⟨_,rfl⟩
 have HN:=hid (Ai hn (Ai hm (show(Cx s.data.toList).length=m by rw[<- HLd.out,<- Lib.size_eq,hm])));have hmn:m<=n:=by omega
 have hn6:n<=1000000:=by omega
 have hXY:=hid (Ai hX1 (Ai hY hB1));have hsub:IntKind.i64.wrap ((n:Int) - (m:Int))=(n:Int) - (m:Int):=by go_arith
 have hsz1:W1.heap.size=w.heap.size+1+1:=by rw[<- hW1];simp
 clear hX hbA hbB hL hT hB1 hX1 hY hLs hs;obtain⟨x0,x1,_,_⟩:=Ak3 hXY.out.1;have HS1:=hid hsz1;clear hsz1;go_enter Tryz.func70,Tryz.ntmps70;go_wp2_with fail;refine(hTL _).mono ?_;rintro e w1 ⟨rfl,hw1⟩;subst w1;have HSS:=hid (fun(X:Y) (hT:Below W1.heap.size W1 X)=>Ai (cell_below x0 hT) (cell_below x1 hT));have hd4:Below W1.heap.size W1 W1.drew:=(Bq _ _).drew;go_wp2;refine wp_region_noPanic ?_;refine wp_region_held_drew (S:=(fun w'=>w'.cell? ⟨w.heap.size,0,O⟩=F (Q s)/\w'.cell? ⟨w.heap.size,1,O⟩=F (I J no))) (by kernel_rfl) (HSS.out _ hd4) (fun hHeld=>?_);refine wI 0 hHeld ?_;try simp only[gS]
 refine wI 1 hHeld ?_;try simp only[gS]
 refine wI 2 hHeld ?_;try simp only[gS]
 refine wI 3 hHeld ?_;try simp only[gS]
 refine wI 4 hHeld ?_;try simp only[gS]
 refine wI 5 hHeld ?_;try simp only[gS]
 refine wI 6 hHeld ?_;try simp only[gS]
 refine wI 7 hHeld ?_;try simp only[gS]
 refine wI 8 hHeld ?_;try simp only[gS]
 refine wI 9 hHeld ?_;try simp only[gS]
 have hNN:(W1.alloc (.cells #[I J 0,I J 0,Q ⟨#[]⟩] 144)).drew.heap[W1.heap.size]? =F (.cells #[I J 0,I J 0,Q ⟨#[]⟩] 144):=Wn W1 _;refine wpAnyH_ready (rs:=[10,12]) (by kernel_rfl) (by simp) ?_;refine AllReadyH.cons rfl (fun K hK=>?goA) (AllReadyH.cons rfl (fun K hK=>?goB) AllReadyH.nil)
 case' goA=>
  go_simp;refine(hTR _).mono ?_;rintro e w5 ⟨rfl,hw5⟩;subst w5;refine hK.out _ _ (HSS.out _ hd4) (fun hHeld2=>?_);clear hK K hHeld;have hHeld:=hHeld2;clear hHeld2;try simp only[gS]
  refine wI 11 hHeld ?_;try simp only[gS]
  refine wB 12 rfl (fun K hK=>?_);go_simp;refine hK.out _ _ (HSS.out _ (((Bq _ W1).alloc Nr _).drew)) (fun hHeld2=>?_);clear hK K hHeld;have hHeld:=hHeld2;clear hHeld2;try simp only[gS]
  refine wB 13 rfl (fun K hK=>?_);refine Id (by rfl) _ _ _ (by rfl) W1.heap.size #[I J no,I J ((n:Int) - (m:Int)),Q T] (by rfl) (by rfl) _ _ hNN (by kernel_rfl) (by rfl) (by simp[Value.oneCell']) ?_;refine hK.out _ _ (HSS.out _ (EW (((Bq _ W1).alloc Nr _).drew) Nr _)) (fun hHeld2=>?_);clear hK K hHeld;have hHeld:=hHeld2;clear hHeld2;try simp only[gS]
  refine wpAnyH_done (by kernel_rfl) ?_ _;refine NoPanic.normal ?_
 case' goB=>
  go_simp;refine hK.out _ _ (HSS.out _ (((Bq _ W1).alloc Nr _).drew)) (fun hHeld2=>?_);clear hK K hHeld;have hHeld:=hHeld2;clear hHeld2;try simp only[gS]
  refine wB 10 rfl (fun K hK=>?_);go_simp;refine(hTR _).mono ?_;rintro e w5 ⟨rfl,hw5⟩;subst w5;refine hK.out _ _ (HSS.out _ (((Bq _ W1).alloc Nr _).drew)) (fun hHeld2=>?_);clear hK K hHeld;have hHeld:=hHeld2;clear hHeld2;try simp only[gS]
  refine wI 11 hHeld ?_;try simp only[gS]
  refine wB 13 rfl (fun K hK=>?_);refine Id (by rfl) _ _ _ (by rfl) W1.heap.size #[I J no,I J ((n:Int) - (m:Int)),Q T] (by rfl) (by rfl) _ _ hNN (by kernel_rfl) (by rfl) (by simp[Value.oneCell']) ?_;refine hK.out _ _ (HSS.out _ (EW (((Bq _ W1).alloc Nr _).drew) Nr _)) (fun hHeld2=>?_);clear hK K hHeld;have hHeld:=hHeld2;clear hHeld2;try simp only[gS]
  refine wpAnyH_done (by kernel_rfl) ?_ _;refine NoPanic.normal ?_
 all_goals
  have hbW:Below W1.heap.size W1 ((W1.alloc (.cells #[I J 0,I J 0,Q ⟨#[]⟩] 144)).drew.setRow W1.heap.size #[I J no,I J ((n:Int) - (m:Int)),Q T]):=EW (((Bq _ W1).alloc Nr _).drew) Nr _;have hL6:=setRow_heap _ _ _ #[I J no,I J ((n:Int) - (m:Int)),Q T] _ _ hNN;have hR6:=Ay hXY.out.2.1 hbW;have hB6:=hXY.out.2.2.trans (hbW.mono hXY.out.2.2.size);obtain⟨w6,hw6⟩:∃ z,(W1.alloc (.cells #[I J 0,I J 0,Q ⟨#[]⟩] 144)).drew.setRow W1.heap.size #[I J no,I J ((n:Int) - (m:Int)),Q T]=z:=⟨_,rfl⟩
  rw[hw6] at hL6 hR6 hB6 |-;have HB6:=hid hB6;have HR6:=hid hR6;obtain⟨y0,y1,y2,_⟩:=DU hL6;have hNl:w.heap.size+1≠W1.heap.size:=by have:=HS1.out;omega
  clear hHeld hTR hNN hbW hw6 hW1 hL6 hR6 hB6 x0 x1 hd4 HSS hXY hTL;have hN3:=hid (fun(X:Y) (hT:Ah (fun k=>k=w.heap.size+1) w.heap.size w6 X)=>Ai (Ah.cell hT y0 (Ne.symm hNl)) (Ai (Ah.cell hT y1 (Ne.symm hNl)) (Ah.cell hT y2 (Ne.symm hNl))));have hd6:Ah (fun k=>k=w.heap.size+1) w.heap.size w6 w6.drew:=Ah.of_below (Bq _ _).drew;have hR6d:w6.drew.heap[w.heap.size+1]? =F (.cells #[I J 0,I J 0,Q ⟨#[]⟩] 144):=HR6.out;by_cases hz:0<m
  ·have hz1:0<L.size:=by omega
   have he1:=Ax hz1;have hg:=Cq L 0 hz1;obtain⟨c,hc⟩:∃ c,L[0]=c:=⟨_,rfl⟩
   rw[hc] at hg;have hee:L.data.toList.isEmpty=false:=by rw[<- Lib.toList_data];exact he1
   have HF:=hid (show FJ s.data.toList=(c !=35) by unfold FJ;rw[<- HLd.out,hee,hg];rfl);clear hg hee;obtain⟨bq,hbq⟩:∃ z,((c.toNat:Int) !=35)=z:=⟨_,rfl⟩
   have HQ:=hid (show bq=(c !=35) by rw[<- hbq,Bool.eq_iff_iff];simp only[bne_iff_ne,ne_eq];exact not_congr ⟨fun e=>UInt8.toNat_inj.1 (by show c.toNat=35;omega),fun e=>by rw[e];rfl⟩);go_wp2;refine wp_region_noPanic ?_;refine wp_region_held_drew (S:=(fun w'=>w'.cell? ⟨W1.heap.size,0,O⟩=F (I J no)/\w'.cell? ⟨W1.heap.size,1,O⟩=F (I J ((n:Int) - (m:Int)))/\w'.cell? ⟨W1.heap.size,2,O⟩=F (Q T))) (by kernel_rfl) (hN3.out _ hd6) (fun hHeld=>?_);refine wI 0 hHeld ?_;try simp only[gS]
   refine wI 1 hHeld ?_;try simp only[gS]
   refine wI 2 hHeld ?_;try simp only[gS]
   refine wI 3 hHeld ?_;try simp only[gS]
   refine wI 4 hHeld ?_;try simp only[gS]
   refine wI 5 hHeld ?_;try simp only[gS]
   refine wI 6 hHeld ?_;try simp only[gS]
   refine wI 7 hHeld ?_;try simp only[gS]
   refine wB 8 rfl (fun K hK=>?_);refine Id (by rfl) _ _ _ (by rfl) (w.heap.size+1) #[I J no,I J ((n:Int) - (m:Int)),Q T] (by rfl) (by rfl) _ _ hR6d (by kernel_rfl) (by rfl) (by simp[Value.oneCell']) ?_;refine hK.out _ _ (hN3.out _ (hd6.trans (Ah.setRow _ _ _ rfl))) (fun hHeld2=>?_);clear hK K hHeld;have hHeld:=hHeld2;clear hHeld2;try simp only[gS]
   refine wI 9 hHeld ?_;try simp only[gS]
   refine wpAnyH_done (by kernel_rfl) ?_ _;refine NoPanic.normal ?_;have hZ:=setRow_heap _ _ _ #[I J no,I J ((n:Int) - (m:Int)),Q T] _ _ hR6d;obtain⟨q0,q1,q2,_⟩:=DU hZ;try go_wp2
   refine bodyPost_ret (v:=.tuple #[.agg #[I J no,I J ((n:Int) - (m:Int)),Q T],.bool bq]) (by simp[results,Tryz.results70,go_sem,q0,q1,q2]) rfl ?_;refine⟨by rw[HQ.out,HF.out,HN.out.1,HN.out.2.2,HTd.out],?_⟩;exact EW ((HB6.out).drew) (by omega) _
  ·have hz1:¬0<L.size:=by omega
   have he1:=A9 hz1;have hee:L.data.toList.isEmpty=true:=by rw[<- Lib.toList_data];exact he1
   have HF:=hid (show FJ s.data.toList=false by unfold FJ;rw[<- HLd.out,hee];rfl);clear hee;go_wp2;refine wp_region_noPanic ?_;refine wp_region_held_drew (S:=(fun w'=>w'.cell? ⟨W1.heap.size,0,O⟩=F (I J no)/\w'.cell? ⟨W1.heap.size,1,O⟩=F (I J ((n:Int) - (m:Int)))/\w'.cell? ⟨W1.heap.size,2,O⟩=F (Q T))) (by kernel_rfl) (hN3.out _ hd6) (fun hHeld=>?_);refine wI 0 hHeld ?_;try simp only[gS]
   refine wI 1 hHeld ?_;try simp only[gS]
   refine wI 2 hHeld ?_;try simp only[gS]
   refine wI 3 hHeld ?_;try simp only[gS]
   refine wU 4 rfl (by rfl) hHeld ?_;try simp only[gS]
   refine wU 5 rfl (by rfl) hHeld ?_;try simp only[gS]
   refine wU 6 rfl (by rfl) hHeld ?_;try simp only[gS]
   refine wI 7 hHeld ?_;try simp only[gS]
   refine wB 8 rfl (fun K hK=>?_);refine Id (by rfl) _ _ _ (by rfl) (w.heap.size+1) #[I J no,I J ((n:Int) - (m:Int)),Q T] (by rfl) (by rfl) _ _ hR6d (by kernel_rfl) (by rfl) (by simp[Value.oneCell']) ?_;refine hK.out _ _ (hN3.out _ (hd6.trans (Ah.setRow _ _ _ rfl))) (fun hHeld2=>?_);clear hK K hHeld;have hHeld:=hHeld2;clear hHeld2;try simp only[gS]
   refine wI 9 hHeld ?_;try simp only[gS]
   refine wpAnyH_done (by kernel_rfl) ?_ _;refine NoPanic.normal ?_;have hZ:=setRow_heap _ _ _ #[I J no,I J ((n:Int) - (m:Int)),Q T] _ _ hR6d;obtain⟨q0,q1,q2,_⟩:=DU hZ;try go_wp2
   refine bodyPost_ret (v:=.tuple #[.agg #[I J no,I J ((n:Int) - (m:Int)),Q T],.bool false]) (by simp[results,Tryz.results70,go_sem,q0,q1,q2]) rfl ?_;refine⟨by rw[HF.out,HN.out.1,HN.out.2.2,HTd.out],?_⟩;exact EW ((HB6.out).drew) (by omega) _
end
end Go.Proofs.YtdpppepmkeinaaaGreatDoor
