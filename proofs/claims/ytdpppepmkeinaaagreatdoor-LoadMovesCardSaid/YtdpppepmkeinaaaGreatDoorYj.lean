/- What is proved: a part of the walk of the program and of its plain laws; no condition beside those that each theorem names. -/
import Derived.Test.YtdpppepmkeinaaaGreatDoorYa
import Derived.Test.YtdpppepmkeinaaaGreatDoorYi
namespace Go.Proofs.YtdpppepmkeinaaaGreatDoor
open Go Go.RowKit Go.Lib
open Go.Value renaming int->I,string->Q,slice->Z
open Go.IntKind renaming i64->J
open Option renaming none->O,some->F
open _root_.Go renaming World->Y
set_option linter.unusedSimpArgs false
set_option linter.unusedVariables false
set_option linter.unusedSectionVars false
section
set_option maxRecDepth 100000
set_option maxHeartbeats 4000000
theorem Aa6 (R:Nat) (s:ByteArray) (p d:Nat) (w:Y) (hs:s.size<=1000000) (hlt:p<s.size) (hR:RA w R s p d) (hn:BA s.data.toList p=false) (hi:Cg s.data.toList p [58]=true) (hc:AC s.data.toList (p+1) d=false) (hd:¬0<d):
  Calls Tryz.prog 256 #[.pointer (F ⟨R,0,O⟩)] w fun e w'=>e=.returned (.bool false)/\Below w.heap.size w w':=by
 have hN:=fun wx hx=>DV R s p d wx hs (by omega) hx;have hC:=fun wx hx=>BQ R s p d 1 (p+1) wx hs rfl (by omega) hx;have hI:=fun wx hx=>FM R s p d 0 p [58] 1 1 wx hs (by omega) (by omega) rfl (by omega) hx;have hF:=fun wx hx=>FD R s p d 0 p Cc 5 5 (5,6) wx hs (by omega) (by omega) rfl (by omega) hx;have hcv:=fun(w:Y) (C:Array Value) (n c:Nat)=>Lib.run_convert_bytes_const (P:=Tryz.prog) w 71 5 C n c Tryz.underlying71 Tryz.underlying5;have hd1:decide ((s.size:Int)<=(p:Int))=false:=by simp;omega
 have hd2:decide (s.size<=p)=false:=by simp;omega
 rw[hn] at hN;rw[hi] at hI;rw[hc] at hC;have hdd:decide ((0:Int)<(d:Int))=false:=by simp;omega
 have hdd2:decide (0<d)=false:=by simp;omega
 clear hd;clear hn hi hc;have hH:=Ah.refl hR;obtain⟨FF,hFF⟩:∃ FF,Cg s.data.toList p Cc=FF:=⟨_,rfl⟩
 rw[hFF] at hF;clear hFF hlt;go_enter Tryz.func256,Tryz.ntmps256;go_wp2;refine wp_region_noPanic ?_;refine wR 45 (S:=(fun w'=>w'.cell? ⟨R,0,O⟩=F (Q s)/\w'.cell? ⟨R,1,O⟩=F (I J p)/\w'.cell? ⟨R,2,O⟩=F (I J d))) rfl ?_ (fun hHeld=>?_)
 ·(try dsimp only);first | exact Ah.all hH | exact Ah.all (Ah.alloc hH _)
 simp only[gR]
 iterate 16 (refine wN hHeld ?_;try simp only[gS])
 refine wB 16 rfl (fun K hK=>?_);go_simp;refine(hN _ hH.ra).mono ?_;rintro e wz ⟨rfl,hb⟩;replace hH:=Ah.step hH hb;try go_wp2_with fail
 refine hK.out _ _ ?_ (fun hHeld2=>?_)
 ·(try dsimp only);first | exact Ah.all hH | exact Ah.all (Ah.alloc hH _)
 clear hK K hHeld;have hHeld:=hHeld2;clear hHeld2;try simp only[gS]
 iterate 5 (refine wN hHeld ?_;try simp only[gS])
 refine wB 22 rfl (fun K hK=>?_);go_simp;refine hK.out _ _ ?_ (fun hHeld2=>?_)
 ·(try dsimp only);first | exact Ah.all hH | exact Ah.all (Ah.alloc hH _)
 clear hK K hHeld;have hHeld:=hHeld2;clear hHeld2;try simp only[gS]
 refine wB 23 rfl (fun K hK=>?_);go_simp;refine(hI _ hH.ra).mono ?_;rintro e wz ⟨rfl,hb⟩;replace hH:=Ah.step hH hb;try go_wp2_with fail
 refine hK.out _ _ ?_ (fun hHeld2=>?_)
 ·(try dsimp only);first | exact Ah.all hH | exact Ah.all (Ah.alloc hH _)
 clear hK K hHeld;have hHeld:=hHeld2;clear hHeld2;try simp only[gS]
 iterate 2 (refine wN hHeld ?_;try simp only[gS])
 refine wB 26 rfl (fun K hK=>?_);go_simp;refine(hC _ hH.ra).mono ?_;rintro e wz ⟨rfl,hb⟩;replace hH:=Ah.step hH hb;try go_wp2_with fail
 refine hK.out _ _ ?_ (fun hHeld2=>?_)
 ·(try dsimp only);first | exact Ah.all hH | exact Ah.all (Ah.alloc hH _)
 clear hK K hHeld;have hHeld:=hHeld2;clear hHeld2;try simp only[gS]
 iterate 9 (refine wN hHeld ?_;try simp only[gS])
 refine wU 36 rfl (by rfl) hHeld ?_;try simp only[gS]
 refine wU 37 rfl (by rfl) hHeld ?_;try simp only[gS]
 refine wU 38 rfl (by rfl) hHeld ?_;try simp only[gS]
 refine wU 39 rfl (by rfl) hHeld ?_;try simp only[gS]
 refine wU 40 rfl (by rfl) hHeld ?_;try simp only[gS]
 refine wU 41 rfl (by rfl) hHeld ?_;try simp only[gS]
 iterate 3 (refine wN hHeld ?_;try simp only[gS])
 refine wpAnyH_done (by kernel_rfl) ?_ _;refine NoPanic.normal ?_;go_wp2;go_ret;exact⟨rfl,hH.1⟩
theorem Acu (R:Nat) (s:ByteArray) (p d:Nat) (w:Y) (hs:s.size<=1000000) (hlt:p<s.size) (hR:RA w R s p d) (hn:BA s.data.toList p=false) (hi:Cg s.data.toList p [58]=false) (hd:0<d):
  Calls Tryz.prog 256 #[.pointer (F ⟨R,0,O⟩)] w fun e w'=>e=.returned (.bool (Cg s.data.toList p Cc))/\Below w.heap.size w w':=by
 have hN:=fun wx hx=>DV R s p d wx hs (by omega) hx;have hC:=fun wx hx=>BQ R s p d 1 (p+1) wx hs rfl (by omega) hx;have hI:=fun wx hx=>FM R s p d 0 p [58] 1 1 wx hs (by omega) (by omega) rfl (by omega) hx;have hF:=fun wx hx=>FD R s p d 0 p Cc 5 5 (5,6) wx hs (by omega) (by omega) rfl (by omega) hx;have hcv:=fun(w:Y) (C:Array Value) (n c:Nat)=>Lib.run_convert_bytes_const (P:=Tryz.prog) w 71 5 C n c Tryz.underlying71 Tryz.underlying5;have hd1:decide ((s.size:Int)<=(p:Int))=false:=by simp;omega
 have hd2:decide (s.size<=p)=false:=by simp;omega
 rw[hn] at hN;rw[hi] at hI;have hdd:decide ((0:Int)<(d:Int))=true:=by simpa using hd
 have hdd2:decide (0<d)=true:=by simpa using hd
 clear hd;clear hn hi;have hH:=Ah.refl hR;obtain⟨FF,hFF⟩:∃ FF,Cg s.data.toList p Cc=FF:=⟨_,rfl⟩
 rw[hFF] at hF |-;clear hFF hlt;go_enter Tryz.func256,Tryz.ntmps256;go_wp2;refine wp_region_noPanic ?_;refine wR 45 (S:=(fun w'=>w'.cell? ⟨R,0,O⟩=F (Q s)/\w'.cell? ⟨R,1,O⟩=F (I J p)/\w'.cell? ⟨R,2,O⟩=F (I J d))) rfl ?_ (fun hHeld=>?_)
 ·(try dsimp only);first | exact Ah.all hH | exact Ah.all (Ah.alloc hH _)
 simp only[gR]
 iterate 16 (refine wN hHeld ?_;try simp only[gS])
 refine wB 16 rfl (fun K hK=>?_);go_simp;refine(hN _ hH.ra).mono ?_;rintro e wz ⟨rfl,hb⟩;replace hH:=Ah.step hH hb;try go_wp2_with fail
 refine hK.out _ _ ?_ (fun hHeld2=>?_)
 ·(try dsimp only);first | exact Ah.all hH | exact Ah.all (Ah.alloc hH _)
 clear hK K hHeld;have hHeld:=hHeld2;clear hHeld2;try simp only[gS]
 iterate 5 (refine wN hHeld ?_;try simp only[gS])
 refine wB 22 rfl (fun K hK=>?_);go_simp;refine hK.out _ _ ?_ (fun hHeld2=>?_)
 ·(try dsimp only);first | exact Ah.all hH | exact Ah.all (Ah.alloc hH _)
 clear hK K hHeld;have hHeld:=hHeld2;clear hHeld2;try simp only[gS]
 refine wB 23 rfl (fun K hK=>?_);go_simp;refine(hI _ hH.ra).mono ?_;rintro e wz ⟨rfl,hb⟩;replace hH:=Ah.step hH hb;try go_wp2_with fail
 refine hK.out _ _ ?_ (fun hHeld2=>?_)
 ·(try dsimp only);first | exact Ah.all hH | exact Ah.all (Ah.alloc hH _)
 clear hK K hHeld;have hHeld:=hHeld2;clear hHeld2;try simp only[gS]
 refine wN hHeld ?_;try simp only[gS]
 refine wU 25 rfl (by rfl) hHeld ?_;try simp only[gS]
 refine wU 26 rfl (by rfl) hHeld ?_;try simp only[gS]
 iterate 12 (refine wN hHeld ?_;try simp only[gS])
 refine wB 39 rfl (fun K hK=>?_);go_simp;refine hK.out _ _ ?_ (fun hHeld2=>?_)
 ·(try dsimp only);first | exact Ah.all hH | exact Ah.all (Ah.alloc hH _)
 clear hK K hHeld;have hHeld:=hHeld2;clear hHeld2;try simp only[gS]
 refine wB 40 rfl (fun K hK=>?_);go_simp;refine hK.out _ _ ?_ (fun hHeld2=>?_)
 ·(try dsimp only);first | exact Ah.all hH | exact Ah.all (Ah.alloc hH _)
 clear hK K hHeld;have hHeld:=hHeld2;clear hHeld2;try simp only[gS]
 refine wB 41 rfl (fun K hK=>?_);go_simp;refine(hF _ hH.ra).mono ?_;rintro e wz ⟨rfl,hb⟩;replace hH:=Ah.step hH hb;try go_wp2_with fail
 refine hK.out _ _ ?_ (fun hHeld2=>?_)
 ·(try dsimp only);first | exact Ah.all hH | exact Ah.all (Ah.alloc hH _)
 clear hK K hHeld;have hHeld:=hHeld2;clear hHeld2;try simp only[gS]
 iterate 3 (refine wN hHeld ?_;try simp only[gS])
 refine wpAnyH_done (by kernel_rfl) ?_ _;refine NoPanic.normal ?_;go_wp2;go_ret;exact⟨rfl,hH.1⟩
theorem Aas (R:Nat) (s:ByteArray) (p d:Nat) (w:Y) (hs:s.size<=1000000) (hlt:p<s.size) (hR:RA w R s p d) (hn:BA s.data.toList p=false) (hi:Cg s.data.toList p [58]=false) (hd:¬0<d):
  Calls Tryz.prog 256 #[.pointer (F ⟨R,0,O⟩)] w fun e w'=>e=.returned (.bool false)/\Below w.heap.size w w':=by
 have hN:=fun wx hx=>DV R s p d wx hs (by omega) hx;have hC:=fun wx hx=>BQ R s p d 1 (p+1) wx hs rfl (by omega) hx;have hI:=fun wx hx=>FM R s p d 0 p [58] 1 1 wx hs (by omega) (by omega) rfl (by omega) hx;have hF:=fun wx hx=>FD R s p d 0 p Cc 5 5 (5,6) wx hs (by omega) (by omega) rfl (by omega) hx;have hcv:=fun(w:Y) (C:Array Value) (n c:Nat)=>Lib.run_convert_bytes_const (P:=Tryz.prog) w 71 5 C n c Tryz.underlying71 Tryz.underlying5;have hd1:decide ((s.size:Int)<=(p:Int))=false:=by simp;omega
 have hd2:decide (s.size<=p)=false:=by simp;omega
 rw[hn] at hN;rw[hi] at hI;have hdd:decide ((0:Int)<(d:Int))=false:=by simp;omega
 have hdd2:decide (0<d)=false:=by simp;omega
 clear hd;clear hn hi;have hH:=Ah.refl hR;obtain⟨FF,hFF⟩:∃ FF,Cg s.data.toList p Cc=FF:=⟨_,rfl⟩
 rw[hFF] at hF;clear hFF hlt;go_enter Tryz.func256,Tryz.ntmps256;go_wp2;refine wp_region_noPanic ?_;refine wR 45 (S:=(fun w'=>w'.cell? ⟨R,0,O⟩=F (Q s)/\w'.cell? ⟨R,1,O⟩=F (I J p)/\w'.cell? ⟨R,2,O⟩=F (I J d))) rfl ?_ (fun hHeld=>?_)
 ·(try dsimp only);first | exact Ah.all hH | exact Ah.all (Ah.alloc hH _)
 simp only[gR]
 iterate 16 (refine wN hHeld ?_;try simp only[gS])
 refine wB 16 rfl (fun K hK=>?_);go_simp;refine(hN _ hH.ra).mono ?_;rintro e wz ⟨rfl,hb⟩;replace hH:=Ah.step hH hb;try go_wp2_with fail
 refine hK.out _ _ ?_ (fun hHeld2=>?_)
 ·(try dsimp only);first | exact Ah.all hH | exact Ah.all (Ah.alloc hH _)
 clear hK K hHeld;have hHeld:=hHeld2;clear hHeld2;try simp only[gS]
 iterate 5 (refine wN hHeld ?_;try simp only[gS])
 refine wB 22 rfl (fun K hK=>?_);go_simp;refine hK.out _ _ ?_ (fun hHeld2=>?_)
 ·(try dsimp only);first | exact Ah.all hH | exact Ah.all (Ah.alloc hH _)
 clear hK K hHeld;have hHeld:=hHeld2;clear hHeld2;try simp only[gS]
 refine wB 23 rfl (fun K hK=>?_);go_simp;refine(hI _ hH.ra).mono ?_;rintro e wz ⟨rfl,hb⟩;replace hH:=Ah.step hH hb;try go_wp2_with fail
 refine hK.out _ _ ?_ (fun hHeld2=>?_)
 ·(try dsimp only);first | exact Ah.all hH | exact Ah.all (Ah.alloc hH _)
 clear hK K hHeld;have hHeld:=hHeld2;clear hHeld2;try simp only[gS]
 refine wN hHeld ?_;try simp only[gS]
 refine wU 25 rfl (by rfl) hHeld ?_;try simp only[gS]
 refine wU 26 rfl (by rfl) hHeld ?_;try simp only[gS]
 iterate 9 (refine wN hHeld ?_;try simp only[gS])
 refine wU 36 rfl (by rfl) hHeld ?_;try simp only[gS]
 refine wU 37 rfl (by rfl) hHeld ?_;try simp only[gS]
 refine wU 38 rfl (by rfl) hHeld ?_;try simp only[gS]
 refine wU 39 rfl (by rfl) hHeld ?_;try simp only[gS]
 refine wU 40 rfl (by rfl) hHeld ?_;try simp only[gS]
 refine wU 41 rfl (by rfl) hHeld ?_;try simp only[gS]
 iterate 3 (refine wN hHeld ?_;try simp only[gS])
 refine wpAnyH_done (by kernel_rfl) ?_ _;refine NoPanic.normal ?_;go_wp2;go_ret;exact⟨rfl,hH.1⟩
theorem Adq (R:Nat) (s:ByteArray) (p d:Nat) (w:Y) (hs:s.size<=1000000) (hp:p<=1000000) (hge:s.size<=p) (hR:RA w R s p d):
  Calls Tryz.prog 256 #[.pointer (F ⟨R,0,O⟩)] w fun e w'=>e=.returned (.bool true)/\Below w.heap.size w w':=by
 obtain⟨r0,r1,r2,_⟩:=hR.cells;have hd1:decide ((s.size:Int)<=(p:Int))=true:=by simp;omega
 have hd2:decide (s.size<=p)=true:=by simp;omega
 go_enter Tryz.func256,Tryz.ntmps256;go_wp2;go_quiet (fail);go_wp2;go_ret;exact⟨rfl,below_drewN (Bq _ _)⟩
theorem Zo (R:Nat) (s:ByteArray) (p d:Nat) (w:Y) (hs:s.size<=1000000) (hp:p<=1000000) (hR:RA w R s p d):
  Calls Tryz.prog 256 #[.pointer (F ⟨R,0,O⟩)] w fun e w'=>e=.returned (.bool (EO s.data.toList p d))/\Below w.heap.size w w':=by
 unfold EO;rw[<- Lib.size_eq];rcases Nat.lt_or_ge p s.size with hlt | hge
 ·rw[decide_eq_false (by omega),Bool.false_or];cases hn:BA s.data.toList p with
  | true=>rw[Bool.true_or];exact Agv R s p d w hs hlt hR hn
  | false=>
   rw[Bool.false_or];cases hi:Cg s.data.toList p [58] with
   | true=>
    rw[Bool.true_and];cases hc:AC s.data.toList (p+1) d with
    | true=>rw[Bool.true_or];exact Ac7 R s p d w hs hlt hR hn hi hc
    | false=>
     rw[Bool.false_or];by_cases hd:0<d
     ·rw[decide_eq_true hd,Bool.true_and];exact Aau R s p d w hs hlt hR hn hi hc hd
     ·rw[decide_eq_false hd,Bool.false_and];exact Aa6 R s p d w hs hlt hR hn hi hc hd
   | false=>
    rw[Bool.false_and,Bool.false_or];by_cases hd:0<d
    ·rw[decide_eq_true hd,Bool.true_and];exact Acu R s p d w hs hlt hR hn hi hd
    ·rw[decide_eq_false hd,Bool.false_and];exact Aas R s p d w hs hlt hR hn hi hd
 ·rw[decide_eq_true hge,Bool.true_or];exact Adq R s p d w hs hp hge hR
end
section
set_option maxRecDepth 100000
set_option maxHeartbeats 4000000
def IZ (R:Nat) (w:Y):Prop:=∃ w0,BU w0/\w0.heap.size<=R/\Below w0.heap.size w0 w
theorem IZ.tabs {R:Nat} {w:Y} (h:IZ R w):BU w:=by obtain⟨w0,h1,_,h3⟩:=h;exact h1.below h3
theorem IZ.mod {R:Nat} {w w':Y} (h:IZ R w) (hm:CB R w w'):IZ R w':=by
 obtain⟨w0,h1,h2,h3⟩:=h;exact⟨w0,h1,h2,Au.below hm h3 (fun k hk=>by omega) h3.size Nr⟩
structure Sy (w:Y) (R:Nat) (s:ByteArray) (p d:Nat) (k0 s0 a0:Value) (w':Y):Prop where
 sx:Sx w R s p d w'
 tb:w'.heap[w.heap.size+1]? =F (.cells #[k0,s0,a0] 287)
theorem Sy.below {w:Y} {R:Nat} {s:ByteArray} {p d:Nat} {k0 s0 a0:Value} {w1 w2:Y} (h:Sy w R s p d k0 s0 a0 w1) (hb:Below w1.heap.size w1 w2):Sy w R s p d k0 s0 a0 w2:=⟨h.sx.below hb,AW h.tb hb⟩
theorem Sy.drew {w:Y} {R:Nat} {s:ByteArray} {p d:Nat} {k0 s0 a0:Value} {w1:Y} (h:Sy w R s p d k0 s0 a0 w1):Sy w R s p d k0 s0 a0 w1.drew:=h.below (Bq _ _).drew
theorem Sy.alloc {w:Y} {R:Nat} {s:ByteArray} {p d:Nat} {k0 s0 a0:Value} {w1:Y} (h:Sy w R s p d k0 s0 a0 w1) (o:Obj):Sy w R s p d k0 s0 a0 (w1.alloc o):=h.below ((Bq _ w1).alloc Nr o)
theorem Sy.new {w:Y} {R:Nat} {s:ByteArray} {p d:Nat} (h:RA w R s p d) (k0 s0 a0:Value):Sy w R s p d k0 s0 a0 ((w.alloc (.cells #[I J 0,Q ⟨#[]⟩,I J 0] 287)).alloc (.cells #[k0,s0,a0] 287)):=
 ⟨(Sx.new h).alloc _,by have:=Wn (w.alloc (.cells #[I J 0,Q ⟨#[]⟩,I J 0] 287)) (.cells #[k0,s0,a0] 287);rwa [World.size_alloc] at this⟩
theorem Sy.set1 {w:Y} {R:Nat} {s:ByteArray} {p d:Nat} {k0 s0 a0:Value} {w1:Y} (h:Sy w R s p d k0 s0 a0 w1) (hlt:R<w.heap.size) (p':Nat):Sy w R s p' d k0 s0 a0 (w1.setCell ⟨R,1,O⟩ (I J p')):=
 ⟨h.sx.set1 hlt p',(Bh w1 ⟨R,1,O⟩ _ _ (by simp;omega)).trans h.tb⟩
theorem Sy.putS {w:Y} {R:Nat} {s:ByteArray} {p d:Nat} {k0 s0 a0:Value} {w1:Y} (h:Sy w R s p d k0 s0 a0 w1) (hlt:R<w.heap.size) (v:Value):Sy w R s p d k0 v a0 (w1.setCell ⟨w.heap.size+1,1,O⟩ v):=
 ⟨⟨h.sx.ra.far (a:=⟨w.heap.size+1,1,O⟩) (by simp;omega) v,h.sx.md.put (a:=⟨w.heap.size+1,1,O⟩) (by simp) v,(Bh w1 ⟨w.heap.size+1,1,O⟩ _ _ (by simp)).trans h.sx.res⟩,heap_setCell_same w1 _ 1 _ _ v h.tb⟩
theorem Sy.putK {w:Y} {R:Nat} {s:ByteArray} {p d:Nat} {k0 s0 a0:Value} {w1:Y} (h:Sy w R s p d k0 s0 a0 w1) (hlt:R<w.heap.size) (v:Value):Sy w R s p d v s0 a0 (w1.setCell ⟨w.heap.size+1,0,O⟩ v):=
 ⟨⟨h.sx.ra.far (a:=⟨w.heap.size+1,0,O⟩) (by simp;omega) v,h.sx.md.put (a:=⟨w.heap.size+1,0,O⟩) (by simp) v,(Bh w1 ⟨w.heap.size+1,0,O⟩ _ _ (by simp)).trans h.sx.res⟩,heap_setCell_same w1 _ 0 _ _ v h.tb⟩
theorem Sy.cells {w:Y} {R:Nat} {s:ByteArray} {p d:Nat} {k0 s0 a0:Value} {w1:Y} (h:Sy w R s p d k0 s0 a0 w1):w1.cell? ⟨w.heap.size+1,0,O⟩=F k0/\w1.cell? ⟨w.heap.size+1,1,O⟩=F s0/\w1.cell? ⟨w.heap.size+1,2,O⟩=F a0/\w1.frozen? ⟨w.heap.size+1,0,O⟩=false/\w1.frozen? ⟨w.heap.size+1,1,O⟩=false/\w1.frozen? ⟨w.heap.size+1,2,O⟩=false:=EM h.tb
theorem Sy.all {w:Y} {R:Nat} {s:ByteArray} {p d:Nat} {k0 s0 a0:Value} {w1:Y} (h:Sy w R s p d k0 s0 a0 w1):w1.cell? ⟨R,0,O⟩=F (Q s)/\w1.cell? ⟨R,1,O⟩=F (I J p)/\w1.cell? ⟨R,2,O⟩=F (I J d)/\w1.cell? ⟨w.heap.size+1,2,O⟩=F a0/\w1.frozen? ⟨w.heap.size+1,1,O⟩=false:=
 ⟨h.sx.ra.cells.1,h.sx.ra.cells.2.1,h.sx.ra.cells.2.2.1,h.cells.2.2.1,h.cells.2.2.2.2.1⟩
theorem Sy.all2 {w:Y} {R:Nat} {s:ByteArray} {p d:Nat} {k0 s0 a0:Value} {w1:Y} (h:Sy w R s p d k0 s0 a0 w1):w1.cell? ⟨R,2,O⟩=F (I J d)/\w1.cell? ⟨w.heap.size+1,1,O⟩=F s0:=
 ⟨h.sx.ra.cells.2.2.1,h.cells.2.1⟩
theorem UK (s:ByteArray) (p k:Nat):(s.extract p k).data.toList=(s.data.toList.take k).drop p:=by
 rw[Lib.extract_data,List.drop_take]
theorem L0 (R:Nat) (s:ByteArray) (p d:Nat) (w:Y) (hs:s.size<=1000000) (hp:p<s.size) (hR:RA w R s p d) (hTab:IZ R w):
  Calls Tryz.prog 224 #[.pointer (F ⟨R,0,O⟩)] w (Bf R s p (CM s.data.toList p d) w):=by
 obtain⟨r,hr⟩:∃ r,CM s.data.toList p d=r:=⟨_,rfl⟩
 rw[hr];have HR:=hid hr;clear hr;have hlt:=hR.lt;obtain⟨fl,hf1⟩:∃ fl,decide (0<d)=fl:=⟨_,rfl⟩
 have hf2:decide ((0:Int)<(d:Int))=fl:=by rw[<- hf1,Bool.eq_iff_iff];simp
 have HF:=hid hf1;have hps:p<=s.size:=by omega
 obtain⟨r0,r1,r2,f0,f1,f2⟩:=hR.cells;go_enter Tryz.func224,Tryz.ntmps224;go_wp2;have hY0:=Sy.new hR (I J 1) (Q ⟨#[]⟩) (I J p);clear r0 r1 r2 f0 f1 f2;revert hY0;generalize (w.alloc (.cells #[I J 0,Q ⟨#[]⟩,I J 0] 287)).alloc (.cells #[I J 1,Q ⟨#[]⟩,I J p] 287)=W0;intro hY0;go_loopg [] (s.size - p) (fun g wx=>∃ k:Nat,k+g=s.size/\p<=k/\Sy w R s k d (I J 1) (Q ⟨#[]⟩) (I J p) wx/\Hid (Fz s.data.toList k d=Fz s.data.toList p d))
 case atStart=>exact⟨p,by omega,Nat.le_refl _,hY0,hid rfl⟩
 case round=>
  obtain⟨k,hkg,hpk,hY,HE⟩:=hrel;clear hY0;have hks:k<=s.size:=by omega
  have hEnd:=Zo R s k d wr hs (by omega) hY.sx.ra;cases he:EO s.data.toList k d with
  | false=>
   have HE':=hid (show Fz s.data.toList (k+1) d=Fz s.data.toList p d by rw[<- KU he];exact HE.out);have hks1:k<s.size:=by
    rcases Nat.lt_or_ge k s.size with h | h
    ·exact h
    ·unfold EO at he;rw[<- Lib.size_eq,decide_eq_true h] at he;cases he
   rw[he] at hEnd;clear he HE;go_wp2_with fail;refine hEnd.mono ?_;rintro e w1 ⟨rfl,hb1⟩;replace hY:=hY.below hb1;clear hEnd hb1;obtain⟨r0,r1,r2,f0,f1,f2⟩:=hY.sx.ra.cells;go_wp2;go_roundg (gk - 1)
   case measure=>omega
   case rel=>exact⟨k+1,by omega,by omega,hY.set1 hlt (k+1),HE'⟩
  | true=>
   have HX:=hid (show Fz s.data.toList p d=k by rw[<- HE.out];exact Ni he);rw[he] at hEnd;clear he HE;obtain⟨TT,hTT⟩:∃ TT,Lib.trimRightB (s.extract p k).data.toList 32=TT:=⟨_,rfl⟩
   have hTR:=fun wx=>Tryz.strings_TrimRight_one (s.extract p k) 32 (by decide) wx (by rw[ByteArray.size_extract];omega);rw[hTT] at hTR;have hTs:(⟨TT.toArray⟩:ByteArray).size<=1000000:=by
    rw[size_mk,<- hTT];unfold Lib.trimRightB;have h1:=Es 32 (s.extract p k).data.toList.reverse;rw[List.length_reverse] at h1 |-;rw[<- Lib.size_eq,ByteArray.size_extract] at h1;omega
   have hMay:=fun wx hx=>QH ⟨TT.toArray⟩ fl wx hTs hx;rw[Dk] at hMay;have HT:=hid (show Dt ((s.data.toList.take (Fz s.data.toList p d)).drop p)=TT by rw[HX.out,<- UK];exact hTT);obtain⟨mb,hmb⟩:∃ mb,Cm TT fl=mb:=⟨_,rfl⟩
   rw[hmb] at hMay;have HM:=hid hmb;clear hmb hTT hTs;have hki:(k:Int)<=(s.size:Int):=by omega
   have hpi:(p:Int)<=(k:Int):=by omega
   go_wp2_with fail;refine hEnd.mono ?_;rintro e w1 ⟨rfl,hb1⟩;replace hY:=hY.below hb1;clear hEnd hb1;go_wp2;replace hY:=hY.drew;refine wp_region_noPanic ?_;refine wR 16 (S:=(fun w'=>w'.cell? ⟨R,0,O⟩=F (Q s)/\w'.cell? ⟨R,1,O⟩=F (I J k)/\w'.cell? ⟨R,2,O⟩=F (I J d)/\w'.cell? ⟨w.heap.size+1,2,O⟩=F (I J p)/\w'.frozen? ⟨w.heap.size+1,1,O⟩=false)) rfl ?_ (fun hHeld=>?_)
   ·(try dsimp only);exact hY.all
   simp only[gR]
   iterate 13 (refine wN hHeld ?_;try simp only[gS])
   refine wB 13 rfl (fun K hK=>?_);go_simp;refine(hTR _).mono ?_;rintro e wz ⟨rfl,hwz⟩;subst wz;try go_wp2_with fail
   refine hK.out _ _ ?_ (fun hHeld2=>?_)
   ·(try dsimp only);exact hY.all
   clear hK K hHeld;have hHeld:=hHeld2;clear hHeld2;try simp only[gS]
   refine wN hHeld ?_;try simp only[gS]
   refine wB 15 rfl (fun K hK=>?_);obtain⟨tc0,tc1,tc2,tc3,tc4,tc5⟩:=hY.cells;go_simp;replace hY:=hY.putS hlt (Q ⟨TT.toArray⟩);try go_wp2_with fail
   refine hK.out _ _ ?_ (fun hHeld2=>?_)
   ·(try dsimp only);exact hY.all
   clear hK K hHeld tc0 tc1 tc2 tc3 tc4 tc5;have hHeld:=hHeld2;clear hHeld2;try simp only[gS]
   refine wpAnyH_done (by kernel_rfl) ?_ _;refine NoPanic.normal ?_;go_wp2;replace hY:=hY.drew;refine wp_region_noPanic ?_;refine wR 9 (S:=(fun w'=>w'.cell? ⟨R,2,O⟩=F (I J d)/\w'.cell? ⟨w.heap.size+1,1,O⟩=F (Q ⟨TT.toArray⟩))) rfl ?_ (fun hHeld=>?_)
   ·(try dsimp only);exact hY.all2
   simp only[gR]
   iterate 7 (refine wN hHeld ?_;try simp only[gS])
   refine wB 7 rfl (fun K hK=>?_);go_simp;refine(hMay _ (hTab.mod hY.sx.md).tabs).mono ?_;rintro e wz ⟨rfl,hb⟩;replace hY:=hY.below hb;try go_wp2_with fail
   refine hK.out _ _ ?_ (fun hHeld2=>?_)
   ·(try dsimp only);exact hY.all2
   clear hK K hHeld;have hHeld:=hHeld2;clear hHeld2;try simp only[gS]
   refine wN hHeld ?_;try simp only[gS]
   refine wpAnyH_done (by kernel_rfl) ?_ _;refine NoPanic.normal ?_;clear hTR hMay;cases mb with
   | false=>
    have HQ:=hid (show r=.bad 51 by rw[<- HR.out];unfold CM;rw[HT.out,HF.out,HM.out,if_neg (by decide)]);obtain⟨n0,n1,n2,g0,g1,g2⟩:=hY.sx.cells;go_wp2;obtain⟨e0,e1,e2,e3,e4⟩:=hY.sx.fin hlt (I J 0) (Q ⟨#[]⟩) (I J 0);refine bodyPost_ret (v:=.tuple #[CJ ⟨0,[],0⟩,.iface 325 (.agg #[I J 51])]) (by simp[results,Tryz.results224,go_sem,CJ,e0,e1,e2]) rfl (Bf.bad HQ.out rfl e4)
   | true=>
    have HQ:=hid (show r=.ok 1 TT k d by rw[<- HR.out];unfold CM;rw[HT.out,HF.out,HM.out,if_pos rfl,HX.out]);obtain⟨n0,n1,n2,g0,g1,g2⟩:=hY.sx.cells;obtain⟨t0,t1,t2,_⟩:=hY.cells;go_wp2;obtain⟨e0,e1,e2,e3,e4⟩:=hY.sx.fin hlt (I J 1) (Q ⟨TT.toArray⟩) (I J p);refine bodyPost_ret (v:=.tuple #[CJ ⟨1,TT,p⟩,.nilIface]) (by simp[results,Tryz.results224,go_sem,CJ,e0,e1,e2]) rfl (Bf.ok HQ.out rfl e3 e4)
structure Sz (w:Y) (R:Nat) (w':Y):Prop where
 md:CB R w w'
 res:w'.heap[w.heap.size]? =F (.cells #[I J 0,Q ⟨#[]⟩,I J 0] 287)
theorem Sx.sz {w:Y} {R:Nat} {s:ByteArray} {p d:Nat} {w1 w2:Y} (h:Sx w R s p d w1) (hlt:R<w.heap.size) (hm:CB R w1 w2):Sz w R w2:=⟨h.md.trans hm,hm.heap h.res (by omega)⟩
theorem Sz.cells {w:Y} {R:Nat} {w1:Y} (h:Sz w R w1):w1.cell? ⟨w.heap.size,0,O⟩=F (I J 0)/\w1.cell? ⟨w.heap.size,1,O⟩=F (Q ⟨#[]⟩)/\w1.cell? ⟨w.heap.size,2,O⟩=F (I J 0)/\w1.frozen? ⟨w.heap.size,0,O⟩=false/\w1.frozen? ⟨w.heap.size,1,O⟩=false/\w1.frozen? ⟨w.heap.size,2,O⟩=false:=EM h.res
theorem Sz.fin {w:Y} {R:Nat} {w1:Y} (h:Sz w R w1) (v0 v1 v2:Value):
  (((w1.setCell ⟨w.heap.size,0,O⟩ v0).setCell ⟨w.heap.size,1,O⟩ v1).setCell ⟨w.heap.size,2,O⟩ v2).cell? ⟨w.heap.size,0,O⟩=F v0∧
  (((w1.setCell ⟨w.heap.size,0,O⟩ v0).setCell ⟨w.heap.size,1,O⟩ v1).setCell ⟨w.heap.size,2,O⟩ v2).cell? ⟨w.heap.size,1,O⟩=F v1∧
  (((w1.setCell ⟨w.heap.size,0,O⟩ v0).setCell ⟨w.heap.size,1,O⟩ v1).setCell ⟨w.heap.size,2,O⟩ v2).cell? ⟨w.heap.size,2,O⟩=F v2∧
  CB R w (((w1.setCell ⟨w.heap.size,0,O⟩ v0).setCell ⟨w.heap.size,1,O⟩ v1).setCell ⟨w.heap.size,2,O⟩ v2):=by
 have h0:=heap_setCell_same w1 w.heap.size 0 _ _ v0 h.res;have h1:=heap_setCell_same _ w.heap.size 1 _ _ v1 h0;have h2:=heap_setCell_same _ w.heap.size 2 _ _ v2 h1;have h3:(((w1.setCell ⟨w.heap.size,0,O⟩ v0).setCell ⟨w.heap.size,1,O⟩ v1).setCell ⟨w.heap.size,2,O⟩ v2).heap[w.heap.size]? =F (.cells #[v0,v1,v2] 287):=h2;obtain⟨c0,c1,c2,_⟩:=EM h3;exact⟨c0,c1,c2,((h.md.put (a:=⟨w.heap.size,0,O⟩) Nr v0).put (a:=⟨w.heap.size,1,O⟩) Nr v1).put (a:=⟨w.heap.size,2,O⟩) Nr v2⟩
theorem Abz (R:Nat) (s:ByteArray) (p d:Nat) (w:Y) (hs:s.size<=1000000) (hp:p<s.size) (hR:RA w R s p d) (hTab:IZ R w):
  Calls Tryz.prog 252 #[.pointer (F ⟨R,0,O⟩)] w (Bf R s p (Hw s.data.toList p d) w):=by
 have hB:=fun wx hx=>LC R s p d 1 (p+1) wx hs rfl (by omega) hx;have hS:=Sx.new hR;have hlt:=hR.lt;cases hb:BI s.data.toList (p+1) with
 | false=>
  have HV:=hid (show Hw s.data.toList p d=CM s.data.toList p d by unfold Hw;rw[hb,if_neg (by decide)]);rw[hb] at hB;rw[HV.out];clear hb HV;obtain⟨r,hr⟩:∃ r,CM s.data.toList p d=r:=⟨_,rfl⟩
  have hP:=fun wx hx hy=>L0 R s p d wx hs hp hx hy;rw[hr] at hP |-;clear hr;go_enter Tryz.func252,Tryz.ntmps252;go_wp2_with fail;refine(hB _ hS.ra).mono ?_;rintro e w1 ⟨rfl,hb1⟩;replace hS:=hS.below hb1;clear hB hb1;go_wp2_with fail;refine(hP _ hS.ra (hTab.mod hS.md)).mono ?_;rintro e w2 hQ;clear hP;cases r with
  | ok k t q d'=>
   obtain⟨rfl,hr2,hm2⟩:=hQ;replace hS:=hS.mod hlt hr2 hm2;clear hr2 hm2;obtain⟨n0,n1,n2,g0,g1,g2⟩:=hS.cells;unfold CJ;go_wp2;obtain⟨e0,e1,e2,e3,e4⟩:=hS.fin hlt (I J k) (Q ⟨t.toArray⟩) (I J p);refine bodyPost_ret (v:=.tuple #[CJ ⟨k,t,p⟩,.nilIface]) (by simp[results,Tryz.results252,go_sem,CJ,e0,e1,e2]) rfl (Bf.ok rfl rfl e3 e4)
  | bad er=>
   obtain⟨rfl,hm2⟩:=hQ;have hZ:=hS.sz hlt hm2;clear hS hm2;obtain⟨n0,n1,n2,g0,g1,g2⟩:=hZ.cells;unfold CJ;go_wp2;obtain⟨e0,e1,e2,e4⟩:=hZ.fin (I J 0) (Q ⟨#[]⟩) (I J 0);refine bodyPost_ret (v:=.tuple #[CJ ⟨0,[],0⟩,.iface 325 (.agg #[I J er])]) (by simp[results,Tryz.results252,go_sem,CJ,e0,e1,e2]) rfl (Bf.bad rfl rfl e4)
 | true=>
  rw[hb] at hB;by_cases hd:0<d
  ·rw[show Hw s.data.toList p d=.bad 90 by unfold Hw;rw[hb,if_pos rfl,if_pos hd]];have hdi:(0:Int)<(d:Int):=by omega
   clear hb hd;go_enter Tryz.func252,Tryz.ntmps252;go_wp2_with fail;refine(hB _ hS.ra).mono ?_;rintro e w1 ⟨rfl,hb1⟩;replace hS:=hS.below hb1;clear hB hb1;obtain⟨r0,r1,r2,f0,f1,f2⟩:=hS.ra.cells;obtain⟨n0,n1,n2,g0,g1,g2⟩:=hS.cells;go_wp2;obtain⟨e0,e1,e2,e3,e4⟩:=hS.fin hlt (I J 0) (Q ⟨#[]⟩) (I J 0);refine bodyPost_ret (v:=.tuple #[CJ ⟨0,[],0⟩,.iface 325 (.agg #[I J 90])]) (by simp[results,Tryz.results252,go_sem,CJ,e0,e1,e2]) rfl (Bf.bad rfl rfl e4)
  rw[show Hw s.data.toList p d=.ok 5 [] (p+1) d by unfold Hw;rw[hb,if_pos rfl,if_neg hd]];have hdi:¬(0:Int)<(d:Int):=by omega
  clear hb hd;go_enter Tryz.func252,Tryz.ntmps252;go_wp2_with fail;refine(hB _ hS.ra).mono ?_;rintro e w1 ⟨rfl,hb1⟩;replace hS:=hS.below hb1;clear hB hb1;obtain⟨r0,r1,r2,f0,f1,f2⟩:=hS.ra.cells;go_wp2_with fail;refine(JY R s p d 5 _ (by omega) hS.ra).mono ?_;rintro e w2 ⟨rfl,hr2,hm2⟩;replace hS:=hS.mod hlt hr2 hm2;clear hr2 hm2 r0 r1 r2 f0 f1 f2;obtain⟨n0,n1,n2,g0,g1,g2⟩:=hS.cells;unfold CJ;go_wp2;obtain⟨e0,e1,e2,e3,e4⟩:=hS.fin hlt (I J 5) (Q ⟨#[]⟩) (I J p);refine bodyPost_ret (v:=.tuple #[CJ ⟨5,[],p⟩,.nilIface]) (by simp[results,Tryz.results252,go_sem,CJ,e0,e1,e2]) rfl (Bf.ok rfl rfl e3 e4)
theorem XI (R:Nat) (s:ByteArray) (p d:Nat) (w:Y) (hs:s.size<=1000000) (hp:p<s.size) (hR:RA w R s p d) (hTab:IZ R w):
  Calls Tryz.prog 253 #[.pointer (F ⟨R,0,O⟩)] w (Bf R s p (Fp s.data.toList p d) w):=by
 have hB:=fun wx hx=>BQ R s p d 1 (p+1) wx hs rfl (by omega) hx;have hS:=Sx.new hR;have hlt:=hR.lt;cases hb:AC s.data.toList (p+1) d with
 | false=>
  have HV:=hid (show Fp s.data.toList p d=CM s.data.toList p d by unfold Fp;rw[hb,if_neg (by decide)]);rw[hb] at hB;rw[HV.out];clear hb HV;obtain⟨r,hr⟩:∃ r,CM s.data.toList p d=r:=⟨_,rfl⟩
  have hP:=fun wx hx hy=>L0 R s p d wx hs hp hx hy;rw[hr] at hP |-;clear hr;go_enter Tryz.func253,Tryz.ntmps253;go_wp2_with fail;refine(hB _ hS.ra).mono ?_;rintro e w1 ⟨rfl,hb1⟩;replace hS:=hS.below hb1;clear hB hb1;go_wp2_with fail;refine(hP _ hS.ra (hTab.mod hS.md)).mono ?_;rintro e w2 hQ;clear hP;cases r with
  | ok k t q d'=>
   obtain⟨rfl,hr2,hm2⟩:=hQ;replace hS:=hS.mod hlt hr2 hm2;clear hr2 hm2;obtain⟨n0,n1,n2,g0,g1,g2⟩:=hS.cells;unfold CJ;go_wp2;obtain⟨e0,e1,e2,e3,e4⟩:=hS.fin hlt (I J k) (Q ⟨t.toArray⟩) (I J p);refine bodyPost_ret (v:=.tuple #[CJ ⟨k,t,p⟩,.nilIface]) (by simp[results,Tryz.results253,go_sem,CJ,e0,e1,e2]) rfl (Bf.ok rfl rfl e3 e4)
  | bad er=>
   obtain⟨rfl,hm2⟩:=hQ;have hZ:=hS.sz hlt hm2;clear hS hm2;obtain⟨n0,n1,n2,g0,g1,g2⟩:=hZ.cells;unfold CJ;go_wp2;obtain⟨e0,e1,e2,e4⟩:=hZ.fin (I J 0) (Q ⟨#[]⟩) (I J 0);refine bodyPost_ret (v:=.tuple #[CJ ⟨0,[],0⟩,.iface 325 (.agg #[I J er])]) (by simp[results,Tryz.results253,go_sem,CJ,e0,e1,e2]) rfl (Bf.bad rfl rfl e4)
 | true=>
  rw[hb] at hB;rw[show Fp s.data.toList p d=.ok 6 [] (p+1) d by unfold Fp;rw[hb,if_pos rfl]];clear hb;go_enter Tryz.func253,Tryz.ntmps253;go_wp2_with fail;refine(hB _ hS.ra).mono ?_;rintro e w1 ⟨rfl,hb1⟩;replace hS:=hS.below hb1;clear hB hb1;obtain⟨r0,r1,r2,f0,f1,f2⟩:=hS.ra.cells;go_wp2_with fail;refine(JY R s p d 6 _ (by omega) hS.ra).mono ?_;rintro e w2 ⟨rfl,hr2,hm2⟩;replace hS:=hS.mod hlt hr2 hm2;clear hr2 hm2 r0 r1 r2 f0 f1 f2;obtain⟨n0,n1,n2,g0,g1,g2⟩:=hS.cells;unfold CJ;go_wp2;obtain⟨e0,e1,e2,e3,e4⟩:=hS.fin hlt (I J 6) (Q ⟨#[]⟩) (I J p);refine bodyPost_ret (v:=.tuple #[CJ ⟨6,[],p⟩,.nilIface]) (by simp[results,Tryz.results253,go_sem,CJ,e0,e1,e2]) rfl (Bf.ok rfl rfl e3 e4)
end
end Go.Proofs.YtdpppepmkeinaaaGreatDoor
