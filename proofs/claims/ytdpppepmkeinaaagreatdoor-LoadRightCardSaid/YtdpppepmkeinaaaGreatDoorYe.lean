/- What is proved: a part of the walk of the program and of its plain laws; no condition beside those that each theorem names. -/
import Derived.Test.YtdpppepmkeinaaaGreatDoorYd
import Derived.Test.YtdpppepmkeinaaaGreatDoorYa
import Derived.Deep.QuietTactic
import Derived.BigQuiet
import Derived.Deep.RegionHeld3
import Derived.Lib.SlBytesConst
import Derived.Deep.DeepCutAuto
import Derived.Deep.CutRange
import Derived.Deep.LoopGhost
namespace Go.Proofs.YtdpppepmkeinaaaGreatDoor
open Go Go.RowKit Go.Lib
open Go.Value renaming int->I,string->Q,slice->Z
open Go.IntKind renaming i64->J
open Option renaming none->O,some->F
open _root_.Go renaming World->Y
set_option linter.unusedSimpArgs false
set_option linter.unusedVariables false
set_option linter.unusedSectionVars false
section
set_option maxRecDepth 100000
def Ach (bs:List UInt8) (c:UInt8) (w:Y) (e:Ending) (w':Y):Prop:=∃ k:Int,e=.returned (I J k)/\decide (0<=k)=Av bs c/\w'=w
theorem Yn (bs:List UInt8) (c:UInt8) (b cap:Nat) (w:Y) (hs:bs.length<=1000) (hc:∀ i,i<bs.length->w.cell? ⟨b,i,O⟩=F (.int .u8 (((bs.getD i 0).toNat:Nat):Int))):
  Calls Tryz.prog 249 #[Z (F ⟨b,0,O⟩) bs.length cap,.int .u8 ((c.toNat:Nat):Int)] w (Ach bs c w):=by
 obtain⟨n,hn⟩:∃ n,bs.length=n:=⟨_,rfl⟩
 rw[hn] at hs hc |-;have HN:=hid hn;clear hn;have hcb:(c.toNat:Int)<256:=by have:=c.toNat_lt;omega
 go_enter Tryz.func249,Tryz.ntmps249;go_wp2;go_loop [8] (fun i=>∃ k:Nat,k<=n/\i=I J k/\Hid (Av (bs.take k) c=false)) (fun i=>n - (intOf i).toNat)
 case atStart=>exact⟨0,by omega,rfl,hid rfl⟩
 case round=>
  obtain⟨k,hk,rfl,HF⟩:=hrel;by_cases hlt:k<n
  ·have hck:=hc k hlt;obtain⟨d,hd⟩:∃ d,bs.getD k 0=d:=⟨_,rfl⟩
   rw[hd] at hck;have HT:=hid (show Av (bs.take (k+1)) c=(Av (bs.take k) c||c==d) by
    rw[MD (by rw[HN.out];exact hlt),<- hd,List.getD,List.getElem?_eq_getElem (by rw[HN.out];exact hlt)];rfl)
   have HA:=hid (show c=d->Av bs c=true from fun e=>SU.2 (by rw[e,<- hd,List.getD,List.getElem?_eq_getElem (by rw[HN.out];exact hlt)];exact List.getElem_mem _));clear hc hd;by_cases hcd:c=d
   ·have HA':=hid (HA.out hcd);subst hcd;clear HA HT;go_wp2;go_ret;exact⟨k,rfl,by rw[HA'.out];simp,rfl⟩
   ·have hne:((c.toNat:Int)==(d.toNat:Int))=false:=by
     rw[<- Bool.not_eq_true,beq_iff_eq];intro h;exact hcd (UInt8.toNat_inj.1 (by omega))
    have HF':=hid (show Av (bs.take (k+1)) c=false by rw[HT.out,HF.out,Bool.false_or,beq_eq_false_iff_ne];exact hcd);clear hcd HA HT;go_wp2;go_round
    case rel=>exact⟨k+1,by omega,by go_num,HF'⟩
    case measure=>simp[intOf];omega
  ·go_wp2;go_ret;have h:=HF.out;rw[List.take_of_length_le (by rw[HN.out];omega)] at h;exact⟨-1,rfl,by rw[h];rfl,rfl⟩
theorem QB (bs:List UInt8) (c:UInt8) (b cap:Nat) (w:Y) (hs:bs.length<=1000) (hc:∀ i,i<bs.length->w.cell? ⟨b,i,O⟩=F (.int .u8 (((bs.getD i 0).toNat:Nat):Int))):
  Calls Tryz.prog 222 #[Z (F ⟨b,0,O⟩) bs.length cap,.int .u8 ((c.toNat:Nat):Int)] w fun e w'=>e=.returned (.bool (Av bs c))/\w'=w:=by
 have hI:=Yn bs c b cap w hs hc;clear hc;go_enter Tryz.func222,Tryz.ntmps222;go_wp2_with fail;refine hI.mono ?_;rintro e w1 ⟨k,rfl,hk,hw⟩;subst w1;have HK:=hid hk;clear hk;go_wp2;go_ret;exact⟨by rw[<- HK.out];rfl,rfl⟩
def RA (w:Y) (R:Nat) (s:ByteArray) (p d:Nat):Prop:=w.heap[R]? =F (.cells #[Q s,I J p,I J d] 282)
theorem RA.below {w w':Y} {R:Nat} {s:ByteArray} {p d:Nat} (h:RA w R s p d) (hb:Below w.heap.size w w'):RA w' R s p d:=Ay h hb
theorem RA.cells {w:Y} {R:Nat} {s:ByteArray} {p d:Nat} (h:RA w R s p d):w.cell? ⟨R,0,O⟩=F (Q s)/\w.cell? ⟨R,1,O⟩=F (I J p)/\w.cell? ⟨R,2,O⟩=F (I J d)/\w.frozen? ⟨R,0,O⟩=false/\w.frozen? ⟨R,1,O⟩=false/\w.frozen? ⟨R,2,O⟩=false:=DU h
theorem RA.alloc {w:Y} {R:Nat} {s:ByteArray} {p d:Nat} (h:RA w R s p d) (o:Obj):RA (w.alloc o) R s p d:=h.below ((Bq _ w).alloc Nr o)
theorem RA.lt {w:Y} {R:Nat} {s:ByteArray} {p d:Nat} (h:RA w R s p d):R<w.heap.size:=(Gl h)
theorem Ahv {s:ByteArray} {i:Nat} (hlt:i<s.size) (bs:List UInt8):DV s.data.toList i bs=Av bs (s[i]'hlt):=by
 unfold DV;rw[Cq s i hlt,<- Lib.size_eq];simp[hlt]
theorem Agd {s:ByteArray} {i:Nat} (hlt:¬i<s.size) (bs:List UInt8):DV s.data.toList i bs=false:=by
 unfold DV;rw[<- Lib.size_eq];simp[hlt]
theorem ON (w:Y) (bs:List UInt8) (fz:Nat×Nat) (i:Nat) (hi:i<bs.length):(w.alloc (.cells (bs.map fun c=>Value.int .u8 ((c.toNat:Nat):Int)).toArray 5 fz)).cell? ⟨w.heap.size,i,O⟩=F (.int .u8 (((bs.getD i 0).toNat:Nat):Int)):=by
 have h:=Wn w (.cells (bs.map fun c=>Value.int .u8 ((c.toNat:Nat):Int)).toArray 5 fz);unfold World.cell?;rw[h];simp[List.getD,hi]
theorem TU (R:Nat) (s:ByteArray) (p d:Nat) (z:Int) (i:Nat) (bs:List UInt8) (b cap:Nat) (w:Y) (hs:s.size<=1000000) (hz:(p:Int)+z=(i:Int)) (hi:i<=2000000) (hbs:bs.length<=1000) (hR:RA w R s p d)
  (hc:∀ i,i<bs.length->w.cell? ⟨b,i,O⟩=F (.int .u8 (((bs.getD i 0).toNat:Nat):Int))):
  Calls Tryz.prog 187 #[.pointer (F ⟨R,0,O⟩),I J z,Z (F ⟨b,0,O⟩) bs.length cap] w fun e w'=>e=.returned (.bool (DV s.data.toList i bs))/\w'=w:=by
 obtain⟨r0,r1,_,_⟩:=hR.cells;obtain⟨L,hL⟩:∃ L,bs.length=L:=⟨_,rfl⟩
 by_cases hlt:i<s.size
 ·obtain⟨c,hcc⟩:∃ c,s[i]'hlt=c:=⟨_,rfl⟩
  have hC:=QB bs c b cap w hbs hc;have hV:DV s.data.toList i bs=Av bs c:=by rw[Ahv hlt,hcc]
  rw[hV];rw[hL] at hC |-;have hlti:(i:Int)<(s.size:Int):=by omega
  clear hc hV hR hL;go_enter Tryz.func187,Tryz.ntmps187;go_wp2_with fail;refine hC.mono ?_;rintro e w1 ⟨rfl,hw⟩;subst w1;go_wp2;go_ret;exact⟨rfl,rfl⟩
 ·rw[Agd hlt];have hge:¬(i:Int)<(s.size:Int):=by omega
  clear hc hR hL;go_enter Tryz.func187,Tryz.ntmps187;go_wp2;go_ret;exact⟨rfl,rfl⟩
theorem Eg (R:Nat) (s:ByteArray) (p d:Nat) (z:Int) (i:Nat) (bs:List UInt8) (n cap:Nat) (fz:Nat×Nat) (w:Y) (hs:s.size<=1000000) (hz:(p:Int)+z=(i:Int)) (hi:i<=2000000) (hn:bs.length=n) (hbs:n<=1000) (hR:RA w R s p d):
  Calls Tryz.prog 187 #[.pointer (F ⟨R,0,O⟩),I J z,Z (F ⟨w.heap.size,0,O⟩) n cap] (w.alloc (.cells (bs.map fun c=>Value.int .u8 ((c.toNat:Nat):Int)).toArray 5 fz)) fun e w'=>e=.returned (.bool (DV s.data.toList i bs))/\Below w.heap.size w w':=by
 subst hn;refine(TU R s p d z i bs w.heap.size cap _ hs hz hi hbs (hR.alloc _) (ON w bs fz)).mono ?_;rintro e w' ⟨rfl,hw⟩;subst w';exact⟨rfl,(Bq _ w).alloc Nr _⟩
theorem E3 (R:Nat) (s:ByteArray) (p d:Nat) (z:Int) (i:Nat) (bs:List UInt8) (n cap:Nat) (w:Y) (hs:s.size<=1000000) (hz:(p:Int)+z=(i:Int)) (hi:i<=2000000) (hn:bs.length=n) (hbs:n<=1000) (hR:RA w R s p d):
  Calls Tryz.prog 187 #[.pointer (F ⟨R,0,O⟩),I J z,Z (F ⟨w.heap.size,0,O⟩) n cap] (w.alloc (.cells (bs.map fun c=>Value.int .u8 ((c.toNat:Nat):Int)).toArray 5)) fun e w'=>e=.returned (.bool (DV s.data.toList i bs))/\Below w.heap.size w w':=
 Eg R s p d z i bs n cap (0,0) w hs hz hi hn hbs hR
def Ac (w:Y) (R:Nat) (s:ByteArray) (p d:Nat) (w':Y):Prop:=Below w.heap.size w w'/\RA w' R s p d
theorem Ac.refl {w:Y} {R:Nat} {s:ByteArray} {p d:Nat} (h:RA w R s p d):Ac w R s p d w.drew:=⟨(Bq _ w).drew,h⟩
theorem Ac.step {w:Y} {R:Nat} {s:ByteArray} {p d:Nat} {w1 w2:Y} (h:Ac w R s p d w1) (hb:Below w1.heap.size w1 w2):Ac w R s p d w2:=
 ⟨h.1.trans (hb.mono h.1.size),h.2.below hb⟩
theorem Ac.alloc {w:Y} {R:Nat} {s:ByteArray} {p d:Nat} {w1:Y} (h:Ac w R s p d w1) (o:Obj):Ac w R s p d (w1.alloc o):=h.step ((Bq _ w1).alloc Nr o)
theorem Ac.all {w:Y} {R:Nat} {s:ByteArray} {p d:Nat} {w':Y} (h:Ac w R s p d w'):w'.cell? ⟨R,0,O⟩=F (Q s)/\w'.cell? ⟨R,1,O⟩=F (I J p)/\w'.cell? ⟨R,2,O⟩=F (I J d):=⟨h.2.cells.1,h.2.cells.2.1,h.2.cells.2.2.1⟩
theorem JU (R:Nat) (s:ByteArray) (p d:Nat) (z i:Nat) (w:Y) (hs:s.size<=1000000) (hz:p+z=i) (hi:i<=2000000) (hR:RA w R s p d):
  Calls Tryz.prog 271 #[.pointer (F ⟨R,0,O⟩),I J z] w fun e w'=>e=.returned (.bool (Fv s.data.toList i))/\Below w.heap.size w w':=by
 obtain⟨r0,r1,r2,_⟩:=hR.cells;have hz':(p:Int)+(z:Int)=(i:Int):=by omega
 by_cases hlt:i<s.size
 ·have hV:Fv s.data.toList i=DV s.data.toList i [32]:=by unfold Fv;rw[<- Lib.size_eq,decide_eq_false (by omega)];rfl
  rw[hV];have hd:decide ((s.size:Int)<=(i:Int))=false:=by simp;omega
  have hd2:decide (s.size<=i)=false:=by simp;omega
  have hw:IntKind.i64.wrap (i:Int)=(i:Int):=IntWalk.i64_in _ (by omega);have hH:=Ac.refl hR;go_enter Tryz.func271,Tryz.ntmps271;go_wp2;go_region_held3 (fun w'=>w'.cell? ⟨R,0,O⟩=F (Q s)/\w'.cell? ⟨R,1,O⟩=F (I J p)/\w'.cell? ⟨R,2,O⟩=F (I J d)) (first | exact Ac.all (by assumption) | exact Ac.all (Ac.alloc (by assumption) _)) (first | (go_at_call 187;refine(E3 R s p d z i [32] 1 _ _ hs hz' hi rfl (by omega) (And.right (a:=Below w.heap.size w _) (by assumption))).mono ?_;rintro e wz ⟨rfl,hb⟩;have hz:Ac w R s p d wz:=Ac.step (by assumption) hb));go_wp2;go_ret;exact⟨rfl,hz.1⟩
 ·have hV:Fv s.data.toList i=true:=by unfold Fv;rw[<- Lib.size_eq,decide_eq_true (by omega)];rfl
  rw[hV];have hd:decide ((s.size:Int)<=(i:Int))=true:=by simp;omega
  have hd2:decide (s.size<=i)=true:=by simp;omega
  have hw:IntKind.i64.wrap (i:Int)=(i:Int):=IntWalk.i64_in _ (by omega);have hH:=Ac.refl hR;go_enter Tryz.func271,Tryz.ntmps271;go_wp2;go_quiet (fail);go_wp2;go_ret;exact⟨rfl,below_drewN (Bq _ _)⟩
theorem CJ (R:Nat) (s:ByteArray) (p d:Nat) (w:Y) (hs:s.size<=1000000) (hp:p<=1000000) (hR:RA w R s p d):
  Calls Tryz.prog 188 #[.pointer (F ⟨R,0,O⟩)] w fun e w'=>e=.returned (.bool (CC s.data.toList p))/\Below w.heap.size w w':=by
 have hI1:=fun wx hx=>E3 R s p d 0 p [35] 1 1 wx hs (by omega) (by omega) rfl (by omega) hx;cases h1:DV s.data.toList p [35] with
 | false=>
  rw[h1] at hI1;have HV:=hid (show CC s.data.toList p=false by unfold CC;rw[h1];rfl);clear h1;go_enter Tryz.func188,Tryz.ntmps188;go_wp2_with fail;refine(hI1 _ hR).mono ?_;rintro e w1 ⟨rfl,hb1⟩;clear hI1;go_wp2;go_ret;exact⟨by rw[HV.out];rfl,hb1⟩
 | true=>
  rw[h1] at hI1;by_cases h0:p=0
  ·have HV:=hid (show CC s.data.toList p=true by unfold CC;rw[h1,h0];rfl);subst h0;clear h1;go_enter Tryz.func188,Tryz.ntmps188;go_wp2_with fail;refine(hI1 _ hR).mono ?_;rintro e w1 ⟨rfl,hb1⟩;clear hI1;obtain⟨r0,r1,r2,_⟩:=(hR.below hb1).cells;go_wp2;go_ret;exact⟨by rw[HV.out];rfl,hb1⟩
  ·obtain⟨k,rfl⟩:∃ k,p=k+1:=⟨p - 1,by omega⟩
   have hI2:=fun wx hx=>E3 R s (k+1) d (-1) k [32] 1 1 wx hs (by omega) (by omega) rfl (by omega) hx;have HV:=hid (show CC s.data.toList (k+1)=DV s.data.toList k [32] by unfold CC;rw[h1,show k+1 - 1=k from rfl];simp);have hne:(((k+1:Nat):Int)==0)=false:=by rw[beq_eq_false_iff_ne];omega
   clear h0 h1;obtain⟨q,hq⟩:∃ q,k+1=q:=⟨_,rfl⟩
   rw[hq] at hI1 hI2 HV hR hne hp |-;clear hq;go_enter Tryz.func188,Tryz.ntmps188;go_wp2_with fail;refine(hI1 _ hR).mono ?_;rintro e w1 ⟨rfl,hb1⟩;clear hI1;have hR1:=hR.below hb1;obtain⟨r0,r1,r2,_⟩:=hR1.cells;go_wp2_with fail;refine(hI2 _ hR1).mono ?_;rintro e w2 ⟨rfl,hb2⟩;clear hI2;go_wp2;go_ret;exact⟨by rw[HV.out];rfl,hb1.trans (hb2.mono hb1.size)⟩
theorem Be (R:Nat) (s:ByteArray) (p d:Nat) (z i:Nat) (w:Y) (hs:s.size<=1000000) (hz:p+z=i) (hi:i<=2000000) (hR:RA w R s p d):
  Calls Tryz.prog 269 #[.pointer (F ⟨R,0,O⟩),I J z] w fun e w'=>e=.returned (.bool (Bj s.data.toList i d))/\Below w.heap.size w w':=by
 have hB:=fun wx hx=>JU R s p d z i wx hs hz hi hx;have hI:=fun wx hx=>Eg R s p d z i BL 5 5 (5,6) wx hs (by omega) hi rfl (by omega) hx;have hcv:=fun(w:Y) (C:Array Value) (n c:Nat)=>Lib.run_convert_bytes_const (P:=Tryz.prog) w 71 5 C n c Tryz.underlying71 Tryz.underlying5;cases hb:Fv s.data.toList i with
 | true=>
  rw[hb] at hB;have HV:=hid (show Bj s.data.toList i d=true by unfold Bj;rw[hb];rfl);clear hb hz;go_enter Tryz.func269,Tryz.ntmps269;go_wp2_with fail;refine(hB _ hR).mono ?_;rintro e w1 ⟨rfl,hb1⟩;clear hB hI;go_wp2;go_ret;exact⟨by rw[HV.out];rfl,hb1⟩
 | false=>
  rw[hb] at hB;have HV:=hid (show Bj s.data.toList i d=(decide (0<d)&&DV s.data.toList i BL) by unfold Bj;rw[hb];rfl);clear hb hz;by_cases hd:0<d
  ·have hdi:(0:Int)<(d:Int):=by omega
   rw[show decide (0<d)=true by simpa using hd] at HV;go_enter Tryz.func269,Tryz.ntmps269;go_wp2_with fail;refine(hB _ hR).mono ?_;rintro e w1 ⟨rfl,hb1⟩;clear hB;have hR1:=hR.below hb1;obtain⟨r0,r1,r2,_⟩:=hR1.cells;go_wp2_with fail;refine(hI _ hR1).mono ?_;rintro e w2 ⟨rfl,hb2⟩;clear hI;go_wp2;go_ret;exact⟨by rw[HV.out];rfl,hb1.trans (hb2.mono hb1.size)⟩
  ·have hdi:¬(0:Int)<(d:Int):=by omega
   rw[show decide (0<d)=false by simpa using hd] at HV;go_enter Tryz.func269,Tryz.ntmps269;go_wp2_with fail;refine(hB _ hR).mono ?_;rintro e w1 ⟨rfl,hb1⟩;clear hB hI;obtain⟨r0,r1,r2,_⟩:=(hR.below hb1).cells;go_wp2;go_ret;exact⟨by rw[HV.out];rfl,hb1⟩
end
section
theorem Xf (c d:UInt8):Av [d] c=((c.toNat:Int)==(d.toNat:Int)):=by
 rw[Pm];unfold Av;rw[Bool.eq_iff_iff];simp
theorem Acz {s:ByteArray} {i:Nat} (hlt:i<s.size) {c:UInt8} (hc:s[i]'hlt=c) (d:UInt8):DV s.data.toList i [d]=((c.toNat:Int)==(d.toNat:Int)):=by
 unfold DV;rw[Cq s i hlt,<- Lib.size_eq,hc,Xf];simp[hlt]
theorem Ws {p:UInt8->Bool} {l:List UInt8} {k:Nat} (h:k<l.length):(l.take (k+1)).all p=((l.take k).all p&&p (l.getD k 0)):=by
 rw[List.take_succ_eq_append_getElem h,List.all_append];simp[List.getD,List.getElem?_eq_getElem h]
theorem S7 {p:UInt8->Bool} {l:List UInt8} {k:Nat} (h:k<l.length) (hz:p (l.getD k 0)=false):l.all p=false:=by
 rw[List.all_eq_false];refine⟨l[k],List.getElem_mem h,?_⟩;simpa[List.getD,List.getElem?_eq_getElem h] using hz
def BQ (t:Tk):List Value:=[I J t.kind,Q ⟨t.str.toArray⟩,I J t.at_]
def BG (t:Tk):Value:=.agg #[I J t.kind,Q ⟨t.str.toArray⟩,I J t.at_]
def FP (w:Y) (v:Value) (ts:List Tk):Prop:=
 ∃ (A:Option Addr) (cap:Nat),v=Z A ts.length cap/\∀ k,k<ts.length->∃ (b o:Nat),A=F ⟨b,o,O⟩/\b<w.heap.size∧
  w.cell? ⟨b,o+k*3,O⟩=F (I J (ts.getD k ⟨0,[],0⟩).kind)/\w.cell? ⟨b,o+k*3+1,O⟩=F (Q ⟨(ts.getD k ⟨0,[],0⟩).str.toArray⟩)/\w.cell? ⟨b,o+k*3+2,O⟩=F (I J (ts.getD k ⟨0,[],0⟩).at_)
theorem FP.nil (w:Y):FP w (Z O 0 0) []:=⟨O,0,rfl,fun k h=>by simp at h⟩
theorem FP.below {w w':Y} {v:Value} {ts:List Tk} (h:FP w v ts) (hb:Below w.heap.size w w'):FP w' v ts:=by
 obtain⟨A,cap,hv,hc⟩:=h;refine⟨A,cap,hv,fun k hk=>?_⟩;obtain⟨b,o,ha,hlt,h0,h1,h2⟩:=hc k hk;exact⟨b,o,ha,Nat.lt_of_lt_of_le hlt hb.size,(hb.cell (p:=⟨b,o+k*3,O⟩) hlt).trans h0,(hb.cell (p:=⟨b,o+k*3+1,O⟩) hlt).trans h1,(hb.cell (p:=⟨b,o+k*3+2,O⟩) hlt).trans h2⟩
end
section
set_option maxRecDepth 100000
set_option maxHeartbeats 2000000
def BC (R:Nat) (w w':Y):Prop:=Ah (fun k=>k=R) w.heap.size w w'
def A5 (R:Nat) (s:ByteArray) (p:Nat) (r:TR) (w:Y) (e:Ending) (w':Y):Prop:=
 match r with
 | .ok k t q d'=>e=.returned (.tuple #[BG ⟨k,t,p⟩,.nilIface])/\RA w' R s q d'/\BC R w w'
 | .bad er=>e=.returned (.tuple #[BG ⟨0,[],0⟩,.iface 325 (.agg #[I J er])])/\BC R w w'
theorem A5.ok {R:Nat} {s:ByteArray} {p:Nat} {r:TR} {w:Y} {e:Ending} {w':Y} {k q d':Nat} {t:List UInt8} (hr:r=.ok k t q d') (he:e=.returned (.tuple #[BG ⟨k,t,p⟩,.nilIface])) (h1:RA w' R s q d') (h2:BC R w w'):A5 R s p r w e w':=by
 subst hr;exact⟨he,h1,h2⟩
theorem A5.bad {R:Nat} {s:ByteArray} {p:Nat} {r:TR} {w:Y} {e:Ending} {w':Y} {er:Nat} (hr:r=.bad er) (he:e=.returned (.tuple #[BG ⟨0,[],0⟩,.iface 325 (.agg #[I J er])])) (h2:BC R w w'):A5 R s p r w e w':=by
 subst hr;exact⟨he,h2⟩
theorem RA.set1 {w:Y} {R:Nat} {s:ByteArray} {p d:Nat} (h:RA w R s p d) (p':Nat):RA (w.setCell ⟨R,1,O⟩ (I J p')) R s p' d:=heap_setCell_same w R 1 _ _ _ h
theorem RA.set2 {w:Y} {R:Nat} {s:ByteArray} {p d:Nat} (h:RA w R s p d) (d':Nat):RA (w.setCell ⟨R,2,O⟩ (I J d')) R s p d':=heap_setCell_same w R 2 _ _ _ h
theorem BC.below {R:Nat} {w w1 w2:Y} (h:BC R w w1) (hb:Below w1.heap.size w1 w2):BC R w w2:=h.trans (Ah.of_below hb)
theorem BC.of_below {R:Nat} {w w1:Y} (hb:Below w.heap.size w w1):BC R w w1:=Ah.of_below hb
theorem BC.alloc {R:Nat} {w w1:Y} (h:BC R w w1) (o:Obj):BC R w (w1.alloc o):=h.trans (Ah.alloc _ _)
theorem BC.set {R:Nat} {w w1:Y} (h:BC R w w1) (o:Nat) (v:Value):BC R w (w1.setCell ⟨R,o,O⟩ v):=h.trans (Ah.setCell _ _ _ rfl)
theorem BC.refl (R:Nat) (w:Y):BC R w w:=Ah.refl _ _ _
theorem BC.trans {R:Nat} {w w1 w2:Y} (h:BC R w w1) (k:BC R w1 w2):BC R w w2:=Ah.trans h (k.mono h.size)
theorem BC.size {R:Nat} {w w1:Y} (h:BC R w w1):w.heap.size<=w1.heap.size:=Ah.size h
theorem BC.put {R:Nat} {w w1:Y} (h:BC R w w1) {a:Addr} (ha:w.heap.size<=a.block) (v:Value):BC R w (w1.setCell a v):=
 ⟨h.os,h.tape,h.output,by simpa[World.setCell] using Ah.size h,fun k o hk hc _=>(Bh w1 a v k (fun e=>by have:=(Gl hk);omega)).trans (h.block k o hk hc (.inl (Gl hk))),fun k c e fz hk=>by
  obtain⟨c',fz',h2⟩:=h.kinds k c e fz hk;exact⟨c',fz',(Bh w1 a v k (fun e=>by have:=(Gl hk);omega)).trans h2⟩⟩
theorem BC.heap {R:Nat} {w w1:Y} (h:BC R w w1) {k:Nat} {o:Obj} (hk:w.heap[k]? =F o) (hne:k≠R):w1.heap[k]? =F o:=h.block k o hk hne (.inl (Gl hk))
theorem I0 (R:Nat) (s:ByteArray) (p d k:Nat) (w:Y) (hp:p<=1000000) (hR:RA w R s p d):
  Calls Tryz.prog 272 #[.pointer (F ⟨R,0,O⟩),I J k] w fun e w'=>e=.returned (.tuple #[BG ⟨k,[],p⟩,.nilIface])/\RA w' R s (p+1) d/\BC R w w':=by
 obtain⟨r0,r1,r2,f0,f1,f2⟩:=hR.cells;have hlt:=hR.lt;go_enter Tryz.func272,Tryz.ntmps272;go_wp2;refine bodyPost_ret (v:=.tuple #[BG ⟨k,[],p⟩,.nilIface]) (by simp[results,Tryz.results272,go_sem,BG]) rfl ⟨rfl,((hR.set1 (p+1)).alloc _).alloc _,(((BC.refl R w).set 1 _).alloc _).alloc _⟩
structure Sx (w:Y) (R:Nat) (s:ByteArray) (p d:Nat) (w':Y):Prop where
 ra:RA w' R s p d
 md:BC R w w'
 res:w'.heap[w.heap.size]? =F (.cells #[I J 0,Q ⟨#[]⟩,I J 0] 287)
theorem Sx.below {w:Y} {R:Nat} {s:ByteArray} {p d:Nat} {w1 w2:Y} (h:Sx w R s p d w1) (hb:Below w1.heap.size w1 w2):Sx w R s p d w2:=⟨h.ra.below hb,h.md.below hb,Ay h.res hb⟩
theorem Sx.mod {w:Y} {R:Nat} {s:ByteArray} {p d p' d':Nat} {w1 w2:Y} (h:Sx w R s p d w1) (hlt:R<w.heap.size) (hr:RA w2 R s p' d') (hm:BC R w1 w2):Sx w R s p' d' w2:=⟨hr,h.md.trans hm,hm.heap h.res (by omega)⟩
theorem Sx.new {w:Y} {R:Nat} {s:ByteArray} {p d:Nat} (h:RA w R s p d):Sx w R s p d (w.alloc (.cells #[I J 0,Q ⟨#[]⟩,I J 0] 287)):=⟨h.alloc _,(BC.refl R w).alloc _,Wn _ _⟩
theorem RA.far {w:Y} {R:Nat} {s:ByteArray} {p d:Nat} (h:RA w R s p d) {a:Addr} (hne:R≠a.block) (v:Value):RA (w.setCell a v) R s p d:=(Bh w a v R hne).trans h
theorem Sx.alloc {w:Y} {R:Nat} {s:ByteArray} {p d:Nat} {w1:Y} (h:Sx w R s p d w1) (o:Obj):Sx w R s p d (w1.alloc o):=h.below ((Bq _ w1).alloc Nr o)
theorem Sx.cells {w:Y} {R:Nat} {s:ByteArray} {p d:Nat} {w1:Y} (h:Sx w R s p d w1):w1.cell? ⟨w.heap.size,0,O⟩=F (I J 0)/\w1.cell? ⟨w.heap.size,1,O⟩=F (Q ⟨#[]⟩)/\w1.cell? ⟨w.heap.size,2,O⟩=F (I J 0)/\w1.frozen? ⟨w.heap.size,0,O⟩=false/\w1.frozen? ⟨w.heap.size,1,O⟩=false/\w1.frozen? ⟨w.heap.size,2,O⟩=false:=DU h.res
theorem Sx.fin {w:Y} {R:Nat} {s:ByteArray} {p d:Nat} {w1:Y} (h:Sx w R s p d w1) (hlt:R<w.heap.size) (v0 v1 v2:Value):
  (((w1.setCell ⟨w.heap.size,0,O⟩ v0).setCell ⟨w.heap.size,1,O⟩ v1).setCell ⟨w.heap.size,2,O⟩ v2).cell? ⟨w.heap.size,0,O⟩=F v0∧
  (((w1.setCell ⟨w.heap.size,0,O⟩ v0).setCell ⟨w.heap.size,1,O⟩ v1).setCell ⟨w.heap.size,2,O⟩ v2).cell? ⟨w.heap.size,1,O⟩=F v1∧
  (((w1.setCell ⟨w.heap.size,0,O⟩ v0).setCell ⟨w.heap.size,1,O⟩ v1).setCell ⟨w.heap.size,2,O⟩ v2).cell? ⟨w.heap.size,2,O⟩=F v2∧
  RA (((w1.setCell ⟨w.heap.size,0,O⟩ v0).setCell ⟨w.heap.size,1,O⟩ v1).setCell ⟨w.heap.size,2,O⟩ v2) R s p d/\BC R w (((w1.setCell ⟨w.heap.size,0,O⟩ v0).setCell ⟨w.heap.size,1,O⟩ v1).setCell ⟨w.heap.size,2,O⟩ v2):=by
 have h0:=heap_setCell_same w1 w.heap.size 0 _ _ v0 h.res;have h1:=heap_setCell_same _ w.heap.size 1 _ _ v1 h0;have h2:=heap_setCell_same _ w.heap.size 2 _ _ v2 h1;have h3:(((w1.setCell ⟨w.heap.size,0,O⟩ v0).setCell ⟨w.heap.size,1,O⟩ v1).setCell ⟨w.heap.size,2,O⟩ v2).heap[w.heap.size]? =F (.cells #[v0,v1,v2] 287):=h2;obtain⟨c0,c1,c2,_⟩:=DU h3;exact⟨c0,c1,c2,((h.ra.far (a:=⟨w.heap.size,0,O⟩) (Nat.ne_of_lt hlt) v0).far (a:=⟨w.heap.size,1,O⟩) (Nat.ne_of_lt hlt) v1).far (a:=⟨w.heap.size,2,O⟩) (Nat.ne_of_lt hlt) v2,((h.md.put (a:=⟨w.heap.size,0,O⟩) Nr v0).put (a:=⟨w.heap.size,1,O⟩) Nr v1).put (a:=⟨w.heap.size,2,O⟩) Nr v2⟩
theorem Yv (N:Nat) (R:Nat) (s:ByteArray) (p d:Nat) (z:Int) (i:Nat) (bs:List UInt8) (n cap:Nat) (fz:Nat×Nat) (w:Y) (hN:w.heap.size=N) (hs:s.size<=1000000) (hz:(p:Int)+z=(i:Int)) (hi:i<=2000000) (hn:bs.length=n) (hbs:n<=1000) (hR:RA w R s p d):
  Calls Tryz.prog 187 #[.pointer (F ⟨R,0,O⟩),I J z,Z (F ⟨N,0,O⟩) n cap] (w.alloc (.cells (bs.map fun c=>Value.int .u8 ((c.toNat:Nat):Int)).toArray 5 fz)) fun e w'=>e=.returned (.bool (DV s.data.toList i bs))/\Below w.heap.size w w':=by
 subst hN;exact Eg R s p d z i bs n cap fz w hs hz hi hn hbs hR
theorem Sx.set2 {w:Y} {R:Nat} {s:ByteArray} {p d:Nat} {w1:Y} (h:Sx w R s p d w1) (hlt:R<w.heap.size) (d':Nat):Sx w R s p d' (w1.setCell ⟨R,2,O⟩ (I J d')):=
 ⟨h.ra.set2 d',h.md.set 2 _,(Bh w1 ⟨R,2,O⟩ _ _ (by simp;omega)).trans h.res⟩
theorem Sx.set1 {w:Y} {R:Nat} {s:ByteArray} {p d:Nat} {w1:Y} (h:Sx w R s p d w1) (hlt:R<w.heap.size) (p':Nat):Sx w R s p' d (w1.setCell ⟨R,1,O⟩ (I J p')):=
 ⟨h.ra.set1 p',h.md.set 1 _,(Bh w1 ⟨R,1,O⟩ _ _ (by simp;omega)).trans h.res⟩
theorem Wq (R:Nat) (s:ByteArray) (p d:Nat) (w:Y) (hs:s.size<=1000000) (hp:p<s.size) (hd:d<=1000000) (hR:RA w R s p d) (c:UInt8) (hc:s[p]'hp=c):
  Calls Tryz.prog 254 #[.pointer (F ⟨R,0,O⟩)] w (A5 R s p (.ok (if c=91 then 8 else 10) [] (p+1) (d+1)) w):=by
 have HB:=hid (show DV s.data.toList p [91]=(c==91) by rw[Acz hp hc,Pm]);clear hc;obtain⟨kk,hkk⟩:∃ kk,(if c=91 then 8 else 10)=kk:=⟨_,rfl⟩
 rw[hkk];have HK:=hid hkk;clear hkk;have hlt:=hR.lt;obtain⟨r0,r1,r2,f0,f1,f2⟩:=hR.cells;have hI:=fun wx hn hx=>Yv (w.heap.size+1) R s p (d+1) 0 p [91] 1 1 (0,0) wx hn hs (by omega) (by omega) rfl (by omega) hx;rw[HB.out] at hI;have hK:=fun wx hx k=>I0 R s p (d+1) k wx (by omega) hx;have hS1:Sx w R s p (d+1) ((w.setCell ⟨R,2,O⟩ (I J ((d:Int)+1))).alloc (.cells #[I J 0,Q ⟨#[]⟩,I J 0] 287)):=by
  have h:=Sx.new (hR.set2 (d+1));exact⟨h.ra,((BC.refl R w).set 2 _).alloc _,by have:=h.res;simpa[World.setCell] using this⟩
 go_enter Tryz.func254,Tryz.ntmps254;go_wp2_with fail;refine(hI _ (by simp[World.setCell]) hS1.ra).mono ?_;rintro e w1 ⟨rfl,hb1⟩;have hS2:=hS1.below hb1;clear hI hS1 hb1 r0 r1 r2 f0 f1 f2;by_cases h91:c=91
 ·have HP:=hid (show kk=8 by rw[<- HK.out,if_pos h91]);have hq:(c==91)=true:=by simpa using h91
  clear h91 HB HK;go_wp2_with fail;refine(hK _ hS2.ra 8).mono ?_;rintro e w2 ⟨rfl,hr2,hm2⟩;have hS3:=hS2.mod hlt hr2 hm2;clear hK hS2 hr2 hm2;obtain⟨n0,n1,n2,g0,g1,g2⟩:=hS3.cells;unfold BG;go_wp2;obtain⟨e0,e1,e2,e3,e4⟩:=hS3.fin hlt (I J 8) (Q ⟨#[]⟩) (I J p);refine bodyPost_ret (v:=.tuple #[BG ⟨8,[],p⟩,.nilIface]) (by simp[results,Tryz.results254,go_sem,BG,e0,e1,e2]) rfl (A5.ok (by rw[HP.out]) rfl e3 e4)
 ·have HP:=hid (show kk=10 by rw[<- HK.out,if_neg h91]);have hq:(c==91)=false:=by simpa using h91
  clear h91 HB HK;go_wp2_with fail;refine(hK _ hS2.ra 10).mono ?_;rintro e w2 ⟨rfl,hr2,hm2⟩;have hS3:=hS2.mod hlt hr2 hm2;clear hK hS2 hr2 hm2;obtain⟨n0,n1,n2,g0,g1,g2⟩:=hS3.cells;unfold BG;go_wp2;obtain⟨e0,e1,e2,e3,e4⟩:=hS3.fin hlt (I J 10) (Q ⟨#[]⟩) (I J p);refine bodyPost_ret (v:=.tuple #[BG ⟨10,[],p⟩,.nilIface]) (by simp[results,Tryz.results254,go_sem,BG,e0,e1,e2]) rfl (A5.ok (by rw[HP.out]) rfl e3 e4)
def K1 (r:Int):Value:=.int .u8 r
def OX:List (Int×Value):=[(44,I J 7),(93,I J 9),(125,I J 11)]
def DS (k:Nat):Obj:=AZ K1 (OX.take k)
theorem US (a b:Int):Instr.sameNow (.int .u8) (K1 a) (K1 b)=F (a==b):=rfl
theorem OV (a:Int):MapKept.IsKey (.int .u8) (K1 a):=by unfold K1;simp[MapKept.IsKey]
theorem Hv (w:Y) (k:Nat) (a:Int) (v:Value) (h:AN a (OX.take k)=O) (hk:OX.take (k+1)=OX.take k++[(a,v)]):
  (Instr.mapUpdate 414 (.map (F w.heap.size)) (.int .u8 a) v).run Tryz.prog (w.alloc (DS k))=.ok () (w.alloc (DS (k+1))):=by
 unfold DS;rw[hk];have:=Ed (P:=Tryz.prog) (enc:=K1) US OV (t:=414) (k:=5) (e:=3) (w:=w.alloc (AZ K1 (OX.take k))) (l:=OX.take k) Tryz.underlying414 Tryz.underlying5 (Wn w _) a v h;rw[Fq] at this;exact this
theorem Abj (c:Int) (w:Y) (b:Nat) (hb:w.heap[b]? =F (DS 3)):
  (Instr.lookup 414 (.map (F b)) (.int .u8 c) false).run Tryz.prog w=.ok ((AN c OX).getD (I J 0)) w:=
 CE (P:=Tryz.prog) (enc:=K1) US OV (k:=5) (e:=3) (l:=OX) (z:=I J 0) Tryz.underlying414 Tryz.underlying5 (by kernel_rfl) hb c false
theorem SJ (R:Nat) (s:ByteArray) (p d:Nat) (w:Y) (hs:s.size<=1000000) (hp:p<s.size) (hd:d<=1000000) (hR:RA w R s p d) (c:UInt8) (hc:s[p]'hp=c) (hcc:c=44\/c=93\/c=125):
  Calls Tryz.prog 255 #[.pointer (F ⟨R,0,O⟩)] w (A5 R s p (CT c p d) w):=by
 obtain⟨k,hk,HQ⟩:∃ k:Nat,AN (c.toNat:Int) OX=F (I J k)/\Hid (0<d->CT c p d=.ok k [] (p+1) (if k=7 then d else d - 1)):=by
  rcases hcc with rfl | rfl | rfl
  ·exact⟨7,rfl,hid fun hd=>by unfold CT;rw[if_neg (by omega),if_pos rfl];rfl⟩
  ·exact⟨9,rfl,hid fun hd=>by unfold CT;rw[if_neg (by omega),if_neg (by decide)];rfl⟩
  ·exact⟨11,rfl,hid fun hd=>by unfold CT;rw[if_neg (by omega),if_neg (by decide)];rfl⟩
 have HZ:=hid (show d=0->CT c p d=.bad 90 from fun h=>by unfold CT;rw[if_pos h]);clear hcc;obtain⟨r,hr⟩:∃ r,CT c p d=r:=⟨_,rfl⟩
 rw[hr] at HQ HZ |-;clear hr;have hlt:=hR.lt;have hmm:=@run_makeMap Tryz.prog;have h0:=Hv (w.alloc (.cells #[I J 0,Q ⟨#[]⟩,I J 0] 287)) 0 44 (I J 7) rfl rfl;have h1:=Hv (w.alloc (.cells #[I J 0,Q ⟨#[]⟩,I J 0] 287)) 1 93 (I J 9) (by decide+kernel) rfl;have h2:=Hv (w.alloc (.cells #[I J 0,Q ⟨#[]⟩,I J 0] 287)) 2 125 (I J 11) (by decide+kernel) rfl;rw[World.size_alloc,show DS 0=.map #[] 0 from rfl] at h0;rw[World.size_alloc] at h1 h2;obtain⟨r0,r1,r2,f0,f1,f2⟩:=hR.cells;have hlk:∀ n,(Instr.lookup 414 (.map (F (w.heap.size+1))) (.int .u8 (c.toNat:Int)) false).run Tryz.prog (((w.alloc (.cells #[I J 0,Q ⟨#[]⟩,I J 0] 287)).alloc (DS 3)).drewN n)=.ok (I J k) (((w.alloc (.cells #[I J 0,Q ⟨#[]⟩,I J 0] 287)).alloc (DS 3)).drewN n):=fun n=>by
  have h:=Abj (c.toNat:Int) (((w.alloc (.cells #[I J 0,Q ⟨#[]⟩,I J 0] 287)).alloc (DS 3)).drewN n) (w.heap.size+1) (by have:=Wn (w.alloc (.cells #[I J 0,Q ⟨#[]⟩,I J 0] 287)) (DS 3);simpa using this);rw[hk] at h;exact h
 have hS1:Sx w R s p d ((w.alloc (.cells #[I J 0,Q ⟨#[]⟩,I J 0] 287)).alloc (DS 3)):=(Sx.new hR).alloc _;have HK:=hid hk;clear hk;have hpi:(p:Int)<(s.size:Int):=by omega
 have hK:=fun wx dx hx=>I0 R s p dx k wx (by omega) hx;go_enter Tryz.func255,Tryz.ntmps255;go_wp2;go_quiet (fail);have hS2:Sx w R s p d (((w.alloc (.cells #[I J 0,Q ⟨#[]⟩,I J 0] 287)).alloc (DS 3)).drewN nq):=hS1.below (below_drewN (Bq _ _));clear hS1 h0 h1 h2 hmm hlk r0 r1 r2 f0 f1 f2;revert hS2;generalize ((w.alloc (.cells #[I J 0,Q ⟨#[]⟩,I J 0] 287)).alloc (DS 3)).drewN nq=W1;intro hS2;by_cases hd0:d=0
 ·subst hd0;obtain⟨r0,r1,r2,f0,f1,f2⟩:=hS2.ra.cells;obtain⟨n0,n1,n2,g0,g1,g2⟩:=hS2.cells;go_wp2;obtain⟨e0,e1,e2,e3,e4⟩:=hS2.fin hlt (I J 0) (Q ⟨#[]⟩) (I J 0);refine bodyPost_ret (v:=.tuple #[BG ⟨0,[],0⟩,.iface 325 (.agg #[I J 90])]) (by simp[results,Tryz.results255,go_sem,BG,e0,e1,e2]) rfl (A5.bad (HZ.out (by first | rfl | trivial)) rfl e4)
 ·obtain⟨d1,rfl⟩:∃ d1,d=d1+1:=⟨d - 1,by omega⟩
  have hde:(((d1+1:Nat):Int)==0)=false:=by rw[beq_eq_false_iff_ne];omega
  obtain⟨r0,r1,r2,f0,f1,f2⟩:=hS2.ra.cells;by_cases hk7:k=7
  ·subst hk7;go_wp2_with fail;refine(hK _ _ hS2.ra).mono ?_;rintro e w2 ⟨rfl,hr2,hm2⟩;have hS3:=hS2.mod hlt hr2 hm2;clear hK hS2 hr2 hm2 r0 r1 r2 f0 f1 f2;obtain⟨n0,n1,n2,g0,g1,g2⟩:=hS3.cells;unfold BG;go_wp2;obtain⟨e0,e1,e2,e3,e4⟩:=hS3.fin hlt (I J 7) (Q ⟨#[]⟩) (I J p);refine bodyPost_ret (v:=.tuple #[BG ⟨7,[],p⟩,.nilIface]) (by simp[results,Tryz.results255,go_sem,BG,e0,e1,e2]) rfl (A5.ok (HQ.out (by omega)) rfl e3 e4)
  ·have hkn:((k:Int)==7)=false:=by rw[beq_eq_false_iff_ne];omega
   have HK7:=hid hk7;clear hk7;have hS2b:=hS2.set2 hlt d1;go_wp2_with fail;refine(hK _ _ hS2b.ra).mono ?_;rintro e w2 ⟨rfl,hr2,hm2⟩;have hS3:=hS2b.mod hlt hr2 hm2;clear hK hS2 hS2b hr2 hm2 r0 r1 r2 f0 f1 f2;obtain⟨n0,n1,n2,g0,g1,g2⟩:=hS3.cells;unfold BG;go_wp2;obtain⟨e0,e1,e2,e3,e4⟩:=hS3.fin hlt (I J k) (Q ⟨#[]⟩) (I J p);refine bodyPost_ret (v:=.tuple #[BG ⟨k,[],p⟩,.nilIface]) (by simp[results,Tryz.results255,go_sem,BG,e0,e1,e2]) rfl (A5.ok ((HQ.out (by omega)).trans (by rw[if_neg HK7.out];rfl)) rfl e3 e4)
end
section
set_option maxRecDepth 100000
set_option maxHeartbeats 4000000
theorem Ac.ra {w:Y} {R:Nat} {s:ByteArray} {p d:Nat} {w':Y} (h:Ac w R s p d w'):RA w' R s p d:=h.2
theorem Ae6 (R:Nat) (s:ByteArray) (p d:Nat) (w:Y) (hs:s.size<=1000000) (hlt:p<s.size) (hR:RA w R s p d) (hn:CC s.data.toList p=true):
  Calls Tryz.prog 256 #[.pointer (F ⟨R,0,O⟩)] w fun e w'=>e=.returned (.bool true)/\Below w.heap.size w w':=by
 have hN:=fun wx hx=>CJ R s p d wx hs (by omega) hx;have hC:=fun wx hx=>Be R s p d 1 (p+1) wx hs rfl (by omega) hx;have hI:=fun wx hx=>E3 R s p d 0 p [58] 1 1 wx hs (by omega) (by omega) rfl (by omega) hx;have hF:=fun wx hx=>Eg R s p d 0 p BL 5 5 (5,6) wx hs (by omega) (by omega) rfl (by omega) hx;have hcv:=fun(w:Y) (C:Array Value) (n c:Nat)=>Lib.run_convert_bytes_const (P:=Tryz.prog) w 71 5 C n c Tryz.underlying71 Tryz.underlying5;have hd1:decide ((s.size:Int)<=(p:Int))=false:=by simp;omega
 have hd2:decide (s.size<=p)=false:=by simp;omega
 rw[hn] at hN;clear hn;have hH:=Ac.refl hR;obtain⟨FF,hFF⟩:∃ FF,DV s.data.toList p BL=FF:=⟨_,rfl⟩
 rw[hFF] at hF;clear hFF hlt;go_enter Tryz.func256,Tryz.ntmps256;go_wp2;refine wp_region_noPanic ?_;refine wR 45 (S:=(fun w'=>w'.cell? ⟨R,0,O⟩=F (Q s)/\w'.cell? ⟨R,1,O⟩=F (I J p)/\w'.cell? ⟨R,2,O⟩=F (I J d))) rfl ?_ (fun hHeld=>?_)
 ·(try dsimp only);first | exact Ac.all hH | exact Ac.all (Ac.alloc hH _)
 simp only[gR]
 iterate 16 (refine wN hHeld ?_;try simp only[gS])
 refine wB 16 rfl (fun K hK=>?_);go_simp;refine(hN _ hH.ra).mono ?_;rintro e wz ⟨rfl,hb⟩;replace hH:=Ac.step hH hb;try go_wp2_with fail
 refine hK.out _ _ ?_ (fun hHeld2=>?_)
 ·(try dsimp only);first | exact Ac.all hH | exact Ac.all (Ac.alloc hH _)
 clear hK K hHeld;have hHeld:=hHeld2;clear hHeld2;try simp only[gS]
 iterate 2 (refine wN hHeld ?_;try simp only[gS])
 refine wU 19 rfl (by rfl) hHeld ?_;try simp only[gS]
 refine wU 20 rfl (by rfl) hHeld ?_;try simp only[gS]
 refine wU 21 rfl (by rfl) hHeld ?_;try simp only[gS]
 refine wU 22 rfl (by rfl) hHeld ?_;try simp only[gS]
 refine wU 23 rfl (by rfl) hHeld ?_;try simp only[gS]
 refine wU 24 rfl (by rfl) hHeld ?_;try simp only[gS]
 refine wU 25 rfl (by rfl) hHeld ?_;try simp only[gS]
 refine wU 26 rfl (by rfl) hHeld ?_;try simp only[gS]
 refine wU 27 rfl (by rfl) hHeld ?_;try simp only[gS]
 iterate 2 (refine wN hHeld ?_;try simp only[gS])
 refine wU 30 rfl (by rfl) hHeld ?_;try simp only[gS]
 refine wU 31 rfl (by rfl) hHeld ?_;try simp only[gS]
 refine wU 32 rfl (by rfl) hHeld ?_;try simp only[gS]
 refine wU 33 rfl (by rfl) hHeld ?_;try simp only[gS]
 refine wU 34 rfl (by rfl) hHeld ?_;try simp only[gS]
 refine wU 35 rfl (by rfl) hHeld ?_;try simp only[gS]
 refine wU 36 rfl (by rfl) hHeld ?_;try simp only[gS]
 refine wU 37 rfl (by rfl) hHeld ?_;try simp only[gS]
 refine wU 38 rfl (by rfl) hHeld ?_;try simp only[gS]
 refine wU 39 rfl (by rfl) hHeld ?_;try simp only[gS]
 refine wU 40 rfl (by rfl) hHeld ?_;try simp only[gS]
 refine wU 41 rfl (by rfl) hHeld ?_;try simp only[gS]
 refine wU 42 rfl (by rfl) hHeld ?_;try simp only[gS]
 iterate 2 (refine wN hHeld ?_;try simp only[gS])
 refine wpAnyH_done (by kernel_rfl) ?_ _;refine NoPanic.normal ?_;go_wp2;go_ret;exact⟨rfl,hH.1⟩
end
section
set_option maxRecDepth 100000
set_option maxHeartbeats 4000000
theorem Y6 (R:Nat) (s:ByteArray) (p d:Nat) (w:Y) (hs:s.size<=1000000) (hlt:p<s.size) (hR:RA w R s p d) (hn:CC s.data.toList p=false) (hi:DV s.data.toList p [58]=true) (hc:Bj s.data.toList (p+1) d=true):
  Calls Tryz.prog 256 #[.pointer (F ⟨R,0,O⟩)] w fun e w'=>e=.returned (.bool true)/\Below w.heap.size w w':=by
 have hN:=fun wx hx=>CJ R s p d wx hs (by omega) hx;have hC:=fun wx hx=>Be R s p d 1 (p+1) wx hs rfl (by omega) hx;have hI:=fun wx hx=>E3 R s p d 0 p [58] 1 1 wx hs (by omega) (by omega) rfl (by omega) hx;have hF:=fun wx hx=>Eg R s p d 0 p BL 5 5 (5,6) wx hs (by omega) (by omega) rfl (by omega) hx;have hcv:=fun(w:Y) (C:Array Value) (n c:Nat)=>Lib.run_convert_bytes_const (P:=Tryz.prog) w 71 5 C n c Tryz.underlying71 Tryz.underlying5;have hd1:decide ((s.size:Int)<=(p:Int))=false:=by simp;omega
 have hd2:decide (s.size<=p)=false:=by simp;omega
 rw[hn] at hN;rw[hi] at hI;rw[hc] at hC;clear hn hi hc;have hH:=Ac.refl hR;obtain⟨FF,hFF⟩:∃ FF,DV s.data.toList p BL=FF:=⟨_,rfl⟩
 rw[hFF] at hF;clear hFF hlt;go_enter Tryz.func256,Tryz.ntmps256;go_wp2;refine wp_region_noPanic ?_;refine wR 45 (S:=(fun w'=>w'.cell? ⟨R,0,O⟩=F (Q s)/\w'.cell? ⟨R,1,O⟩=F (I J p)/\w'.cell? ⟨R,2,O⟩=F (I J d))) rfl ?_ (fun hHeld=>?_)
 ·(try dsimp only);first | exact Ac.all hH | exact Ac.all (Ac.alloc hH _)
 simp only[gR]
 iterate 16 (refine wN hHeld ?_;try simp only[gS])
 refine wB 16 rfl (fun K hK=>?_);go_simp;refine(hN _ hH.ra).mono ?_;rintro e wz ⟨rfl,hb⟩;replace hH:=Ac.step hH hb;try go_wp2_with fail
 refine hK.out _ _ ?_ (fun hHeld2=>?_)
 ·(try dsimp only);first | exact Ac.all hH | exact Ac.all (Ac.alloc hH _)
 clear hK K hHeld;have hHeld:=hHeld2;clear hHeld2;try simp only[gS]
 iterate 5 (refine wN hHeld ?_;try simp only[gS])
 refine wB 22 rfl (fun K hK=>?_);go_simp;refine hK.out _ _ ?_ (fun hHeld2=>?_)
 ·(try dsimp only);first | exact Ac.all hH | exact Ac.all (Ac.alloc hH _)
 clear hK K hHeld;have hHeld:=hHeld2;clear hHeld2;try simp only[gS]
 refine wB 23 rfl (fun K hK=>?_);go_simp;refine(hI _ hH.ra).mono ?_;rintro e wz ⟨rfl,hb⟩;replace hH:=Ac.step hH hb;try go_wp2_with fail
 refine hK.out _ _ ?_ (fun hHeld2=>?_)
 ·(try dsimp only);first | exact Ac.all hH | exact Ac.all (Ac.alloc hH _)
 clear hK K hHeld;have hHeld:=hHeld2;clear hHeld2;try simp only[gS]
 iterate 2 (refine wN hHeld ?_;try simp only[gS])
 refine wB 26 rfl (fun K hK=>?_);go_simp;refine(hC _ hH.ra).mono ?_;rintro e wz ⟨rfl,hb⟩;replace hH:=Ac.step hH hb;try go_wp2_with fail
 refine hK.out _ _ ?_ (fun hHeld2=>?_)
 ·(try dsimp only);first | exact Ac.all hH | exact Ac.all (Ac.alloc hH _)
 clear hK K hHeld;have hHeld:=hHeld2;clear hHeld2;try simp only[gS]
 iterate 3 (refine wN hHeld ?_;try simp only[gS])
 refine wU 30 rfl (by rfl) hHeld ?_;try simp only[gS]
 refine wU 31 rfl (by rfl) hHeld ?_;try simp only[gS]
 refine wU 32 rfl (by rfl) hHeld ?_;try simp only[gS]
 refine wU 33 rfl (by rfl) hHeld ?_;try simp only[gS]
 refine wU 34 rfl (by rfl) hHeld ?_;try simp only[gS]
 refine wU 35 rfl (by rfl) hHeld ?_;try simp only[gS]
 refine wU 36 rfl (by rfl) hHeld ?_;try simp only[gS]
 refine wU 37 rfl (by rfl) hHeld ?_;try simp only[gS]
 refine wU 38 rfl (by rfl) hHeld ?_;try simp only[gS]
 refine wU 39 rfl (by rfl) hHeld ?_;try simp only[gS]
 refine wU 40 rfl (by rfl) hHeld ?_;try simp only[gS]
 refine wU 41 rfl (by rfl) hHeld ?_;try simp only[gS]
 refine wU 42 rfl (by rfl) hHeld ?_;try simp only[gS]
 iterate 2 (refine wN hHeld ?_;try simp only[gS])
 refine wpAnyH_done (by kernel_rfl) ?_ _;refine NoPanic.normal ?_;go_wp2;go_ret;exact⟨rfl,hH.1⟩
theorem ZE (R:Nat) (s:ByteArray) (p d:Nat) (w:Y) (hs:s.size<=1000000) (hlt:p<s.size) (hR:RA w R s p d) (hn:CC s.data.toList p=false) (hi:DV s.data.toList p [58]=true) (hc:Bj s.data.toList (p+1) d=false) (hd:0<d):
  Calls Tryz.prog 256 #[.pointer (F ⟨R,0,O⟩)] w fun e w'=>e=.returned (.bool (DV s.data.toList p BL))/\Below w.heap.size w w':=by
 have hN:=fun wx hx=>CJ R s p d wx hs (by omega) hx;have hC:=fun wx hx=>Be R s p d 1 (p+1) wx hs rfl (by omega) hx;have hI:=fun wx hx=>E3 R s p d 0 p [58] 1 1 wx hs (by omega) (by omega) rfl (by omega) hx;have hF:=fun wx hx=>Eg R s p d 0 p BL 5 5 (5,6) wx hs (by omega) (by omega) rfl (by omega) hx;have hcv:=fun(w:Y) (C:Array Value) (n c:Nat)=>Lib.run_convert_bytes_const (P:=Tryz.prog) w 71 5 C n c Tryz.underlying71 Tryz.underlying5;have hd1:decide ((s.size:Int)<=(p:Int))=false:=by simp;omega
 have hd2:decide (s.size<=p)=false:=by simp;omega
 rw[hn] at hN;rw[hi] at hI;rw[hc] at hC;have hdd:decide ((0:Int)<(d:Int))=true:=by simpa using hd
 have hdd2:decide (0<d)=true:=by simpa using hd
 clear hd;clear hn hi hc;have hH:=Ac.refl hR;obtain⟨FF,hFF⟩:∃ FF,DV s.data.toList p BL=FF:=⟨_,rfl⟩
 rw[hFF] at hF |-;clear hFF hlt;go_enter Tryz.func256,Tryz.ntmps256;go_wp2;refine wp_region_noPanic ?_;refine wR 45 (S:=(fun w'=>w'.cell? ⟨R,0,O⟩=F (Q s)/\w'.cell? ⟨R,1,O⟩=F (I J p)/\w'.cell? ⟨R,2,O⟩=F (I J d))) rfl ?_ (fun hHeld=>?_)
 ·(try dsimp only);first | exact Ac.all hH | exact Ac.all (Ac.alloc hH _)
 simp only[gR]
 iterate 16 (refine wN hHeld ?_;try simp only[gS])
 refine wB 16 rfl (fun K hK=>?_);go_simp;refine(hN _ hH.ra).mono ?_;rintro e wz ⟨rfl,hb⟩;replace hH:=Ac.step hH hb;try go_wp2_with fail
 refine hK.out _ _ ?_ (fun hHeld2=>?_)
 ·(try dsimp only);first | exact Ac.all hH | exact Ac.all (Ac.alloc hH _)
 clear hK K hHeld;have hHeld:=hHeld2;clear hHeld2;try simp only[gS]
 iterate 5 (refine wN hHeld ?_;try simp only[gS])
 refine wB 22 rfl (fun K hK=>?_);go_simp;refine hK.out _ _ ?_ (fun hHeld2=>?_)
 ·(try dsimp only);first | exact Ac.all hH | exact Ac.all (Ac.alloc hH _)
 clear hK K hHeld;have hHeld:=hHeld2;clear hHeld2;try simp only[gS]
 refine wB 23 rfl (fun K hK=>?_);go_simp;refine(hI _ hH.ra).mono ?_;rintro e wz ⟨rfl,hb⟩;replace hH:=Ac.step hH hb;try go_wp2_with fail
 refine hK.out _ _ ?_ (fun hHeld2=>?_)
 ·(try dsimp only);first | exact Ac.all hH | exact Ac.all (Ac.alloc hH _)
 clear hK K hHeld;have hHeld:=hHeld2;clear hHeld2;try simp only[gS]
 iterate 2 (refine wN hHeld ?_;try simp only[gS])
 refine wB 26 rfl (fun K hK=>?_);go_simp;refine(hC _ hH.ra).mono ?_;rintro e wz ⟨rfl,hb⟩;replace hH:=Ac.step hH hb;try go_wp2_with fail
 refine hK.out _ _ ?_ (fun hHeld2=>?_)
 ·(try dsimp only);first | exact Ac.all hH | exact Ac.all (Ac.alloc hH _)
 clear hK K hHeld;have hHeld:=hHeld2;clear hHeld2;try simp only[gS]
 iterate 12 (refine wN hHeld ?_;try simp only[gS])
 refine wB 39 rfl (fun K hK=>?_);go_simp;refine hK.out _ _ ?_ (fun hHeld2=>?_)
 ·(try dsimp only);first | exact Ac.all hH | exact Ac.all (Ac.alloc hH _)
 clear hK K hHeld;have hHeld:=hHeld2;clear hHeld2;try simp only[gS]
 refine wB 40 rfl (fun K hK=>?_);go_simp;refine hK.out _ _ ?_ (fun hHeld2=>?_)
 ·(try dsimp only);first | exact Ac.all hH | exact Ac.all (Ac.alloc hH _)
 clear hK K hHeld;have hHeld:=hHeld2;clear hHeld2;try simp only[gS]
 refine wB 41 rfl (fun K hK=>?_);go_simp;refine(hF _ hH.ra).mono ?_;rintro e wz ⟨rfl,hb⟩;replace hH:=Ac.step hH hb;try go_wp2_with fail
 refine hK.out _ _ ?_ (fun hHeld2=>?_)
 ·(try dsimp only);first | exact Ac.all hH | exact Ac.all (Ac.alloc hH _)
 clear hK K hHeld;have hHeld:=hHeld2;clear hHeld2;try simp only[gS]
 iterate 3 (refine wN hHeld ?_;try simp only[gS])
 refine wpAnyH_done (by kernel_rfl) ?_ _;refine NoPanic.normal ?_;go_wp2;go_ret;exact⟨rfl,hH.1⟩
end
section
set_option maxRecDepth 100000
set_option maxHeartbeats 4000000
theorem Zc (R:Nat) (s:ByteArray) (p d:Nat) (w:Y) (hs:s.size<=1000000) (hlt:p<s.size) (hR:RA w R s p d) (hn:CC s.data.toList p=false) (hi:DV s.data.toList p [58]=true) (hc:Bj s.data.toList (p+1) d=false) (hd:¬0<d):
  Calls Tryz.prog 256 #[.pointer (F ⟨R,0,O⟩)] w fun e w'=>e=.returned (.bool false)/\Below w.heap.size w w':=by
 have hN:=fun wx hx=>CJ R s p d wx hs (by omega) hx;have hC:=fun wx hx=>Be R s p d 1 (p+1) wx hs rfl (by omega) hx;have hI:=fun wx hx=>E3 R s p d 0 p [58] 1 1 wx hs (by omega) (by omega) rfl (by omega) hx;have hF:=fun wx hx=>Eg R s p d 0 p BL 5 5 (5,6) wx hs (by omega) (by omega) rfl (by omega) hx;have hcv:=fun(w:Y) (C:Array Value) (n c:Nat)=>Lib.run_convert_bytes_const (P:=Tryz.prog) w 71 5 C n c Tryz.underlying71 Tryz.underlying5;have hd1:decide ((s.size:Int)<=(p:Int))=false:=by simp;omega
 have hd2:decide (s.size<=p)=false:=by simp;omega
 rw[hn] at hN;rw[hi] at hI;rw[hc] at hC;have hdd:decide ((0:Int)<(d:Int))=false:=by simp;omega
 have hdd2:decide (0<d)=false:=by simp;omega
 clear hd;clear hn hi hc;have hH:=Ac.refl hR;obtain⟨FF,hFF⟩:∃ FF,DV s.data.toList p BL=FF:=⟨_,rfl⟩
 rw[hFF] at hF;clear hFF hlt;go_enter Tryz.func256,Tryz.ntmps256;go_wp2;refine wp_region_noPanic ?_;refine wR 45 (S:=(fun w'=>w'.cell? ⟨R,0,O⟩=F (Q s)/\w'.cell? ⟨R,1,O⟩=F (I J p)/\w'.cell? ⟨R,2,O⟩=F (I J d))) rfl ?_ (fun hHeld=>?_)
 ·(try dsimp only);first | exact Ac.all hH | exact Ac.all (Ac.alloc hH _)
 simp only[gR]
 iterate 16 (refine wN hHeld ?_;try simp only[gS])
 refine wB 16 rfl (fun K hK=>?_);go_simp;refine(hN _ hH.ra).mono ?_;rintro e wz ⟨rfl,hb⟩;replace hH:=Ac.step hH hb;try go_wp2_with fail
 refine hK.out _ _ ?_ (fun hHeld2=>?_)
 ·(try dsimp only);first | exact Ac.all hH | exact Ac.all (Ac.alloc hH _)
 clear hK K hHeld;have hHeld:=hHeld2;clear hHeld2;try simp only[gS]
 iterate 5 (refine wN hHeld ?_;try simp only[gS])
 refine wB 22 rfl (fun K hK=>?_);go_simp;refine hK.out _ _ ?_ (fun hHeld2=>?_)
 ·(try dsimp only);first | exact Ac.all hH | exact Ac.all (Ac.alloc hH _)
 clear hK K hHeld;have hHeld:=hHeld2;clear hHeld2;try simp only[gS]
 refine wB 23 rfl (fun K hK=>?_);go_simp;refine(hI _ hH.ra).mono ?_;rintro e wz ⟨rfl,hb⟩;replace hH:=Ac.step hH hb;try go_wp2_with fail
 refine hK.out _ _ ?_ (fun hHeld2=>?_)
 ·(try dsimp only);first | exact Ac.all hH | exact Ac.all (Ac.alloc hH _)
 clear hK K hHeld;have hHeld:=hHeld2;clear hHeld2;try simp only[gS]
 iterate 2 (refine wN hHeld ?_;try simp only[gS])
 refine wB 26 rfl (fun K hK=>?_);go_simp;refine(hC _ hH.ra).mono ?_;rintro e wz ⟨rfl,hb⟩;replace hH:=Ac.step hH hb;try go_wp2_with fail
 refine hK.out _ _ ?_ (fun hHeld2=>?_)
 ·(try dsimp only);first | exact Ac.all hH | exact Ac.all (Ac.alloc hH _)
 clear hK K hHeld;have hHeld:=hHeld2;clear hHeld2;try simp only[gS]
 iterate 9 (refine wN hHeld ?_;try simp only[gS])
 refine wU 36 rfl (by rfl) hHeld ?_;try simp only[gS]
 refine wU 37 rfl (by rfl) hHeld ?_;try simp only[gS]
 refine wU 38 rfl (by rfl) hHeld ?_;try simp only[gS]
 refine wU 39 rfl (by rfl) hHeld ?_;try simp only[gS]
 refine wU 40 rfl (by rfl) hHeld ?_;try simp only[gS]
 refine wU 41 rfl (by rfl) hHeld ?_;try simp only[gS]
 iterate 3 (refine wN hHeld ?_;try simp only[gS])
 refine wpAnyH_done (by kernel_rfl) ?_ _;refine NoPanic.normal ?_;go_wp2;go_ret;exact⟨rfl,hH.1⟩
theorem YX (R:Nat) (s:ByteArray) (p d:Nat) (w:Y) (hs:s.size<=1000000) (hlt:p<s.size) (hR:RA w R s p d) (hn:CC s.data.toList p=false) (hi:DV s.data.toList p [58]=false) (hd:0<d):
  Calls Tryz.prog 256 #[.pointer (F ⟨R,0,O⟩)] w fun e w'=>e=.returned (.bool (DV s.data.toList p BL))/\Below w.heap.size w w':=by
 have hN:=fun wx hx=>CJ R s p d wx hs (by omega) hx;have hC:=fun wx hx=>Be R s p d 1 (p+1) wx hs rfl (by omega) hx;have hI:=fun wx hx=>E3 R s p d 0 p [58] 1 1 wx hs (by omega) (by omega) rfl (by omega) hx;have hF:=fun wx hx=>Eg R s p d 0 p BL 5 5 (5,6) wx hs (by omega) (by omega) rfl (by omega) hx;have hcv:=fun(w:Y) (C:Array Value) (n c:Nat)=>Lib.run_convert_bytes_const (P:=Tryz.prog) w 71 5 C n c Tryz.underlying71 Tryz.underlying5;have hd1:decide ((s.size:Int)<=(p:Int))=false:=by simp;omega
 have hd2:decide (s.size<=p)=false:=by simp;omega
 rw[hn] at hN;rw[hi] at hI;have hdd:decide ((0:Int)<(d:Int))=true:=by simpa using hd
 have hdd2:decide (0<d)=true:=by simpa using hd
 clear hd;clear hn hi;have hH:=Ac.refl hR;obtain⟨FF,hFF⟩:∃ FF,DV s.data.toList p BL=FF:=⟨_,rfl⟩
 rw[hFF] at hF |-;clear hFF hlt;go_enter Tryz.func256,Tryz.ntmps256;go_wp2;refine wp_region_noPanic ?_;refine wR 45 (S:=(fun w'=>w'.cell? ⟨R,0,O⟩=F (Q s)/\w'.cell? ⟨R,1,O⟩=F (I J p)/\w'.cell? ⟨R,2,O⟩=F (I J d))) rfl ?_ (fun hHeld=>?_)
 ·(try dsimp only);first | exact Ac.all hH | exact Ac.all (Ac.alloc hH _)
 simp only[gR]
 iterate 16 (refine wN hHeld ?_;try simp only[gS])
 refine wB 16 rfl (fun K hK=>?_);go_simp;refine(hN _ hH.ra).mono ?_;rintro e wz ⟨rfl,hb⟩;replace hH:=Ac.step hH hb;try go_wp2_with fail
 refine hK.out _ _ ?_ (fun hHeld2=>?_)
 ·(try dsimp only);first | exact Ac.all hH | exact Ac.all (Ac.alloc hH _)
 clear hK K hHeld;have hHeld:=hHeld2;clear hHeld2;try simp only[gS]
 iterate 5 (refine wN hHeld ?_;try simp only[gS])
 refine wB 22 rfl (fun K hK=>?_);go_simp;refine hK.out _ _ ?_ (fun hHeld2=>?_)
 ·(try dsimp only);first | exact Ac.all hH | exact Ac.all (Ac.alloc hH _)
 clear hK K hHeld;have hHeld:=hHeld2;clear hHeld2;try simp only[gS]
 refine wB 23 rfl (fun K hK=>?_);go_simp;refine(hI _ hH.ra).mono ?_;rintro e wz ⟨rfl,hb⟩;replace hH:=Ac.step hH hb;try go_wp2_with fail
 refine hK.out _ _ ?_ (fun hHeld2=>?_)
 ·(try dsimp only);first | exact Ac.all hH | exact Ac.all (Ac.alloc hH _)
 clear hK K hHeld;have hHeld:=hHeld2;clear hHeld2;try simp only[gS]
 refine wN hHeld ?_;try simp only[gS]
 refine wU 25 rfl (by rfl) hHeld ?_;try simp only[gS]
 refine wU 26 rfl (by rfl) hHeld ?_;try simp only[gS]
 iterate 12 (refine wN hHeld ?_;try simp only[gS])
 refine wB 39 rfl (fun K hK=>?_);go_simp;refine hK.out _ _ ?_ (fun hHeld2=>?_)
 ·(try dsimp only);first | exact Ac.all hH | exact Ac.all (Ac.alloc hH _)
 clear hK K hHeld;have hHeld:=hHeld2;clear hHeld2;try simp only[gS]
 refine wB 40 rfl (fun K hK=>?_);go_simp;refine hK.out _ _ ?_ (fun hHeld2=>?_)
 ·(try dsimp only);first | exact Ac.all hH | exact Ac.all (Ac.alloc hH _)
 clear hK K hHeld;have hHeld:=hHeld2;clear hHeld2;try simp only[gS]
 refine wB 41 rfl (fun K hK=>?_);go_simp;refine(hF _ hH.ra).mono ?_;rintro e wz ⟨rfl,hb⟩;replace hH:=Ac.step hH hb;try go_wp2_with fail
 refine hK.out _ _ ?_ (fun hHeld2=>?_)
 ·(try dsimp only);first | exact Ac.all hH | exact Ac.all (Ac.alloc hH _)
 clear hK K hHeld;have hHeld:=hHeld2;clear hHeld2;try simp only[gS]
 iterate 3 (refine wN hHeld ?_;try simp only[gS])
 refine wpAnyH_done (by kernel_rfl) ?_ _;refine NoPanic.normal ?_;go_wp2;go_ret;exact⟨rfl,hH.1⟩
theorem Zx (R:Nat) (s:ByteArray) (p d:Nat) (w:Y) (hs:s.size<=1000000) (hlt:p<s.size) (hR:RA w R s p d) (hn:CC s.data.toList p=false) (hi:DV s.data.toList p [58]=false) (hd:¬0<d):
  Calls Tryz.prog 256 #[.pointer (F ⟨R,0,O⟩)] w fun e w'=>e=.returned (.bool false)/\Below w.heap.size w w':=by
 have hN:=fun wx hx=>CJ R s p d wx hs (by omega) hx;have hC:=fun wx hx=>Be R s p d 1 (p+1) wx hs rfl (by omega) hx;have hI:=fun wx hx=>E3 R s p d 0 p [58] 1 1 wx hs (by omega) (by omega) rfl (by omega) hx;have hF:=fun wx hx=>Eg R s p d 0 p BL 5 5 (5,6) wx hs (by omega) (by omega) rfl (by omega) hx;have hcv:=fun(w:Y) (C:Array Value) (n c:Nat)=>Lib.run_convert_bytes_const (P:=Tryz.prog) w 71 5 C n c Tryz.underlying71 Tryz.underlying5;have hd1:decide ((s.size:Int)<=(p:Int))=false:=by simp;omega
 have hd2:decide (s.size<=p)=false:=by simp;omega
 rw[hn] at hN;rw[hi] at hI;have hdd:decide ((0:Int)<(d:Int))=false:=by simp;omega
 have hdd2:decide (0<d)=false:=by simp;omega
 clear hd;clear hn hi;have hH:=Ac.refl hR;obtain⟨FF,hFF⟩:∃ FF,DV s.data.toList p BL=FF:=⟨_,rfl⟩
 rw[hFF] at hF;clear hFF hlt;go_enter Tryz.func256,Tryz.ntmps256;go_wp2;refine wp_region_noPanic ?_;refine wR 45 (S:=(fun w'=>w'.cell? ⟨R,0,O⟩=F (Q s)/\w'.cell? ⟨R,1,O⟩=F (I J p)/\w'.cell? ⟨R,2,O⟩=F (I J d))) rfl ?_ (fun hHeld=>?_)
 ·(try dsimp only);first | exact Ac.all hH | exact Ac.all (Ac.alloc hH _)
 simp only[gR]
 iterate 16 (refine wN hHeld ?_;try simp only[gS])
 refine wB 16 rfl (fun K hK=>?_);go_simp;refine(hN _ hH.ra).mono ?_;rintro e wz ⟨rfl,hb⟩;replace hH:=Ac.step hH hb;try go_wp2_with fail
 refine hK.out _ _ ?_ (fun hHeld2=>?_)
 ·(try dsimp only);first | exact Ac.all hH | exact Ac.all (Ac.alloc hH _)
 clear hK K hHeld;have hHeld:=hHeld2;clear hHeld2;try simp only[gS]
 iterate 5 (refine wN hHeld ?_;try simp only[gS])
 refine wB 22 rfl (fun K hK=>?_);go_simp;refine hK.out _ _ ?_ (fun hHeld2=>?_)
 ·(try dsimp only);first | exact Ac.all hH | exact Ac.all (Ac.alloc hH _)
 clear hK K hHeld;have hHeld:=hHeld2;clear hHeld2;try simp only[gS]
 refine wB 23 rfl (fun K hK=>?_);go_simp;refine(hI _ hH.ra).mono ?_;rintro e wz ⟨rfl,hb⟩;replace hH:=Ac.step hH hb;try go_wp2_with fail
 refine hK.out _ _ ?_ (fun hHeld2=>?_)
 ·(try dsimp only);first | exact Ac.all hH | exact Ac.all (Ac.alloc hH _)
 clear hK K hHeld;have hHeld:=hHeld2;clear hHeld2;try simp only[gS]
 refine wN hHeld ?_;try simp only[gS]
 refine wU 25 rfl (by rfl) hHeld ?_;try simp only[gS]
 refine wU 26 rfl (by rfl) hHeld ?_;try simp only[gS]
 iterate 9 (refine wN hHeld ?_;try simp only[gS])
 refine wU 36 rfl (by rfl) hHeld ?_;try simp only[gS]
 refine wU 37 rfl (by rfl) hHeld ?_;try simp only[gS]
 refine wU 38 rfl (by rfl) hHeld ?_;try simp only[gS]
 refine wU 39 rfl (by rfl) hHeld ?_;try simp only[gS]
 refine wU 40 rfl (by rfl) hHeld ?_;try simp only[gS]
 refine wU 41 rfl (by rfl) hHeld ?_;try simp only[gS]
 iterate 3 (refine wN hHeld ?_;try simp only[gS])
 refine wpAnyH_done (by kernel_rfl) ?_ _;refine NoPanic.normal ?_;go_wp2;go_ret;exact⟨rfl,hH.1⟩
theorem Abf (R:Nat) (s:ByteArray) (p d:Nat) (w:Y) (hs:s.size<=1000000) (hp:p<=1000000) (hge:s.size<=p) (hR:RA w R s p d):
  Calls Tryz.prog 256 #[.pointer (F ⟨R,0,O⟩)] w fun e w'=>e=.returned (.bool true)/\Below w.heap.size w w':=by
 obtain⟨r0,r1,r2,_⟩:=hR.cells;have hd1:decide ((s.size:Int)<=(p:Int))=true:=by simp;omega
 have hd2:decide (s.size<=p)=true:=by simp;omega
 go_enter Tryz.func256,Tryz.ntmps256;go_wp2;go_quiet (fail);go_wp2;go_ret;exact⟨rfl,below_drewN (Bq _ _)⟩
theorem WK (R:Nat) (s:ByteArray) (p d:Nat) (w:Y) (hs:s.size<=1000000) (hp:p<=1000000) (hR:RA w R s p d):
  Calls Tryz.prog 256 #[.pointer (F ⟨R,0,O⟩)] w fun e w'=>e=.returned (.bool (L4 s.data.toList p d))/\Below w.heap.size w w':=by
 unfold L4;rw[<- Lib.size_eq];rcases Nat.lt_or_ge p s.size with hlt | hge
 ·rw[decide_eq_false (by omega),Bool.false_or];cases hn:CC s.data.toList p with
  | true=>rw[Bool.true_or];exact Ae6 R s p d w hs hlt hR hn
  | false=>
   rw[Bool.false_or];cases hi:DV s.data.toList p [58] with
   | true=>
    rw[Bool.true_and];cases hc:Bj s.data.toList (p+1) d with
    | true=>rw[Bool.true_or];exact Y6 R s p d w hs hlt hR hn hi hc
    | false=>
     rw[Bool.false_or];by_cases hd:0<d
     ·rw[decide_eq_true hd,Bool.true_and];exact ZE R s p d w hs hlt hR hn hi hc hd
     ·rw[decide_eq_false hd,Bool.false_and];exact Zc R s p d w hs hlt hR hn hi hc hd
   | false=>
    rw[Bool.false_and,Bool.false_or];by_cases hd:0<d
    ·rw[decide_eq_true hd,Bool.true_and];exact YX R s p d w hs hlt hR hn hi hd
    ·rw[decide_eq_false hd,Bool.false_and];exact Zx R s p d w hs hlt hR hn hi hd
 ·rw[decide_eq_true hge,Bool.true_or];exact Abf R s p d w hs hp hge hR
end
end Go.Proofs.YtdpppepmkeinaaaGreatDoor
