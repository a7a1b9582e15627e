/- What is proved: a part of the walk of the program and of its plain laws; no condition beside those that each theorem names. -/
import Derived.Test.YtdpppepmkeinaaaGreatDoorYh
import Derived.Test.YtdpppepmkeinaaaGreatDoorYa
namespace Go.Proofs.YtdpppepmkeinaaaGreatDoor
open Go Go.RowKit Go.Lib
open Go.Value renaming int->I,string->Q,slice->Z
open Go.IntKind renaming i64->J
open Option renaming none->O,some->F
open _root_.Go renaming World->Y
set_option linter.unusedSimpArgs false
set_option linter.unusedVariables false
set_option linter.unusedSectionVars false
section
set_option maxRecDepth 100000
set_option maxHeartbeats 2000000
def CB (R:Nat) (w w':Y):Prop:=Au (fun k=>k=R) w.heap.size w w'
def Bf (R:Nat) (s:ByteArray) (p:Nat) (r:TR) (w:Y) (e:Ending) (w':Y):Prop:=
 match r with
 | .ok k t q d'=>e=.returned (.tuple #[CJ ⟨k,t,p⟩,.nilIface])/\RA w' R s q d'/\CB R w w'
 | .bad er=>e=.returned (.tuple #[CJ ⟨0,[],0⟩,.iface 325 (.agg #[I J er])])/\CB R w w'
theorem Bf.ok {R:Nat} {s:ByteArray} {p:Nat} {r:TR} {w:Y} {e:Ending} {w':Y} {k q d':Nat} {t:List UInt8} (hr:r=.ok k t q d') (he:e=.returned (.tuple #[CJ ⟨k,t,p⟩,.nilIface])) (h1:RA w' R s q d') (h2:CB R w w'):Bf R s p r w e w':=by
 subst hr;exact⟨he,h1,h2⟩
theorem Bf.bad {R:Nat} {s:ByteArray} {p:Nat} {r:TR} {w:Y} {e:Ending} {w':Y} {er:Nat} (hr:r=.bad er) (he:e=.returned (.tuple #[CJ ⟨0,[],0⟩,.iface 325 (.agg #[I J er])])) (h2:CB R w w'):Bf R s p r w e w':=by
 subst hr;exact⟨he,h2⟩
theorem RA.set1 {w:Y} {R:Nat} {s:ByteArray} {p d:Nat} (h:RA w R s p d) (p':Nat):RA (w.setCell ⟨R,1,O⟩ (I J p')) R s p' d:=heap_setCell_same w R 1 _ _ _ h
theorem RA.set2 {w:Y} {R:Nat} {s:ByteArray} {p d:Nat} (h:RA w R s p d) (d':Nat):RA (w.setCell ⟨R,2,O⟩ (I J d')) R s p d':=heap_setCell_same w R 2 _ _ _ h
theorem CB.below {R:Nat} {w w1 w2:Y} (h:CB R w w1) (hb:Below w1.heap.size w1 w2):CB R w w2:=h.trans (Au.of_below hb)
theorem CB.of_below {R:Nat} {w w1:Y} (hb:Below w.heap.size w w1):CB R w w1:=Au.of_below hb
theorem CB.alloc {R:Nat} {w w1:Y} (h:CB R w w1) (o:Obj):CB R w (w1.alloc o):=h.trans (Au.alloc _ _)
theorem CB.set {R:Nat} {w w1:Y} (h:CB R w w1) (o:Nat) (v:Value):CB R w (w1.setCell ⟨R,o,O⟩ v):=h.trans (Au.setCell _ _ _ rfl)
theorem CB.refl (R:Nat) (w:Y):CB R w w:=Au.refl _ _ _
theorem CB.trans {R:Nat} {w w1 w2:Y} (h:CB R w w1) (k:CB R w1 w2):CB R w w2:=Au.trans h (k.mono h.size)
theorem CB.size {R:Nat} {w w1:Y} (h:CB R w w1):w.heap.size<=w1.heap.size:=Au.size h
theorem CB.put {R:Nat} {w w1:Y} (h:CB R w w1) {a:Addr} (ha:w.heap.size<=a.block) (v:Value):CB R w (w1.setCell a v):=
 ⟨h.os,h.tape,h.output,by simpa[World.setCell] using Au.size h,fun k o hk hc _=>(Bh w1 a v k (fun e=>by have:=(Gl hk);omega)).trans (h.block k o hk hc (.inl (Gl hk))),fun k c e fz hk=>by
  obtain⟨c',fz',h2⟩:=h.kinds k c e fz hk;exact⟨c',fz',(Bh w1 a v k (fun e=>by have:=(Gl hk);omega)).trans h2⟩⟩
theorem CB.heap {R:Nat} {w w1:Y} (h:CB R w w1) {k:Nat} {o:Obj} (hk:w.heap[k]? =F o) (hne:k≠R):w1.heap[k]? =F o:=h.block k o hk hne (.inl (Gl hk))
theorem JY (R:Nat) (s:ByteArray) (p d k:Nat) (w:Y) (hp:p<=1000000) (hR:RA w R s p d):
  Calls Tryz.prog 272 #[.pointer (F ⟨R,0,O⟩),I J k] w fun e w'=>e=.returned (.tuple #[CJ ⟨k,[],p⟩,.nilIface])/\RA w' R s (p+1) d/\CB R w w':=by
 obtain⟨r0,r1,r2,f0,f1,f2⟩:=hR.cells;have hlt:=hR.lt;go_enter Tryz.func272,Tryz.ntmps272;go_wp2;refine bodyPost_ret (v:=.tuple #[CJ ⟨k,[],p⟩,.nilIface]) (by simp[results,Tryz.results272,go_sem,CJ]) rfl ⟨rfl,((hR.set1 (p+1)).alloc _).alloc _,(((CB.refl R w).set 1 _).alloc _).alloc _⟩
structure Sx (w:Y) (R:Nat) (s:ByteArray) (p d:Nat) (w':Y):Prop where
 ra:RA w' R s p d
 md:CB R w w'
 res:w'.heap[w.heap.size]? =F (.cells #[I J 0,Q ⟨#[]⟩,I J 0] 287)
theorem Sx.below {w:Y} {R:Nat} {s:ByteArray} {p d:Nat} {w1 w2:Y} (h:Sx w R s p d w1) (hb:Below w1.heap.size w1 w2):Sx w R s p d w2:=⟨h.ra.below hb,h.md.below hb,AW h.res hb⟩
theorem Sx.mod {w:Y} {R:Nat} {s:ByteArray} {p d p' d':Nat} {w1 w2:Y} (h:Sx w R s p d w1) (hlt:R<w.heap.size) (hr:RA w2 R s p' d') (hm:CB R w1 w2):Sx w R s p' d' w2:=⟨hr,h.md.trans hm,hm.heap h.res (by omega)⟩
theorem Sx.new {w:Y} {R:Nat} {s:ByteArray} {p d:Nat} (h:RA w R s p d):Sx w R s p d (w.alloc (.cells #[I J 0,Q ⟨#[]⟩,I J 0] 287)):=⟨h.alloc _,(CB.refl R w).alloc _,Wn _ _⟩
theorem RA.far {w:Y} {R:Nat} {s:ByteArray} {p d:Nat} (h:RA w R s p d) {a:Addr} (hne:R≠a.block) (v:Value):RA (w.setCell a v) R s p d:=(Bh w a v R hne).trans h
theorem Sx.alloc {w:Y} {R:Nat} {s:ByteArray} {p d:Nat} {w1:Y} (h:Sx w R s p d w1) (o:Obj):Sx w R s p d (w1.alloc o):=h.below ((Bq _ w1).alloc Nr o)
theorem Sx.cells {w:Y} {R:Nat} {s:ByteArray} {p d:Nat} {w1:Y} (h:Sx w R s p d w1):w1.cell? ⟨w.heap.size,0,O⟩=F (I J 0)/\w1.cell? ⟨w.heap.size,1,O⟩=F (Q ⟨#[]⟩)/\w1.cell? ⟨w.heap.size,2,O⟩=F (I J 0)/\w1.frozen? ⟨w.heap.size,0,O⟩=false/\w1.frozen? ⟨w.heap.size,1,O⟩=false/\w1.frozen? ⟨w.heap.size,2,O⟩=false:=EM h.res
theorem Sx.fin {w:Y} {R:Nat} {s:ByteArray} {p d:Nat} {w1:Y} (h:Sx w R s p d w1) (hlt:R<w.heap.size) (v0 v1 v2:Value):
  (((w1.setCell ⟨w.heap.size,0,O⟩ v0).setCell ⟨w.heap.size,1,O⟩ v1).setCell ⟨w.heap.size,2,O⟩ v2).cell? ⟨w.heap.size,0,O⟩=F v0∧
  (((w1.setCell ⟨w.heap.size,0,O⟩ v0).setCell ⟨w.heap.size,1,O⟩ v1).setCell ⟨w.heap.size,2,O⟩ v2).cell? ⟨w.heap.size,1,O⟩=F v1∧
  (((w1.setCell ⟨w.heap.size,0,O⟩ v0).setCell ⟨w.heap.size,1,O⟩ v1).setCell ⟨w.heap.size,2,O⟩ v2).cell? ⟨w.heap.size,2,O⟩=F v2∧
  RA (((w1.setCell ⟨w.heap.size,0,O⟩ v0).setCell ⟨w.heap.size,1,O⟩ v1).setCell ⟨w.heap.size,2,O⟩ v2) R s p d/\CB R w (((w1.setCell ⟨w.heap.size,0,O⟩ v0).setCell ⟨w.heap.size,1,O⟩ v1).setCell ⟨w.heap.size,2,O⟩ v2):=by
 have h0:=heap_setCell_same w1 w.heap.size 0 _ _ v0 h.res;have h1:=heap_setCell_same _ w.heap.size 1 _ _ v1 h0;have h2:=heap_setCell_same _ w.heap.size 2 _ _ v2 h1;have h3:(((w1.setCell ⟨w.heap.size,0,O⟩ v0).setCell ⟨w.heap.size,1,O⟩ v1).setCell ⟨w.heap.size,2,O⟩ v2).heap[w.heap.size]? =F (.cells #[v0,v1,v2] 287):=h2;obtain⟨c0,c1,c2,_⟩:=EM h3;exact⟨c0,c1,c2,((h.ra.far (a:=⟨w.heap.size,0,O⟩) (Nat.ne_of_lt hlt) v0).far (a:=⟨w.heap.size,1,O⟩) (Nat.ne_of_lt hlt) v1).far (a:=⟨w.heap.size,2,O⟩) (Nat.ne_of_lt hlt) v2,((h.md.put (a:=⟨w.heap.size,0,O⟩) Nr v0).put (a:=⟨w.heap.size,1,O⟩) Nr v1).put (a:=⟨w.heap.size,2,O⟩) Nr v2⟩
theorem Ads (N:Nat) (R:Nat) (s:ByteArray) (p d:Nat) (z:Int) (i:Nat) (bs:List UInt8) (n cap:Nat) (fz:Nat×Nat) (w:Y) (hN:w.heap.size=N) (hs:s.size<=1000000) (hz:(p:Int)+z=(i:Int)) (hi:i<=2000000) (hn:bs.length=n) (hbs:n<=1000) (hR:RA w R s p d):
  Calls Tryz.prog 187 #[.pointer (F ⟨R,0,O⟩),I J z,Z (F ⟨N,0,O⟩) n cap] (w.alloc (.cells (bs.map fun c=>Value.int .u8 ((c.toNat:Nat):Int)).toArray 5 fz)) fun e w'=>e=.returned (.bool (Cg s.data.toList i bs))/\Below w.heap.size w w':=by
 subst hN;exact FD R s p d z i bs n cap fz w hs hz hi hn hbs hR
theorem Sx.set2 {w:Y} {R:Nat} {s:ByteArray} {p d:Nat} {w1:Y} (h:Sx w R s p d w1) (hlt:R<w.heap.size) (d':Nat):Sx w R s p d' (w1.setCell ⟨R,2,O⟩ (I J d')):=
 ⟨h.ra.set2 d',h.md.set 2 _,(Bh w1 ⟨R,2,O⟩ _ _ (by simp;omega)).trans h.res⟩
theorem Sx.set1 {w:Y} {R:Nat} {s:ByteArray} {p d:Nat} {w1:Y} (h:Sx w R s p d w1) (hlt:R<w.heap.size) (p':Nat):Sx w R s p' d (w1.setCell ⟨R,1,O⟩ (I J p')):=
 ⟨h.ra.set1 p',h.md.set 1 _,(Bh w1 ⟨R,1,O⟩ _ _ (by simp;omega)).trans h.res⟩
theorem XL (R:Nat) (s:ByteArray) (p d:Nat) (w:Y) (hs:s.size<=1000000) (hp:p<s.size) (hd:d<=1000000) (hR:RA w R s p d) (c:UInt8) (hc:s[p]'hp=c):
  Calls Tryz.prog 254 #[.pointer (F ⟨R,0,O⟩)] w (Bf R s p (.ok (if c=91 then 8 else 10) [] (p+1) (d+1)) w):=by
 have HB:=hid (show Cg s.data.toList p [91]=(c==91) by rw[Aea hp hc,PO]);clear hc;obtain⟨kk,hkk⟩:∃ kk,(if c=91 then 8 else 10)=kk:=⟨_,rfl⟩
 rw[hkk];have HK:=hid hkk;clear hkk;have hlt:=hR.lt;obtain⟨r0,r1,r2,f0,f1,f2⟩:=hR.cells;have hI:=fun wx hn hx=>Ads (w.heap.size+1) R s p (d+1) 0 p [91] 1 1 (0,0) wx hn hs (by omega) (by omega) rfl (by omega) hx;rw[HB.out] at hI;have hK:=fun wx hx k=>JY R s p (d+1) k wx (by omega) hx;have hS1:Sx w R s p (d+1) ((w.setCell ⟨R,2,O⟩ (I J ((d:Int)+1))).alloc (.cells #[I J 0,Q ⟨#[]⟩,I J 0] 287)):=by
  have h:=Sx.new (hR.set2 (d+1));exact⟨h.ra,((CB.refl R w).set 2 _).alloc _,by have:=h.res;simpa[World.setCell] using this⟩
 go_enter Tryz.func254,Tryz.ntmps254;go_wp2_with fail;refine(hI _ (by simp[World.setCell]) hS1.ra).mono ?_;rintro e w1 ⟨rfl,hb1⟩;have hS2:=hS1.below hb1;clear hI hS1 hb1 r0 r1 r2 f0 f1 f2;by_cases h91:c=91
 ·have HP:=hid (show kk=8 by rw[<- HK.out,if_pos h91]);have hq:(c==91)=true:=by simpa using h91
  clear h91 HB HK;go_wp2_with fail;refine(hK _ hS2.ra 8).mono ?_;rintro e w2 ⟨rfl,hr2,hm2⟩;have hS3:=hS2.mod hlt hr2 hm2;clear hK hS2 hr2 hm2;obtain⟨n0,n1,n2,g0,g1,g2⟩:=hS3.cells;unfold CJ;go_wp2;obtain⟨e0,e1,e2,e3,e4⟩:=hS3.fin hlt (I J 8) (Q ⟨#[]⟩) (I J p);refine bodyPost_ret (v:=.tuple #[CJ ⟨8,[],p⟩,.nilIface]) (by simp[results,Tryz.results254,go_sem,CJ,e0,e1,e2]) rfl (Bf.ok (by rw[HP.out]) rfl e3 e4)
 ·have HP:=hid (show kk=10 by rw[<- HK.out,if_neg h91]);have hq:(c==91)=false:=by simpa using h91
  clear h91 HB HK;go_wp2_with fail;refine(hK _ hS2.ra 10).mono ?_;rintro e w2 ⟨rfl,hr2,hm2⟩;have hS3:=hS2.mod hlt hr2 hm2;clear hK hS2 hr2 hm2;obtain⟨n0,n1,n2,g0,g1,g2⟩:=hS3.cells;unfold CJ;go_wp2;obtain⟨e0,e1,e2,e3,e4⟩:=hS3.fin hlt (I J 10) (Q ⟨#[]⟩) (I J p);refine bodyPost_ret (v:=.tuple #[CJ ⟨10,[],p⟩,.nilIface]) (by simp[results,Tryz.results254,go_sem,CJ,e0,e1,e2]) rfl (Bf.ok (by rw[HP.out]) rfl e3 e4)
def Mb (r:Int):Value:=.int .u8 r
def PU:List (Int×Value):=[(44,I J 7),(93,I J 9),(125,I J 11)]
def Fn (k:Nat):Obj:=BN Mb (PU.take k)
theorem WH (a b:Int):Instr.sameNow (.int .u8) (Mb a) (Mb b)=F (a==b):=rfl
theorem Rv (a:Int):MapKept.IsKey (.int .u8) (Mb a):=by unfold Mb;simp[MapKept.IsKey]
theorem J9 (w:Y) (k:Nat) (a:Int) (v:Value) (h:B5 a (PU.take k)=O) (hk:PU.take (k+1)=PU.take k++[(a,v)]):
  (Instr.mapUpdate 414 (.map (F w.heap.size)) (.int .u8 a) v).run Tryz.prog (w.alloc (Fn k))=.ok () (w.alloc (Fn (k+1))):=by
 unfold Fn;rw[hk];have:=FA (P:=Tryz.prog) (enc:=Mb) WH Rv (t:=414) (k:=5) (e:=3) (w:=w.alloc (BN Mb (PU.take k))) (l:=PU.take k) Tryz.underlying414 Tryz.underlying5 (Wn w _) a v h;rw[Hh] at this;exact this
theorem Abq (c:Int) (w:Y) (b:Nat) (hb:w.heap[b]? =F (Fn 3)):
  (Instr.lookup 414 (.map (F b)) (.int .u8 c) false).run Tryz.prog w=.ok ((B5 c PU).getD (I J 0)) w:=
 DO (P:=Tryz.prog) (enc:=Mb) WH Rv (k:=5) (e:=3) (l:=PU) (z:=I J 0) Tryz.underlying414 Tryz.underlying5 (by kernel_rfl) hb c false
theorem W6 (R:Nat) (s:ByteArray) (p d:Nat) (w:Y) (hs:s.size<=1000000) (hp:p<s.size) (hd:d<=1000000) (hR:RA w R s p d) (c:UInt8) (hc:s[p]'hp=c) (hcc:c=44\/c=93\/c=125):
  Calls Tryz.prog 255 #[.pointer (F ⟨R,0,O⟩)] w (Bf R s p (Eu c p d) w):=by
 obtain⟨k,hk,HQ⟩:∃ k:Nat,B5 (c.toNat:Int) PU=F (I J k)/\Hid (0<d->Eu c p d=.ok k [] (p+1) (if k=7 then d else d - 1)):=by
  rcases hcc with rfl | rfl | rfl
  ·exact⟨7,rfl,hid fun hd=>by unfold Eu;rw[if_neg (by omega),if_pos rfl];rfl⟩
  ·exact⟨9,rfl,hid fun hd=>by unfold Eu;rw[if_neg (by omega),if_neg (by decide)];rfl⟩
  ·exact⟨11,rfl,hid fun hd=>by unfold Eu;rw[if_neg (by omega),if_neg (by decide)];rfl⟩
 have HZ:=hid (show d=0->Eu c p d=.bad 90 from fun h=>by unfold Eu;rw[if_pos h]);clear hcc;obtain⟨r,hr⟩:∃ r,Eu c p d=r:=⟨_,rfl⟩
 rw[hr] at HQ HZ |-;clear hr;have hlt:=hR.lt;have hmm:=@run_makeMap Tryz.prog;have h0:=J9 (w.alloc (.cells #[I J 0,Q ⟨#[]⟩,I J 0] 287)) 0 44 (I J 7) rfl rfl;have h1:=J9 (w.alloc (.cells #[I J 0,Q ⟨#[]⟩,I J 0] 287)) 1 93 (I J 9) (by decide+kernel) rfl;have h2:=J9 (w.alloc (.cells #[I J 0,Q ⟨#[]⟩,I J 0] 287)) 2 125 (I J 11) (by decide+kernel) rfl;rw[World.size_alloc,show Fn 0=.map #[] 0 from rfl] at h0;rw[World.size_alloc] at h1 h2;obtain⟨r0,r1,r2,f0,f1,f2⟩:=hR.cells;have hlk:∀ n,(Instr.lookup 414 (.map (F (w.heap.size+1))) (.int .u8 (c.toNat:Int)) false).run Tryz.prog (((w.alloc (.cells #[I J 0,Q ⟨#[]⟩,I J 0] 287)).alloc (Fn 3)).drewN n)=.ok (I J k) (((w.alloc (.cells #[I J 0,Q ⟨#[]⟩,I J 0] 287)).alloc (Fn 3)).drewN n):=fun n=>by
  have h:=Abq (c.toNat:Int) (((w.alloc (.cells #[I J 0,Q ⟨#[]⟩,I J 0] 287)).alloc (Fn 3)).drewN n) (w.heap.size+1) (by have:=Wn (w.alloc (.cells #[I J 0,Q ⟨#[]⟩,I J 0] 287)) (Fn 3);simpa using this);rw[hk] at h;exact h
 have hS1:Sx w R s p d ((w.alloc (.cells #[I J 0,Q ⟨#[]⟩,I J 0] 287)).alloc (Fn 3)):=(Sx.new hR).alloc _;have HK:=hid hk;clear hk;have hpi:(p:Int)<(s.size:Int):=by omega
 have hK:=fun wx dx hx=>JY R s p dx k wx (by omega) hx;go_enter Tryz.func255,Tryz.ntmps255;go_wp2;go_quiet (fail);have hS2:Sx w R s p d (((w.alloc (.cells #[I J 0,Q ⟨#[]⟩,I J 0] 287)).alloc (Fn 3)).drewN nq):=hS1.below (below_drewN (Bq _ _));clear hS1 h0 h1 h2 hmm hlk r0 r1 r2 f0 f1 f2;revert hS2;generalize ((w.alloc (.cells #[I J 0,Q ⟨#[]⟩,I J 0] 287)).alloc (Fn 3)).drewN nq=W1;intro hS2;by_cases hd0:d=0
 ·subst hd0;obtain⟨r0,r1,r2,f0,f1,f2⟩:=hS2.ra.cells;obtain⟨n0,n1,n2,g0,g1,g2⟩:=hS2.cells;go_wp2;obtain⟨e0,e1,e2,e3,e4⟩:=hS2.fin hlt (I J 0) (Q ⟨#[]⟩) (I J 0);refine bodyPost_ret (v:=.tuple #[CJ ⟨0,[],0⟩,.iface 325 (.agg #[I J 90])]) (by simp[results,Tryz.results255,go_sem,CJ,e0,e1,e2]) rfl (Bf.bad (HZ.out (by first | rfl | trivial)) rfl e4)
 ·obtain⟨d1,rfl⟩:∃ d1,d=d1+1:=⟨d - 1,by omega⟩
  have hde:(((d1+1:Nat):Int)==0)=false:=by rw[beq_eq_false_iff_ne];omega
  obtain⟨r0,r1,r2,f0,f1,f2⟩:=hS2.ra.cells;by_cases hk7:k=7
  ·subst hk7;go_wp2_with fail;refine(hK _ _ hS2.ra).mono ?_;rintro e w2 ⟨rfl,hr2,hm2⟩;have hS3:=hS2.mod hlt hr2 hm2;clear hK hS2 hr2 hm2 r0 r1 r2 f0 f1 f2;obtain⟨n0,n1,n2,g0,g1,g2⟩:=hS3.cells;unfold CJ;go_wp2;obtain⟨e0,e1,e2,e3,e4⟩:=hS3.fin hlt (I J 7) (Q ⟨#[]⟩) (I J p);refine bodyPost_ret (v:=.tuple #[CJ ⟨7,[],p⟩,.nilIface]) (by simp[results,Tryz.results255,go_sem,CJ,e0,e1,e2]) rfl (Bf.ok (HQ.out (by omega)) rfl e3 e4)
  ·have hkn:((k:Int)==7)=false:=by rw[beq_eq_false_iff_ne];omega
   have HK7:=hid hk7;clear hk7;have hS2b:=hS2.set2 hlt d1;go_wp2_with fail;refine(hK _ _ hS2b.ra).mono ?_;rintro e w2 ⟨rfl,hr2,hm2⟩;have hS3:=hS2b.mod hlt hr2 hm2;clear hK hS2 hS2b hr2 hm2 r0 r1 r2 f0 f1 f2;obtain⟨n0,n1,n2,g0,g1,g2⟩:=hS3.cells;unfold CJ;go_wp2;obtain⟨e0,e1,e2,e3,e4⟩:=hS3.fin hlt (I J k) (Q ⟨#[]⟩) (I J p);refine bodyPost_ret (v:=.tuple #[CJ ⟨k,[],p⟩,.nilIface]) (by simp[results,Tryz.results255,go_sem,CJ,e0,e1,e2]) rfl (Bf.ok ((HQ.out (by omega)).trans (by rw[if_neg HK7.out];rfl)) rfl e3 e4)
end
section
set_option maxRecDepth 100000
set_option maxHeartbeats 4000000
theorem Ah.ra {w:Y} {R:Nat} {s:ByteArray} {p d:Nat} {w':Y} (h:Ah w R s p d w'):RA w' R s p d:=h.2
theorem Agv (R:Nat) (s:ByteArray) (p d:Nat) (w:Y) (hs:s.size<=1000000) (hlt:p<s.size) (hR:RA w R s p d) (hn:BA s.data.toList p=true):
  Calls Tryz.prog 256 #[.pointer (F ⟨R,0,O⟩)] w fun e w'=>e=.returned (.bool true)/\Below w.heap.size w w':=by
 have hN:=fun wx hx=>DV R s p d wx hs (by omega) hx;have hC:=fun wx hx=>BQ R s p d 1 (p+1) wx hs rfl (by omega) hx;have hI:=fun wx hx=>FM R s p d 0 p [58] 1 1 wx hs (by omega) (by omega) rfl (by omega) hx;have hF:=fun wx hx=>FD R s p d 0 p Cc 5 5 (5,6) wx hs (by omega) (by omega) rfl (by omega) hx;have hcv:=fun(w:Y) (C:Array Value) (n c:Nat)=>Lib.run_convert_bytes_const (P:=Tryz.prog) w 71 5 C n c Tryz.underlying71 Tryz.underlying5;have hd1:decide ((s.size:Int)<=(p:Int))=false:=by simp;omega
 have hd2:decide (s.size<=p)=false:=by simp;omega
 rw[hn] at hN;clear hn;have hH:=Ah.refl hR;obtain⟨FF,hFF⟩:∃ FF,Cg s.data.toList p Cc=FF:=⟨_,rfl⟩
 rw[hFF] at hF;clear hFF hlt;go_enter Tryz.func256,Tryz.ntmps256;go_wp2;refine wp_region_noPanic ?_;refine wR 45 (S:=(fun w'=>w'.cell? ⟨R,0,O⟩=F (Q s)/\w'.cell? ⟨R,1,O⟩=F (I J p)/\w'.cell? ⟨R,2,O⟩=F (I J d))) rfl ?_ (fun hHeld=>?_)
 ·(try dsimp only);first | exact Ah.all hH | exact Ah.all (Ah.alloc hH _)
 simp only[gR]
 iterate 16 (refine wN hHeld ?_;try simp only[gS])
 refine wB 16 rfl (fun K hK=>?_);go_simp;refine(hN _ hH.ra).mono ?_;rintro e wz ⟨rfl,hb⟩;replace hH:=Ah.step hH hb;try go_wp2_with fail
 refine hK.out _ _ ?_ (fun hHeld2=>?_)
 ·(try dsimp only);first | exact Ah.all hH | exact Ah.all (Ah.alloc hH _)
 clear hK K hHeld;have hHeld:=hHeld2;clear hHeld2;try simp only[gS]
 iterate 2 (refine wN hHeld ?_;try simp only[gS])
 refine wU 19 rfl (by rfl) hHeld ?_;try simp only[gS]
 refine wU 20 rfl (by rfl) hHeld ?_;try simp only[gS]
 refine wU 21 rfl (by rfl) hHeld ?_;try simp only[gS]
 refine wU 22 rfl (by rfl) hHeld ?_;try simp only[gS]
 refine wU 23 rfl (by rfl) hHeld ?_;try simp only[gS]
 refine wU 24 rfl (by rfl) hHeld ?_;try simp only[gS]
 refine wU 25 rfl (by rfl) hHeld ?_;try simp only[gS]
 refine wU 26 rfl (by rfl) hHeld ?_;try simp only[gS]
 refine wU 27 rfl (by rfl) hHeld ?_;try simp only[gS]
 iterate 2 (refine wN hHeld ?_;try simp only[gS])
 refine wU 30 rfl (by rfl) hHeld ?_;try simp only[gS]
 refine wU 31 rfl (by rfl) hHeld ?_;try simp only[gS]
 refine wU 32 rfl (by rfl) hHeld ?_;try simp only[gS]
 refine wU 33 rfl (by rfl) hHeld ?_;try simp only[gS]
 refine wU 34 rfl (by rfl) hHeld ?_;try simp only[gS]
 refine wU 35 rfl (by rfl) hHeld ?_;try simp only[gS]
 refine wU 36 rfl (by rfl) hHeld ?_;try simp only[gS]
 refine wU 37 rfl (by rfl) hHeld ?_;try simp only[gS]
 refine wU 38 rfl (by rfl) hHeld ?_;try simp only[gS]
 refine wU 39 rfl (by rfl) hHeld ?_;try simp only[gS]
 refine wU 40 rfl (by rfl) hHeld ?_;try simp only[gS]
 refine wU 41 rfl (by rfl) hHeld ?_;try simp only[gS]
 refine wU 42 rfl (by rfl) hHeld ?_;try simp only[gS]
 iterate 2 (refine wN hHeld ?_;try simp only[gS])
 refine wpAnyH_done (by kernel_rfl) ?_ _;refine NoPanic.normal ?_;go_wp2;go_ret;exact⟨rfl,hH.1⟩
end
section
set_option maxRecDepth 100000
set_option maxHeartbeats 4000000
theorem Ac7 (R:Nat) (s:ByteArray) (p d:Nat) (w:Y) (hs:s.size<=1000000) (hlt:p<s.size) (hR:RA w R s p d) (hn:BA s.data.toList p=false) (hi:Cg s.data.toList p [58]=true) (hc:AC s.data.toList (p+1) d=true):
  Calls Tryz.prog 256 #[.pointer (F ⟨R,0,O⟩)] w fun e w'=>e=.returned (.bool true)/\Below w.heap.size w w':=by
 have hN:=fun wx hx=>DV R s p d wx hs (by omega) hx;have hC:=fun wx hx=>BQ R s p d 1 (p+1) wx hs rfl (by omega) hx;have hI:=fun wx hx=>FM R s p d 0 p [58] 1 1 wx hs (by omega) (by omega) rfl (by omega) hx;have hF:=fun wx hx=>FD R s p d 0 p Cc 5 5 (5,6) wx hs (by omega) (by omega) rfl (by omega) hx;have hcv:=fun(w:Y) (C:Array Value) (n c:Nat)=>Lib.run_convert_bytes_const (P:=Tryz.prog) w 71 5 C n c Tryz.underlying71 Tryz.underlying5;have hd1:decide ((s.size:Int)<=(p:Int))=false:=by simp;omega
 have hd2:decide (s.size<=p)=false:=by simp;omega
 rw[hn] at hN;rw[hi] at hI;rw[hc] at hC;clear hn hi hc;have hH:=Ah.refl hR;obtain⟨FF,hFF⟩:∃ FF,Cg s.data.toList p Cc=FF:=⟨_,rfl⟩
 rw[hFF] at hF;clear hFF hlt;go_enter Tryz.func256,Tryz.ntmps256;go_wp2;refine wp_region_noPanic ?_;refine wR 45 (S:=(fun w'=>w'.cell? ⟨R,0,O⟩=F (Q s)/\w'.cell? ⟨R,1,O⟩=F (I J p)/\w'.cell? ⟨R,2,O⟩=F (I J d))) rfl ?_ (fun hHeld=>?_)
 ·(try dsimp only);first | exact Ah.all hH | exact Ah.all (Ah.alloc hH _)
 simp only[gR]
 iterate 16 (refine wN hHeld ?_;try simp only[gS])
 refine wB 16 rfl (fun K hK=>?_);go_simp;refine(hN _ hH.ra).mono ?_;rintro e wz ⟨rfl,hb⟩;replace hH:=Ah.step hH hb;try go_wp2_with fail
 refine hK.out _ _ ?_ (fun hHeld2=>?_)
 ·(try dsimp only);first | exact Ah.all hH | exact Ah.all (Ah.alloc hH _)
 clear hK K hHeld;have hHeld:=hHeld2;clear hHeld2;try simp only[gS]
 iterate 5 (refine wN hHeld ?_;try simp only[gS])
 refine wB 22 rfl (fun K hK=>?_);go_simp;refine hK.out _ _ ?_ (fun hHeld2=>?_)
 ·(try dsimp only);first | exact Ah.all hH | exact Ah.all (Ah.alloc hH _)
 clear hK K hHeld;have hHeld:=hHeld2;clear hHeld2;try simp only[gS]
 refine wB 23 rfl (fun K hK=>?_);go_simp;refine(hI _ hH.ra).mono ?_;rintro e wz ⟨rfl,hb⟩;replace hH:=Ah.step hH hb;try go_wp2_with fail
 refine hK.out _ _ ?_ (fun hHeld2=>?_)
 ·(try dsimp only);first | exact Ah.all hH | exact Ah.all (Ah.alloc hH _)
 clear hK K hHeld;have hHeld:=hHeld2;clear hHeld2;try simp only[gS]
 iterate 2 (refine wN hHeld ?_;try simp only[gS])
 refine wB 26 rfl (fun K hK=>?_);go_simp;refine(hC _ hH.ra).mono ?_;rintro e wz ⟨rfl,hb⟩;replace hH:=Ah.step hH hb;try go_wp2_with fail
 refine hK.out _ _ ?_ (fun hHeld2=>?_)
 ·(try dsimp only);first | exact Ah.all hH | exact Ah.all (Ah.alloc hH _)
 clear hK K hHeld;have hHeld:=hHeld2;clear hHeld2;try simp only[gS]
 iterate 3 (refine wN hHeld ?_;try simp only[gS])
 refine wU 30 rfl (by rfl) hHeld ?_;try simp only[gS]
 refine wU 31 rfl (by rfl) hHeld ?_;try simp only[gS]
 refine wU 32 rfl (by rfl) hHeld ?_;try simp only[gS]
 refine wU 33 rfl (by rfl) hHeld ?_;try simp only[gS]
 refine wU 34 rfl (by rfl) hHeld ?_;try simp only[gS]
 refine wU 35 rfl (by rfl) hHeld ?_;try simp only[gS]
 refine wU 36 rfl (by rfl) hHeld ?_;try simp only[gS]
 refine wU 37 rfl (by rfl) hHeld ?_;try simp only[gS]
 refine wU 38 rfl (by rfl) hHeld ?_;try simp only[gS]
 refine wU 39 rfl (by rfl) hHeld ?_;try simp only[gS]
 refine wU 40 rfl (by rfl) hHeld ?_;try simp only[gS]
 refine wU 41 rfl (by rfl) hHeld ?_;try simp only[gS]
 refine wU 42 rfl (by rfl) hHeld ?_;try simp only[gS]
 iterate 2 (refine wN hHeld ?_;try simp only[gS])
 refine wpAnyH_done (by kernel_rfl) ?_ _;refine NoPanic.normal ?_;go_wp2;go_ret;exact⟨rfl,hH.1⟩
theorem Aau (R:Nat) (s:ByteArray) (p d:Nat) (w:Y) (hs:s.size<=1000000) (hlt:p<s.size) (hR:RA w R s p d) (hn:BA s.data.toList p=false) (hi:Cg s.data.toList p [58]=true) (hc:AC s.data.toList (p+1) d=false) (hd:0<d):
  Calls Tryz.prog 256 #[.pointer (F ⟨R,0,O⟩)] w fun e w'=>e=.returned (.bool (Cg s.data.toList p Cc))/\Below w.heap.size w w':=by
 have hN:=fun wx hx=>DV R s p d wx hs (by omega) hx;have hC:=fun wx hx=>BQ R s p d 1 (p+1) wx hs rfl (by omega) hx;have hI:=fun wx hx=>FM R s p d 0 p [58] 1 1 wx hs (by omega) (by omega) rfl (by omega) hx;have hF:=fun wx hx=>FD R s p d 0 p Cc 5 5 (5,6) wx hs (by omega) (by omega) rfl (by omega) hx;have hcv:=fun(w:Y) (C:Array Value) (n c:Nat)=>Lib.run_convert_bytes_const (P:=Tryz.prog) w 71 5 C n c Tryz.underlying71 Tryz.underlying5;have hd1:decide ((s.size:Int)<=(p:Int))=false:=by simp;omega
 have hd2:decide (s.size<=p)=false:=by simp;omega
 rw[hn] at hN;rw[hi] at hI;rw[hc] at hC;have hdd:decide ((0:Int)<(d:Int))=true:=by simpa using hd
 have hdd2:decide (0<d)=true:=by simpa using hd
 clear hd;clear hn hi hc;have hH:=Ah.refl hR;obtain⟨FF,hFF⟩:∃ FF,Cg s.data.toList p Cc=FF:=⟨_,rfl⟩
 rw[hFF] at hF |-;clear hFF hlt;go_enter Tryz.func256,Tryz.ntmps256;go_wp2;refine wp_region_noPanic ?_;refine wR 45 (S:=(fun w'=>w'.cell? ⟨R,0,O⟩=F (Q s)/\w'.cell? ⟨R,1,O⟩=F (I J p)/\w'.cell? ⟨R,2,O⟩=F (I J d))) rfl ?_ (fun hHeld=>?_)
 ·(try dsimp only);first | exact Ah.all hH | exact Ah.all (Ah.alloc hH _)
 simp only[gR]
 iterate 16 (refine wN hHeld ?_;try simp only[gS])
 refine wB 16 rfl (fun K hK=>?_);go_simp;refine(hN _ hH.ra).mono ?_;rintro e wz ⟨rfl,hb⟩;replace hH:=Ah.step hH hb;try go_wp2_with fail
 refine hK.out _ _ ?_ (fun hHeld2=>?_)
 ·(try dsimp only);first | exact Ah.all hH | exact Ah.all (Ah.alloc hH _)
 clear hK K hHeld;have hHeld:=hHeld2;clear hHeld2;try simp only[gS]
 iterate 5 (refine wN hHeld ?_;try simp only[gS])
 refine wB 22 rfl (fun K hK=>?_);go_simp;refine hK.out _ _ ?_ (fun hHeld2=>?_)
 ·(try dsimp only);first | exact Ah.all hH | exact Ah.all (Ah.alloc hH _)
 clear hK K hHeld;have hHeld:=hHeld2;clear hHeld2;try simp only[gS]
 refine wB 23 rfl (fun K hK=>?_);go_simp;refine(hI _ hH.ra).mono ?_;rintro e wz ⟨rfl,hb⟩;replace hH:=Ah.step hH hb;try go_wp2_with fail
 refine hK.out _ _ ?_ (fun hHeld2=>?_)
 ·(try dsimp only);first | exact Ah.all hH | exact Ah.all (Ah.alloc hH _)
 clear hK K hHeld;have hHeld:=hHeld2;clear hHeld2;try simp only[gS]
 iterate 2 (refine wN hHeld ?_;try simp only[gS])
 refine wB 26 rfl (fun K hK=>?_);go_simp;refine(hC _ hH.ra).mono ?_;rintro e wz ⟨rfl,hb⟩;replace hH:=Ah.step hH hb;try go_wp2_with fail
 refine hK.out _ _ ?_ (fun hHeld2=>?_)
 ·(try dsimp only);first | exact Ah.all hH | exact Ah.all (Ah.alloc hH _)
 clear hK K hHeld;have hHeld:=hHeld2;clear hHeld2;try simp only[gS]
 iterate 12 (refine wN hHeld ?_;try simp only[gS])
 refine wB 39 rfl (fun K hK=>?_);go_simp;refine hK.out _ _ ?_ (fun hHeld2=>?_)
 ·(try dsimp only);first | exact Ah.all hH | exact Ah.all (Ah.alloc hH _)
 clear hK K hHeld;have hHeld:=hHeld2;clear hHeld2;try simp only[gS]
 refine wB 40 rfl (fun K hK=>?_);go_simp;refine hK.out _ _ ?_ (fun hHeld2=>?_)
 ·(try dsimp only);first | exact Ah.all hH | exact Ah.all (Ah.alloc hH _)
 clear hK K hHeld;have hHeld:=hHeld2;clear hHeld2;try simp only[gS]
 refine wB 41 rfl (fun K hK=>?_);go_simp;refine(hF _ hH.ra).mono ?_;rintro e wz ⟨rfl,hb⟩;replace hH:=Ah.step hH hb;try go_wp2_with fail
 refine hK.out _ _ ?_ (fun hHeld2=>?_)
 ·(try dsimp only);first | exact Ah.all hH | exact Ah.all (Ah.alloc hH _)
 clear hK K hHeld;have hHeld:=hHeld2;clear hHeld2;try simp only[gS]
 iterate 3 (refine wN hHeld ?_;try simp only[gS])
 refine wpAnyH_done (by kernel_rfl) ?_ _;refine NoPanic.normal ?_;go_wp2;go_ret;exact⟨rfl,hH.1⟩
end
end Go.Proofs.YtdpppepmkeinaaaGreatDoor
