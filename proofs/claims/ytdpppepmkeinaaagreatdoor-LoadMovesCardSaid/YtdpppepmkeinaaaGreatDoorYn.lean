/- What is proved: a part of the walk of the program and of its plain laws; no condition beside those that each theorem names. -/
import Derived.Test.YtdpppepmkeinaaaGreatDoorYk
import Derived.Test.YtdpppepmkeinaaaGreatDoorYm
import Derived.Test.YtdpppepmkeinaaaGreatDoorYa
import Derived.RegionTactic
import Derived.ChangeAlike
namespace Go.Proofs.YtdpppepmkeinaaaGreatDoor
open Go Go.RowKit Go.Lib
open Go.Value renaming int->I,string->Q,slice->Z
open Go.IntKind renaming i64->J
open Option renaming none->O,some->F
open _root_.Go renaming World->Y
set_option linter.unusedSimpArgs false
set_option linter.unusedVariables false
set_option linter.unusedSectionVars false
section
set_option maxRecDepth 100000
set_option maxHeartbeats 4000000
theorem Ad2 {s:ByteArray} {l:List UInt8} (h:s.data.toList=l):s=⟨l.toArray⟩:=by subst h;rfl
theorem PG (s:ByteArray) (p:Nat) (hp:p<s.size):(nameOf s.data.toList p).length<=s.size - (p+1):=by
 have:=Agm s.data.toList (p:=p) (by rw[<- Lib.size_eq];exact hp);rw[<- Lib.size_eq] at this;omega
theorem KV (s:ByteArray) (p:Nat):(s.extract p s.size).data.toList=s.data.toList.drop p:=by
 rw[Lib.extract_data,List.take_of_length_le (by rw[List.length_drop,<- Lib.size_eq];omega)]
theorem RM (l:List UInt8):l.take (l.takeWhile Cd).length=l.takeWhile Cd:=(List.prefix_iff_eq_take.1 (List.takeWhile_prefix _)).symm
theorem TO (s:ByteArray) (p:Nat):(s.extract (p+1) s.size).extract 0 (nameOf s.data.toList p).length=⟨(nameOf s.data.toList p).toArray⟩:=by
 refine(Ad2 ?_);rw[Lib.extract_data,KV,List.drop_zero,Nat.sub_zero];exact RM _
theorem Aeq (R:Nat) (s:ByteArray) (p d:Nat) (w:Y) (hs:s.size<=1000000) (hp:p<s.size) (hR:RA w R s p d) (hst:Cg s.data.toList p [42]=true) (r:TR) (HR:Hid ((if CG (nameOf s.data.toList p)&&AC s.data.toList (p+1+(nameOf s.data.toList p).length) d then .ok 4 (nameOf s.data.toList p) (p+1+(nameOf s.data.toList p).length) d else .bad 90)=r)):
  Calls Tryz.prog 251 #[.pointer (F ⟨R,0,O⟩)] w (Bf R s p r w):=by
 have hI:=fun N wx hn hx=>Ads N R s p d 0 p [42] 1 1 (0,0) wx hn hs (by omega) (by omega) rfl (by omega) hx;rw[hst] at hI;clear hst;have hlt:=hR.lt;have hns:=PG s p hp;have hNS:=TO s p;have hLs:=PJ (s.extract (p+1) s.size);rw[KV] at hLs;rw[show(s.data.toList.drop (p+1)).takeWhile Cd=nameOf s.data.toList p from rfl] at hLs;obtain⟨nm,hnm⟩:∃ nm,nameOf s.data.toList p=nm:=⟨_,rfl⟩
 rw[hnm] at HR hns hNS hLs;clear hnm;obtain⟨n,hn⟩:∃ n,nm.length=n:=⟨_,rfl⟩
 rw[hn] at HR hns hNS hLs;obtain⟨P2,hP2⟩:∃ P2,p+1+n=P2:=⟨_,rfl⟩
 rw[hP2] at HR;have hRz:(s.extract (p+1) s.size).size=s.size - (p+1):=by rw[ByteArray.size_extract];omega
 have hp1:((p:Int)+1).toNat=p+1:=by omega
 have hT:=fun wx=>Tryz.strings_TrimLeftFunc_grows 40 #[] (enters_of Tryz.func40 (by kernel_rfl) rfl) Gt (s.extract (p+1) s.size) wx (Kx wx);obtain⟨LT,hLT⟩:∃ LT,trimLeftF Gt (s.extract (p+1) s.size)=LT:=⟨_,rfl⟩
 rw[hLT] at hT hLs;clear hLT;obtain⟨RS,hRS⟩:∃ RS,s.extract (p+1) s.size=RS:=⟨_,rfl⟩
 rw[hRS] at hT hLs hRz hNS;have hsub:(RS.size:Int) - (LT.size:Int)=(n:Int):=by omega
 have hsubw:IntKind.i64.wrap ((RS.size:Int) - (LT.size:Int))=(n:Int):=by rw[hsub];exact IntWalk.i64_in _ (by omega)
 have hni:(n:Int)<=(RS.size:Int):=by omega
 have hRb:(RS.size:Int)<=1000000:=by omega
 have hnb1:(n:Int)<=1000000:=by omega
 have hN:=fun wx=>Ga ⟨nm.toArray⟩ wx (by rw[size_mk];omega);rw[Dk] at hN;have hC:=fun wx hx=>BQ R s P2 d 0 P2 wx hs rfl (by omega) hx;obtain⟨nb,hnb⟩:∃ nb,CG nm=nb:=⟨_,rfl⟩
 obtain⟨cb,hcb⟩:∃ cb,AC s.data.toList P2 d=cb:=⟨_,rfl⟩
 rw[hnb] at hN HR;rw[hcb] at hC HR;clear hnb hcb;have hw2:IntKind.i64.wrap (1+(n:Int))=1+(n:Int):=IntWalk.i64_in _ (by omega);have hw3:IntKind.i64.wrap ((p:Int)+(1+(n:Int)))=(P2:Int):=by rw[show(p:Int)+(1+(n:Int))=(P2:Int) by omega];exact IntWalk.i64_in _ (by omega)
 have hw3':(p:Int)+(1+(n:Int))=(P2:Int):=by omega
 have hpi:(p:Int)<(s.size:Int):=by omega
 have hSZ:(⟨nm.toArray⟩:ByteArray).size=n:=by rw[size_mk];exact hn
 have HALL:=hid (Ai hRS (Ai hNS (Ai hRz (Ai hSZ (Ai hw2 (Ai hw3 hw3'))))));have hpb:(p:Int)<=1000000:=by omega
 clear hRS hNS hRz hSZ hw2 hw3 hw3' hP2 hn hLs hns;have hY:=Sy.new hR (I J 3) (Q ⟨#[]⟩) (I J p);obtain⟨r0,r1,r2,f0,f1,f2⟩:=hR.cells;go_enter Tryz.func251,Tryz.ntmps251;go_wp2_with fail;refine(hI _ _ (by simp) hY.sx.ra).mono ?_;rintro e w1 ⟨rfl,hb1⟩;replace hY:=hY.below hb1;clear hI hb1 r0 r1 r2 f0 f1 f2;obtain⟨r0,r1,r2,f0,f1,f2⟩:=hY.sx.ra.cells;obtain⟨t0,t1,t2,u0,u1,u2⟩:=hY.cells;replace hY:=hY.putK hlt (I J 4);have hRS:=HALL.out.1;have hp1le:(p:Int)+1<=(s.size:Int):=by omega
 go_wp2;go_quiet (fail);replace hY:=hY.below (below_drewN (n:=nq) (Bq _ _));clear r0 r1 r2 f0 f1 f2 t0 t1 t2 u0 u1 u2 hRS hp1 hp1le;go_wp2_with fail;refine(hT _).mono ?_;rintro e w2 ⟨rfl,hb2⟩;replace hY:=hY.below hb2;clear hb2 hT;obtain⟨r0,r1,r2,f0,f1,f2⟩:=hY.sx.ra.cells;obtain⟨t0,t1,t2,u0,u1,u2⟩:=hY.cells;have hNS:=HALL.out.2.1;replace hY:=hY.putS hlt (Q ⟨nm.toArray⟩);go_wp2;clear r0 r1 r2 f0 f1 f2 t0 t1 t2 u0 u1 u2 hNS;revert hY;generalize w2.setCell ⟨w.heap.size+1,1,O⟩ (Q ⟨nm.toArray⟩)=w3;intro hY;obtain⟨r0,r1,r2,f0,f1,f2⟩:=hY.sx.ra.cells;obtain⟨t0,t1,t2,u0,u1,u2⟩:=hY.cells;have hSZ:=HALL.out.2.2.2.1;have hw2:=HALL.out.2.2.2.2.1;have hw3:=HALL.out.2.2.2.2.2.1;have hw3':=HALL.out.2.2.2.2.2.2;go_region;replace hY:=(hY.set1 hlt P2).drew;clear r0 r1 r2 f0 f1 f2 t0 t1 t2 u0 u1 u2 hSZ hw2 hw3 hw3' HALL hsub hsubw hni;revert hY;generalize (w3.setCell ⟨R,1,O⟩ (I J P2)).drew=w4;intro hY;obtain⟨t0,t1,t2,u0,u1,u2⟩:=hY.cells;go_wp2_with fail;refine(hN _).mono ?_;rintro e w5 ⟨rfl,hb5⟩;replace hY:=hY.below hb5;clear hN hb5 t0 t1 t2 u0 u1 u2;cases nb with
 | false=>
  have HQ:=hid (show r=.bad 90 by rw[<- HR.out,Bool.false_and,if_neg (by decide)]);obtain⟨n0,n1,n2,g0,g1,g2⟩:=hY.sx.cells;obtain⟨t0,t1,t2,u0,u1,u2⟩:=hY.cells;go_wp2;obtain⟨e0,e1,e2,e3,e4⟩:=hY.sx.fin hlt (I J 0) (Q ⟨#[]⟩) (I J 0);refine bodyPost_ret (v:=.tuple #[CJ ⟨0,[],0⟩,.iface 325 (.agg #[I J 90])]) (by simp[results,Tryz.results251,go_sem,CJ,e0,e1,e2]) rfl (Bf.bad HQ.out rfl e4)
 | true=>
  go_wp2_with fail;refine(hC _ hY.sx.ra).mono ?_;rintro e w6 ⟨rfl,hb6⟩;replace hY:=hY.below hb6;clear hC hb6;cases cb with
  | false=>
   have HQ:=hid (show r=.bad 90 by rw[<- HR.out,Bool.true_and,if_neg (by decide)]);obtain⟨n0,n1,n2,g0,g1,g2⟩:=hY.sx.cells;obtain⟨t0,t1,t2,u0,u1,u2⟩:=hY.cells;go_wp2;obtain⟨e0,e1,e2,e3,e4⟩:=hY.sx.fin hlt (I J 0) (Q ⟨#[]⟩) (I J 0);refine bodyPost_ret (v:=.tuple #[CJ ⟨0,[],0⟩,.iface 325 (.agg #[I J 90])]) (by simp[results,Tryz.results251,go_sem,CJ,e0,e1,e2]) rfl (Bf.bad HQ.out rfl e4)
  | true=>
   have HQ:=hid (show r=.ok 4 nm P2 d by rw[<- HR.out,Bool.true_and,if_pos rfl]);obtain⟨n0,n1,n2,g0,g1,g2⟩:=hY.sx.cells;obtain⟨t0,t1,t2,u0,u1,u2⟩:=hY.cells;go_wp2;obtain⟨e0,e1,e2,e3,e4⟩:=hY.sx.fin hlt (I J 4) (Q ⟨nm.toArray⟩) (I J p);refine bodyPost_ret (v:=.tuple #[CJ ⟨4,nm,p⟩,.nilIface]) (by simp[results,Tryz.results251,go_sem,CJ,e0,e1,e2]) rfl (Bf.ok HQ.out rfl e3 e4)
theorem Aeg (R:Nat) (s:ByteArray) (p d:Nat) (w:Y) (hs:s.size<=1000000) (hp:p<s.size) (hR:RA w R s p d) (hst:Cg s.data.toList p [42]=false) (r:TR) (HR:Hid ((if CG (nameOf s.data.toList p)&&AC s.data.toList (p+1+(nameOf s.data.toList p).length) d then .ok 3 (nameOf s.data.toList p) (p+1+(nameOf s.data.toList p).length) d else .bad 90)=r)):
  Calls Tryz.prog 251 #[.pointer (F ⟨R,0,O⟩)] w (Bf R s p r w):=by
 have hI:=fun N wx hn hx=>Ads N R s p d 0 p [42] 1 1 (0,0) wx hn hs (by omega) (by omega) rfl (by omega) hx;rw[hst] at hI;clear hst;have hlt:=hR.lt;have hns:=PG s p hp;have hNS:=TO s p;have hLs:=PJ (s.extract (p+1) s.size);rw[KV] at hLs;rw[show(s.data.toList.drop (p+1)).takeWhile Cd=nameOf s.data.toList p from rfl] at hLs;obtain⟨nm,hnm⟩:∃ nm,nameOf s.data.toList p=nm:=⟨_,rfl⟩
 rw[hnm] at HR hns hNS hLs;clear hnm;obtain⟨n,hn⟩:∃ n,nm.length=n:=⟨_,rfl⟩
 rw[hn] at HR hns hNS hLs;obtain⟨P2,hP2⟩:∃ P2,p+1+n=P2:=⟨_,rfl⟩
 rw[hP2] at HR;have hRz:(s.extract (p+1) s.size).size=s.size - (p+1):=by rw[ByteArray.size_extract];omega
 have hp1:((p:Int)+1).toNat=p+1:=by omega
 have hT:=fun wx=>Tryz.strings_TrimLeftFunc_grows 40 #[] (enters_of Tryz.func40 (by kernel_rfl) rfl) Gt (s.extract (p+1) s.size) wx (Kx wx);obtain⟨LT,hLT⟩:∃ LT,trimLeftF Gt (s.extract (p+1) s.size)=LT:=⟨_,rfl⟩
 rw[hLT] at hT hLs;clear hLT;obtain⟨RS,hRS⟩:∃ RS,s.extract (p+1) s.size=RS:=⟨_,rfl⟩
 rw[hRS] at hT hLs hRz hNS;have hsub:(RS.size:Int) - (LT.size:Int)=(n:Int):=by omega
 have hsubw:IntKind.i64.wrap ((RS.size:Int) - (LT.size:Int))=(n:Int):=by rw[hsub];exact IntWalk.i64_in _ (by omega)
 have hni:(n:Int)<=(RS.size:Int):=by omega
 have hRb:(RS.size:Int)<=1000000:=by omega
 have hnb1:(n:Int)<=1000000:=by omega
 have hN:=fun wx=>Ga ⟨nm.toArray⟩ wx (by rw[size_mk];omega);rw[Dk] at hN;have hC:=fun wx hx=>BQ R s P2 d 0 P2 wx hs rfl (by omega) hx;obtain⟨nb,hnb⟩:∃ nb,CG nm=nb:=⟨_,rfl⟩
 obtain⟨cb,hcb⟩:∃ cb,AC s.data.toList P2 d=cb:=⟨_,rfl⟩
 rw[hnb] at hN HR;rw[hcb] at hC HR;clear hnb hcb;have hw2:IntKind.i64.wrap (1+(n:Int))=1+(n:Int):=IntWalk.i64_in _ (by omega);have hw3:IntKind.i64.wrap ((p:Int)+(1+(n:Int)))=(P2:Int):=by rw[show(p:Int)+(1+(n:Int))=(P2:Int) by omega];exact IntWalk.i64_in _ (by omega)
 have hw3':(p:Int)+(1+(n:Int))=(P2:Int):=by omega
 have hpi:(p:Int)<(s.size:Int):=by omega
 have hSZ:(⟨nm.toArray⟩:ByteArray).size=n:=by rw[size_mk];exact hn
 have HALL:=hid (Ai hRS (Ai hNS (Ai hRz (Ai hSZ (Ai hw2 (Ai hw3 hw3'))))));have hpb:(p:Int)<=1000000:=by omega
 clear hRS hNS hRz hSZ hw2 hw3 hw3' hP2 hn hLs hns;have hY:=Sy.new hR (I J 3) (Q ⟨#[]⟩) (I J p);obtain⟨r0,r1,r2,f0,f1,f2⟩:=hR.cells;go_enter Tryz.func251,Tryz.ntmps251;go_wp2_with fail;refine(hI _ _ (by simp) hY.sx.ra).mono ?_;rintro e w1 ⟨rfl,hb1⟩;replace hY:=hY.below hb1;clear hI hb1 r0 r1 r2 f0 f1 f2;obtain⟨r0,r1,r2,f0,f1,f2⟩:=hY.sx.ra.cells;obtain⟨t0,t1,t2,u0,u1,u2⟩:=hY.cells;have hRS:=HALL.out.1;have hp1le:(p:Int)+1<=(s.size:Int):=by omega
 go_wp2;go_quiet (fail);replace hY:=hY.below (below_drewN (n:=nq) (Bq _ _));clear r0 r1 r2 f0 f1 f2 t0 t1 t2 u0 u1 u2 hRS hp1 hp1le;go_wp2_with fail;refine(hT _).mono ?_;rintro e w2 ⟨rfl,hb2⟩;replace hY:=hY.below hb2;clear hb2 hT;obtain⟨r0,r1,r2,f0,f1,f2⟩:=hY.sx.ra.cells;obtain⟨t0,t1,t2,u0,u1,u2⟩:=hY.cells;have hNS:=HALL.out.2.1;replace hY:=hY.putS hlt (Q ⟨nm.toArray⟩);go_wp2;clear r0 r1 r2 f0 f1 f2 t0 t1 t2 u0 u1 u2 hNS;revert hY;generalize w2.setCell ⟨w.heap.size+1,1,O⟩ (Q ⟨nm.toArray⟩)=w3;intro hY;obtain⟨r0,r1,r2,f0,f1,f2⟩:=hY.sx.ra.cells;obtain⟨t0,t1,t2,u0,u1,u2⟩:=hY.cells;have hSZ:=HALL.out.2.2.2.1;have hw2:=HALL.out.2.2.2.2.1;have hw3:=HALL.out.2.2.2.2.2.1;have hw3':=HALL.out.2.2.2.2.2.2;go_region;replace hY:=(hY.set1 hlt P2).drew;clear r0 r1 r2 f0 f1 f2 t0 t1 t2 u0 u1 u2 hSZ hw2 hw3 hw3' HALL hsub hsubw hni;revert hY;generalize (w3.setCell ⟨R,1,O⟩ (I J P2)).drew=w4;intro hY;obtain⟨t0,t1,t2,u0,u1,u2⟩:=hY.cells;go_wp2_with fail;refine(hN _).mono ?_;rintro e w5 ⟨rfl,hb5⟩;replace hY:=hY.below hb5;clear hN hb5 t0 t1 t2 u0 u1 u2;cases nb with
 | false=>
  have HQ:=hid (show r=.bad 90 by rw[<- HR.out,Bool.false_and,if_neg (by decide)]);obtain⟨n0,n1,n2,g0,g1,g2⟩:=hY.sx.cells;obtain⟨t0,t1,t2,u0,u1,u2⟩:=hY.cells;go_wp2;obtain⟨e0,e1,e2,e3,e4⟩:=hY.sx.fin hlt (I J 0) (Q ⟨#[]⟩) (I J 0);refine bodyPost_ret (v:=.tuple #[CJ ⟨0,[],0⟩,.iface 325 (.agg #[I J 90])]) (by simp[results,Tryz.results251,go_sem,CJ,e0,e1,e2]) rfl (Bf.bad HQ.out rfl e4)
 | true=>
  go_wp2_with fail;refine(hC _ hY.sx.ra).mono ?_;rintro e w6 ⟨rfl,hb6⟩;replace hY:=hY.below hb6;clear hC hb6;cases cb with
  | false=>
   have HQ:=hid (show r=.bad 90 by rw[<- HR.out,Bool.true_and,if_neg (by decide)]);obtain⟨n0,n1,n2,g0,g1,g2⟩:=hY.sx.cells;obtain⟨t0,t1,t2,u0,u1,u2⟩:=hY.cells;go_wp2;obtain⟨e0,e1,e2,e3,e4⟩:=hY.sx.fin hlt (I J 0) (Q ⟨#[]⟩) (I J 0);refine bodyPost_ret (v:=.tuple #[CJ ⟨0,[],0⟩,.iface 325 (.agg #[I J 90])]) (by simp[results,Tryz.results251,go_sem,CJ,e0,e1,e2]) rfl (Bf.bad HQ.out rfl e4)
  | true=>
   have HQ:=hid (show r=.ok 3 nm P2 d by rw[<- HR.out,Bool.true_and,if_pos rfl]);obtain⟨n0,n1,n2,g0,g1,g2⟩:=hY.sx.cells;obtain⟨t0,t1,t2,u0,u1,u2⟩:=hY.cells;go_wp2;obtain⟨e0,e1,e2,e3,e4⟩:=hY.sx.fin hlt (I J 3) (Q ⟨nm.toArray⟩) (I J p);refine bodyPost_ret (v:=.tuple #[CJ ⟨3,nm,p⟩,.nilIface]) (by simp[results,Tryz.results251,go_sem,CJ,e0,e1,e2]) rfl (Bf.ok HQ.out rfl e3 e4)
theorem Y2 (R:Nat) (s:ByteArray) (p d:Nat) (w:Y) (hs:s.size<=1000000) (hp:p<s.size) (hR:RA w R s p d):
  Calls Tryz.prog 251 #[.pointer (F ⟨R,0,O⟩)] w (Bf R s p (Jv s.data.toList p d) w):=by
 unfold Jv;cases hst:Cg s.data.toList p [42] with
 | true=>exact Aeq R s p d w hs hp hR hst _ (hid rfl)
 | false=>exact Aeg R s p d w hs hp hR hst _ (hid rfl)
end
section
set_option maxRecDepth 100000
set_option maxHeartbeats 4000000
theorem It {w w':Y} {o:Obj} (h:w'=w.alloc o):Below w.heap.size w w':=by rw[h];exact(Bq _ _).alloc Nr _
theorem Je {w w':Y} {o:Obj} (h:w'=w.alloc o):w'.heap[w.heap.size]? =F o:=by rw[h];exact Wn _ _
abbrev M4 (R f:Nat):Value:=.iface 323 (.func (.func f) #[.pointer (F ⟨R,0,O⟩)] #[])
def Zd (R:Nat):List (Int×Value):=[(34,(M4 R 250)),(39,(M4 R 250)),(38,(M4 R 251)),(42,(M4 R 251)),(45,(M4 R 252)),(58,(M4 R 253)),(91,(M4 R 254)),(123,(M4 R 254)),(44,(M4 R 255)),(93,(M4 R 255)),(125,(M4 R 255))]
def P6 (R k:Nat):Obj:=BN Mb ((Zd R).take k)
theorem CH (R:Nat) (w:Y) (k:Nat) (a:Int) (v:Value) (h:B5 a ((Zd R).take k)=O) (hk:(Zd R).take (k+1)=(Zd R).take k++[(a,v)]):
  (Instr.mapUpdate 369 (.map (F w.heap.size)) (.int .u8 a) v).run Tryz.prog (w.alloc (P6 R k))=.ok () (w.alloc (P6 R (k+1))):=by
 unfold P6;rw[hk];have:=FA (P:=Tryz.prog) (enc:=Mb) WH Rv (t:=369) (k:=5) (e:=20) (w:=w.alloc (BN Mb ((Zd R).take k))) (l:=(Zd R).take k) Tryz.underlying369 Tryz.underlying5 (Wn w _) a v h;rw[Hh] at this;exact this
theorem WM (R:Nat) (c:Int) (w:Y) (b:Nat) (hb:w.heap[b]? =F (P6 R 11)):
  (Instr.lookup 369 (.map (F b)) (.int .u8 c) true).run Tryz.prog w=.ok (.tuple #[(B5 c (Zd R)).getD .nilIface,.bool (B5 c (Zd R)).isSome]) w:=
 DO (P:=Tryz.prog) (enc:=Mb) WH Rv (k:=5) (e:=20) (l:=Zd R) (z:=.nilIface) Tryz.underlying369 Tryz.underlying5 (by kernel_rfl) hb c true
theorem L7 (R:Nat) (w:Y):
  Calls Tryz.prog 223 #[.pointer (F ⟨R,0,O⟩)] w fun e w'=>e=.returned (.map (F w.heap.size))/\w'=w.alloc (P6 R 11):=by
 have hmm:=@run_makeMap Tryz.prog;have h0:=CH R w 0 34 (M4 R 250) (by rfl) rfl;rw[show P6 R 0=.map #[] 0 from rfl] at h0;have h1:=CH R w 1 39 (M4 R 250) (by rfl) rfl;have h2:=CH R w 2 38 (M4 R 251) (by rfl) rfl;have h3:=CH R w 3 42 (M4 R 251) (by rfl) rfl;have h4:=CH R w 4 45 (M4 R 252) (by rfl) rfl;have h5:=CH R w 5 58 (M4 R 253) (by rfl) rfl;have h6:=CH R w 6 91 (M4 R 254) (by rfl) rfl;have h7:=CH R w 7 123 (M4 R 254) (by rfl) rfl;have h8:=CH R w 8 44 (M4 R 255) (by rfl) rfl;have h9:=CH R w 9 93 (M4 R 255) (by rfl) rfl;have h10:=CH R w 10 125 (M4 R 255) (by rfl) rfl;go_enter Tryz.func223,Tryz.ntmps223;go_wp2;go_ret;exact⟨rfl,rfl⟩
theorem YV (v:Value) (w:Y):(Instr.typeAssert (.iface 323 v) 20 323 false).run Tryz.prog w=.ok v w:=by kernel_rfl
theorem KR (f:Nat) (eg:∀ args w,(callFunc f args).run Tryz.prog w=.ok (.enter f args) w) (R:Nat) (s:ByteArray) (p d:Nat) (w:Y) (hs:s.size<=1000000) (hp:p<s.size) (hR:RA w R s p d) (hTab:IZ R w) (c:UInt8) (hc:s[p]'hp=c) (hA:B5 (c.toNat:Int) (Zd R)=F (M4 R f)) (r:TR)
  (hF:∀ wx,RA wx R s p d->IZ R wx->Calls Tryz.prog f #[.pointer (F ⟨R,0,O⟩)] wx (Bf R s p r wx)):
  Calls Tryz.prog 189 #[.pointer (F ⟨R,0,O⟩)] w (Bf R s p r w):=by
 have HA:=hid hA;clear hA;have hlt:=hR.lt;have hta:=YV;have hpi:(p:Int)<(s.size:Int):=by omega
 have hS:=Sx.new hR;go_enter Tryz.func189,Tryz.ntmps189;go_wp2;replace hS:=hS.below (Bq _ _).drew;refine wp_region_noPanic ?_;refine wR 19 (S:=(fun w'=>w'.cell? ⟨R,0,O⟩=F (Q s)/\w'.cell? ⟨R,1,O⟩=F (I J p))) rfl ?_ (fun hHeld=>?_)
 ·(try dsimp only);exact⟨hS.ra.cells.1,hS.ra.cells.2.1⟩
 simp only[gR]
 refine wN hHeld ?_;try simp only[gS]
 refine wI 2 hHeld ?_;try simp only[gS]
 refine wI 3 hHeld ?_;try simp only[gS]
 refine wI 4 hHeld ?_;try simp only[gS]
 refine wI 5 hHeld ?_;try simp only[gS]
 refine wI 6 hHeld ?_;try simp only[gS]
 refine wI 7 hHeld ?_;try simp only[gS]
 refine wI 8 hHeld ?_;try simp only[gS]
 refine wI 9 hHeld ?_;try simp only[gS]
 refine wI 10 hHeld ?_;try simp only[gS]
 refine wI 11 hHeld ?_;try simp only[gS]
 refine wI 12 hHeld ?_;try simp only[gS]
 refine wB 1 rfl (fun K hK=>?_);go_simp;refine(L7 R _).mono ?_;rintro e wz ⟨rfl,hwz⟩;have hb:=It hwz;replace hS:=hS.below hb;have hMap:=WM R (c.toNat:Int) wz _ (Je hwz);rw[HA.out] at hMap
 (have hz:(((w.alloc (.cells #[I J 0,Q ⟨#[]⟩,I J 0] 287)).drew).heap.size)=w.heap.size+1:=World.size_alloc _ _)
 try rw[hz] at hMap
 clear hwz hb hz;try go_wp2_with fail
 refine hK.out _ _ ?_ (fun hHeld2=>?_)
 ·(try dsimp only);exact⟨hS.ra.cells.1,hS.ra.cells.2.1⟩
 clear hK K hHeld;have hHeld:=hHeld2;clear hHeld2;try simp only[gS]
 refine wB 13 rfl (fun K hK=>?_)
 skip
 go_simp;refine hK.out _ _ ?_ (fun hHeld2=>?_)
 ·(try dsimp only);exact⟨hS.ra.cells.1,hS.ra.cells.2.1⟩
 clear hK K hHeld;have hHeld:=hHeld2;clear hHeld2;try simp only[gS]
 iterate 5 (refine wN hHeld ?_;try simp only[gS])
 refine wpAnyH_done (by kernel_rfl) ?_ _;refine NoPanic.normal ?_;clear hMap;go_wp2_with fail;refine(hF _ hS.ra (hTab.mod hS.md)).mono ?_;rintro e w2 hQ;clear hF;cases r with
 | ok k t q d'=>
  obtain⟨rfl,hr2,hm2⟩:=hQ;replace hS:=hS.mod hlt hr2 hm2;clear hr2 hm2;obtain⟨n0,n1,n2,g0,g1,g2⟩:=hS.cells;unfold CJ;go_wp2;obtain⟨e0,e1,e2,e3,e4⟩:=hS.fin hlt (I J k) (Q ⟨t.toArray⟩) (I J p);refine bodyPost_ret (v:=.tuple #[CJ ⟨k,t,p⟩,.nilIface]) (by simp[results,Tryz.results189,go_sem,CJ,e0,e1,e2]) rfl (Bf.ok rfl rfl e3 e4)
 | bad er=>
  obtain⟨rfl,hm2⟩:=hQ;have hZ:=hS.sz hlt hm2;clear hS hm2;obtain⟨n0,n1,n2,g0,g1,g2⟩:=hZ.cells;unfold CJ;go_wp2;obtain⟨e0,e1,e2,e4⟩:=hZ.fin (I J 0) (Q ⟨#[]⟩) (I J 0);refine bodyPost_ret (v:=.tuple #[CJ ⟨0,[],0⟩,.iface 325 (.agg #[I J er])]) (by simp[results,Tryz.results189,go_sem,CJ,e0,e1,e2]) rfl (Bf.bad rfl rfl e4)
theorem Ah7 (R:Nat) (s:ByteArray) (p d:Nat) (w:Y) (hs:s.size<=1000000) (hp:p<s.size) (hR:RA w R s p d) (hTab:IZ R w) (c:UInt8) (hc:s[p]'hp=c) (hA:B5 (c.toNat:Int) (Zd R)=O) (r:TR)
  (hF:∀ wx,RA wx R s p d->IZ R wx->Calls Tryz.prog 224 #[.pointer (F ⟨R,0,O⟩)] wx (Bf R s p r wx)):
  Calls Tryz.prog 189 #[.pointer (F ⟨R,0,O⟩)] w (Bf R s p r w):=by
 have HA:=hid hA;clear hA;have hlt:=hR.lt;have hpi:(p:Int)<(s.size:Int):=by omega
 have hS:=Sx.new hR;go_enter Tryz.func189,Tryz.ntmps189;go_wp2;replace hS:=hS.below (Bq _ _).drew;refine wp_region_noPanic ?_;refine wR 19 (S:=(fun w'=>w'.cell? ⟨R,0,O⟩=F (Q s)/\w'.cell? ⟨R,1,O⟩=F (I J p))) rfl ?_ (fun hHeld=>?_)
 ·(try dsimp only);exact⟨hS.ra.cells.1,hS.ra.cells.2.1⟩
 simp only[gR]
 refine wN hHeld ?_;try simp only[gS]
 refine wI 2 hHeld ?_;try simp only[gS]
 refine wI 3 hHeld ?_;try simp only[gS]
 refine wI 4 hHeld ?_;try simp only[gS]
 refine wI 5 hHeld ?_;try simp only[gS]
 refine wI 6 hHeld ?_;try simp only[gS]
 refine wI 7 hHeld ?_;try simp only[gS]
 refine wI 8 hHeld ?_;try simp only[gS]
 refine wI 9 hHeld ?_;try simp only[gS]
 refine wI 10 hHeld ?_;try simp only[gS]
 refine wI 11 hHeld ?_;try simp only[gS]
 refine wI 12 hHeld ?_;try simp only[gS]
 refine wB 1 rfl (fun K hK=>?_);go_simp;refine(L7 R _).mono ?_;rintro e wz ⟨rfl,hwz⟩;have hb:=It hwz;replace hS:=hS.below hb;have hMap:=WM R (c.toNat:Int) wz _ (Je hwz);rw[HA.out] at hMap
 (have hz:(((w.alloc (.cells #[I J 0,Q ⟨#[]⟩,I J 0] 287)).drew).heap.size)=w.heap.size+1:=World.size_alloc _ _)
 try rw[hz] at hMap
 clear hwz hb hz;try go_wp2_with fail
 refine hK.out _ _ ?_ (fun hHeld2=>?_)
 ·(try dsimp only);exact⟨hS.ra.cells.1,hS.ra.cells.2.1⟩
 clear hK K hHeld;have hHeld:=hHeld2;clear hHeld2;try simp only[gS]
 refine wB 13 rfl (fun K hK=>?_)
 skip
 go_simp;refine hK.out _ _ ?_ (fun hHeld2=>?_)
 ·(try dsimp only);exact⟨hS.ra.cells.1,hS.ra.cells.2.1⟩
 clear hK K hHeld;have hHeld:=hHeld2;clear hHeld2;try simp only[gS]
 iterate 5 (refine wN hHeld ?_;try simp only[gS])
 refine wpAnyH_done (by kernel_rfl) ?_ _;refine NoPanic.normal ?_;clear hMap;go_wp2_with fail;refine(hF _ hS.ra (hTab.mod hS.md)).mono ?_;rintro e w2 hQ;clear hF;cases r with
 | ok k t q d'=>
  obtain⟨rfl,hr2,hm2⟩:=hQ;replace hS:=hS.mod hlt hr2 hm2;clear hr2 hm2;obtain⟨n0,n1,n2,g0,g1,g2⟩:=hS.cells;unfold CJ;go_wp2;obtain⟨e0,e1,e2,e3,e4⟩:=hS.fin hlt (I J k) (Q ⟨t.toArray⟩) (I J p);refine bodyPost_ret (v:=.tuple #[CJ ⟨k,t,p⟩,.nilIface]) (by simp[results,Tryz.results189,go_sem,CJ,e0,e1,e2]) rfl (Bf.ok rfl rfl e3 e4)
 | bad er=>
  obtain⟨rfl,hm2⟩:=hQ;have hZ:=hS.sz hlt hm2;clear hS hm2;obtain⟨n0,n1,n2,g0,g1,g2⟩:=hZ.cells;unfold CJ;go_wp2;obtain⟨e0,e1,e2,e4⟩:=hZ.fin (I J 0) (Q ⟨#[]⟩) (I J 0);refine bodyPost_ret (v:=.tuple #[CJ ⟨0,[],0⟩,.iface 325 (.agg #[I J er])]) (by simp[results,Tryz.results189,go_sem,CJ,e0,e1,e2]) rfl (Bf.bad rfl rfl e4)
end
section
def Ahs {α:Type} (bad:List α->Prop) (P:Program) (gf:Nat) (lb:Array Value) (encs:α->Array Value) (C:Nat->Prop) (n₀:Nat) (xs:List α) (St:Y->Prop):Prop:=
 ∀ (l:Nat) (Jz Jx:List α->Y->Prop) (W:Y),St W->(∀ s X Yz,Jz s X->Au C W.heap.size X Yz->Jz s Yz)->(∀ s X Yz,Jx s X->Au C W.heap.size X Yz->Jx s Yz)->(∀ s X,bad s->¬Jz s X)→
  (∀ pre x W1,Jz pre W1->pre++[x]<+:xs->YieldAt Fence.wide 0 P l (encs x) W1 fun e W'=>
   (e=.returned (.bool true)/\Jz (pre++[x]) W'/\Ak Obj.isWalk C n₀ W1 W')\/(e=.returned (.bool false)/\Jx (pre++[x]) W'/\Ak Obj.isWalk C n₀ W1 W'))→
  Jz [] W→
  CallsIn Fence.wide 0 P gf (#[.func (.yield l) #[] #[]]++lb) W fun e W'=>(∃ v,e=.returned v)/\(Jz xs W'\/∃ pre,pre<+:xs/\Jx pre W')
variable {P:Program}
theorem MH {α:Type} {bad:List α->Prop} {g:Operand} {ps:Array Tmp} {assign body:Code} {Qz:Exit->Act->Y->Prop} {a:Act} {w:Y}
  {gf:Nat} {lb:Array Value} (hg:a.eval g=.func (.func gf) #[] lb) (eg:∀ args w,(callFunc gf args).run P w=.ok (.enter gf args) w)
  {encs:α->Array Value} {C:Nat->Prop} {n₀:Nat} {xs:List α} {St:Y->Prop} (hseq:Ahs bad P gf lb encs C n₀ xs St)
  (hst:∀ Yz,Below w.heap.size w Yz->St Yz) (hC:∀ k,C k->k<w.heap.size) (hn:n₀<=w.heap.size) (hps:∀ x,(encs x).size=ps.size)
  (Iz:List α->Y->Prop) (Ix:Code->List α->Y->Prop) (hI:∀ s X Yz,Iz s X->Au C w.heap.size X Yz->Iz s Yz) (hIx:∀ c s X Yz,Ix c s X->Au C w.heap.size X Yz->Ix c s Yz) (hbad:∀ s X,bad s->¬Iz s X) (h0:Iz [] w)
  (hround:∀ (l:Nat) (pre:List α) (x:α) (W:Y),w.heap.size<=l->Iz pre W->pre++[x]<+:xs→
   assign.wpIn (Fence.wide.inRound l) 0 P (Exit.then (fun a' W'=>Ak AH C n₀ W W'/\∀ Wb,Au C w.heap.size W' Wb->(∃ r,Wb.heap[l]? =F (.loop r))->body.wpIn (Fence.wide.inRound l) 0 P (Adc C n₀ Iz Ix (pre++[x]) Wb) a' Wb) (fun _ _ _=>False))
    {tmps:=(ps.zip (encs x)).foldl (fun t (p,v)=>t.setIfInBounds p v) a.tmps,defers:=[]} W)
  (hdone:∀ (D:Nat) (W:Y),w.heap.size<=D->Iz xs W->W.heap[D]? =F (.deferred (F []))->Qz .normal {a with defers:={target:=.collected D,args:=#[]}::a.defers} W)
  (hstop:∀ (D:Nat) (c:Code) (pre:List α) (W:Y),w.heap.size<=D->pre<+:xs->Ix c pre W->W.heap[D]? =F (.deferred (F []))->c.wpIn Fence.wide 0 P Qz {a with defers:={target:=.collected D,args:=#[]}::a.defers} W):
  (Code.rangeFunc g ps assign body).wpIn Fence.wide 0 P Qz a w:=by
 refine wpIn_rangeFunc (fun fn hfn=>?_);obtain⟨rec,hrec⟩:∃ rec:LoopState->Option Code->Loop,rec=fun st pe=>{state:=st,pending:=pe,fn,tmps:=a.tmps,params:=ps,assign,body,defers:=w.heap.size}:=⟨_,rfl⟩
 obtain⟨W1,hW1⟩:∃ W1,(w.alloc (.deferred (F []))).alloc (.loop (rec .ready O))=W1:=⟨_,rfl⟩
 have hz1:W1.heap.size=w.heap.size+1+1:=by rw[<- hW1];simp
 have hL1:W1.heap[w.heap.size+1]? =F (.loop (rec .ready O)):=by
  rw[<- hW1];have:=Wn (w.alloc (.deferred (F []))) (.loop (rec .ready O));rwa [World.size_alloc] at this
 have hD1:W1.heap[w.heap.size]? =F (.deferred (F [])):=by
  rw[<- hW1];exact(Below.heap_alloc _ _ _ (by simp)).trans (Wn w _)
 have hB1:Below w.heap.size w W1:=by
  rw[<- hW1];exact((Bq _ w).alloc Nr _).alloc (by simp) _
 have hI1:Iz [] W1:=by rw[<- hW1];exact hI _ _ _ (hI _ _ _ h0 (Au.alloc _ _)) (Au.alloc _ _)
 have hCl:¬C (w.heap.size+1):=fun h=>by have:=hC _ h;omega
 have hCD:¬C w.heap.size:=fun h=>by have:=hC _ h;omega
 refine⟨w.heap.size+1,[{target:=.collected w.heap.size,args:=#[]}],W1,{target:=.fn (.func gf) lb,args:=#[.func (.yield (w.heap.size+1)) #[] #[]]},W1,gf,
  #[.func (.yield (w.heap.size+1)) #[] #[]]++lb,W1,?_,?_,?_,?_,fun h=>by simp[Fence.wide] at h,?_⟩
 ·rw[<- hW1,hrec];exact run_enterLoop_outer _ _ _ _ _
 ·simp only[resolve,hg]
  simp[go_sem]
 ·intro f' _;trivial
 ·simp[invoke,go_sem,eg]
 refine(hseq (w.heap.size+1)
  (fun pre W=>Iz pre W/\W.heap[w.heap.size+1]? =F (.loop (rec .ready O))/\W.heap[w.heap.size]? =F (.deferred (F [])))
  (fun pre W=>∃ c,Ix c pre W/\W.heap[w.heap.size+1]? =F (.loop (rec .done (F c)))/\W.heap[w.heap.size]? =F (.deferred (F [])))
  W1 (hst _ hB1)
  (fun s X Yz hs ht=>⟨hI _ _ _ hs.1 (ht.mono (by omega)),ht.old hs.2.1 hCl (by omega),ht.old hs.2.2 hCD (by omega)⟩)
  (fun s X Yz hs ht=>by
   obtain⟨c,hc,hl,hk⟩:=hs;exact⟨c,hIx _ _ _ _ hc (ht.mono (by omega)),ht.old hl hCl (by omega),ht.old hk hCD (by omega)⟩)
  (fun s X hb hj=>hbad s X hb hj.1) ?_ ⟨hI1,hL1,hD1⟩).mono ?_
 ·rintro pre x W ⟨hi,hl,hk⟩ hpre;have hy:=run_yield (P:=P) (args:=encs x) hl (by rw[hrec];exact hps x);rw[hrec] at hy;refine⟨fn,_,assign,body,hy,roundIn_of_wpIn hfn (wpIn_mono (hround _ pre x W (by omega) hi hpre) ?_)⟩;clear hy;intro e0 a' Wa he0;cases e0 with
  | normal=>?_
  | _=>exact he0.elim
  obtain⟨hka,hbd⟩:=he0;have hla:Wa.heap[w.heap.size+1]? =F (.loop (rec .ready O)):=hka.heap hl (.inr (.inr rfl));have hDa:Wa.heap[w.heap.size]? =F (.deferred (F [])):=hka.heap hk (.inr (.inr rfl));have hlt:w.heap.size+1<Wa.heap.size:=(Gl hla)
  refine⟨_,run_beginRound hla (by rw[hrec]),?_⟩;obtain⟨Wb,hWb⟩:∃ Wb,Wa.putObj (w.heap.size+1) (.loop {rec .ready O with state:=.busy})=Wb:=⟨_,rfl⟩
  have hl2:Wb.heap[w.heap.size+1]? =F (.loop {rec .ready O with state:=.busy}):=by rw[<- hWb];exact World.putObj_heap_same hlt
  have hD2:Wb.heap[w.heap.size]? =F (.deferred (F [])):=by rw[<- hWb];exact(World.putObj_heap_other (by omega)).trans hDa
  have hk2:Ak Obj.isWalk C n₀ Wa Wb:=by rw[<- hWb];exact Ak.putObj _ hla (by omega) hCl rfl
  have hta:Au C w.heap.size Wa Wb:=by rw[<- hWb];exact Au.putObj _ hla (by omega) rfl
  rw[hWb];refine wpIn_mono (hbd Wb hta ⟨_,hl2⟩) ?_;have fin:∀ (jump:Option Code) (W3:Y),Ak AH C n₀ Wb W3→
    (Instr.endRound (w.heap.size+1) jump).run P W3=.ok (.bool jump.isNone) (W3.putObj (w.heap.size+1) (.loop (rec (if jump.isNone then .ready else .done) jump)))∧
    (W3.putObj (w.heap.size+1) (.loop (rec (if jump.isNone then .ready else .done) jump))).heap[w.heap.size+1]? =F (.loop (rec (if jump.isNone then .ready else .done) jump))∧
    (W3.putObj (w.heap.size+1) (.loop (rec (if jump.isNone then .ready else .done) jump))).heap[w.heap.size]? =F (.deferred (F []))∧
    Au C w.heap.size W3 (W3.putObj (w.heap.size+1) (.loop (rec (if jump.isNone then .ready else .done) jump)))∧
    Ak Obj.isWalk C n₀ W3 (W3.putObj (w.heap.size+1) (.loop (rec (if jump.isNone then .ready else .done) jump))):=fun jump W3 hk3=>by
   have hl3:W3.heap[w.heap.size+1]? =F (.loop {rec .ready O with state:=.busy}):=hk3.heap hl2 (.inr (.inr rfl));have hD3:W3.heap[w.heap.size]? =F (.deferred (F [])):=hk3.heap hD2 (.inr (.inr rfl));have hr:=run_endRound (P:=P) jump hl3;rw[hrec] at hr |-;exact⟨hr,World.putObj_heap_same (Gl hl3),(World.putObj_heap_other (by omega)).trans hD3,Au.putObj _ hl3 (by omega) rfl,Ak.putObj _ hl3 (by omega) hCl rfl⟩
  rintro e a3 W3 hp;cases e with
  | normal=>
   obtain⟨hr,hl4,hD4,ht4,hk4⟩:=fin O W3 hp.1;exact⟨_,_,hr,.inl ⟨rfl,⟨hI _ _ _ hp.2 ht4,hl4,hD4⟩,((hka.walks.trans hk2).trans hp.1.walks).trans hk4⟩⟩
  | ret=>
   obtain⟨hr,hl4,hD4,ht4,hk4⟩:=fin (F .ret) W3 hp.1;exact⟨_,_,hr,.inr ⟨rfl,⟨.ret,hIx _ _ _ _ hp.2 ht4,hl4,hD4⟩,((hka.walks.trans hk2).trans hp.1.walks).trans hk4⟩⟩
  | exit id=>
   obtain⟨hr,hl4,hD4,ht4,hk4⟩:=fin (F (.exit id)) W3 hp.1;exact⟨_,_,hr,.inr ⟨rfl,⟨.exit id,hIx _ _ _ _ hp.2 ht4,hl4,hD4⟩,((hka.walks.trans hk2).trans hp.1.walks).trans hk4⟩⟩
  | goto t=>
   obtain⟨hr,hl4,hD4,ht4,hk4⟩:=fin (F (.goto t)) W3 hp.1;exact⟨_,_,hr,.inr ⟨rfl,⟨.goto t,hIx _ _ _ _ hp.2 ht4,hl4,hD4⟩,((hka.walks.trans hk2).trans hp.1.walks).trans hk4⟩⟩
  | panic ch=>exact hp.elim
  | outgrown=>exact hp.elim
 ·rintro e W2 ⟨⟨v,rfl⟩,(⟨hi,hl,hk⟩ | ⟨pre,hpre,c,hi,hl,hk⟩)⟩
  ·refine⟨O,_,by have:=run_endLoop (P:=P) hl (by rw[hrec];simp);rw[hrec] at this;exact this,hdone _ _ Nr (hI _ _ _ hi (Au.putObj _ hl (by omega) rfl)) ((World.putObj_heap_other (by omega)).trans hk)⟩
  ·refine⟨F c,_,by have:=run_endLoop (P:=P) hl (by rw[hrec];simp);rw[hrec] at this;exact this,hstop _ c pre _ Nr hpre (hIx _ _ _ _ hi (Au.putObj _ hl (by omega) rfl)) ((World.putObj_heap_other (by omega)).trans hk)⟩
end
end Go.Proofs.YtdpppepmkeinaaaGreatDoor
