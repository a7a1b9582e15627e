/- What is proved: a part of the walk of the program and of its plain laws; no condition beside those that each theorem names. -/
import Derived.Test.YtdpppepmkeinaaaGreatDoorYxk
import Derived.Test.YtdpppepmkeinaaaGreatDoorYz
import Derived.Test.YtdpppepmkeinaaaGreatDoorYxh
import Derived.Test.YtdpppepmkeinaaaGreatDoorYa
import Derived.Deep.RegionHeld3
import Derived.Handy
namespace Go.Proofs.YtdpppepmkeinaaaGreatDoor
open Go Go.RowKit Go.Lib
open Go.Value renaming int->I,string->Q,slice->Z
open Go.IntKind renaming i64->J
open Option renaming none->O,some->F
open _root_.Go renaming World->Y
set_option linter.unusedSimpArgs false
set_option linter.unusedVariables false
set_option linter.unusedSectionVars false
section
set_option maxRecDepth 100000
set_option maxHeartbeats 8000000
theorem Y5 {α β:Type} (f:α->List β) (l:List α) (j:Nat) (h:j<l.length):(l.take (j+1)).flatMap f=(l.take j).flatMap f++f l[j]:=by
 rw[List.take_succ_eq_append_getElem h,List.flatMap_append];simp
theorem ZR (z:Int):(encodeRune z).length<=4:=by
 have:=Lib.runeCells_le z;rw[<- Lib.byteCells_encodeRune,Lib.byteCells_length] at this;exact this.2
theorem L5:∀ zs:List Int,(zs.flatMap encodeRune).length<=4*zs.length
 | []=>by simp
 | z::r=>by
  have:=L5 r;have:=ZR z;rw[List.flatMap_cons,List.length_append,List.length_cons];omega
theorem IL (B b k n:Nat) (acc:List UInt8) (zs:List Int) (w:Y) (h:Lib.IsBuilderF TB T8 B b (Lib.byteCells acc) w)
  (hk:w.heap[k]? =F (.cells (zs.map (Value.int .i32)).toArray 21 (0,0))) (hn:zs.length=n) (hkb:k≠b) (hz:∀ j,(hj:j<zs.length)->0<=zs[j]/\zs[j]<=1114111) (hlen:acc.length+4*n<=10000000) (hBw:B<=w.heap.size):
  Calls Tryz.prog 33 #[Z (F ⟨k,0,O⟩) n n,.pointer (F ⟨b,0,O⟩)] w fun e w'=>e=.returned (.tuple #[])/\Lib.IsBuilderF TB T8 B b (Lib.byteCells (acc++zs.flatMap encodeRune)) w'/\Below B w w'/\Lib.OthersKept T8 (F b) w w':=by
 have HN:=hid hn;have hn':n<=10000000:=by omega
 clear hn;go_enter Tryz.func33,Tryz.ntmps33;go_wp2;go_loopw [7] (fun i wr=>∃ j:Nat,j<=n/\i=I J j/\Lib.IsBuilderF TB T8 B b (Lib.byteCells (acc++(zs.take j).flatMap encodeRune)) wr/\Below B w wr/\Lib.OthersKept T8 (F b) w wr) (fun i _=>n - (intOf i).toNat)
 case atStart=>exact⟨0,by omega,rfl,by simpa using h,Bq _ _,Lib.OthersKept.refl _ _ _⟩
 case round=>
  obtain⟨j,hj,rfl,hB,hb,ho⟩:=hrel;by_cases hlt:j<n
  ·have hlti:(j:Int)<(n:Int):=by omega
   have hjz:j<zs.length:=by rw[HN.out];exact hlt
   have hkk:wr.heap[k]? =_:=ho k _ hk (fun e=>hkb (Option.some.inj e)) (fun c fz e=>by injection e with _ e;exact absurd e (by decide));have hc:wr.cell? ⟨k,j,O⟩=F (.int .i32 zs[j]):=by
    rw[cell_of_row wr k j _ 21 (0,0) hkk];simp[hjz]
   obtain⟨z0,z1⟩:=hz j hjz;have hft:=Y5 encodeRune zs j hjz;obtain⟨z,hzz⟩:∃ z,zs[j]=z:=⟨_,rfl⟩
   rw[hzz] at hc z0 z1 hft;have hle:=L5 (zs.take j);rw[List.length_take,Nat.min_eq_left (by omega)] at hle;have hlen2:(Lib.byteCells (acc++(zs.take j).flatMap encodeRune)).length+4<=140737488355328:=by rw[Lib.byteCells_length,List.length_append];omega
   have hW:=LV B b _ z (by omega) (by omega) wr hB hlen2 (by have:=hb.size;omega);rw[<- Lib.byteCells_encodeRune,<- Lib.byteCells_append,List.append_assoc,<- hft] at hW;clear hft hzz hkk hle hlen2 hB hz hjz;go_wp2_with fail;refine hW.mono ?_;rintro e w1 ⟨rfl,hB1,hb1,ho1⟩;clear hW;go_wp2;go_roundw
   case rel=>exact⟨j+1,by omega,by go_num,.inr hB1,hb.trans hb1,ho.trans ho1⟩
   case measure=>simp[intOf];omega
  ·have hge:¬(j:Int)<(n:Int):=by omega
   have hjn:j=n:=by omega
   have HJ:=hid hjn;clear hjn;go_wp2;go_end0;refine⟨rfl,?_,hb,ho⟩;have:zs.take j=zs:=List.take_of_length_le (by rw[HN.out,HJ.out];omega);rw[this] at hB;exact hB
def CP (l:List UInt8):Value:=if validD l then .tuple #[Q ⟨(Ae l).toArray⟩,I J 0] else .tuple #[Q ⟨#[]⟩,I J 40]
theorem SX {r:Int} (h1:r≠10) (h2:r≠9) (h3:r≠13):B5 r Fq=O:=by
 have e1:(r==10)=false:=by simpa using h1
 have e2:(r==9)=false:=by simpa using h2
 have e3:(r==13)=false:=by simpa using h3
 simp[Fq,B5,e1,e2,e3]
theorem Qi (w:Y) (b:Nat) (r:Int) (hb:w.heap[b]? =F (BL 3)):
  (Instr.lookup 79 (.map (F b)) (.int .i32 r) true).run Tryz.prog w=.ok (.tuple #[(B5 r Fq).getD (.int .i32 0),.bool (B5 r Fq).isSome]) w:=
 DO (P:=Tryz.prog) (enc:=encR) Ahf Abk (k:=21) (e:=21) (l:=Fq) (z:=.int .i32 0) Tryz.underlying79 Tryz.underlying21 (by kernel_rfl) hb r true
theorem MS (r:Nat):(A8 r).length<=4:=by
 unfold A8
 repeat' split
 all_goals first | exact ZR _ | simp
theorem Agl (r:Int) (zs:List Int) (n cap:Nat) (w:Y) (hn:zs.length=n) (hs:n<=1000):
  Calls Tryz.prog 36 #[.int .i32 r,Z (F ⟨w.heap.size,0,O⟩) n cap] (w.alloc (.cells (zs.map (Value.int .i32)).toArray 21)) fun e w'=>e=.returned (.bool (BC zs r))/\w'=w.alloc (.cells (zs.map (Value.int .i32)).toArray 21):=by
 refine(Ts r zs w.heap.size n cap _ hn hs (fun i hi=>?_)).mono (fun e w' h=>⟨h.1,h.2.symm⟩);have h:=Wn w (.cells (zs.map (Value.int .i32)).toArray 21);unfold World.cell?;rw[h];simp[show i<zs.length by omega]
theorem FE (n:Nat) (h:n<128):encodeRune (n:Int)=[UInt8.ofNat n]:=by
 unfold encodeRune;rw[encodeRuneZ_one (by omega) (by omega)];simp
theorem GN {w:Y} {M:Nat} (hM:w.heap.size=M) (cs:Array Value) (T:TypeId):(w.alloc (.cells cs T)).heap[M]? =F (.cells cs T (0,0)):=by rw[<- hM];exact Wn _ _
theorem EL {w:Y} {Iz:Nat} {s:ByteArray} {pos:Nat} (h:w.heap[Iz]? =F (.stringIter s pos)) (o:Obj):(w.alloc o).heap[Iz]? =F (.stringIter s pos):=
 AW h ((Bq w.heap.size w).alloc Nr o)
theorem Sn (a b:Int) (ha:0<=a/\a<=1114111) (hb:0<=b/\b<=1114111):∀ j,(hj:j<[a,b].length)->0<=[a,b][j]/\[a,b][j]<=1114111
 | 0,_=>ha
 | 1,_=>hb
theorem Aaj {a b:Nat} (ha:a<128) (hb:b<128):([(a:Int),(b:Int)]:List Int).flatMap encodeRune=[UInt8.ofNat a,UInt8.ofNat b]:=by
 simp[List.flatMap_cons,FE a ha,FE b hb]
theorem Pp {b:Nat} (hb:b<128):([92,(b:Int)]:List Int).flatMap encodeRune=[92,UInt8.ofNat b]:=Aaj (a:=92) (by decide) hb
theorem Aez:∀ r:Fin 128,bits BinOp.and IntKind.i32 ((r.val:Nat):Int) 15=((r.val%16:Nat):Int):=by decide+kernel
theorem Acb:∀ (q:Fin 16) (h:q.val<(⟨#[48,49,50,51,52,53,54,55,56,57,97,98,99,100,101,102]⟩:ByteArray).size),(⟨#[48,49,50,51,52,53,54,55,56,57,97,98,99,100,101,102]⟩:ByteArray)[q.val]'h=Cl q.val:=by decide+kernel
theorem Yt (a b c d:Int) (ha:0<=a/\a<=1114111) (hb:0<=b/\b<=1114111) (hc:0<=c/\c<=1114111) (hd:0<=d/\d<=1114111):∀ j,(hj:j<[a,b,c,d].length)->0<=[a,b,c,d][j]/\[a,b,c,d][j]<=1114111
 | 0,_=>ha
 | 1,_=>hb
 | 2,_=>hc
 | 3,_=>hd
theorem Y3 {a b:UInt8} (ha:a.toNat<128) (hb:b.toNat<128):([92,120,(a.toNat:Int),(b.toNat:Int)]:List Int).flatMap encodeRune=[92,120,a,b]:=by
 have h1:encodeRune 92=[92]:=FE 92 (by decide);have h2:encodeRune 120=[120]:=FE 120 (by decide);simp[List.flatMap_cons,h1,h2,FE _ ha,FE _ hb]
theorem Xw:∀ r:Fin 128,IntKind.i32.wrap ((r.val:Nat):Int)=((r.val:Nat):Int):=by decide+kernel
theorem Qn {B b:Nat} {bs:List Value} {w:Y} (h:Lib.IsBuilderF TB T8 B b bs w):Lib.IsBuilderF TB T8 B b bs w.drew:=h
def Ake (s:ByteArray) (N Iz:Nat) (w0 wr:Y):Prop:=
 ∃ (pos:Nat) (acc:List UInt8),pos<=s.size/\wr.heap[Iz]? =F (.stringIter s pos)/\Lib.IsBuilderF TB T8 N N (Lib.byteCells acc) wr/\Below N w0 wr∧
  Hid (acc.length<=4*pos+1/\validD (s.data.toList.drop pos)=true/\Ae s.data.toList=acc++((Ag (s.data.toList.drop pos)).flatMap A8++[34]))
theorem GK (s:ByteArray) (w:Y) (hs:s.size<=100000) (hT:BU w):
  Calls Tryz.prog 15 #[Q s] w fun e w'=>e=.returned (CP s.data.toList)/\Below w.heap.size w w':=by
 have hR:=Cz s w (by omega) hT;cases hv:validD s.data.toList with
 | false=>
  rw[hv] at hR;have HV:=hid (show CP s.data.toList=.tuple #[Q ⟨#[]⟩,I J 40] by unfold CP;rw[hv];rfl);clear hv;go_enter Tryz.func15,Tryz.ntmps15;go_wp2_with fail;refine hR.mono ?_;rintro e w1 ⟨rfl,hb1⟩;clear hR;go_wp2;go_ret2;exact⟨by rw[HV.out];rfl,hb1⟩
 | true=>
  rw[hv] at hR;have HV:=hid (show CP s.data.toList=.tuple #[Q ⟨(Ae s.data.toList).toArray⟩,I J 0] by unfold CP;rw[hv];rfl);have HVD:=hid hv;clear hv;go_enter Tryz.func15,Tryz.ntmps15;go_wp2_with fail;refine hR.mono ?_;rintro e w1 ⟨rfl,hb1⟩;clear hR;obtain⟨N,hN⟩:∃ N,w1.heap.size=N:=⟨_,rfl⟩
  have hI0:Lib.IsBuilderF TB T8 N N (Lib.byteCells []) (w1.alloc (.cells #[.pointer O,Z O 0 0] TB)):=.inl ⟨Nat.le_refl _,Z O 0 0,by rw[<- hN];exact Wn _ _,World.ownsRowF_nil _ _ _ _,by simp[Value.ownBlock]⟩;replace hI0:=hI0.alloc (.cells #[.int .i32 34] 21);have hb2:Below N w1 ((w1.alloc (.cells #[.pointer O,Z O 0 0] TB)).alloc (.cells #[.int .i32 34] 21)):=((Bq N w1).alloc (by omega) _).alloc (by simp;omega) _;have hh:((w1.alloc (.cells #[.pointer O,Z O 0 0] TB)).alloc (.cells #[.int .i32 34] 21)).heap[N+1]? =F (.cells #[.int .i32 34] 21 (0,0)):=GN (by rw[World.size_alloc,hN]) _ _;have hL:=IL N N (N+1) 1 [] [34] _ hI0 hh rfl (by omega) (fun j hj=>by simp at hj;subst hj;simp) (by simp) (by simp;omega);clear hI0 hh;go_wp2_with fail;refine hL.mono ?_;rintro e w2 ⟨rfl,hB2,hb3,ho3⟩;replace hb2:=hb2.trans hb3;have hz:=hb3.size;rw[World.size_alloc,World.size_alloc,hN] at hz;rw[show([]++([34]:List Int).flatMap encodeRune:List UInt8)=[34] from by decide+kernel] at hB2;clear hL hb3 ho3;obtain⟨Iz,hI⟩:∃ Iz,w2.heap.size=Iz:=⟨_,rfl⟩
  rw[hI] at hz;have hb1':=hid hb1;clear hb1;go_wp2;go_loopw [7] (fun _ wr=>Ake s N Iz w1 wr) (fun _ wr=>s.size - wr.iterPos Iz)
  case atStart=>exact⟨0,[34],by omega,by rw[<- hI];exact World.iter_heap _ _ _,hB2.alloc (.stringIter s 0),hb2.alloc (by have:=hb2.size;omega) _,hid ⟨by simp,by rw[List.drop_zero];exact HVD.out,rfl⟩⟩
  case round=>
   obtain⟨pos,acc,hp,hit,hB,hb,HI⟩:=hrel;have hIr:Iz<wr.heap.size:=(Gl hit)
   have hacc:acc.length<=4*s.size+1:=by have:=HI.out.1;omega
   obtain⟨M,hM⟩:∃ M,wr.heap.size=M:=⟨_,rfl⟩
   have hIM:Iz<M:=by omega
   by_cases hlt:pos<s.size
   ·have hnx:=fun ty=>run_next_any_at (P:=Tryz.prog) wr Iz s pos ty hit hlt;have hbi:=below_iterAt hb (show N<=Iz by omega) s (pos+(Utf8.decode s pos).2);have hit1:=iterAt_heap wr Iz s pos (pos+(Utf8.decode s pos).2) hit;have hB1:=hB.iterAt hit (pos+(Utf8.decode s pos).2);have hw:=decode_le s pos hlt;have Up:1<=(Utf8.decode s pos).2:=by rw[<- Lib.decodeL_drop];exact decodeL_width _
    have hne:=Ej s pos hlt;have hv1:=HI.out.2.1;have hq:=HI.out.2.2;rw[Av _ hne,Lib.decodeL_drop,List.drop_drop,List.flatMap_cons] at hq;have hvn:=Cu _ hne hv1;rw[Lib.decodeL_drop,List.drop_drop] at hvn;have hsg:DZ (Utf8.decode s pos).1:=by
     refine E8 _ _ Nr hv1 _ ?_;rw[Av _ hne,Lib.decodeL_drop];simp
    have hz1:(wr.iterAt Iz s (pos+(Utf8.decode s pos).2)).heap.size=M:=by rw[iterAt_size,hM]
    have HM1:=hid (C3 hit);obtain⟨⟨R,K⟩,hRK⟩:∃ x,Utf8.decode s pos=x:=⟨_,rfl⟩
    rw[hRK] at hnx hbi hit1 hB1 hw Up hq hvn hsg hz1;simp only at hnx hbi hit1 hB1 hw Up hq hvn hsg hz1;obtain⟨W1,hW1⟩:∃ W,wr.iterAt Iz s (pos+K)=W:=⟨_,rfl⟩
    rw[hW1] at hnx hbi hit1 hB1 hz1;have hR1:(R:Int)<=1114111:=by unfold DZ at hsg;rw[GT] at hsg;omega
    have hfin:∀ W',Lib.IsBuilderF TB T8 N N (Lib.byteCells (acc++A8 R)) W'->W'.heap[Iz]? =F (.stringIter s (pos+K))->Below N w1 W'->Ake s N Iz w1 W':=fun W' a b c=>
     ⟨pos+K,acc++A8 R,by omega,b,a,c,hid ⟨by rw[List.length_append];have:=MS R;have:=HI.out.1;omega,hvn,by rw[hq];simp⟩⟩
    have HFIN:=hid hfin;have HSG:=hid hsg;have hlk:=Qi (W1.alloc (BL 3)) M R (by rw[<- hz1];exact Wn _ _);have hitA:=EL hit1 (BL 3);have hBA:=hB1.alloc (BL 3);have hbA:Below N w1 (W1.alloc (BL 3)):=hbi.alloc (by have:=hbi.size;omega) _;have hzA:(W1.alloc (BL 3)).heap.size=M+1:=by rw[World.size_alloc,hz1]
    clear hRK hW1 hne hv1 hq hvn hsg hfin hit hB hb HI hM;by_cases hsh:(R:Int)=10\/(R:Int)=9\/(R:Int)=13
    ·have hx:∃ (c:Nat),c<128/\B5 (R:Int) Fq=F (.int .i32 (c:Int))/\A8 R=[92,UInt8.ofNat c]:=by
      rcases hsh with h | h | h
      ·obtain rfl:R=10:=by omega
       exact⟨110,by decide,rfl,rfl⟩
      ·obtain rfl:R=9:=by omega
       exact⟨116,by decide,rfl,rfl⟩
      ·obtain rfl:R=13:=by omega
       exact⟨114,by decide,rfl,rfl⟩
     obtain⟨c,hc,hx1,hx2⟩:=hx;rw[hx1] at hlk;simp only[Option.getD_some,Option.isSome_some] at hlk;have HX2:=hid hx2;clear hsh hx1 hx2;go_wp2_with fail;refine(KT W1).mono ?_;rintro e W2 ⟨rfl,hW2⟩;subst hW2;rw[hz1];obtain⟨W2,hW2⟩:∃ W,W1.alloc (BL 3)=W:=⟨_,rfl⟩
     rw[hW2] at hlk hitA hBA hbA hzA |-;clear hW2 hnx;have hh:=GN hzA #[.int .i32 92,.int .i32 (c:Int)] 21;have hitB:=EL hitA (.cells #[.int .i32 92,.int .i32 (c:Int)] 21);have hbB:Below N w1 (W2.alloc (.cells #[.int .i32 92,.int .i32 (c:Int)] 21)):=hbA.alloc (by have:=hbA.size;omega) _;have hL:=IL N N (M+1) 2 acc [92,(c:Int)] _ (hBA.alloc _) hh rfl (by omega) (Sn 92 c (by omega) (by omega)) (by omega) (by rw[World.size_alloc,hzA];omega);rw[Pp hc,<- HX2.out] at hL;clear hh hBA hbA hitA hB1 hit1 hbi;go_wp2_with fail;refine hL.mono ?_;rintro e W3 ⟨rfl,hB3,hb3,ho3⟩;have hit3:=ho3.iter hitB (by omega);have fin:=HFIN.out W3 hB3 hit3 (hbB.trans hb3);have HM2:=hid (C3 hit3);clear hL hB3 hb3 ho3 hit3 hbB hitB;go_wp2;go_roundw
     case rel=>exact fin
     case measure=>rw[HM1.out,HM2.out];omega
    ·have hna:=SX (fun e=>hsh (.inl e)) (fun e=>hsh (.inr (.inl e))) (fun e=>hsh (.inr (.inr e)));rw[hna] at hlk;simp only[Option.getD_none,Option.isSome_none] at hlk;have HSH:=hid hsh;clear hsh hna;go_wp2_with fail;refine(KT W1).mono ?_;rintro e W2 ⟨rfl,hW2⟩;subst hW2;rw[hz1];obtain⟨W2,hW2⟩:∃ W,W1.alloc (BL 3)=W:=⟨_,rfl⟩
     rw[hW2] at hlk hitA hBA hbA hzA |-;clear hW2 hnx;have hQ:=Agl (R:Int) [34,92] 2 2 W2 rfl (by decide);rw[hzA] at hQ;have hitB:=EL hitA (.cells #[.int .i32 34,.int .i32 92] 21);have hbB:Below N w1 (W2.alloc (.cells #[.int .i32 34,.int .i32 92] 21)):=hbA.alloc (by have:=hbA.size;omega) _;have hBB:=hBA.alloc (.cells #[.int .i32 34,.int .i32 92] 21);have hzB:(W2.alloc (.cells #[.int .i32 34,.int .i32 92] 21)).heap.size=M+1+1:=by rw[World.size_alloc,hzA]
     obtain⟨mm,hmm⟩:∃ b,BC [34,92] (R:Int)=b:=⟨_,rfl⟩
     rw[hmm] at hQ;have HMM:=hid hmm;clear hitA hbA hBA hB1 hit1 hbi hmm;go_wp2_with fail;refine hQ.mono ?_;rintro e W3 ⟨rfl,hW3⟩;clear hQ hlk;replace hW3:W3=W2.alloc (.cells #[.int .i32 34,.int .i32 92] 21):=hW3;rw[<- hW3] at hitB hbB hBB hzB;clear hW3 hzA hz1;cases mm with
     | true=>
      have hx2:A8 R=[92,UInt8.ofNat R]/\R<128:=by
       have h1:=HMM.out;have h2:R=34\/R=92:=by unfold BC at h1;simp at h1;omega
       rcases h2 with rfl | rfl<;>exact⟨rfl,by decide⟩
      have HX2:=hid hx2.1;have hc:=hx2.2;clear hx2;have hh:=GN hzB #[.int .i32 92,.int .i32 (R:Int)] 21;have hitC:=EL hitB (.cells #[.int .i32 92,.int .i32 (R:Int)] 21);have hbC:Below N w1 (W3.alloc (.cells #[.int .i32 92,.int .i32 (R:Int)] 21)):=hbB.alloc (by have:=hbB.size;omega) _;have hL:=IL N N (M+1+1) 2 acc [92,(R:Int)] _ (hBB.alloc _) hh rfl (by omega) (Sn 92 R (by omega) (by omega)) (by omega) (by rw[World.size_alloc,hzB];omega);rw[Pp hc,<- HX2.out] at hL;clear hh hBB hbB hitB;go_wp2_with fail;refine hL.mono ?_;rintro e W4 ⟨rfl,hB3,hb3,ho3⟩;have hit3:=ho3.iter hitC (by omega);have fin:=HFIN.out W4 hB3 hit3 (hbC.trans hb3);have HM2:=hid (C3 hit3);clear hL hB3 hb3 ho3 hit3 hbC hitC;go_wp2;go_roundw
      case rel=>exact fin
      case measure=>rw[HM1.out,HM2.out];omega
     | false=>
      obtain⟨pl,hpl⟩:∃ b,BW (R:Int)=b:=⟨_,rfl⟩
      have hP:=Hf (R:Int) W3;rw[hpl] at hP;have HPL:=hid hpl;clear hpl;go_wp2_with fail;refine hP.mono ?_;rintro e W4 ⟨rfl,hw4⟩;subst hw4;clear hP;cases pl with
      | true=>
       have hx2:A8 R=encodeRune (R:Int):=by
        have h1:=HMM.out;have h2:=HSH.out;have h3:Ac R=true:=HPL.out;unfold BC at h1;simp at h1;unfold A8;rw[if_neg (by omega),if_neg (by omega),if_neg (by omega),if_neg (by omega),if_pos h3]
       have HX2:=hid hx2;clear hx2;have hh:=GN hzB #[.int .i32 (R:Int)] 21;have hitC:=EL hitB (.cells #[.int .i32 (R:Int)] 21);have hbC:Below N w1 (W4.alloc (.cells #[.int .i32 (R:Int)] 21)):=hbB.alloc (by have:=hbB.size;omega) _;have hL:=IL N N (M+1+1) 1 acc [(R:Int)] _ (hBB.alloc _) hh rfl (by omega) (fun j hj=>by simp at hj;subst hj;simp;omega) (by omega) (by rw[World.size_alloc,hzB];omega);rw[show([(R:Int)].flatMap encodeRune:List UInt8)=A8 R by rw[HX2.out];simp] at hL;clear hh hBB hbB hitB;go_wp2_with fail;refine hL.mono ?_;rintro e W5 ⟨rfl,hB3,hb3,ho3⟩;have hit3:=ho3.iter hitC (by omega);have fin:=HFIN.out W5 hB3 hit3 (hbC.trans hb3);have HM2:=hid (C3 hit3);clear hL hB3 hb3 ho3 hit3 hbC hitC;go_wp2;go_roundw
       case rel=>exact fin
       case measure=>rw[HM1.out,HM2.out];omega
      | false=>
       have hR128:R<128:=GY HPL.out;have hx2:A8 R=[92,120,Cl (R / 16),Cl (R%16)]:=by
        have h1:=HMM.out;have h2:=HSH.out;have h3:Ac R=false:=HPL.out;unfold BC at h1;simp at h1;unfold A8;rw[if_neg (by omega),if_neg (by omega),if_neg (by omega),if_neg (by omega),h3];rfl
       obtain⟨p,hp⟩:∃ p,R / 16=p:=⟨_,rfl⟩
       obtain⟨q,hq⟩:∃ q,R%16=q:=⟨_,rfl⟩
       have hp16:p<16:=by omega
       have hq16:q<16:=by omega
       have hpI:(R:Int) / 16=(p:Int):=by omega
       have hqI:bits BinOp.and IntKind.i32 (R:Int) 15=(q:Int):=by rw[<- hq];exact Aez ⟨R,hR128⟩
       rw[hp,hq] at hx2;obtain⟨a,ha,ha2⟩:∃ a,Cl p=a/\∀ h,(⟨#[48,49,50,51,52,53,54,55,56,57,97,98,99,100,101,102]⟩:ByteArray)[p]'h=a:=⟨Cl p,rfl,fun h=>Acb ⟨p,hp16⟩ h⟩
       obtain⟨b,hb,hb2⟩:∃ b,Cl q=b/\∀ h,(⟨#[48,49,50,51,52,53,54,55,56,57,97,98,99,100,101,102]⟩:ByteArray)[q]'h=b:=⟨Cl q,rfl,fun h=>Acb ⟨q,hq16⟩ h⟩
       have ha128:a.toNat<128:=by rw[<- ha];exact(IC ⟨p,hp16⟩).2.1
       have hb128:b.toNat<128:=by rw[<- hb];exact(IC ⟨q,hq16⟩).2.1
       rw[ha,hb] at hx2;have HX2:=hid hx2;have hpi:(p:Int)<16:=by omega
       have hqi:(q:Int)<16:=by omega
       clear hx2 hp hq ha hb hR128;have hwa:IntKind.i32.wrap (a.toNat:Int)=(a.toNat:Int):=Xw ⟨a.toNat,ha128⟩;have hwb:IntKind.i32.wrap (b.toNat:Int)=(b.toNat:Int):=Xw ⟨b.toNat,hb128⟩;have hh:(W4.alloc (.cells #[.int .i32 92,.int .i32 120,.int .i32 (a.toNat:Int),.int .i32 (b.toNat:Int)] 21)).drew.heap[M+1+1]? =_:=GN (w:=W4) (M:=M+1+1) hzB #[.int .i32 92,.int .i32 120,.int .i32 (a.toNat:Int),.int .i32 (b.toNat:Int)] 21;have hitC:(W4.alloc (.cells #[.int .i32 92,.int .i32 120,.int .i32 (a.toNat:Int),.int .i32 (b.toNat:Int)] 21)).drew.heap[Iz]? =F (.stringIter s (pos+K)):=EL (w:=W4) hitB _;have hNW:N<=W4.heap.size:=by rw[hzB];omega
       have hbC:Below N w1 (W4.alloc (.cells #[.int .i32 92,.int .i32 120,.int .i32 (a.toNat:Int),.int .i32 (b.toNat:Int)] 21)).drew:=(hbB.alloc hNW _).drew;have hBD:Lib.IsBuilderF TB T8 N N (Lib.byteCells acc) (W4.alloc (.cells #[.int .i32 92,.int .i32 120,.int .i32 (a.toNat:Int),.int .i32 (b.toNat:Int)] 21)).drew:=Qn (hBB.alloc _);have hL:=IL N N (M+1+1) 4 acc [92,120,(a.toNat:Int),(b.toNat:Int)] (W4.alloc (.cells #[.int .i32 92,.int .i32 120,.int .i32 (a.toNat:Int),.int .i32 (b.toNat:Int)] 21)).drew hBD hh rfl (by omega) (Yt _ _ _ _ (by omega) (by omega) (by omega) (by omega)) (by omega) (by show N<=(W4.alloc (.cells #[.int .i32 92,.int .i32 120,.int .i32 (a.toNat:Int),.int .i32 (b.toNat:Int)] 21)).heap.size;rw[World.size_alloc];omega);rw[show([92,120,(a.toNat:Int),(b.toNat:Int)]:List Int).flatMap encodeRune=A8 R by rw[HX2.out];exact Y3 ha128 hb128] at hL;have HL:=hid hL;have HC:=hid hitC;have HB:=hid hbC;clear hh hBB hbB hitB hL hitC hbC hBD ha128 hb128;go_wp2;go_region_with ((refine HL.out.mono ?_;rintro e W5 ⟨rfl,hB3,hb3,ho3⟩));all_goals
        have hit3:=ho3.iter HC.out (by omega);have fin:=HFIN.out _ hB3 hit3 (HB.out.trans hb3);have HM2:=hid (C3 hit3);clear hB3 hb3 ho3 hit3;go_wp2;go_roundw
        case rel=>exact fin
        case measure=>rw[HM1.out,HM2.out];omega
   ·have hnx:=fun ty=>run_next_end_at (P:=Tryz.prog) wr Iz s pos ty hit hlt;have hq:=HI.out.2.2;rw[List.drop_eq_nil_of_le (by rw[<- Lib.size_eq];omega),GQ,List.flatMap_nil,List.nil_append] at hq;have HQ:=hid hq;have hh:=GN hM #[.int .i32 34] 21;have hbB:Below N w1 (wr.alloc (.cells #[.int .i32 34] 21)):=hb.alloc (by have:=hb.size;omega) _;have hL:=IL N N M 1 acc [34] _ (hB.alloc _) hh rfl (by omega) (fun j hj=>by simp at hj;subst hj;simp) (by omega) (by rw[World.size_alloc,hM];omega);rw[show([34]:List Int).flatMap encodeRune=[34] from by decide+kernel,<- HQ.out] at hL;clear hq hh hb hB HI hit;go_wp2_with fail;refine hL.mono ?_;rintro e W2 ⟨rfl,hB2,hb3,ho3⟩;have hb4:=hbB.trans hb3;clear hL hnx hb3 ho3 hbB;go_wp2_with fail;refine(Tryz.Builder_String_any_k N N _ W2 hB2 (by have:=hb4.size;omega)).mono ?_;rintro e W3 ⟨rfl,hB3,hb5,ho5⟩;have hfb:=hb1'.out.trans ((hN▸hb4.trans hb5:Below w1.heap.size w1 W3).mono (by have:=hb1'.out.size;omega));clear hB3 ho5;go_wp2;go_ret2;exact⟨by rw[HV.out];rfl,hfb⟩
end
section
set_option maxRecDepth 100000
set_option maxHeartbeats 2000000
theorem SQ (s:ByteArray):(Gv (DD s)).1.str.size<=s.size:=by
 unfold DD;split
 ·rename_i v h;obtain⟨p,hp,rfl⟩:=Lk h;simp only[EI,List.mem_cons,List.not_mem_nil,or_false] at hp;rcases hp with rfl | rfl | rfl | rfl | rfl | rfl | rfl | rfl | rfl<;>exact Nat.zero_le _
 ·split
  ·unfold Io;split
   ·split<;>exact Nat.zero_le _
   ·exact Nat.zero_le _
  ·exact Nat.le_refl _
theorem Oy (s:ByteArray):(Ay s).1.str.size<=s.size:=by
 unfold Ay;split
 ·exact Nat.zero_le _
 ·exact SQ s
def Th (k n:Int) (s:ByteArray):Value:=.agg #[I J k,I J n,Q s]
theorem XD (k n:Int) (s:ByteArray) (w:Y):Calls Tryz.prog 261 #[Th k n s] w fun e w'=>e=.returned (Q ⟨#[110,117,108,108]⟩)/\Below w.heap.size w w':=by
 unfold Th;go_enter Tryz.func261,Tryz.ntmps261;go_wp2;go_ret;exact⟨rfl,(Bq _ w).alloc Nr _⟩
theorem Np (k n:Int) (s:ByteArray) (w:Y):Calls Tryz.prog 262 #[Th k n s] w fun e w'=>e=.returned (Q (if n=1 then ⟨#[116,114,117,101]⟩ else ⟨#[102,97,108,115,101]⟩))/\Below w.heap.size w w':=by
 unfold Th;by_cases h:n=1
 ·rw[if_pos h];have hb:((n:Int)==1)=true:=by rw[beq_iff_eq];exact h
  clear h;go_enter Tryz.func262,Tryz.ntmps262;go_wp2;go_ret;exact⟨rfl,(Bq _ w).alloc Nr _⟩
 ·rw[if_neg h];have hb:((n:Int)==1)=false:=by rw[beq_eq_false_iff_ne];exact h
  clear h;go_enter Tryz.func262,Tryz.ntmps262;go_wp2;go_ret;exact⟨rfl,(Bq _ w).alloc Nr _⟩
theorem Tp (k n:Int) (s:ByteArray) (w:Y) (h0: -999999999999999<=n) (h1:n<=999999999999999) (hT:BU w):Calls Tryz.prog 263 #[Th k n s] w fun e w'=>e=.returned (Q ⟨(itoa n).toArray⟩)/\Below w.heap.size w w':=by
 unfold Th;have hb0:Below w.heap.size w (w.alloc (.cells #[I J k,I J n,Q s] 407)):=(Bq _ w).alloc Nr _;have hT1:=hT.below hb0;go_enter Tryz.func263,Tryz.ntmps263;go_wp2_with fail;refine(Tryz.strconv_Itoa n (by omega) (by omega) _ hT1.pow).mono ?_;rintro e w' ⟨rfl,kk,os,rfl⟩;go_wp2;go_ret;exact⟨rfl,hb0.trans ((HW _ kk os).mono (by simp))⟩
theorem YF (k n:Int) (s:ByteArray) (w:Y) (hs:s.size<=100000) (hv:validD s.data.toList=true) (hT:BU w):Calls Tryz.prog 264 #[Th k n s] w fun e w'=>e=.returned (Q ⟨(Ae s.data.toList).toArray⟩)/\Below w.heap.size w w':=by
 unfold Th;have hb0:Below w.heap.size w (w.alloc (.cells #[I J k,I J n,Q s] 407)):=(Bq _ w).alloc Nr _;have hQ:=fun wx hx=>GK s wx hs (hT.below hx);unfold CP at hQ;rw[hv] at hQ;simp only[if_true] at hQ;clear hv;go_enter Tryz.func264,Tryz.ntmps264;go_wp2_with fail;refine(hQ _ hb0).mono ?_;rintro e w' ⟨rfl,hb⟩;go_wp2;go_ret;exact⟨rfl,hb0.trans (hb.mono (by simp))⟩
def Aak (x:Sc):Value:=.tuple #[Q (Fw x).1,I J (Fw x).2]
theorem VV (x:Sc) (w:Y) (hs:x.str.size<=100000) (hT:BU w):
  Calls Tryz.prog 235 #[Ev x] w fun e w'=>e=.returned (Aak x)/\Below w.heap.size w w':=by
 unfold Aak;obtain⟨k,n,s⟩:=x;have hR:=fun wx hx=>Ij k n s wx (by simp only at hs;omega) (hT.below hx);have hb0:Below w.heap.size w (w.alloc (.cells #[I J k,I J n,Q s] 36)):=(Bq _ w).alloc Nr _;unfold Ev;cases hr:A4 ⟨k,n,s⟩ with
 | false=>
  rw[hr] at hR;rw[show Fw ⟨k,n,s⟩=(⟨#[]⟩,60) by unfold Fw;rw[hr];rfl];clear hr;go_enter Tryz.func235,Tryz.ntmps235;go_wp2_with fail;refine(hR _ hb0).mono ?_;rintro e w' ⟨rfl,hb⟩;go_wp2;refine bodyPost_ret (v:=.tuple #[Q ⟨#[]⟩,I J 60]) (by simp[results,Tryz.results235,go_sem]) rfl ?_;exact⟨rfl,hb0.trans (hb.mono (by simp))⟩
 | true=>
  rw[hr] at hR;rcases Tf hr with h | h | h | ⟨m,h,h0,h1⟩ | ⟨t,h,hv⟩
  ·simp only[AJ,Sc.mk.injEq] at h;obtain⟨rfl,rfl,rfl⟩:=h;have HTX:=hid (show Fw ⟨0,0,⟨#[]⟩⟩=((⟨#[110,117,108,108]⟩:ByteArray),(0:Int)) by unfold Fw;rw[hr,if_pos rfl];rfl);rw[HTX.out];clear hr HTX;go_enter Tryz.func235,Tryz.ntmps235;go_wp2_with fail;refine(hR _ hb0).mono ?_;rintro e w1 ⟨rfl,hb⟩;have hk:=Eq _ _ hb;obtain⟨c0,c1,c2,f0,f1,f2⟩:=EM hk;have hb1:Below w.heap.size w w1:=hb0.trans (hb.mono (by simp));have hz1:w.heap.size<w1.heap.size:=by have:=hb.size;simp at this;omega
   clear hk hb;go_wp2_with fail;refine((XD _ _ _ _)).mono ?_;rintro e w2 ⟨rfl,hb2⟩;have hb3:Below w.heap.size w w2:=((hb1.alloc (by omega) _).alloc (by simp;omega) _).trans (hb2.mono (by simp;omega));clear hb2;go_wp2;refine bodyPost_ret (v:=.tuple #[Q (⟨#[110,117,108,108]⟩:ByteArray),I J 0]) (by simp[results,Tryz.results235,go_sem]) rfl ?_;exact⟨rfl,hb3⟩
  ·simp only[AJ,Sc.mk.injEq] at h;obtain⟨rfl,rfl,rfl⟩:=h;have HTX:=hid (show Fw ⟨1,1,⟨#[]⟩⟩=((⟨#[116,114,117,101]⟩:ByteArray),(0:Int)) by unfold Fw;rw[hr,if_pos rfl];rfl);rw[HTX.out];clear hr HTX;go_enter Tryz.func235,Tryz.ntmps235;go_wp2_with fail;refine(hR _ hb0).mono ?_;rintro e w1 ⟨rfl,hb⟩;have hk:=Eq _ _ hb;obtain⟨c0,c1,c2,f0,f1,f2⟩:=EM hk;have hb1:Below w.heap.size w w1:=hb0.trans (hb.mono (by simp));have hz1:w.heap.size<w1.heap.size:=by have:=hb.size;simp at this;omega
   clear hk hb;go_wp2_with fail;refine((Np _ _ _ _)).mono ?_;rintro e w2 ⟨rfl,hb2⟩;have hb3:Below w.heap.size w w2:=((hb1.alloc (by omega) _).alloc (by simp;omega) _).trans (hb2.mono (by simp;omega));clear hb2;go_wp2;refine bodyPost_ret (v:=.tuple #[Q (⟨#[116,114,117,101]⟩:ByteArray),I J 0]) (by simp[results,Tryz.results235,go_sem]) rfl ?_;exact⟨rfl,hb3⟩
  ·simp only[AJ,Sc.mk.injEq] at h;obtain⟨rfl,rfl,rfl⟩:=h;have HTX:=hid (show Fw ⟨1,0,⟨#[]⟩⟩=((⟨#[102,97,108,115,101]⟩:ByteArray),(0:Int)) by unfold Fw;rw[hr,if_pos rfl];rfl);rw[HTX.out];clear hr HTX;go_enter Tryz.func235,Tryz.ntmps235;go_wp2_with fail;refine(hR _ hb0).mono ?_;rintro e w1 ⟨rfl,hb⟩;have hk:=Eq _ _ hb;obtain⟨c0,c1,c2,f0,f1,f2⟩:=EM hk;have hb1:Below w.heap.size w w1:=hb0.trans (hb.mono (by simp));have hz1:w.heap.size<w1.heap.size:=by have:=hb.size;simp at this;omega
   clear hk hb;go_wp2_with fail;refine((Np _ _ _ _)).mono ?_;rintro e w2 ⟨rfl,hb2⟩;have hb3:Below w.heap.size w w2:=((hb1.alloc (by omega) _).alloc (by simp;omega) _).trans (hb2.mono (by simp;omega));clear hb2;go_wp2;refine bodyPost_ret (v:=.tuple #[Q (⟨#[102,97,108,115,101]⟩:ByteArray),I J 0]) (by simp[results,Tryz.results235,go_sem]) rfl ?_;exact⟨rfl,hb3⟩
  ·simp only[AJ,Sc.mk.injEq] at h;obtain⟨rfl,rfl,rfl⟩:=h;have HTX:=hid (show Fw ⟨2,n,⟨#[]⟩⟩=((⟨(itoa n).toArray⟩:ByteArray),(0:Int)) by unfold Fw;rw[hr,if_pos rfl];rfl);rw[HTX.out];clear hr HTX;go_enter Tryz.func235,Tryz.ntmps235;go_wp2_with fail;refine(hR _ hb0).mono ?_;rintro e w1 ⟨rfl,hb⟩;have hk:=Eq _ _ hb;obtain⟨c0,c1,c2,f0,f1,f2⟩:=EM hk;have hb1:Below w.heap.size w w1:=hb0.trans (hb.mono (by simp));have hz1:w.heap.size<w1.heap.size:=by have:=hb.size;simp at this;omega
   clear hk hb;go_wp2_with fail;refine((Tp _ _ _ _ h0 h1 (hT.below ((hb1.alloc (by omega) _).alloc (by simp;omega) _)))).mono ?_;rintro e w2 ⟨rfl,hb2⟩;have hb3:Below w.heap.size w w2:=((hb1.alloc (by omega) _).alloc (by simp;omega) _).trans (hb2.mono (by simp;omega));clear hb2;go_wp2;refine bodyPost_ret (v:=.tuple #[Q (⟨(itoa n).toArray⟩:ByteArray),I J 0]) (by simp[results,Tryz.results235,go_sem]) rfl ?_;exact⟨rfl,hb3⟩
  ·simp only[AJ,Sc.mk.injEq] at h;obtain⟨rfl,rfl,rfl⟩:=h;have HTX:=hid (show Fw ⟨3,0,s⟩=((⟨(Ae s.data.toList).toArray⟩:ByteArray),(0:Int)) by unfold Fw;rw[hr,if_pos rfl];rfl);rw[HTX.out];clear hr HTX;go_enter Tryz.func235,Tryz.ntmps235;go_wp2_with fail;refine(hR _ hb0).mono ?_;rintro e w1 ⟨rfl,hb⟩;have hk:=Eq _ _ hb;obtain⟨c0,c1,c2,f0,f1,f2⟩:=EM hk;have hb1:Below w.heap.size w w1:=hb0.trans (hb.mono (by simp));have hz1:w.heap.size<w1.heap.size:=by have:=hb.size;simp at this;omega
   clear hk hb;go_wp2_with fail;refine((YF _ _ _ _ hs hv (hT.below ((hb1.alloc (by omega) _).alloc (by simp;omega) _)))).mono ?_;rintro e w2 ⟨rfl,hb2⟩;have hb3:Below w.heap.size w w2:=((hb1.alloc (by omega) _).alloc (by simp;omega) _).trans (hb2.mono (by simp;omega));clear hb2;go_wp2;refine bodyPost_ret (v:=.tuple #[Q (⟨(Ae s.data.toList).toArray⟩:ByteArray),I J 0]) (by simp[results,Tryz.results235,go_sem]) rfl ?_;exact⟨rfl,hb3⟩
end
section
theorem N7 (M:Nat):∀ ts:List Tr,Sm.SmTs M ts↔∀ t∈ts,Sm M t
 | []=>by simp[Sm.SmTs]
 | t::r=>by rw[Sm.SmTs,N7 M r];simp
theorem Acv {M:Nat} {ts:List Tr} (hl:ts.length<=M) (h:∀ t∈ts,Sm M t):Sm M (Bt ts):=by
 unfold Bt;rw[Sm];exact⟨Nat.zero_le _,hl,(N7 M ts).2 h⟩
theorem ZA {M:Nat} {ks:List Sc} {ts:List Tr} (hk:ks.length<=M) (hl:ts.length<=M) (h:∀ t∈ts,Sm M t):Sm M (BT ks ts):=by
 unfold BT;rw[Sm];exact⟨hk,hl,(N7 M ts).2 h⟩
theorem Aen (l:List C8):(IT l).length=l.length:=List.length_map _
theorem Xi {M:Nat} {no:Int} {l:List C8} {d:Nat} {r rest:List En} {t:Tr} (h:C9 no l d r=.ok t rest) (hm:l.length<=M):Sm M t:=by
 obtain⟨_,_,h3,h4⟩:=IN h;have:=NE (l:=IT l) (t:=t) (Prod.ext h3.symm h4);exact Ahb this.1 (by rw[Aen];exact hm)
theorem OX {x:En} {r rest:List En} (h:rest<:+r):E4 rest+1+x.l.length<=E4 (x::r):=by
 have:=Hc h;rw[AG];omega
theorem smB (M:Nat):∀ n,(∀ m d l t rest,AF n m d l=.ok t rest->E4 l<=M->Sm M t)/\(∀ no m d l t rest,belowB n no m d l=.ok t rest->E4 l<=M->Sm M t)∧
  (∀ d x r t rest,B2 n d x r=.ok t rest->E4 (x::r)<=M->Sm M t)/\(∀ col d l acc t rest,BK n col d l acc=.ok t rest->acc.length+E4 l<=M->(∀ a∈acc,Sm M a)->Sm M t)∧
  (∀ d x r t rest,B8 n d x r=.ok t rest->E4 (x::r)<=M->Sm M t)/\(∀ col d l ks ts t rest,AL n col d l ks ts=.ok t rest->ks.length+E4 l<=M->ts.length+E4 l<=M->(∀ a∈ts,Sm M a)->Sm M t)
 | 0=>by refine⟨?_,?_,?_,?_,?_,?_⟩<;>intros<;>rename_i h _<;>simp[AF,belowB,B2,BK,B8,AL] at*
 | n+1=>by
  obtain⟨hN,hB,hI,hS,hP,hD⟩:=smB M n;obtain⟨_,_,sI,_,_,sP,_,_⟩:=suffix n;refine⟨fun m d l t rest h hm=>?_,fun no m d l t rest h hm=>?_,fun d x r t rest h hm=>?_,fun col d l acc t rest h hm ha=>?_,fun d x r t rest h hm=>?_,fun col d l ks ts t rest h hk hm ha=>?_⟩
  ·cases l with
   | nil=>simp[AF] at h
   | cons x r=>
    rw[AF] at h;split at h
    ·cases h
    ·split at h
     ·exact hS _ _ _ _ _ _ h (by simpa using hm) (fun a h=>by cases h)
     ·exact hD _ _ _ _ _ _ _ h (by simpa using hm) (by simpa using hm) (fun a h=>by cases h)
     ·obtain⟨t',h1,h2,_⟩:=IQ h;rw[h2];exact Nl (hB _ _ _ _ _ _ h1 (by rw[AG] at hm;omega)) _
     ·exact Xi h (by rw[AG] at hm;omega)
  ·cases l with
   | nil=>
    rw[belowB] at h;split at h
    ·cases h
    ·injection h with h _;rw[<- h];exact G4 M
   | cons x r=>
    rw[belowB] at h;split at h
    ·exact hN _ _ _ _ _ h hm
    ·split at h
     ·cases h
     ·injection h with h _;rw[<- h];exact G4 M
  ·rw[B2] at h;split at h
   ·exact hB _ _ _ _ _ _ h (by rw[AG] at hm;omega)
   ·refine hN _ _ _ _ _ h ?_;rw[AG] at hm |-;have:(FO x).l.length<=x.l.length:=by show x.l.tail.length<=_;rw[List.length_tail];omega
    omega
  ·cases l with
   | nil=>rw[BK] at h;injection h with h _;rw[<- h];exact Acv (by omega) ha
   | cons x r=>
    rw[BK] at h;split at h
    ·cases hi:B2 n (d+1) x r with
     | ok t1 rest1=>
      rw[hi] at h;have h1:=hI _ _ _ _ _ hi (by omega);have h2:=OX (x:=x) (sI _ _ _ _ _ hi);refine hS _ _ _ _ _ _ h (by rw[List.length_append];simp only[List.length_cons,List.length_nil];omega) (fun a h=>?_);rcases List.mem_append.1 h with h | h
      ·exact ha a h
      ·rw[List.mem_singleton.1 h];exact h1
     | bad no e=>rw[hi] at h;cases h
     | out=>rw[hi] at h;cases h
    ·obtain⟨h1,_,_⟩:=GV h;rw[h1];exact Acv (by omega) ha
  ·rw[B8] at h;split at h
   ·obtain⟨t',h1,h2,_⟩:=IQ h;rw[h2];exact Nl (hB _ _ _ _ _ _ h1 (by rw[AG] at hm;omega)) _
   ·split at h
    ·exact hB _ _ _ _ _ _ h (by rw[AG] at hm;omega)
    ·exact Xi h (by rw[AG] at hm;rw[List.length_drop];omega)
  ·cases l with
   | nil=>rw[AL] at h;injection h with h _;rw[<- h];exact ZA (by omega) (by omega) ha
   | cons x r=>
    rw[AL] at h;split at h
    ·split at h
     ·cases h
     ·cases hi:B8 n (d+1) x r with
      | ok t1 rest1=>
       rw[hi] at h;have h1:=hP _ _ _ _ _ hi (by omega);have h2:=OX (x:=x) (sP _ _ _ _ _ hi);refine hD _ _ _ _ _ _ _ h (by rw[List.length_append];simp only[List.length_cons,List.length_nil];omega) (by rw[List.length_append];simp only[List.length_cons,List.length_nil];omega) (fun a h=>?_);rcases List.mem_append.1 h with h | h
       ·exact ha a h
       ·rw[List.mem_singleton.1 h];exact h1
      | bad no e=>rw[hi] at h;cases h
      | out=>rw[hi] at h;cases h
    ·obtain⟨h1,_,_⟩:=GV h;rw[h1];exact ZA (by omega) (by omega) ha
theorem Q8 {Fz M:Nat} {l:List IM} (hF:∀ es,DW l=.ok es->E4 es<=M):Sm M (AZ Fz l).1:=by
 unfold AZ LF;split
 ·rename_i es he;split at he
  ·unfold CK;split
   ·exact G4 M
   ·cases hn:AF Fz (-1) 1 es with
    | ok t rest=>
     cases rest with
     | nil=>exact(smB M Fz).1 _ _ _ _ _ hn (hF es he)
     | cons x r=>exact G4 M
    | bad no e=>exact G4 M
    | out=>exact G4 M
  ·cases he
 ·exact G4 M
end
end Go.Proofs.YtdpppepmkeinaaaGreatDoor
