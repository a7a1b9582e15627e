/- What is proved: a part of the walk of the program and of its plain laws; no condition beside those that each theorem names. -/
import Derived.Test.YtdpppepmkeinaaaGreatDoorYu
import Derived.Test.YtdpppepmkeinaaaGreatDoorYn
import Derived.Test.YtdpppepmkeinaaaGreatDoorYs
import Derived.Test.YtdpppepmkeinaaaGreatDoorYi
import Derived.Test.YtdpppepmkeinaaaGreatDoorYt
import Derived.Test.YtdpppepmkeinaaaGreatDoorYg
import Derived.Test.YtdpppepmkeinaaaGreatDoorYa
import Derived.Deep.RegionHeld3
import Derived.Handy
import Derived.Sort.LotA
import Derived.Shelf.SlSortCmp.Insertion
namespace Go.Proofs.YtdpppepmkeinaaaGreatDoor
open Go Go.RowKit Go.Lib
open Go.Value renaming int->I,string->Q,slice->Z
open Go.IntKind renaming i64->J
open Option renaming none->O,some->F
open _root_.Go renaming World->Y
set_option linter.unusedSimpArgs false
set_option linter.unusedVariables false
set_option linter.unusedSectionVars false
section
set_option maxRecDepth 100000
set_option maxHeartbeats 8000000
theorem Xm {α β:Type} (f:α->List β) (l:List α) (j:Nat) (h:j<l.length):(l.take (j+1)).flatMap f=(l.take j).flatMap f++f l[j]:=by
 rw[List.take_succ_eq_append_getElem h,List.flatMap_append];simp
theorem Y3 (z:Int):(encodeRune z).length<=4:=by
 have:=Lib.runeCells_le z;rw[<- Lib.byteCells_encodeRune,Lib.byteCells_length] at this;exact this.2
theorem JO:∀ zs:List Int,(zs.flatMap encodeRune).length<=4*zs.length
 | []=>by simp
 | z::r=>by
  have:=JO r;have:=Y3 z;rw[List.flatMap_cons,List.length_append,List.length_cons];omega
theorem GD (B b k n:Nat) (acc:List UInt8) (zs:List Int) (w:Y) (h:Lib.IsBuilderF TB T8 B b (Lib.byteCells acc) w)
  (hk:w.heap[k]? =F (.cells (zs.map (Value.int .i32)).toArray 21 (0,0))) (hn:zs.length=n) (hkb:k≠b) (hz:∀ j,(hj:j<zs.length)->0<=zs[j]/\zs[j]<=1114111) (hlen:acc.length+4*n<=10000000) (hBw:B<=w.heap.size):
  Calls Tryz.prog 33 #[Z (F ⟨k,0,O⟩) n n,.pointer (F ⟨b,0,O⟩)] w fun e w'=>e=.returned (.tuple #[])/\Lib.IsBuilderF TB T8 B b (Lib.byteCells (acc++zs.flatMap encodeRune)) w'/\Below B w w'/\Lib.OthersKept T8 (F b) w w':=by
 have HN:=hid hn;have hn':n<=10000000:=by omega
 clear hn;go_enter Tryz.func33,Tryz.ntmps33;go_wp2;go_loopw [7] (fun i wr=>∃ j:Nat,j<=n/\i=I J j/\Lib.IsBuilderF TB T8 B b (Lib.byteCells (acc++(zs.take j).flatMap encodeRune)) wr/\Below B w wr/\Lib.OthersKept T8 (F b) w wr) (fun i _=>n - (intOf i).toNat)
 case atStart=>exact⟨0,by omega,rfl,by simpa using h,Bq _ _,Lib.OthersKept.refl _ _ _⟩
 case round=>
  obtain⟨j,hj,rfl,hB,hb,ho⟩:=hrel;by_cases hlt:j<n
  ·have hlti:(j:Int)<(n:Int):=by omega
   have hjz:j<zs.length:=by rw[HN.out];exact hlt
   have hkk:wr.heap[k]? =_:=ho k _ hk (fun e=>hkb (Option.some.inj e)) (fun c fz e=>by injection e with _ e;exact absurd e (by decide));have hc:wr.cell? ⟨k,j,O⟩=F (.int .i32 zs[j]):=by
    rw[cell_of_row wr k j _ 21 (0,0) hkk];simp[hjz]
   obtain⟨z0,z1⟩:=hz j hjz;have hft:=Xm encodeRune zs j hjz;obtain⟨z,hzz⟩:∃ z,zs[j]=z:=⟨_,rfl⟩
   rw[hzz] at hc z0 z1 hft;have hle:=JO (zs.take j);rw[List.length_take,Nat.min_eq_left (by omega)] at hle;have hlen2:(Lib.byteCells (acc++(zs.take j).flatMap encodeRune)).length+4<=140737488355328:=by rw[Lib.byteCells_length,List.length_append];omega
   have hW:=JY B b _ z (by omega) (by omega) wr hB hlen2 (by have:=hb.size;omega);rw[<- Lib.byteCells_encodeRune,<- Lib.byteCells_append,List.append_assoc,<- hft] at hW;clear hft hzz hkk hle hlen2 hB hz hjz;go_wp2_with fail;refine hW.mono ?_;rintro e w1 ⟨rfl,hB1,hb1,ho1⟩;clear hW;go_wp2;go_roundw
   case rel=>exact⟨j+1,by omega,by go_num,.inr hB1,hb.trans hb1,ho.trans ho1⟩
   case measure=>simp[intOf];omega
  ·have hge:¬(j:Int)<(n:Int):=by omega
   have hjn:j=n:=by omega
   have HJ:=hid hjn;clear hjn;go_wp2;go_end0;refine⟨rfl,?_,hb,ho⟩;have:zs.take j=zs:=List.take_of_length_le (by rw[HN.out,HJ.out];omega);rw[this] at hB;exact hB
def Jy (l:List UInt8):Value:=if validD l then .tuple #[Q ⟨(Ft l).toArray⟩,I J 0] else .tuple #[Q ⟨#[]⟩,I J 40]
theorem Rc {r:Int} (h1:r≠10) (h2:r≠9) (h3:r≠13):AN r DT=O:=by
 have e1:(r==10)=false:=by simpa using h1
 have e2:(r==9)=false:=by simpa using h2
 have e3:(r==13)=false:=by simpa using h3
 simp[DT,AN,e1,e2,e3]
theorem O9 (w:Y) (b:Nat) (r:Int) (hb:w.heap[b]? =F (AW 3)):
  (Instr.lookup 79 (.map (F b)) (.int .i32 r) true).run Tryz.prog w=.ok (.tuple #[(AN r DT).getD (.int .i32 0),.bool (AN r DT).isSome]) w:=
 CE (P:=Tryz.prog) (enc:=encR) Afk Aa5 (k:=21) (e:=21) (l:=DT) (z:=.int .i32 0) Tryz.underlying79 Tryz.underlying21 (by kernel_rfl) hb r true
theorem RJ (r:Nat):(Es r).length<=4:=by
 unfold Es
 repeat' split
 all_goals first | exact Y3 _ | simp
theorem Abz (r:Int) (zs:List Int) (n cap:Nat) (w:Y) (hn:zs.length=n) (hs:n<=1000):
  Calls Tryz.prog 36 #[.int .i32 r,Z (F ⟨w.heap.size,0,O⟩) n cap] (w.alloc (.cells (zs.map (Value.int .i32)).toArray 21)) fun e w'=>e=.returned (.bool (Bw zs r))/\w'=w.alloc (.cells (zs.map (Value.int .i32)).toArray 21):=by
 refine(Q9 r zs w.heap.size n cap _ hn hs (fun i hi=>?_)).mono (fun e w' h=>⟨h.1,h.2.symm⟩);have h:=Wn w (.cells (zs.map (Value.int .i32)).toArray 21);unfold World.cell?;rw[h];simp[show i<zs.length by omega]
theorem Ek (n:Nat) (h:n<128):encodeRune (n:Int)=[UInt8.ofNat n]:=by
 unfold encodeRune;rw[encodeRuneZ_one (by omega) (by omega)];simp
theorem EY {w:Y} {M:Nat} (hM:w.heap.size=M) (cs:Array Value) (T:TypeId):(w.alloc (.cells cs T)).heap[M]? =F (.cells cs T (0,0)):=by rw[<- hM];exact Wn _ _
theorem Dy {w:Y} {Iz:Nat} {s:ByteArray} {pos:Nat} (h:w.heap[Iz]? =F (.stringIter s pos)) (o:Obj):(w.alloc o).heap[Iz]? =F (.stringIter s pos):=
 Ay h ((Bq w.heap.size w).alloc Nr o)
theorem RP (a b:Int) (ha:0<=a/\a<=1114111) (hb:0<=b/\b<=1114111):∀ j,(hj:j<[a,b].length)->0<=[a,b][j]/\[a,b][j]<=1114111
 | 0,_=>ha
 | 1,_=>hb
theorem Aak {a b:Nat} (ha:a<128) (hb:b<128):([(a:Int),(b:Int)]:List Int).flatMap encodeRune=[UInt8.ofNat a,UInt8.ofNat b]:=by
 simp[List.flatMap_cons,Ek a ha,Ek b hb]
theorem N8 {b:Nat} (hb:b<128):([92,(b:Int)]:List Int).flatMap encodeRune=[92,UInt8.ofNat b]:=Aak (a:=92) (by decide) hb
theorem Acf:∀ r:Fin 128,bits BinOp.and IntKind.i32 ((r.val:Nat):Int) 15=((r.val%16:Nat):Int):=by decide+kernel
theorem YW:∀ (q:Fin 16) (h:q.val<(⟨#[48,49,50,51,52,53,54,55,56,57,97,98,99,100,101,102]⟩:ByteArray).size),(⟨#[48,49,50,51,52,53,54,55,56,57,97,98,99,100,101,102]⟩:ByteArray)[q.val]'h=Jq q.val:=by decide+kernel
theorem VZ (a b c d:Int) (ha:0<=a/\a<=1114111) (hb:0<=b/\b<=1114111) (hc:0<=c/\c<=1114111) (hd:0<=d/\d<=1114111):∀ j,(hj:j<[a,b,c,d].length)->0<=[a,b,c,d][j]/\[a,b,c,d][j]<=1114111
 | 0,_=>ha
 | 1,_=>hb
 | 2,_=>hc
 | 3,_=>hd
theorem X6 {a b:UInt8} (ha:a.toNat<128) (hb:b.toNat<128):([92,120,(a.toNat:Int),(b.toNat:Int)]:List Int).flatMap encodeRune=[92,120,a,b]:=by
 have h1:encodeRune 92=[92]:=Ek 92 (by decide);have h2:encodeRune 120=[120]:=Ek 120 (by decide);simp[List.flatMap_cons,h1,h2,Ek _ ha,Ek _ hb]
theorem U8:∀ r:Fin 128,IntKind.i32.wrap ((r.val:Nat):Int)=((r.val:Nat):Int):=by decide+kernel
theorem OC {B b:Nat} {bs:List Value} {w:Y} (h:Lib.IsBuilderF TB T8 B b bs w):Lib.IsBuilderF TB T8 B b bs w.drew:=h
def Ai8 (s:ByteArray) (N Iz:Nat) (w0 wr:Y):Prop:=
 ∃ (pos:Nat) (acc:List UInt8),pos<=s.size/\wr.heap[Iz]? =F (.stringIter s pos)/\Lib.IsBuilderF TB T8 N N (Lib.byteCells acc) wr/\Below N w0 wr∧
  Hid (acc.length<=4*pos+1/\validD (s.data.toList.drop pos)=true/\Ft s.data.toList=acc++((AJ (s.data.toList.drop pos)).flatMap Es++[34]))
theorem WD (s:ByteArray) (w:Y) (hs:s.size<=100000) (hT:Bf w):
  Calls Tryz.prog 15 #[Q s] w fun e w'=>e=.returned (Jy s.data.toList)/\Below w.heap.size w w':=by
 have hR:=B2 s w (by omega) hT;cases hv:validD s.data.toList with
 | false=>
  rw[hv] at hR;have HV:=hid (show Jy s.data.toList=.tuple #[Q ⟨#[]⟩,I J 40] by unfold Jy;rw[hv];rfl);clear hv;go_enter Tryz.func15,Tryz.ntmps15;go_wp2_with fail;refine hR.mono ?_;rintro e w1 ⟨rfl,hb1⟩;clear hR;go_wp2;go_ret2;exact⟨by rw[HV.out];rfl,hb1⟩
 | true=>
  rw[hv] at hR;have HV:=hid (show Jy s.data.toList=.tuple #[Q ⟨(Ft s.data.toList).toArray⟩,I J 0] by unfold Jy;rw[hv];rfl);have HVD:=hid hv;clear hv;go_enter Tryz.func15,Tryz.ntmps15;go_wp2_with fail;refine hR.mono ?_;rintro e w1 ⟨rfl,hb1⟩;clear hR;obtain⟨N,hN⟩:∃ N,w1.heap.size=N:=⟨_,rfl⟩
  have hI0:Lib.IsBuilderF TB T8 N N (Lib.byteCells []) (w1.alloc (.cells #[.pointer O,Z O 0 0] TB)):=.inl ⟨Nat.le_refl _,Z O 0 0,by rw[<- hN];exact Wn _ _,World.ownsRowF_nil _ _ _ _,by simp[Value.ownBlock]⟩;replace hI0:=hI0.alloc (.cells #[.int .i32 34] 21);have hb2:Below N w1 ((w1.alloc (.cells #[.pointer O,Z O 0 0] TB)).alloc (.cells #[.int .i32 34] 21)):=((Bq N w1).alloc (by omega) _).alloc (by simp;omega) _;have hh:((w1.alloc (.cells #[.pointer O,Z O 0 0] TB)).alloc (.cells #[.int .i32 34] 21)).heap[N+1]? =F (.cells #[.int .i32 34] 21 (0,0)):=EY (by rw[World.size_alloc,hN]) _ _;have hL:=GD N N (N+1) 1 [] [34] _ hI0 hh rfl (by omega) (fun j hj=>by simp at hj;subst hj;simp) (by simp) (by simp;omega);clear hI0 hh;go_wp2_with fail;refine hL.mono ?_;rintro e w2 ⟨rfl,hB2,hb3,ho3⟩;replace hb2:=hb2.trans hb3;have hz:=hb3.size;rw[World.size_alloc,World.size_alloc,hN] at hz;rw[show([]++([34]:List Int).flatMap encodeRune:List UInt8)=[34] from by decide+kernel] at hB2;clear hL hb3 ho3;obtain⟨Iz,hI⟩:∃ Iz,w2.heap.size=Iz:=⟨_,rfl⟩
  rw[hI] at hz;have hb1':=hid hb1;clear hb1;go_wp2;go_loopw [7] (fun _ wr=>Ai8 s N Iz w1 wr) (fun _ wr=>s.size - wr.iterPos Iz)
  case atStart=>exact⟨0,[34],by omega,by rw[<- hI];exact World.iter_heap _ _ _,hB2.alloc (.stringIter s 0),hb2.alloc (by have:=hb2.size;omega) _,hid ⟨by simp,by rw[List.drop_zero];exact HVD.out,rfl⟩⟩
  case round=>
   obtain⟨pos,acc,hp,hit,hB,hb,HI⟩:=hrel;have hIr:Iz<wr.heap.size:=(Gl hit)
   have hacc:acc.length<=4*s.size+1:=by have:=HI.out.1;omega
   obtain⟨M,hM⟩:∃ M,wr.heap.size=M:=⟨_,rfl⟩
   have hIM:Iz<M:=by omega
   by_cases hlt:pos<s.size
   ·have hnx:=fun ty=>run_next_any_at (P:=Tryz.prog) wr Iz s pos ty hit hlt;have hbi:=below_iterAt hb (show N<=Iz by omega) s (pos+(Utf8.decode s pos).2);have hit1:=iterAt_heap wr Iz s pos (pos+(Utf8.decode s pos).2) hit;have hB1:=hB.iterAt hit (pos+(Utf8.decode s pos).2);have hw:=decode_le s pos hlt;have Se:1<=(Utf8.decode s pos).2:=by rw[<- Lib.decodeL_drop];exact decodeL_width _
    have hne:=CS s pos hlt;have hv1:=HI.out.2.1;have hq:=HI.out.2.2;rw[Bo _ hne,Lib.decodeL_drop,List.drop_drop,List.flatMap_cons] at hq;have hvn:=KM _ hne hv1;rw[Lib.decodeL_drop,List.drop_drop] at hvn;have hsg:VM (Utf8.decode s pos).1:=by
     refine Lu _ _ Nr hv1 _ ?_;rw[Bo _ hne,Lib.decodeL_drop];simp
    have hz1:(wr.iterAt Iz s (pos+(Utf8.decode s pos).2)).heap.size=M:=by rw[iterAt_size,hM]
    have HM1:=hid (B4 hit);obtain⟨⟨R,K⟩,hRK⟩:∃ x,Utf8.decode s pos=x:=⟨_,rfl⟩
    rw[hRK] at hnx hbi hit1 hB1 hw Se hq hvn hsg hz1;simp only at hnx hbi hit1 hB1 hw Se hq hvn hsg hz1;obtain⟨W1,hW1⟩:∃ W,wr.iterAt Iz s (pos+K)=W:=⟨_,rfl⟩
    rw[hW1] at hnx hbi hit1 hB1 hz1;have hR1:(R:Int)<=1114111:=by unfold VM at hsg;rw[NL] at hsg;omega
    have hfin:∀ W',Lib.IsBuilderF TB T8 N N (Lib.byteCells (acc++Es R)) W'->W'.heap[Iz]? =F (.stringIter s (pos+K))->Below N w1 W'->Ai8 s N Iz w1 W':=fun W' a b c=>
     ⟨pos+K,acc++Es R,by omega,b,a,c,hid ⟨by rw[List.length_append];have:=RJ R;have:=HI.out.1;omega,hvn,by rw[hq];simp⟩⟩
    have HFIN:=hid hfin;have HSG:=hid hsg;have hlk:=O9 (W1.alloc (AW 3)) M R (by rw[<- hz1];exact Wn _ _);have hitA:=Dy hit1 (AW 3);have hBA:=hB1.alloc (AW 3);have hbA:Below N w1 (W1.alloc (AW 3)):=hbi.alloc (by have:=hbi.size;omega) _;have hzA:(W1.alloc (AW 3)).heap.size=M+1:=by rw[World.size_alloc,hz1]
    clear hRK hW1 hne hv1 hq hvn hsg hfin hit hB hb HI hM;by_cases hsh:(R:Int)=10\/(R:Int)=9\/(R:Int)=13
    ·have hx:∃ (c:Nat),c<128/\AN (R:Int) DT=F (.int .i32 (c:Int))/\Es R=[92,UInt8.ofNat c]:=by
      rcases hsh with h | h | h
      ·obtain rfl:R=10:=by omega
       exact⟨110,by decide,rfl,rfl⟩
      ·obtain rfl:R=9:=by omega
       exact⟨116,by decide,rfl,rfl⟩
      ·obtain rfl:R=13:=by omega
       exact⟨114,by decide,rfl,rfl⟩
     obtain⟨c,hc,hx1,hx2⟩:=hx;rw[hx1] at hlk;simp only[Option.getD_some,Option.isSome_some] at hlk;have HX2:=hid hx2;clear hsh hx1 hx2;go_wp2_with fail;refine(JI W1).mono ?_;rintro e W2 ⟨rfl,hW2⟩;subst hW2;rw[hz1];obtain⟨W2,hW2⟩:∃ W,W1.alloc (AW 3)=W:=⟨_,rfl⟩
     rw[hW2] at hlk hitA hBA hbA hzA |-;clear hW2 hnx;have hh:=EY hzA #[.int .i32 92,.int .i32 (c:Int)] 21;have hitB:=Dy hitA (.cells #[.int .i32 92,.int .i32 (c:Int)] 21);have hbB:Below N w1 (W2.alloc (.cells #[.int .i32 92,.int .i32 (c:Int)] 21)):=hbA.alloc (by have:=hbA.size;omega) _;have hL:=GD N N (M+1) 2 acc [92,(c:Int)] _ (hBA.alloc _) hh rfl (by omega) (RP 92 c (by omega) (by omega)) (by omega) (by rw[World.size_alloc,hzA];omega);rw[N8 hc,<- HX2.out] at hL;clear hh hBA hbA hitA hB1 hit1 hbi;go_wp2_with fail;refine hL.mono ?_;rintro e W3 ⟨rfl,hB3,hb3,ho3⟩;have hit3:=ho3.iter hitB (by omega);have fin:=HFIN.out W3 hB3 hit3 (hbB.trans hb3);have HM2:=hid (B4 hit3);clear hL hB3 hb3 ho3 hit3 hbB hitB;go_wp2;go_roundw
     case rel=>exact fin
     case measure=>rw[HM1.out,HM2.out];omega
    ·have hna:=Rc (fun e=>hsh (.inl e)) (fun e=>hsh (.inr (.inl e))) (fun e=>hsh (.inr (.inr e)));rw[hna] at hlk;simp only[Option.getD_none,Option.isSome_none] at hlk;have HSH:=hid hsh;clear hsh hna;go_wp2_with fail;refine(JI W1).mono ?_;rintro e W2 ⟨rfl,hW2⟩;subst hW2;rw[hz1];obtain⟨W2,hW2⟩:∃ W,W1.alloc (AW 3)=W:=⟨_,rfl⟩
     rw[hW2] at hlk hitA hBA hbA hzA |-;clear hW2 hnx;have hQ:=Abz (R:Int) [34,92] 2 2 W2 rfl (by decide);rw[hzA] at hQ;have hitB:=Dy hitA (.cells #[.int .i32 34,.int .i32 92] 21);have hbB:Below N w1 (W2.alloc (.cells #[.int .i32 34,.int .i32 92] 21)):=hbA.alloc (by have:=hbA.size;omega) _;have hBB:=hBA.alloc (.cells #[.int .i32 34,.int .i32 92] 21);have hzB:(W2.alloc (.cells #[.int .i32 34,.int .i32 92] 21)).heap.size=M+1+1:=by rw[World.size_alloc,hzA]
     obtain⟨mm,hmm⟩:∃ b,Bw [34,92] (R:Int)=b:=⟨_,rfl⟩
     rw[hmm] at hQ;have HMM:=hid hmm;clear hitA hbA hBA hB1 hit1 hbi hmm;go_wp2_with fail;refine hQ.mono ?_;rintro e W3 ⟨rfl,hW3⟩;clear hQ hlk;replace hW3:W3=W2.alloc (.cells #[.int .i32 34,.int .i32 92] 21):=hW3;rw[<- hW3] at hitB hbB hBB hzB;clear hW3 hzA hz1;cases mm with
     | true=>
      have hx2:Es R=[92,UInt8.ofNat R]/\R<128:=by
       have h1:=HMM.out;have h2:R=34\/R=92:=by unfold Bw at h1;simp at h1;omega
       rcases h2 with rfl | rfl<;>exact⟨rfl,by decide⟩
      have HX2:=hid hx2.1;have hc:=hx2.2;clear hx2;have hh:=EY hzB #[.int .i32 92,.int .i32 (R:Int)] 21;have hitC:=Dy hitB (.cells #[.int .i32 92,.int .i32 (R:Int)] 21);have hbC:Below N w1 (W3.alloc (.cells #[.int .i32 92,.int .i32 (R:Int)] 21)):=hbB.alloc (by have:=hbB.size;omega) _;have hL:=GD N N (M+1+1) 2 acc [92,(R:Int)] _ (hBB.alloc _) hh rfl (by omega) (RP 92 R (by omega) (by omega)) (by omega) (by rw[World.size_alloc,hzB];omega);rw[N8 hc,<- HX2.out] at hL;clear hh hBB hbB hitB;go_wp2_with fail;refine hL.mono ?_;rintro e W4 ⟨rfl,hB3,hb3,ho3⟩;have hit3:=ho3.iter hitC (by omega);have fin:=HFIN.out W4 hB3 hit3 (hbC.trans hb3);have HM2:=hid (B4 hit3);clear hL hB3 hb3 ho3 hit3 hbC hitC;go_wp2;go_roundw
      case rel=>exact fin
      case measure=>rw[HM1.out,HM2.out];omega
     | false=>
      obtain⟨pl,hpl⟩:∃ b,BA (R:Int)=b:=⟨_,rfl⟩
      have hP:=F8 (R:Int) W3;rw[hpl] at hP;have HPL:=hid hpl;clear hpl;go_wp2_with fail;refine hP.mono ?_;rintro e W4 ⟨rfl,hw4⟩;subst hw4;clear hP;cases pl with
      | true=>
       have hx2:Es R=encodeRune (R:Int):=by
        have h1:=HMM.out;have h2:=HSH.out;have h3:An R=true:=HPL.out;unfold Bw at h1;simp at h1;unfold Es;rw[if_neg (by omega),if_neg (by omega),if_neg (by omega),if_neg (by omega),if_pos h3]
       have HX2:=hid hx2;clear hx2;have hh:=EY hzB #[.int .i32 (R:Int)] 21;have hitC:=Dy hitB (.cells #[.int .i32 (R:Int)] 21);have hbC:Below N w1 (W4.alloc (.cells #[.int .i32 (R:Int)] 21)):=hbB.alloc (by have:=hbB.size;omega) _;have hL:=GD N N (M+1+1) 1 acc [(R:Int)] _ (hBB.alloc _) hh rfl (by omega) (fun j hj=>by simp at hj;subst hj;simp;omega) (by omega) (by rw[World.size_alloc,hzB];omega);rw[show([(R:Int)].flatMap encodeRune:List UInt8)=Es R by rw[HX2.out];simp] at hL;clear hh hBB hbB hitB;go_wp2_with fail;refine hL.mono ?_;rintro e W5 ⟨rfl,hB3,hb3,ho3⟩;have hit3:=ho3.iter hitC (by omega);have fin:=HFIN.out W5 hB3 hit3 (hbC.trans hb3);have HM2:=hid (B4 hit3);clear hL hB3 hb3 ho3 hit3 hbC hitC;go_wp2;go_roundw
       case rel=>exact fin
       case measure=>rw[HM1.out,HM2.out];omega
      | false=>
       have hR128:R<128:=Xk HPL.out;have hx2:Es R=[92,120,Jq (R / 16),Jq (R%16)]:=by
        have h1:=HMM.out;have h2:=HSH.out;have h3:An R=false:=HPL.out;unfold Bw at h1;simp at h1;unfold Es;rw[if_neg (by omega),if_neg (by omega),if_neg (by omega),if_neg (by omega),h3];rfl
       obtain⟨p,hp⟩:∃ p,R / 16=p:=⟨_,rfl⟩
       obtain⟨q,hq⟩:∃ q,R%16=q:=⟨_,rfl⟩
       have hp16:p<16:=by omega
       have hq16:q<16:=by omega
       have hpI:(R:Int) / 16=(p:Int):=by omega
       have hqI:bits BinOp.and IntKind.i32 (R:Int) 15=(q:Int):=by rw[<- hq];exact Acf ⟨R,hR128⟩
       rw[hp,hq] at hx2;obtain⟨a,ha,ha2⟩:∃ a,Jq p=a/\∀ h,(⟨#[48,49,50,51,52,53,54,55,56,57,97,98,99,100,101,102]⟩:ByteArray)[p]'h=a:=⟨Jq p,rfl,fun h=>YW ⟨p,hp16⟩ h⟩
       obtain⟨b,hb,hb2⟩:∃ b,Jq q=b/\∀ h,(⟨#[48,49,50,51,52,53,54,55,56,57,97,98,99,100,101,102]⟩:ByteArray)[q]'h=b:=⟨Jq q,rfl,fun h=>YW ⟨q,hq16⟩ h⟩
       have ha128:a.toNat<128:=by rw[<- ha];exact(V2 ⟨p,hp16⟩).2.1
       have hb128:b.toNat<128:=by rw[<- hb];exact(V2 ⟨q,hq16⟩).2.1
       rw[ha,hb] at hx2;have HX2:=hid hx2;have hpi:(p:Int)<16:=by omega
       have hqi:(q:Int)<16:=by omega
       clear hx2 hp hq ha hb hR128;have hwa:IntKind.i32.wrap (a.toNat:Int)=(a.toNat:Int):=U8 ⟨a.toNat,ha128⟩;have hwb:IntKind.i32.wrap (b.toNat:Int)=(b.toNat:Int):=U8 ⟨b.toNat,hb128⟩;have hh:(W4.alloc (.cells #[.int .i32 92,.int .i32 120,.int .i32 (a.toNat:Int),.int .i32 (b.toNat:Int)] 21)).drew.heap[M+1+1]? =_:=EY (w:=W4) (M:=M+1+1) hzB #[.int .i32 92,.int .i32 120,.int .i32 (a.toNat:Int),.int .i32 (b.toNat:Int)] 21;have hitC:(W4.alloc (.cells #[.int .i32 92,.int .i32 120,.int .i32 (a.toNat:Int),.int .i32 (b.toNat:Int)] 21)).drew.heap[Iz]? =F (.stringIter s (pos+K)):=Dy (w:=W4) hitB _;have hNW:N<=W4.heap.size:=by rw[hzB];omega
       have hbC:Below N w1 (W4.alloc (.cells #[.int .i32 92,.int .i32 120,.int .i32 (a.toNat:Int),.int .i32 (b.toNat:Int)] 21)).drew:=(hbB.alloc hNW _).drew;have hBD:Lib.IsBuilderF TB T8 N N (Lib.byteCells acc) (W4.alloc (.cells #[.int .i32 92,.int .i32 120,.int .i32 (a.toNat:Int),.int .i32 (b.toNat:Int)] 21)).drew:=OC (hBB.alloc _);have hL:=GD N N (M+1+1) 4 acc [92,120,(a.toNat:Int),(b.toNat:Int)] (W4.alloc (.cells #[.int .i32 92,.int .i32 120,.int .i32 (a.toNat:Int),.int .i32 (b.toNat:Int)] 21)).drew hBD hh rfl (by omega) (VZ _ _ _ _ (by omega) (by omega) (by omega) (by omega)) (by omega) (by show N<=(W4.alloc (.cells #[.int .i32 92,.int .i32 120,.int .i32 (a.toNat:Int),.int .i32 (b.toNat:Int)] 21)).heap.size;rw[World.size_alloc];omega);rw[show([92,120,(a.toNat:Int),(b.toNat:Int)]:List Int).flatMap encodeRune=Es R by rw[HX2.out];exact X6 ha128 hb128] at hL;have HL:=hid hL;have HC:=hid hitC;have HB:=hid hbC;clear hh hBB hbB hitB hL hitC hbC hBD ha128 hb128;go_wp2;go_region_with ((refine HL.out.mono ?_;rintro e W5 ⟨rfl,hB3,hb3,ho3⟩));all_goals
        have hit3:=ho3.iter HC.out (by omega);have fin:=HFIN.out _ hB3 hit3 (HB.out.trans hb3);have HM2:=hid (B4 hit3);clear hB3 hb3 ho3 hit3;go_wp2;go_roundw
        case rel=>exact fin
        case measure=>rw[HM1.out,HM2.out];omega
   ·have hnx:=fun ty=>run_next_end_at (P:=Tryz.prog) wr Iz s pos ty hit hlt;have hq:=HI.out.2.2;rw[List.drop_eq_nil_of_le (by rw[<- Lib.size_eq];omega),J4,List.flatMap_nil,List.nil_append] at hq;have HQ:=hid hq;have hh:=EY hM #[.int .i32 34] 21;have hbB:Below N w1 (wr.alloc (.cells #[.int .i32 34] 21)):=hb.alloc (by have:=hb.size;omega) _;have hL:=GD N N M 1 acc [34] _ (hB.alloc _) hh rfl (by omega) (fun j hj=>by simp at hj;subst hj;simp) (by omega) (by rw[World.size_alloc,hM];omega);rw[show([34]:List Int).flatMap encodeRune=[34] from by decide+kernel,<- HQ.out] at hL;clear hq hh hb hB HI hit;go_wp2_with fail;refine hL.mono ?_;rintro e W2 ⟨rfl,hB2,hb3,ho3⟩;have hb4:=hbB.trans hb3;clear hL hnx hb3 ho3 hbB;go_wp2_with fail;refine(Tryz.Builder_String_any_k N N _ W2 hB2 (by have:=hb4.size;omega)).mono ?_;rintro e W3 ⟨rfl,hB3,hb5,ho5⟩;have hfb:=hb1'.out.trans ((hN▸hb4.trans hb5:Below w1.heap.size w1 W3).mono (by have:=hb1'.out.size;omega));clear hB3 ho5;go_wp2;go_ret2;exact⟨by rw[HV.out];rfl,hfb⟩
end
section
set_option maxRecDepth 100000
set_option maxHeartbeats 2000000
theorem PR (s:ByteArray):(Fs (Cw s)).1.str.size<=s.size:=by
 unfold Cw;split
 ·rename_i v h;obtain⟨p,hp,rfl⟩:=JC h;simp only[Dx,List.mem_cons,List.not_mem_nil,or_false] at hp;rcases hp with rfl | rfl | rfl | rfl | rfl | rfl | rfl | rfl | rfl<;>exact Nat.zero_le _
 ·split
  ·unfold Ge;split
   ·split<;>exact Nat.zero_le _
   ·exact Nat.zero_le _
  ·exact Nat.le_refl _
theorem MU (s:ByteArray):(AM s).1.str.size<=s.size:=by
 unfold AM;split
 ·exact Nat.zero_le _
 ·exact PR s
def QT (k n:Int) (s:ByteArray):Value:=.agg #[I J k,I J n,Q s]
theorem XB (k n:Int) (s:ByteArray) (w:Y):Calls Tryz.prog 261 #[QT k n s] w fun e w'=>e=.returned (Q ⟨#[110,117,108,108]⟩)/\Below w.heap.size w w':=by
 unfold QT;go_enter Tryz.func261,Tryz.ntmps261;go_wp2;go_ret;exact⟨rfl,(Bq _ w).alloc Nr _⟩
theorem My (k n:Int) (s:ByteArray) (w:Y):Calls Tryz.prog 262 #[QT k n s] w fun e w'=>e=.returned (Q (if n=1 then ⟨#[116,114,117,101]⟩ else ⟨#[102,97,108,115,101]⟩))/\Below w.heap.size w w':=by
 unfold QT;by_cases h:n=1
 ·rw[if_pos h];have hb:((n:Int)==1)=true:=by rw[beq_iff_eq];exact h
  clear h;go_enter Tryz.func262,Tryz.ntmps262;go_wp2;go_ret;exact⟨rfl,(Bq _ w).alloc Nr _⟩
 ·rw[if_neg h];have hb:((n:Int)==1)=false:=by rw[beq_eq_false_iff_ne];exact h
  clear h;go_enter Tryz.func262,Tryz.ntmps262;go_wp2;go_ret;exact⟨rfl,(Bq _ w).alloc Nr _⟩
theorem QF (k n:Int) (s:ByteArray) (w:Y) (h0: -999999999999999<=n) (h1:n<=999999999999999) (hT:Bf w):Calls Tryz.prog 263 #[QT k n s] w fun e w'=>e=.returned (Q ⟨(itoa n).toArray⟩)/\Below w.heap.size w w':=by
 unfold QT;have hb0:Below w.heap.size w (w.alloc (.cells #[I J k,I J n,Q s] 407)):=(Bq _ w).alloc Nr _;have hT1:=hT.below hb0;go_enter Tryz.func263,Tryz.ntmps263;go_wp2_with fail;refine(Tryz.strconv_Itoa n (by omega) (by omega) _ hT1.pow).mono ?_;rintro e w' ⟨rfl,kk,os,rfl⟩;go_wp2;go_ret;exact⟨rfl,hb0.trans ((FW _ kk os).mono (by simp))⟩
theorem Wf (k n:Int) (s:ByteArray) (w:Y) (hs:s.size<=100000) (hv:validD s.data.toList=true) (hT:Bf w):Calls Tryz.prog 264 #[QT k n s] w fun e w'=>e=.returned (Q ⟨(Ft s.data.toList).toArray⟩)/\Below w.heap.size w w':=by
 unfold QT;have hb0:Below w.heap.size w (w.alloc (.cells #[I J k,I J n,Q s] 407)):=(Bq _ w).alloc Nr _;have hQ:=fun wx hx=>WD s wx hs (hT.below hx);unfold Jy at hQ;rw[hv] at hQ;simp only[if_true] at hQ;clear hv;go_enter Tryz.func264,Tryz.ntmps264;go_wp2_with fail;refine(hQ _ hb0).mono ?_;rintro e w' ⟨rfl,hb⟩;go_wp2;go_ret;exact⟨rfl,hb0.trans (hb.mono (by simp))⟩
def Ze (x:Sc):Value:=.tuple #[Q (DN x).1,I J (DN x).2]
theorem TJ (x:Sc) (w:Y) (hs:x.str.size<=100000) (hT:Bf w):
  Calls Tryz.prog 235 #[Di x] w fun e w'=>e=.returned (Ze x)/\Below w.heap.size w w':=by
 unfold Ze;obtain⟨k,n,s⟩:=x;have hR:=fun wx hx=>Gu k n s wx (by simp only at hs;omega) (hT.below hx);have hb0:Below w.heap.size w (w.alloc (.cells #[I J k,I J n,Q s] 36)):=(Bq _ w).alloc Nr _;unfold Di;cases hr:Ap ⟨k,n,s⟩ with
 | false=>
  rw[hr] at hR;rw[show DN ⟨k,n,s⟩=(⟨#[]⟩,60) by unfold DN;rw[hr];rfl];clear hr;go_enter Tryz.func235,Tryz.ntmps235;go_wp2_with fail;refine(hR _ hb0).mono ?_;rintro e w' ⟨rfl,hb⟩;go_wp2;refine bodyPost_ret (v:=.tuple #[Q ⟨#[]⟩,I J 60]) (by simp[results,Tryz.results235,go_sem]) rfl ?_;exact⟨rfl,hb0.trans (hb.mono (by simp))⟩
 | true=>
  rw[hr] at hR;rcases Kw hr with h | h | h | ⟨m,h,h0,h1⟩ | ⟨t,h,hv⟩
  ·simp only[A4,Sc.mk.injEq] at h;obtain⟨rfl,rfl,rfl⟩:=h;have HTX:=hid (show DN ⟨0,0,⟨#[]⟩⟩=((⟨#[110,117,108,108]⟩:ByteArray),(0:Int)) by unfold DN;rw[hr,if_pos rfl];rfl);rw[HTX.out];clear hr HTX;go_enter Tryz.func235,Tryz.ntmps235;go_wp2_with fail;refine(hR _ hb0).mono ?_;rintro e w1 ⟨rfl,hb⟩;have hk:=DI _ _ hb;obtain⟨c0,c1,c2,f0,f1,f2⟩:=DU hk;have hb1:Below w.heap.size w w1:=hb0.trans (hb.mono (by simp));have hz1:w.heap.size<w1.heap.size:=by have:=hb.size;simp at this;omega
   clear hk hb;go_wp2_with fail;refine((XB _ _ _ _)).mono ?_;rintro e w2 ⟨rfl,hb2⟩;have hb3:Below w.heap.size w w2:=((hb1.alloc (by omega) _).alloc (by simp;omega) _).trans (hb2.mono (by simp;omega));clear hb2;go_wp2;refine bodyPost_ret (v:=.tuple #[Q (⟨#[110,117,108,108]⟩:ByteArray),I J 0]) (by simp[results,Tryz.results235,go_sem]) rfl ?_;exact⟨rfl,hb3⟩
  ·simp only[A4,Sc.mk.injEq] at h;obtain⟨rfl,rfl,rfl⟩:=h;have HTX:=hid (show DN ⟨1,1,⟨#[]⟩⟩=((⟨#[116,114,117,101]⟩:ByteArray),(0:Int)) by unfold DN;rw[hr,if_pos rfl];rfl);rw[HTX.out];clear hr HTX;go_enter Tryz.func235,Tryz.ntmps235;go_wp2_with fail;refine(hR _ hb0).mono ?_;rintro e w1 ⟨rfl,hb⟩;have hk:=DI _ _ hb;obtain⟨c0,c1,c2,f0,f1,f2⟩:=DU hk;have hb1:Below w.heap.size w w1:=hb0.trans (hb.mono (by simp));have hz1:w.heap.size<w1.heap.size:=by have:=hb.size;simp at this;omega
   clear hk hb;go_wp2_with fail;refine((My _ _ _ _)).mono ?_;rintro e w2 ⟨rfl,hb2⟩;have hb3:Below w.heap.size w w2:=((hb1.alloc (by omega) _).alloc (by simp;omega) _).trans (hb2.mono (by simp;omega));clear hb2;go_wp2;refine bodyPost_ret (v:=.tuple #[Q (⟨#[116,114,117,101]⟩:ByteArray),I J 0]) (by simp[results,Tryz.results235,go_sem]) rfl ?_;exact⟨rfl,hb3⟩
  ·simp only[A4,Sc.mk.injEq] at h;obtain⟨rfl,rfl,rfl⟩:=h;have HTX:=hid (show DN ⟨1,0,⟨#[]⟩⟩=((⟨#[102,97,108,115,101]⟩:ByteArray),(0:Int)) by unfold DN;rw[hr,if_pos rfl];rfl);rw[HTX.out];clear hr HTX;go_enter Tryz.func235,Tryz.ntmps235;go_wp2_with fail;refine(hR _ hb0).mono ?_;rintro e w1 ⟨rfl,hb⟩;have hk:=DI _ _ hb;obtain⟨c0,c1,c2,f0,f1,f2⟩:=DU hk;have hb1:Below w.heap.size w w1:=hb0.trans (hb.mono (by simp));have hz1:w.heap.size<w1.heap.size:=by have:=hb.size;simp at this;omega
   clear hk hb;go_wp2_with fail;refine((My _ _ _ _)).mono ?_;rintro e w2 ⟨rfl,hb2⟩;have hb3:Below w.heap.size w w2:=((hb1.alloc (by omega) _).alloc (by simp;omega) _).trans (hb2.mono (by simp;omega));clear hb2;go_wp2;refine bodyPost_ret (v:=.tuple #[Q (⟨#[102,97,108,115,101]⟩:ByteArray),I J 0]) (by simp[results,Tryz.results235,go_sem]) rfl ?_;exact⟨rfl,hb3⟩
  ·simp only[A4,Sc.mk.injEq] at h;obtain⟨rfl,rfl,rfl⟩:=h;have HTX:=hid (show DN ⟨2,n,⟨#[]⟩⟩=((⟨(itoa n).toArray⟩:ByteArray),(0:Int)) by unfold DN;rw[hr,if_pos rfl];rfl);rw[HTX.out];clear hr HTX;go_enter Tryz.func235,Tryz.ntmps235;go_wp2_with fail;refine(hR _ hb0).mono ?_;rintro e w1 ⟨rfl,hb⟩;have hk:=DI _ _ hb;obtain⟨c0,c1,c2,f0,f1,f2⟩:=DU hk;have hb1:Below w.heap.size w w1:=hb0.trans (hb.mono (by simp));have hz1:w.heap.size<w1.heap.size:=by have:=hb.size;simp at this;omega
   clear hk hb;go_wp2_with fail;refine((QF _ _ _ _ h0 h1 (hT.below ((hb1.alloc (by omega) _).alloc (by simp;omega) _)))).mono ?_;rintro e w2 ⟨rfl,hb2⟩;have hb3:Below w.heap.size w w2:=((hb1.alloc (by omega) _).alloc (by simp;omega) _).trans (hb2.mono (by simp;omega));clear hb2;go_wp2;refine bodyPost_ret (v:=.tuple #[Q (⟨(itoa n).toArray⟩:ByteArray),I J 0]) (by simp[results,Tryz.results235,go_sem]) rfl ?_;exact⟨rfl,hb3⟩
  ·simp only[A4,Sc.mk.injEq] at h;obtain⟨rfl,rfl,rfl⟩:=h;have HTX:=hid (show DN ⟨3,0,s⟩=((⟨(Ft s.data.toList).toArray⟩:ByteArray),(0:Int)) by unfold DN;rw[hr,if_pos rfl];rfl);rw[HTX.out];clear hr HTX;go_enter Tryz.func235,Tryz.ntmps235;go_wp2_with fail;refine(hR _ hb0).mono ?_;rintro e w1 ⟨rfl,hb⟩;have hk:=DI _ _ hb;obtain⟨c0,c1,c2,f0,f1,f2⟩:=DU hk;have hb1:Below w.heap.size w w1:=hb0.trans (hb.mono (by simp));have hz1:w.heap.size<w1.heap.size:=by have:=hb.size;simp at this;omega
   clear hk hb;go_wp2_with fail;refine((Wf _ _ _ _ hs hv (hT.below ((hb1.alloc (by omega) _).alloc (by simp;omega) _)))).mono ?_;rintro e w2 ⟨rfl,hb2⟩;have hb3:Below w.heap.size w w2:=((hb1.alloc (by omega) _).alloc (by simp;omega) _).trans (hb2.mono (by simp;omega));clear hb2;go_wp2;refine bodyPost_ret (v:=.tuple #[Q (⟨(Ft s.data.toList).toArray⟩:ByteArray),I J 0]) (by simp[results,Tryz.results235,go_sem]) rfl ?_;exact⟨rfl,hb3⟩
end
section
theorem Lk (M:Nat):∀ ts:List Tr,Sm.SmTs M ts↔∀ t∈ts,Sm M t
 | []=>by simp[Sm.SmTs]
 | t::r=>by rw[Sm.SmTs,Lk M r];simp
theorem ZV {M:Nat} {ts:List Tr} (hl:ts.length<=M) (h:∀ t∈ts,Sm M t):Sm M (DZ ts):=by
 unfold DZ;rw[Sm];exact⟨Nat.zero_le _,hl,(Lk M ts).2 h⟩
theorem ZR {M:Nat} {ks:List Sc} {ts:List Tr} (hk:ks.length<=M) (hl:ts.length<=M) (h:∀ t∈ts,Sm M t):Sm M (DG ks ts):=by
 unfold DG;rw[Sm];exact⟨hk,hl,(Lk M ts).2 h⟩
theorem Aej (l:List BX):(UR l).length=l.length:=List.length_map _
theorem UN {M:Nat} {no:Int} {l:List BX} {d:Nat} {r rest:List En} {t:Tr} (h:I2 no l d r=.ok t rest) (hm:l.length<=M):Sm M t:=by
 obtain⟨_,_,h3,h4⟩:=GE h;have:=Mu (l:=UR l) (t:=t) (Prod.ext h3.symm h4);exact Afp this.1 (by rw[Aej];exact hm)
theorem Nh {x:En} {r rest:List En} (h:rest<:+r):Ee rest+1+x.l.length<=Ee (x::r):=by
 have:=LI h;rw[AR];omega
theorem smB (M:Nat):∀ n,(∀ m d l t rest,AV n m d l=.ok t rest->Ee l<=M->Sm M t)/\(∀ no m d l t rest,belowB n no m d l=.ok t rest->Ee l<=M->Sm M t)∧
  (∀ d x r t rest,BB n d x r=.ok t rest->Ee (x::r)<=M->Sm M t)/\(∀ col d l acc t rest,BW n col d l acc=.ok t rest->acc.length+Ee l<=M->(∀ a∈acc,Sm M a)->Sm M t)∧
  (∀ d x r t rest,Cb n d x r=.ok t rest->Ee (x::r)<=M->Sm M t)/\(∀ col d l ks ts t rest,AQ n col d l ks ts=.ok t rest->ks.length+Ee l<=M->ts.length+Ee l<=M->(∀ a∈ts,Sm M a)->Sm M t)
 | 0=>by refine⟨?_,?_,?_,?_,?_,?_⟩<;>intros<;>rename_i h _<;>simp[AV,belowB,BB,BW,Cb,AQ] at*
 | n+1=>by
  obtain⟨hN,hB,hI,hS,hP,hD⟩:=smB M n;obtain⟨_,_,sI,_,_,sP,_,_⟩:=H3 n;refine⟨fun m d l t rest h hm=>?_,fun no m d l t rest h hm=>?_,fun d x r t rest h hm=>?_,fun col d l acc t rest h hm ha=>?_,fun d x r t rest h hm=>?_,fun col d l ks ts t rest h hk hm ha=>?_⟩
  ·cases l with
   | nil=>simp[AV] at h
   | cons x r=>
    rw[AV] at h;split at h
    ·cases h
    ·split at h
     ·exact hS _ _ _ _ _ _ h (by simpa using hm) (fun a h=>by cases h)
     ·exact hD _ _ _ _ _ _ _ h (by simpa using hm) (by simpa using hm) (fun a h=>by cases h)
     ·obtain⟨t',h1,h2,_⟩:=GQ h;rw[h2];exact KZ (hB _ _ _ _ _ _ h1 (by rw[AR] at hm;omega)) _
     ·exact UN h (by rw[AR] at hm;omega)
  ·cases l with
   | nil=>
    rw[belowB] at h;split at h
    ·cases h
    ·injection h with h _;rw[<- h];exact EI M
   | cons x r=>
    rw[belowB] at h;split at h
    ·exact hN _ _ _ _ _ h hm
    ·split at h
     ·cases h
     ·injection h with h _;rw[<- h];exact EI M
  ·rw[BB] at h;split at h
   ·exact hB _ _ _ _ _ _ h (by rw[AR] at hm;omega)
   ·refine hN _ _ _ _ _ h ?_;rw[AR] at hm |-;have:(GV x).l.length<=x.l.length:=by show x.l.tail.length<=_;rw[List.length_tail];omega
    omega
  ·cases l with
   | nil=>rw[BW] at h;injection h with h _;rw[<- h];exact ZV (by omega) ha
   | cons x r=>
    rw[BW] at h;split at h
    ·cases hi:BB n (d+1) x r with
     | ok t1 rest1=>
      rw[hi] at h;have h1:=hI _ _ _ _ _ hi (by omega);have h2:=Nh (x:=x) (sI _ _ _ _ _ hi);refine hS _ _ _ _ _ _ h (by rw[List.length_append];simp only[List.length_cons,List.length_nil];omega) (fun a h=>?_);rcases List.mem_append.1 h with h | h
      ·exact ha a h
      ·rw[List.mem_singleton.1 h];exact h1
     | bad no e=>rw[hi] at h;cases h
     | out=>rw[hi] at h;cases h
    ·obtain⟨h1,_,_⟩:=Ff h;rw[h1];exact ZV (by omega) ha
  ·rw[Cb] at h;split at h
   ·obtain⟨t',h1,h2,_⟩:=GQ h;rw[h2];exact KZ (hB _ _ _ _ _ _ h1 (by rw[AR] at hm;omega)) _
   ·split at h
    ·exact hB _ _ _ _ _ _ h (by rw[AR] at hm;omega)
    ·exact UN h (by rw[AR] at hm;rw[List.length_drop];omega)
  ·cases l with
   | nil=>rw[AQ] at h;injection h with h _;rw[<- h];exact ZR (by omega) (by omega) ha
   | cons x r=>
    rw[AQ] at h;split at h
    ·split at h
     ·cases h
     ·cases hi:Cb n (d+1) x r with
      | ok t1 rest1=>
       rw[hi] at h;have h1:=hP _ _ _ _ _ hi (by omega);have h2:=Nh (x:=x) (sP _ _ _ _ _ hi);refine hD _ _ _ _ _ _ _ h (by rw[List.length_append];simp only[List.length_cons,List.length_nil];omega) (by rw[List.length_append];simp only[List.length_cons,List.length_nil];omega) (fun a h=>?_);rcases List.mem_append.1 h with h | h
       ·exact ha a h
       ·rw[List.mem_singleton.1 h];exact h1
      | bad no e=>rw[hi] at h;cases h
      | out=>rw[hi] at h;cases h
    ·obtain⟨h1,_,_⟩:=Ff h;rw[h1];exact ZR (by omega) (by omega) ha
theorem Pe {Fz M:Nat} {l:List KN} (hF:∀ es,HY l=.ok es->Ee es<=M):Sm M (C0 Fz l).1:=by
 unfold C0 VH;split
 ·rename_i es he;split at he
  ·unfold H4;split
   ·exact EI M
   ·cases hn:AV Fz (-1) 1 es with
    | ok t rest=>
     cases rest with
     | nil=>exact(smB M Fz).1 _ _ _ _ _ hn (hF es he)
     | cons x r=>exact EI M
    | bad no e=>exact EI M
    | out=>exact EI M
  ·cases he
 ·exact EI M
end
section
section
variable (ρ:Int->Int)
end
def Ba (Fz:Nat) (s:List UInt8):Tr×Int×Int:=if (Al s).2.2≠0 then (DW,(Al s).2.1,(Al s).2.2) else C0 Fz ((Al s).1.map B0)
def Am (chk:Tr->Int->St->Int) (Fz:Nat) (s:List UInt8):Gf×Int×Int:=if (Ba Fz s).2.2≠0 then (Ib,(Ba Fz s).2.1,(Ba Fz s).2.2) else ((A8 chk (Ba Fz s).1).1,0,(A8 chk (Ba Fz s).1).2)
theorem NA:∀ s:List UInt8,(10∈s->s=rowOf s++10::Bz s)/\(10∉s->rowOf s=s/\Bz s=[])
 | []=>⟨fun h=>(by cases h),fun _=>⟨rfl,rfl⟩⟩
 | b::l=>by
  obtain⟨h1,h2⟩:=NA l;by_cases hb:b=10
  ·subst hb;exact⟨fun _=>by simp[rowOf,Bz],fun h=>absurd (List.mem_cons_self ..) h⟩
  ·have hb2:(b !=10)=true:=by simpa using hb
   have e1:rowOf (b::l)=b::rowOf l:=by unfold rowOf;rw[List.takeWhile_cons,if_pos hb2]
   have e2:Bz (b::l)=Bz l:=by unfold Bz;rw[List.dropWhile_cons,if_pos hb2]
   rw[e1,e2];refine⟨fun h=>?_,fun h=>?_⟩
   ·rw[List.cons_append,<- h1 ((List.mem_cons.1 h).resolve_left (fun e=>hb e.symm))]
   ·obtain⟨h3,h4⟩:=h2 (fun e=>h (List.mem_cons_of_mem _ e));exact⟨by rw[h3],h4⟩
theorem Ms (k:Nat) (r:List UInt8) (rs:List (List UInt8)):C8 k (r::rs)=(k,r)::C8 (k+1) rs:=rfl
theorem Md (k:Nat) (r:List UInt8) (rs:List (Nat×List UInt8)) (acc:List Sc):BN ((k,r)::rs) acc=if AK r≠0 then ([],(k:Int),AK r) else BN rs (if FJ r then acc++[EQ k r] else acc):=rfl
theorem Ti {Fz:Nat} {l:List KN} (h:(C0 Fz l).2.2≠0):(C0 Fz l).1=DW:=by
 unfold C0 at h |-;split
 ·rename_i es he;rw[he] at h;dsimp only at h;unfold H4 at h |-;split
  ·rfl
  ·rename_i hne;rw[if_neg hne] at h;cases hb:AV Fz (-1) 1 es with
   | ok t rest=>
    rw[hb] at h;cases rest with
    | nil=>exact absurd rfl h
    | cons x r=>rfl
   | bad no e=>rfl
   | out=>rfl
 ·rfl
def szR (rs:List (List UInt8)):Nat:=(rs.map fun r=>r.length+1).sum
def WF (l:List Sc):Nat:=(l.map fun x=>x.str.size+1).sum
theorem P7 (k:Nat) (r:List UInt8):(EQ k r).str.size<=r.length/\0<=(EQ k r).num/\(EQ k r).num<=r.length:=by
 have h1:=Oh r;have h2:=PL (Cx r);refine⟨?_,?_,?_⟩
 ·show(Gd (Cx r)).toArray.size<=_;rw[List.size_toArray];omega
 ·show 0<=(r.length:Int) - (Cx r).length;omega
 ·show(r.length:Int) - (Cx r).length<=_;omega
theorem V3:∀ (rs:List (List UInt8)) (k:Nat) (acc:List Sc),WF (BN (C8 k rs) acc).1<=WF acc+szR rs
 | [],k,acc=>Nat.le_refl _
 | r::rs,k,acc=>by
  rw[Ms,Md];have hr:szR (r::rs)=(r.length+1)+szR rs:=by simp[szR]
  split
  ·exact Nat.zero_le _
  ·have:=V3 rs (k+1) (if FJ r then acc++[EQ k r] else acc);have h2:WF (if FJ r=true then acc++[EQ k r] else acc)<=WF acc+(r.length+1):=by
    split
    ·have:=(P7 k r).1;simp only[WF,List.map_append,List.sum_append,List.map_singleton,List.sum_singleton]
     omega
    ·omega
   omega
theorem VF (M:Nat):∀ (rs:List (List UInt8)) (k:Nat) (acc:List Sc),(∀ r∈rs,r.length<=M)->(∀ x∈acc,x.str.size<=M/\0<=x.num/\x.num<=M)->∀ x∈(BN (C8 k rs) acc).1,x.str.size<=M/\0<=x.num/\x.num<=M
 | [],k,acc,_,h=>h
 | r::rs,k,acc,hr,h=>by
  rw[Ms,Md];split
  ·exact fun x hx=>by cases hx
  ·refine VF M rs (k+1) _ (fun y hy=>hr y (List.mem_cons_of_mem _ hy)) ?_;split
   ·intro x hx;rcases List.mem_append.1 hx with hx | hx
    ·exact h x hx
    ·rw[List.mem_singleton] at hx;subst hx;have h1:=P7 k r;have h2:=hr r (List.mem_cons_self ..);omega
   ·exact h
theorem VO:∀ (n:Nat) (s:List UInt8),s.length<=n->szR (Cc s)<=s.length+1/\∀ r∈Cc s,r.length<=s.length
 | n,[],_=>⟨by simp[GR,szR],fun r hr=>by rw[GR] at hr;cases hr⟩
 | 0,c::s,h=>by simp at h
 | n+1,c::s,h=>by
  obtain⟨u,hu⟩:∃ u,c::s=u:=⟨_,rfl⟩
  have hune:u≠[]:=by rw[<- hu];simp
  rw[hu] at h |-;have hlt:=EP hune;obtain⟨i1,i2⟩:=VO n (Bz u) (by omega);obtain⟨h1,h2⟩:=NA u;have hrl:=QX u;rw[LR hune];refine⟨?_,fun r hr=>?_⟩
  ·have e:szR (rowOf u::Cc (Bz u))=((rowOf u).length+1)+szR (Cc (Bz u)):=by simp[szR]
   rw[e];by_cases h10:10∈u
   ·have:=congrArg List.length (h1 h10);rw[List.length_append,List.length_cons] at this;omega
   ·obtain⟨h3,h4⟩:=h2 h10;rw[h4,GR,h3];show _+0<=_;omega
  ·rcases List.mem_cons.1 hr with rfl | hr
   ·exact hrl
   ·have:=i2 r hr;omega
theorem I1 (s:List UInt8):WF (Al s).1<=s.length+1/\∀ x∈(Al s).1,x.str.size<=s.length/\0<=x.num/\x.num<=s.length:=by
 obtain⟨h1,h2⟩:=VO _ s Nr;unfold Al;split
 ·exact⟨Nat.zero_le _,fun x hx=>by cases hx⟩
 ·split
  ·refine⟨?_,VF _ _ _ _ h2 (fun x hx=>by cases hx)⟩;have:=V3 (Cc s) 1 [];have e:WF []=0:=rfl;omega
  ·exact⟨Nat.zero_le _,fun x hx=>by cases hx⟩
theorem H8 {s:List UInt8} (h:8000<s.length):Al s=([],0,20):=by unfold Al;rw[if_pos h]
theorem GC {s:List UInt8}:∀ x∈(Al s).1,0<=x.num/\x.num<=8000/\x.str.size<=8000:=fun x hx=>by
 by_cases h:8000<s.length
 ·rw[H8 h] at hx;cases hx
 ·have:=(I1 s).2 x hx;omega
theorem Hp {s:List UInt8}:∀ es,HY ((Al s).1.map B0)=.ok es->4*Ee es+2<=100000:=fun es he=>by
 by_cases h:8000<s.length
 ·rw[H8 h] at he;rw[List.map_nil,HY] at he;injection he with he;subst he;decide
 ·have h1:=(I1 s).1;have h2:=(IF he (fun x hx=>by
   obtain⟨y,hy,rfl⟩:=List.mem_map.1 hx;have:=GC y hy;have e:(B0 y).s.length=y.str.size:=by show y.str.data.toList.length=_;rw[Array.length_toList];rfl
   rw[e];show _/\0<=y.num/\y.num<=8000;omega)).2
  have h3:(((Al s).1.map B0).map fun x=>x.s.length+1).sum=WF (Al s).1:=by
   rw[List.map_map];unfold WF;congr 1
  omega
end
section
def E5 (M:Nat):Tr->Prop
 | .mk _ nm x ks ts=>nm.size<=M/\x.str.size<=M/\(∀ y∈ks,y.str.size<=M)/\SzTs ts
where SzTs:List Tr->Prop
 | []=>True
 | t::r=>E5 M t/\SzTs r
theorem OR {M:Nat}:∀ {ts:List Tr},E5.SzTs M ts↔∀ t∈ts,E5 M t
 | []=>by unfold E5.SzTs;simp
 | t::r=>by unfold E5.SzTs;rw[OR,List.forall_mem_cons]
theorem Lp {M:Nat} {t:Tr} (h:E5 M t) {s:List UInt8} (hs:s.length<=M):E5 M (t.named s):=by
 cases t
 unfold Tr.named;unfold E5 at h |-;exact⟨hs,h.2⟩
theorem EM (M:Nat):E5 M DW:=by unfold DW E5 E5.SzTs;exact⟨Nat.zero_le _,Nat.zero_le _,(fun y hy=>by cases hy),trivial⟩
theorem SL {M:Nat} {ts:List Tr} (h:∀ t∈ts,E5 M t):E5 M (DZ ts):=by unfold DZ E5;exact⟨Nat.zero_le _,Nat.zero_le _,(fun y hy=>by cases hy),OR.2 h⟩
theorem ST {M:Nat} {ks:List Sc} {ts:List Tr} (hk:∀ y∈ks,y.str.size<=M) (h:∀ t∈ts,E5 M t):E5 M (DG ks ts):=by unfold DG E5;exact⟨Nat.zero_le _,Nat.zero_le _,hk,OR.2 h⟩
theorem Pa {M:Nat} {t:Pc} (h:t.str.length<=M):(Bd t).1.str.size<=M:=by
 unfold Bd;split
 ·split
  ·exact Nat.le_trans (MU _) h
  ·exact Nat.zero_le _
 ·split
  ·split
   ·exact h
   ·exact Nat.zero_le _
  ·exact Nat.zero_le _
mutual
theorem Q7 {M:Nat}:∀ {p:List Pc} {v:Tr},PV p v->(∀ t∈p,t.str.length<=M)->E5 M v
 | _,_,.key t h,hp=>by unfold LU E5 E5.SzTs;exact⟨Nat.zero_le _,Pa (hp t (by simp)),(fun y hy=>by cases hy),trivial⟩
 | _,_,.ali t h,hp=>by unfold LJ E5 E5.SzTs;exact⟨hp t (by simp),Nat.zero_le _,(fun y hy=>by cases hy),trivial⟩
 | _,_,.nam t p v h h2 h3 hv,hp=>Lp (Q7 hv fun u hu=>hp u (by simp[hu])) (hp t (by simp))
 | _,_,.lst t p ts h hv,hp=>SL (Af5 hv fun u hu=>hp u (by simp[hu]))
 | _,_,.dic t p ks ts h hv,hp=>ST (Z8 hv fun u hu=>hp u (by simp[hu])).1 (Z8 hv fun u hu=>hp u (by simp[hu])).2
termination_by p _ _ _=>p.length
decreasing_by all_goals (simp;try omega)
theorem Af5 {M:Nat}:∀ {p:List Pc} {ts:List Tr},PI p ts->(∀ t∈p,t.str.length<=M)->∀ t∈ts,E5 M t
 | _,_,.nil c h,hp=>fun t ht=>by cases ht
 | _,_,.last p v c hv h,hp=>fun t ht=>by rw[List.mem_singleton.1 ht];exact Q7 hv fun u hu=>hp u (by simp[hu])
 | _,_,.cons p v m q ts hv h hq,hp=>fun t ht=>by
  rcases List.mem_cons.1 ht with rfl | ht
  ·exact Q7 hv fun u hu=>hp u (by simp[hu])
  ·exact Af5 hq (fun u hu=>hp u (by simp[hu])) t ht
termination_by p _ _ _=>p.length
decreasing_by all_goals (simp;try omega)
theorem Z8 {M:Nat}:∀ {p:List Pc} {ks:List Sc} {ts:List Tr},PD p ks ts->(∀ t∈p,t.str.length<=M)->(∀ y∈ks,y.str.size<=M)/\∀ t∈ts,E5 M t
 | _,_,_,.nil c h,hp=>⟨(fun y hy=>by cases hy),fun y hy=>by cases hy⟩
 | _,_,_,.last p x v c hv h,hp=>by
  obtain⟨h1,h2⟩:=Afc hv fun u hu=>hp u (by simp[hu]);exact⟨fun y hy=>by rw[List.mem_singleton.1 hy];exact h1,fun y hy=>by rw[List.mem_singleton.1 hy];exact h2⟩
 | _,_,_,.cons p x v m q ks ts hv h hq,hp=>by
  obtain⟨h1,h2⟩:=Afc hv fun u hu=>hp u (by simp[hu]);obtain⟨h3,h4⟩:=Z8 hq fun u hu=>hp u (by simp[hu]);exact⟨fun y hy=>(List.mem_cons.1 hy).elim (fun e=>by rw[e];exact h1) (h3 y),fun y hy=>(List.mem_cons.1 hy).elim (fun e=>by rw[e];exact h2) (h4 y)⟩
termination_by p _ _ _ _=>p.length
decreasing_by all_goals (simp;try omega)
theorem Afc {M:Nat}:∀ {p:List Pc} {x:Sc} {v:Tr},PP p x v->(∀ t∈p,t.str.length<=M)->x.str.size<=M/\E5 M v
 | _,_,_,.none k c h hc,hp=>⟨Pa (hp k (by simp)),EM M⟩
 | _,_,_,.some k c p v h hc hv,hp=>⟨Pa (hp k (by simp)),Q7 hv fun u hu=>hp u (by simp[hu])⟩
termination_by p _ _ _ _=>p.length
decreasing_by all_goals (simp;try omega)
end
def SzE (M:Nat) (x:En):Prop:=∀ t∈x.l,t.str.length<=M
theorem V1 {M:Nat} {no:Int} {l:List BX} {d:Nat} {r rest:List En} {t:Tr} (h:I2 no l d r=.ok t rest) (hm:∀ t∈l,t.str.length<=M):E5 M t:=by
 obtain⟨_,_,h3,h4⟩:=GE h;refine Q7 (Mu (l:=UR l) (t:=t) (Prod.ext h3.symm h4)).1 fun u hu=>?_;obtain⟨y,hy,rfl⟩:=List.mem_map.1 hu;exact hm y hy
theorem VD {M:Nat} {l:List BX} (h:∀ t∈l,t.str.length<=M) (i:Nat):(l.getD i VY).str.length<=M:=by
 rw[List.getD];cases hi:l[i]? with
 | none=>exact Nat.zero_le _
 | some t=>exact h t (List.mem_of_getElem? hi)
theorem VC {M:Nat} {l:List BX} {s:List UInt8} (h:∀ t∈l,t.str.length<=M) (hb:C9 l=.name s):s.length<=M:=by
 unfold C9 at hb;split at hb
 ·cases hb
 ·split at hb
  ·cases hb
  ·split at hb
   ·cases hb;exact VD h 0
   ·cases hb
theorem szB (M:Nat):∀ n,(∀ m d l t rest,AV n m d l=.ok t rest->(∀ x∈l,SzE M x)->E5 M t)/\(∀ no m d l t rest,belowB n no m d l=.ok t rest->(∀ x∈l,SzE M x)->E5 M t)∧
  (∀ d x r t rest,BB n d x r=.ok t rest->(∀ y∈x::r,SzE M y)->E5 M t)/\(∀ col d l acc t rest,BW n col d l acc=.ok t rest->(∀ x∈l,SzE M x)->(∀ a∈acc,E5 M a)->E5 M t)∧
  (∀ d x r t rest,Cb n d x r=.ok t rest->(∀ y∈x::r,SzE M y)->E5 M t)/\(∀ col d l ks ts t rest,AQ n col d l ks ts=.ok t rest->(∀ x∈l,SzE M x)->(∀ y∈ks,y.str.size<=M)->(∀ a∈ts,E5 M a)->E5 M t)
 | 0=>by refine⟨?_,?_,?_,?_,?_,?_⟩<;>intros<;>rename_i h _<;>simp[AV,belowB,BB,BW,Cb,AQ] at*
 | n+1=>by
  obtain⟨hN,hB,hI,hS,hP,hD⟩:=szB M n;obtain⟨_,_,sI,_,_,sP,_,_⟩:=H3 n;refine⟨fun m d l t rest h hm=>?_,fun no m d l t rest h hm=>?_,fun d x r t rest h hm=>?_,fun col d l acc t rest h hm ha=>?_,fun d x r t rest h hm=>?_,fun col d l ks ts t rest h hm hk ha=>?_⟩
  ·cases l with
   | nil=>simp[AV] at h
   | cons x r=>
    rw[AV] at h;split at h
    ·cases h
    ·split at h
     ·exact hS _ _ _ _ _ _ h hm (fun a h=>by cases h)
     ·exact hD _ _ _ _ _ _ _ h hm (fun a h=>by cases h) (fun a h=>by cases h)
     ·rename_i hb;obtain⟨t',h1,h2,_⟩:=GQ h;rw[h2];exact Lp (hB _ _ _ _ _ _ h1 fun y hy=>hm y (by simp[hy])) (VC (hm x (by simp)) hb)
     ·exact V1 h (hm x (by simp))
  ·cases l with
   | nil=>
    rw[belowB] at h;split at h
    ·cases h
    ·injection h with h _;rw[<- h];exact EM M
   | cons x r=>
    rw[belowB] at h;split at h
    ·exact hN _ _ _ _ _ h hm
    ·split at h
     ·cases h
     ·injection h with h _;rw[<- h];exact EM M
  ·rw[BB] at h;split at h
   ·exact hB _ _ _ _ _ _ h fun y hy=>hm y (by simp[hy])
   ·refine hN _ _ _ _ _ h fun y hy=>?_;rcases List.mem_cons.1 hy with rfl | hy
    ·exact fun t ht=>hm x (by simp) t (List.mem_of_mem_tail ht)
    ·exact hm y (by simp[hy])
  ·cases l with
   | nil=>rw[BW] at h;injection h with h _;rw[<- h];exact SL ha
   | cons x r=>
    rw[BW] at h;split at h
    ·cases hi:BB n (d+1) x r with
     | ok t1 rest1=>
      rw[hi] at h;have h1:=hI _ _ _ _ _ hi hm;refine hS _ _ _ _ _ _ h (fun y hy=>hm y (by simp[(sI _ _ _ _ _ hi).subset hy])) (fun a h=>?_);rcases List.mem_append.1 h with h | h
      ·exact ha a h
      ·rw[List.mem_singleton.1 h];exact h1
     | bad no e=>rw[hi] at h;cases h
     | out=>rw[hi] at h;cases h
    ·obtain⟨h1,_,_⟩:=Ff h;rw[h1];exact SL ha
  ·rw[Cb] at h;split at h
   ·rename_i hb;obtain⟨t',h1,h2,_⟩:=GQ h;rw[h2];exact Lp (hB _ _ _ _ _ _ h1 fun y hy=>hm y (by simp[hy])) (VC (fun t ht=>hm x (by simp) t (List.mem_of_mem_drop ht)) hb)
   ·split at h
    ·exact hB _ _ _ _ _ _ h fun y hy=>hm y (by simp[hy])
    ·exact V1 h fun t ht=>hm x (by simp) t (List.mem_of_mem_drop ht)
  ·cases l with
   | nil=>rw[AQ] at h;injection h with h _;rw[<- h];exact ST hk ha
   | cons x r=>
    rw[AQ] at h;split at h
    ·split at h
     ·cases h
     ·cases hi:Cb n (d+1) x r with
      | ok t1 rest1=>
       rw[hi] at h;have h1:=hP _ _ _ _ _ hi hm;refine hD _ _ _ _ _ _ _ h (fun y hy=>hm y (by simp[(sP _ _ _ _ _ hi).subset hy])) (fun y hy=>?_) (fun a h=>?_)
       ·rcases List.mem_append.1 hy with hy | hy
        ·exact hk y hy
        ·rw[List.mem_singleton.1 hy];unfold EA;exact Pa (VD (hm x (by simp)) 0)
       ·rcases List.mem_append.1 h with h | h
        ·exact ha a h
        ·rw[List.mem_singleton.1 h];exact h1
      | bad no e=>rw[hi] at h;cases h
      | out=>rw[hi] at h;cases h
    ·obtain⟨h1,_,_⟩:=Ff h;rw[h1];exact ST hk ha
theorem VL {Fz M:Nat} {l:List KN} (hF:∀ es,HY l=.ok es->∀ x∈es,SzE M x):E5 M (C0 Fz l).1:=by
 unfold C0 VH;split
 ·rename_i es he;split at he
  ·unfold H4;split
   ·exact EM M
   ·cases hn:AV Fz (-1) 1 es with
    | ok t rest=>
     cases rest with
     | nil=>exact(szB M Fz).1 _ _ _ _ _ hn (hF es he)
     | cons x r=>exact EM M
    | bad no e=>exact EM M
    | out=>exact EM M
  ·cases he
 ·exact EM M
theorem TS {M:Nat}:∀ (l:List KN) (es:List En),HY l=.ok es->(∀ x∈l,4*(x.s.length+1)<=M)->∀ x∈es,SzE M x
 | [],es,h,_=>by rw[HY] at h;injection h with h;subst h;exact fun x hx=>by cases hx
 | y::r,es,h,hm=>by
  rw[HY] at h;split at h
  ·cases h
  ·cases hr:HY r with
   | bad no e=>rw[hr] at h;cases h
   | ok es'=>
    rw[hr] at h;injection h with h;subst h;intro x hx;rcases List.mem_cons.1 hx with rfl | hx
    ·intro t ht;obtain⟨u,hu,rfl⟩:=List.mem_map.1 (show t∈(Bu y.s).1.map So from ht);exact Nat.le_trans ((F6 y.s).2 u hu).2 (hm y (by simp))
    ·exact TS r es' hr (fun z hz=>hm z (by simp[hz])) x hx
theorem U6 (Fz:Nat) (s:List UInt8):E5 40000 (C0 Fz ((Al s).1.map B0)).1:=by
 refine VL fun es he=>TS _ es he fun x hx=>?_;obtain⟨y,hy,rfl⟩:=List.mem_map.1 hx;have:=GC y hy;have e:(B0 y).s.length=y.str.size:=by show y.str.data.toList.length=_;rw[Array.length_toList];rfl
 rw[e];omega
end
section
open Go Go.RowKit Go.Lib Go.Sort
variable {α:Type} [Inhabited α]
def Ai0 [DecidableEq α] (l:List α):Bool:= !decide l.Nodup
end
end Go.Proofs.YtdpppepmkeinaaaGreatDoor
