/- What is proved: a part of the walk of the program and of its plain laws; no condition beside those that each theorem names. -/
import Derived.Test.YtdpppepmkeinaaaGreatDoorYe
import Derived.Test.YtdpppepmkeinaaaGreatDoorYa
import Derived.Laws.EntriesVeiled
namespace Go.Proofs.YtdpppepmkeinaaaGreatDoor
open Go Go.RowKit Go.Lib
open Go.Value renaming int->I,string->Q,slice->Z
open Go.IntKind renaming i64->J
open Option renaming none->O,some->F
open _root_.Go renaming World->Y
set_option linter.unusedSimpArgs false
set_option linter.unusedVariables false
set_option linter.unusedSectionVars false
section
set_option maxRecDepth 100000
set_option maxHeartbeats 2000000
attribute [local go_sem] Oper.semAt_some
theorem Nm (v:Value) (w:Y):(Instr.typeAssert (.iface 431 v) 429 431 true).run Tryz.prog w=.ok (.tuple #[v,.bool true]) w:=by kernel_rfl
theorem PL (v:Value) (w:Y):(Instr.typeAssert (.iface 433 v) 429 431 true).run Tryz.prog w=.ok (.tuple #[.agg #[.int .i32 0,I J 0],.bool false]) w:=by kernel_rfl
theorem P9 (v:Value) (w:Y):(Instr.typeAssert (.iface 435 v) 429 431 true).run Tryz.prog w=.ok (.tuple #[.agg #[.int .i32 0,I J 0],.bool false]) w:=by kernel_rfl
theorem RL (n:Nat) (r tq:Int) (w:Y):(method (n+1) 431 (.agg #[.int .i32 r,I J tq]) "sigillary/quote.next").run Tryz.prog w=.ok (351,.agg #[.int .i32 r,I J tq]) w:=by kernel_rfl
theorem Y8 (r tq:Int) (w:Y):
  Calls Tryz.prog 351 #[.agg #[.int .i32 r,I J tq]] w fun e w'=>e=.returned (I J tq)/\w'=w.alloc (.cells #[.int .i32 r,I J tq] 431):=by
 go_enter Tryz.func351,Tryz.ntmps351;go_wp2;go_ret;exact⟨rfl,rfl⟩
theorem UU (s:ByteArray) (q:Int) (i:Nat) (w:Y):
  Calls Tryz.prog 281 #[rdV s q,I J i] w fun e w'=>e=.returned (.func (.func 290) #[] #[.pointer (F ⟨w.heap.size,0,O⟩),.pointer (F ⟨w.heap.size+1,0,O⟩)])/\w'=(w.alloc (.cells #[Q s,.int .i32 q] 426)).alloc (.cells #[I J i] 3):=by
 go_enter Tryz.func281,Tryz.ntmps281;go_wp2;go_ret;exact⟨by simp,rfl⟩
abbrev Afu (p:QP):Array Value:=#[GF p]
def Ab1 (w:Y) (b:Nat):Nat:=match w.cell? ⟨b,0,O⟩ with | some (.int _ n)=>n.toNat | _=>0
theorem SG {w:Y} {b:Nat} {t:TypeId} {i:Nat} (h:Boxed w b t (I J i)):Ab1 w b=i:=by
 unfold Ab1;rw[h.cell];simp
theorem Ua (s:ByteArray) (q:Int) (hq:q=34\/q=39) (i0 Br Bi n₀:Nat) (w0:Y) (hT0:BU w0) (hN:w0.heap.size<=n₀) (hBi:w0.heap.size<=Bi) (hne:Br≠Bi) (hs:s.size<=1000000) (hi0:i0<=s.size) (hv0:i0<s.size->validD (s.data.toList.drop i0)=true):
  Afy Tryz.prog 290 #[.pointer (F ⟨Br,0,O⟩),.pointer (F ⟨Bi,0,O⟩)] Afu (fun k=>k=Br\/k=Bi) n₀ (B1 s q i0) (fun W=>Ez W Br s q/\Boxed W Bi 3 (I J i0)/\Below w0.heap.size w0 W):=by
 intro l Jz Jx W ⟨hr,hc,hbl⟩ hJ hJx hY h0;refine callsIn_of_wp Tryz.func290 rfl trivial ?_ rfl;simp only[Tryz.ntmps290,List.size_toArray,List.length_cons,List.length_nil,Nat.reduceAdd,Nat.reduceSub,Array.replicate_succ,Array.replicate_zero,List.push_toArray,List.append_toArray,List.nil_append,List.cons_append]
 have HV0:=hid hv0;clear hv0
 gi_wp2
 refine Gk ?_
 gi_wp2
 refine wpIn_label ?_
 gi_wp2
 gi_loopw [4] (fun _ wr=>∃ (i:Nat) (pre:List QP),Ez wr Br s q/\Boxed wr Bi 3 (I J i)/\Below w0.heap.size w0 wr/\W.heap.size<=wr.heap.size/\Jz pre wr/\i<=s.size/\Hid (i<s.size->validD (s.data.toList.drop i)=true)/\Hid (B1 s q i0=pre++B1 s q i)) (fun _ wr=>s.size+1 - Ab1 wr Bi)
 case atStart=>exact⟨i0,[],hr,hc,hbl,Nat.le_refl _,h0,hi0,HV0,hid rfl⟩
 case round=>
  obtain⟨i,pre,hr1,hc1,hb1,hz1,hJ1,hi1,HV1,HP⟩:=hrel;clear hr hc hbl h0 HV0;obtain⟨r0,r1⟩:=hr1.cells;have k0:=hc1.cell;have HM:=hid (SG hc1)
  gi_wp2_with fail
  refine⟨trivial,rfl,(callsIn_wide.2 (Acs s q hq i _ hs (by omega) HV1.out (hT0.below hb1))).mono ?_⟩;rintro e w2 ⟨rfl,hb2⟩;have hb3:=hb1.trans (hb2.mono hb1.size);have hr2:=hr1.below hb2;have hc2:Boxed w2 Bi 3 (I J i):=Ab hc1 hb2;have hJ2:=hJ _ _ _ hJ1 (Au.of_below hb2);have hz2:=Nat.le_trans hz1 hb2.size;clear r0 r1 k0 hr1 hc1 hJ1;cases ho:Ek s q i with
  | sign r tq=>
   obtain⟨g1,g2,g3,g4,_⟩:=GS hi1 HV1.out ho;have hps:=Ro hi1 HV1.out ho;have HS:=hid (show B1 s q i0=(pre++[.sign r tq])++B1 s q tq by rw[HP.out,hps,List.append_assoc];rfl);have hta:=Nm (.agg #[.int .i32 r,I J tq]);have HG:=hid g4;unfold GF;have hJ3:Jz pre (w2.alloc (.cells #[.int .i32 r,I J tq] 431)):=hJ _ _ _ hJ2 (Au.alloc _ _);have hr3:Ez (w2.alloc (.cells #[.int .i32 r,I J tq] 431)) Br s q:=hr2.below ((Bq _ _).alloc Nr _);have hc3:Boxed (w2.alloc (.cells #[.int .i32 r,I J tq] 431)) Bi 3 (I J i):=hc2.alloc _;have hb4:Below w0.heap.size w0 (w2.alloc (.cells #[.int .i32 r,I J tq] 431)):=hb3.alloc hb3.size _;have hz3:W.heap.size<=(w2.alloc (.cells #[.int .i32 r,I J tq] 431)).heap.size:=by simp;omega
   have hpre:pre++[QP.sign r tq]<+:B1 s q i0:=⟨_,HS.out.symm⟩
   obtain⟨fn,tmps,assign,body,hy,hR⟩:=hY pre (QP.sign r tq) _ hJ3 hpre;dsimp only[Afu,GF] at hy;have HPR:=hid hpre;clear ho hps g4 HV1 HP hb1 hb2 hpre hJ2 hr2 hc2 hb3 hz2
   gi_wp2
   refine⟨rfl,hR.mono ?_⟩;rintro e W3 (⟨rfl,hJ4,hk4⟩ | ⟨rfl,hJ4,hk4⟩)
   ·have hr4:Ez W3 Br s q:=hk4.heap hr3 (.inr (.inl (.inl rfl)));have hc4:Boxed W3 Bi 3 (I J i):=I6 hc3 hk4 (.inr (.inr rfl));have hb5:Below w0.heap.size w0 W3:=hk4.below hb4 hN Nr;have hz4:=Nat.le_trans hz3 hk4.size;have k4:=hc4.cell;have f4:=hc4.frozen;clear hy hJ3 hr3 hc3 hb4 hz3 hk4;have hme:=fun n=>RL n r tq W3
    gi_wp2_with fail
    refine⟨trivial,rfl,(callsIn_wide.2 (Y8 r tq W3)).mono ?_⟩;rintro e W4 ⟨rfl,rfl⟩;have hr5:Ez ((W3.alloc (.cells #[.int .i32 r,I J tq] 431)).setCell ⟨Bi,0,O⟩ (I J tq)) Br s q:=(Bh _ _ _ Br hne).trans (hr4.below ((Bq _ _).alloc Nr _));have hc5:Boxed ((W3.alloc (.cells #[.int .i32 r,I J tq] 431)).setCell ⟨Bi,0,O⟩ (I J tq)) Bi 3 (I J tq):=(hc4.alloc _).set _;have hb6:Below w0.heap.size w0 ((W3.alloc (.cells #[.int .i32 r,I J tq] 431)).setCell ⟨Bi,0,O⟩ (I J tq)):=(hb5.alloc hb5.size _).setCell (p:=⟨Bi,0,O⟩) hBi _;have hJ5:Jz (pre++[QP.sign r tq]) ((W3.alloc (.cells #[.int .i32 r,I J tq] 431)).setCell ⟨Bi,0,O⟩ (I J tq)):=hJ _ _ _ (hJ _ _ _ hJ4 (Au.alloc _ _)) (Au.setCell _ _ _ (.inr rfl));have hz5:W.heap.size<=((W3.alloc (.cells #[.int .i32 r,I J tq] 431)).setCell ⟨Bi,0,O⟩ (I J tq)).heap.size:=by simp[World.setCell];omega
    have HM2:=hid (SG hc5);have k5:=(hc4.alloc (.cells #[.int .i32 r,I J tq] 431)).cell;have f5:=(hc4.alloc (.cells #[.int .i32 r,I J tq] 431)).frozen;clear k4 f4;clear hr4 hc4 hb5 hJ4 hz4 hme
    gi_wp2
    go_roundw
    case rel=>exact⟨tq,_,hr5,hc5,hb6,hz5,hJ5,g3,HG,HS⟩
    case measure=>rw[HM.out,HM2.out];omega
   ·clear hy hJ3 hr3 hc3 hb4 hz3 hk4
    gi_wp2
    try simp only[Exit.noGoto_normal]
    go_end0;exact⟨⟨_,rfl⟩,.inr ⟨_,HPR.out,hJ4⟩⟩
  | fin tq=>
   have hps:=SF hi1 ho;have HS:=hid (show B1 s q i0=pre++[QP.fin tq] by rw[HP.out,hps]);have hta:=PL (.agg #[I J tq]);unfold GF;have hJ3:Jz pre (w2.alloc (.cells #[.int .i32 0,I J 0] 431)):=hJ _ _ _ hJ2 (Au.alloc _ _);have hpre:pre++[QP.fin tq]<+:B1 s q i0:=⟨[],by rw[HS.out,List.append_nil]⟩
   obtain⟨fn,tmps,assign,body,hy,hR⟩:=hY pre (QP.fin tq) _ hJ3 hpre;dsimp only[Afu,GF] at hy;have HPR:=hid hpre;clear ho hps HV1 HP hb1 hb2 hpre hJ2 hr2 hc2 hb3 hz2
   gi_wp2
   refine⟨rfl,hR.mono ?_⟩;rintro e W3 (⟨rfl,hJ4,hk4⟩ | ⟨rfl,hJ4,hk4⟩)
   ·clear hy hJ3 hk4
    gi_wp2
    try simp only[Exit.noGoto_normal]
    go_end0;exact⟨⟨_,rfl⟩,.inl (by rw[HS.out];exact hJ4)⟩
   ·clear hy hJ3 hk4
    gi_wp2
    try simp only[Exit.noGoto_normal]
    go_end0;exact⟨⟨_,rfl⟩,.inr ⟨_,HPR.out,hJ4⟩⟩
  | bad e0=>
   have hps:=Se hi1 ho;have HS:=hid (show B1 s q i0=pre++[QP.bad e0] by rw[HP.out,hps]);have hta:=P9 (.agg #[I J e0]);unfold GF;have hJ3:Jz pre (w2.alloc (.cells #[.int .i32 0,I J 0] 431)):=hJ _ _ _ hJ2 (Au.alloc _ _);have hpre:pre++[QP.bad e0]<+:B1 s q i0:=⟨[],by rw[HS.out,List.append_nil]⟩
   obtain⟨fn,tmps,assign,body,hy,hR⟩:=hY pre (QP.bad e0) _ hJ3 hpre;dsimp only[Afu,GF] at hy;have HPR:=hid hpre;clear ho hps HV1 HP hb1 hb2 hpre hJ2 hr2 hc2 hb3 hz2
   gi_wp2
   refine⟨rfl,hR.mono ?_⟩;rintro e W3 (⟨rfl,hJ4,hk4⟩ | ⟨rfl,hJ4,hk4⟩)
   ·clear hy hJ3 hk4
    gi_wp2
    try simp only[Exit.noGoto_normal]
    go_end0;exact⟨⟨_,rfl⟩,.inl (by rw[HS.out];exact hJ4)⟩
   ·clear hy hJ3 hk4
    gi_wp2
    try simp only[Exit.noGoto_normal]
    go_end0;exact⟨⟨_,rfl⟩,.inr ⟨_,HPR.out,hJ4⟩⟩
def BF (w:Y) (k:Nat) (T:TypeId):Prop:=∃ c fz,w.heap[k]? =F (.cells c T fz)
theorem BF.turn {C:Nat->Prop} {n k:Nat} {T:TypeId} {X Yz:Y} (h:BF X k T) (ht:Au C n X Yz):BF Yz k T:=by
 obtain⟨c,fz,h⟩:=h;exact ht.kinds k c T fz h
theorem BF.below {k:Nat} {T:TypeId} {X Yz:Y} (h:BF X k T) (hb:Below X.heap.size X Yz):BF Yz k T:=by
 obtain⟨c,fz,h⟩:=h;exact⟨c,fz,AW h hb⟩
theorem BF.others {b k:Nat} {T:TypeId} {X Yz:Y} (h:BF X k T) (ho:Lib.OthersKept T8 (F b) X Yz) (hb:k≠b) (hT:T≠T8):BF Yz k T:=by
 obtain⟨c,fz,h⟩:=h;exact⟨c,fz,ho k _ h (fun e=>hb (Option.some.inj e)) (fun c' fz' e=>hT (by injection e))⟩
theorem BF.ne {w:Y} {k b:Nat} {T T':TypeId} {c:Array Value} {fz:Nat×Nat} (h:BF w k T) (hb:w.heap[b]? =F (.cells c T' fz)) (hT:T≠T'):k≠b:=by
 rintro rfl;obtain⟨c',fz',h⟩:=h;rw[hb] at h;injection h with h;injection h with _ h;exact hT h.symm
theorem BuilderAtF.turn {C:Nat->Prop} {n B b:Nat} {p:Value} {bs:List Value} {X Yz:Y} (h:Lib.BuilderAtF TB T8 B b p bs X) (ht:Au C n X Yz) (hC:∀ k,C k->∃ T,T≠TB/\T≠T8/\BF X k T):Lib.BuilderAtF TB T8 B b p bs Yz:=by
 obtain⟨hB,v,hb,hown,hne⟩:=h;have hnb:¬C b:=fun hc=>by obtain⟨T,h1,_,h3⟩:=hC b hc;exact h3.ne hb h1 rfl
 refine⟨hB,v,ht.heap hb hnb rfl,⟨hown.1,?_⟩,hne⟩;rcases hown.2 with h0 | ⟨g,cap,cur,fz,hv,h1,h2,h3⟩
 ·exact .inl h0
 ·have hng:¬C g:=fun hc=>by obtain⟨T,_,h5,h6⟩:=hC g hc;exact h6.ne h2 h5 rfl
  exact .inr ⟨g,cap,cur,fz,hv,h1,ht.heap h2 hng rfl,h3⟩
theorem IsBuilderF.turn {C:Nat->Prop} {n B b:Nat} {bs:List Value} {X Yz:Y} (h:Lib.IsBuilderF TB T8 B b bs X) (ht:Au C n X Yz) (hC:∀ k,C k->∃ T,T≠TB/\T≠T8/\BF X k T):Lib.IsBuilderF TB T8 B b bs Yz:=
 h.imp (fun h=>BuilderAtF.turn h ht hC) (fun h=>BuilderAtF.turn h ht hC)
theorem Ak.others {C:Nat->Prop} {n₀ B b:Nat} {X Yz:Y} (ho:Lib.OthersKept T8 (F b) X Yz) (hb:Below B X Yz) (hn:n₀<=B) (hbb:BF X b TB) (hC:∀ k,C k->k≠b/\∃ T,T≠T8/\BF X k T):Ak AH C n₀ X Yz:=
 ⟨hb.os,hb.tape,hb.output,hb.size,fun k o hk hc=>by
  rcases hc with hc | hc | hc
  ·exact(hb.block k (by omega)).trans hk
  ·obtain⟨h1,T,h2,c,fz,h3⟩:=hC k hc;rw[hk] at h3;injection h3 with h3;subst h3;exact ho k _ hk (fun e=>h1 (Option.some.inj e)) (fun c' fz' e=>h2 (by injection e))
  ·by_cases hkb:k=b
   ·subst hkb;obtain⟨c,fz,h3⟩:=hbb;rw[hk] at h3;injection h3 with h3;subst h3;cases hc
   ·exact ho k o hk (fun e=>hkb (Option.some.inj e)) (fun c fz e=>by subst e;cases hc)⟩
theorem Rt {s:ByteArray} {p:Int} (h:F8 s p=O):p<0\/(s.size:Int)<=p\/∃ (n:Nat) (hn:n<s.size),p=n/\BC [34,39] (((s[n]'hn).toNat:Nat):Int)=false:=by
 unfold F8 at h;by_cases h0:p<0
 ·exact .inl h0
 ·rw[if_neg h0] at h;by_cases h1:p.toNat<s.size
  ·rw[dif_pos h1] at h;refine .inr (.inr ⟨p.toNat,h1,by omega,?_⟩);by_cases h2:s[p.toNat]'h1=34
   ·rw[if_pos h2] at h;cases h
   ·rw[if_neg h2] at h;by_cases h3:s[p.toNat]'h1=39
    ·rw[if_pos h3] at h;cases h
    ·have e2:(s[p.toNat]'h1).toNat≠34:=fun e=>h2 (UInt8.toNat_inj.1 (by simpa using e));have e3:(s[p.toNat]'h1).toNat≠39:=fun e=>h3 (UInt8.toNat_inj.1 (by simpa using e));unfold BC;simp;omega
  ·exact .inr (.inl (by omega))
theorem PX {s:ByteArray} {p q:Int} (h:F8 s p=F q):∃ (n:Nat) (hn:n<s.size),p=n/\(((s[n]'hn).toNat:Nat):Int)=q/\(q=34\/q=39):=by
 unfold F8 at h;by_cases h0:p<0
 ·rw[if_pos h0] at h;cases h
 ·rw[if_neg h0] at h;by_cases h1:p.toNat<s.size
  ·rw[dif_pos h1] at h;refine⟨p.toNat,h1,by omega,?_⟩;by_cases h2:s[p.toNat]'h1=34
   ·rw[if_pos h2] at h;injection h with h;rw[h2];exact⟨h,.inl h.symm⟩
   ·rw[if_neg h2] at h;by_cases h3:s[p.toNat]'h1=39
    ·rw[if_pos h3] at h;injection h with h;rw[h3];exact⟨h,.inr h.symm⟩
    ·rw[if_neg h3] at h;cases h
  ·rw[dif_neg h1] at h;cases h
theorem H5 (w:Y) (t0 t1 t2:TypeId) (v0 v1 v2:Value):Boxed (((w.alloc (.cells #[v0] t0)).alloc (.cells #[v1] t1)).alloc (.cells #[v2] t2)) w.heap.size t0 v0/\Boxed (((w.alloc (.cells #[v0] t0)).alloc (.cells #[v1] t1)).alloc (.cells #[v2] t2)) (w.heap.size+1) t1 v1/\Boxed (((w.alloc (.cells #[v0] t0)).alloc (.cells #[v1] t1)).alloc (.cells #[v2] t2)) (w.heap.size+1+1) t2 v2:=by
 refine⟨((Boxed.new w t0 v0).alloc _).alloc _,?_,?_⟩
 ·have:=(Boxed.new (w.alloc (.cells #[v0] t0)) t1 v1).alloc (.cells #[v2] t2)
  rwa [World.size_alloc] at this
 ·have:=Boxed.new ((w.alloc (.cells #[v0] t0)).alloc (.cells #[v1] t1)) t2 v2
  rwa [World.size_alloc,World.size_alloc] at this
theorem As {X:Y} {k b:Nat} {t:TypeId} {v:Value} (h:Boxed X k t v) (hne:k≠b) (u:Value):Boxed (X.setCell ⟨b,0,O⟩ u) k t v:=(Bh X ⟨b,0,O⟩ u k hne).trans h
theorem U2 {w W:Y} {N n:Nat} {t0 t1 t2:TypeId} {u0 u1 u2:Value} (hb:Below n w W) (b0:Boxed W N t0 u0) (b1:Boxed W (N+1) t1 u1) (b2:Boxed W (N+1+1) t2 u2) (hn:n<=N) (v0 v1 v2:Value):
  (((W.setCell ⟨N,0,O⟩ v0).setCell ⟨N+1,0,O⟩ v1).setCell ⟨N+1+1,0,O⟩ v2).cell? ⟨N,0,O⟩=F v0/\(((W.setCell ⟨N,0,O⟩ v0).setCell ⟨N+1,0,O⟩ v1).setCell ⟨N+1+1,0,O⟩ v2).cell? ⟨N+1,0,O⟩=F v1/\(((W.setCell ⟨N,0,O⟩ v0).setCell ⟨N+1,0,O⟩ v1).setCell ⟨N+1+1,0,O⟩ v2).cell? ⟨N+1+1,0,O⟩=F v2∧
  Below n w (((W.setCell ⟨N,0,O⟩ v0).setCell ⟨N+1,0,O⟩ v1).setCell ⟨N+1+1,0,O⟩ v2):=by
 refine⟨(As (As (b0.set v0) (by simp) v1) (by simp;omega) v2).cell,(As ((As b1 (by simp) v0).set v1) (by simp) v2).cell,((As (As b2 (by simp;omega) v0) (by simp) v1).set v2).cell,?_⟩;exact((hb.setCell (p:=⟨N,0,O⟩) hn _).setCell (p:=⟨N+1,0,O⟩) (by simp;omega) _).setCell (p:=⟨N+1+1,0,O⟩) (by simp;omega) _
def H0 (x:List UInt8×Nat×Int):Value:=.tuple #[Q ⟨x.1.toArray⟩,I J x.2.1,I J x.2.2]
theorem Abr (s:ByteArray) (p:Int) (w:Y) (hs:s.size<=1000000) (hv:validD s.data.toList=false) (hT:BU w):
  Calls Tryz.prog 268 #[Q s,I J p] w fun e w'=>e=.returned (H0 ([],0,40))/\Below w.heap.size w w':=by
 have hR:=fun wx hx=>Cz s wx hs hx;rw[hv] at hR;clear hv;refine(callsIn_wide (n:=0)).1 ?_;refine callsIn_of_wp_marks Tryz.func268 rfl trivial ?_ rfl;refine wpIn_wide.2 ?_;simp only[Tryz.ntmps268,List.size_toArray,List.length_cons,List.length_nil,Nat.reduceAdd,Nat.reduceSub,Array.replicate_succ,Array.replicate_zero,List.push_toArray,List.append_toArray,List.nil_append,List.cons_append]
 obtain⟨N,hN⟩:∃ N,w.heap.size=N:=⟨_,rfl⟩
 have hb0:Below N w (((w.alloc (.cells #[Q ⟨#[]⟩] 9)).alloc (.cells #[I J 0] 3)).alloc (.cells #[I J 0] 27)):=(((Bq N w).alloc (by omega) _).alloc (by simp;omega) _).alloc (by simp;omega) _;go_wp2_with fail;refine(hR _ (hT.below (hN▸hb0))).mono ?_;rintro e w1 ⟨rfl,hb1⟩;obtain⟨b0,b1,b2⟩:=H5 w 9 3 27 (Q ⟨#[]⟩) (I J 0) (I J 0);rw[hN] at b0 b1 b2;replace b0:=Ab b0 hb1;replace b1:=Ab b1 hb1;replace b2:=Ab b2 hb1;have hb2:=hb0.trans (hb1.mono (by have:=hb0.size;omega));have c0:=b0.cell;have f0:=b0.frozen;have c1:=b1.cell;have f1:=b1.frozen;have c2:=b2.cell;have f2:=b2.frozen;go_wp2;obtain⟨e1,e2,e3,hb3⟩:=U2 hb2 b0 b1 b2 (by omega) (Q ⟨#[]⟩) (I J 0) (I J 40);refine⟨H0 ([],0,40),by simp[results,Tryz.f268,go_sem,e1,e2,e3,H0],rfl,?_⟩;rw[hN];exact hb3
theorem Yj (s:ByteArray) (p:Int) (w:Y) (hs:s.size<=1000000) (hv:validD s.data.toList=true) (hq:F8 s p=O) (hT:BU w):
  Calls Tryz.prog 268 #[Q s,I J p] w fun e w'=>e=.returned (H0 ([],0,42))/\Below w.heap.size w w':=by
 have hR:=fun wx hx=>Cz s wx hs hx;rw[hv] at hR;clear hv;refine(callsIn_wide (n:=0)).1 ?_;refine callsIn_of_wp_marks Tryz.func268 rfl trivial ?_ rfl;refine wpIn_wide.2 ?_;simp only[Tryz.ntmps268,List.size_toArray,List.length_cons,List.length_nil,Nat.reduceAdd,Nat.reduceSub,Array.replicate_succ,Array.replicate_zero,List.push_toArray,List.append_toArray,List.nil_append,List.cons_append]
 obtain⟨N,hN⟩:∃ N,w.heap.size=N:=⟨_,rfl⟩
 have hb0:Below N w (((w.alloc (.cells #[Q ⟨#[]⟩] 9)).alloc (.cells #[I J 0] 3)).alloc (.cells #[I J 0] 27)):=(((Bq N w).alloc (by omega) _).alloc (by simp;omega) _).alloc (by simp;omega) _;go_wp2_with fail;refine(hR _ (hT.below (hN▸hb0))).mono ?_;rintro e w1 ⟨rfl,hb1⟩;obtain⟨b0,b1,b2⟩:=H5 w 9 3 27 (Q ⟨#[]⟩) (I J 0) (I J 0);rw[hN] at b0 b1 b2;replace b0:=Ab b0 hb1;replace b1:=Ab b1 hb1;replace b2:=Ab b2 hb1;have hb2:=hb0.trans (hb1.mono (by have:=hb0.size;omega));have c0:=b0.cell;have f0:=b0.frozen;have c1:=b1.cell;have f1:=b1.frozen;have c2:=b2.cell;have f2:=b2.frozen;rcases Rt hq with h | h | ⟨n,hn,rfl,hm⟩
 ·clear hq;go_wp2;obtain⟨e1,e2,e3,hb3⟩:=U2 hb2 b0 b1 b2 (by omega) (Q ⟨#[]⟩) (I J 0) (I J 42);refine⟨H0 ([],0,42),by simp[results,Tryz.f268,go_sem,e1,e2,e3,H0],rfl,?_⟩;rw[hN];exact hb3
 ·clear hq;have h0:¬p<0:=by omega
  go_wp2;obtain⟨e1,e2,e3,hb3⟩:=U2 hb2 b0 b1 b2 (by omega) (Q ⟨#[]⟩) (I J 0) (I J 42);refine⟨H0 ([],0,42),by simp[results,Tryz.f268,go_sem,e1,e2,e3,H0],rfl,?_⟩;rw[hN];exact hb3
 ·clear hq;have h0:¬(n:Int)<0:=by omega
  have h1:(n:Int)<(s.size:Int):=by omega
  have hQ:=fun wx=>FU (((s[n]'hn).toNat:Nat):Int) [34,39] 2 2 wx rfl (by decide);rw[hm] at hQ;obtain⟨c,hc⟩:∃ c,s[n]'hn=c:=⟨_,rfl⟩
  rw[hc] at hQ;have hc256:(c.toNat:Int)<256:=by have:=c.toNat_lt;omega
  clear hm;go_wp2_with fail;refine(hQ _).mono ?_;rintro e w2 ⟨rfl,hb3⟩;replace b0:=Ab b0 hb3;replace b1:=Ab b1 hb3;replace b2:=Ab b2 hb3;have hb4:=hb2.trans (hb3.mono (by have:=hb2.size;omega));clear hb2 c0 c1 c2 f0 f1 f2;have c0:=b0.cell;have f0:=b0.frozen;have c1:=b1.cell;have f1:=b1.frozen;have c2:=b2.cell;have f2:=b2.frozen;go_wp2;obtain⟨e1,e2,e3,hb3⟩:=U2 hb4 b0 b1 b2 (by omega) (Q ⟨#[]⟩) (I J 0) (I J 42);refine⟨H0 ([],0,42),by simp[results,Tryz.f268,go_sem,e1,e2,e3,H0],rfl,?_⟩;rw[hN];exact hb3
end
end Go.Proofs.YtdpppepmkeinaaaGreatDoor
