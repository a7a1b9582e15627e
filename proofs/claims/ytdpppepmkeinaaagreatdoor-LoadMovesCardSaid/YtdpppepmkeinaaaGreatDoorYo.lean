/- What is proved: a part of the walk of the program and of its plain laws; no condition beside those that each theorem names. -/
import Derived.Test.YtdpppepmkeinaaaGreatDoorYn
import Derived.Test.YtdpppepmkeinaaaGreatDoorYm
import Derived.Test.YtdpppepmkeinaaaGreatDoorYa
import Derived.Laws.EntriesVeiled
import Derived.RegionTactic
import Derived.Stop.RegionWithIn
namespace Go.Proofs.YtdpppepmkeinaaaGreatDoor
open Go Go.RowKit Go.Lib
open Go.Value renaming int->I,string->Q,slice->Z
open Go.IntKind renaming i64->J
open Option renaming none->O,some->F
open _root_.Go renaming World->Y
set_option linter.unusedSimpArgs false
set_option linter.unusedVariables false
set_option linter.unusedSectionVars false
section
set_option maxRecDepth 100000
set_option maxHeartbeats 4000000
attribute [local go_sem] Oper.semAt_some
theorem ZX {R:Nat} {c:UInt8} (h:c≠34/\c≠39/\c≠38/\c≠42/\c≠45/\c≠58/\c≠91/\c≠123/\c≠44/\c≠93/\c≠125):B5 (c.toNat:Int) (Zd R)=O:=by
 have hn:∀ k:UInt8,c≠k->((c.toNat:Int)==(k.toNat:Int))=false:=fun k hk=>by rw[PO,beq_eq_false_iff_ne];exact hk
 obtain⟨a1,a2,a3,a4,a5,a6,a7,a8,a9,a10,a11⟩:=h;have b1:((c.toNat:Int)==34)=false:=hn 34 a1;have b2:((c.toNat:Int)==39)=false:=hn 39 a2;have b3:((c.toNat:Int)==38)=false:=hn 38 a3;have b4:((c.toNat:Int)==42)=false:=hn 42 a4;have b5:((c.toNat:Int)==45)=false:=hn 45 a5;have b6:((c.toNat:Int)==58)=false:=hn 58 a6;have b7:((c.toNat:Int)==91)=false:=hn 91 a7;have b8:((c.toNat:Int)==123)=false:=hn 123 a8;have b9:((c.toNat:Int)==44)=false:=hn 44 a9;have b10:((c.toNat:Int)==93)=false:=hn 93 a10;have b11:((c.toNat:Int)==125)=false:=hn 125 a11;unfold Zd;simp only[B5,b1,b2,b3,b4,b5,b6,b7,b8,b9,b10,b11]
 rfl
theorem Agf (R:Nat) (s:ByteArray) (p d:Nat) (w:Y) (hs:s.size<=1000000) (hp:p<s.size) (hd:d<=1000000) (hR:RA w R s p d) (hTab:IZ R w) (hv:validD s.data.toList=true):
  Calls Tryz.prog 189 #[.pointer (F ⟨R,0,O⟩)] w (Bf R s p (Dx s.data.toList p d) w):=by
 obtain⟨c,hc⟩:∃ c,s[p]'hp=c:=⟨_,rfl⟩
 have hg:s.data.toList.getD p 0=c:=(DB s p hp).trans hc;unfold Dx Ql;rw[hg];by_cases h1:c=34\/c=39
 ·rw[if_pos h1];refine KR 250 (enters_of Tryz.func250 (by kernel_rfl) rfl) R s p d w hs hp hR hTab c hc (by rcases h1 with rfl | rfl<;>rfl) _ (fun wx hx ht=>VB R s p d wx hs hp hx ht hv (by rw[hg];exact h1))
 rw[if_neg h1];by_cases h2:c=38\/c=42
 ·rw[if_pos h2];refine KR 251 (enters_of Tryz.func251 (by kernel_rfl) rfl) R s p d w hs hp hR hTab c hc (by rcases h2 with rfl | rfl<;>rfl) _ (fun wx hx ht=>Y2 R s p d wx hs hp hx)
 rw[if_neg h2];by_cases h3:c=45
 ·rw[if_pos h3];refine KR 252 (enters_of Tryz.func252 (by kernel_rfl) rfl) R s p d w hs hp hR hTab c hc (by rw[h3];rfl) _ (fun wx hx ht=>Abz R s p d wx hs hp hx ht)
 rw[if_neg h3];by_cases h4:c=58
 ·rw[if_pos h4];refine KR 253 (enters_of Tryz.func253 (by kernel_rfl) rfl) R s p d w hs hp hR hTab c hc (by rw[h4];rfl) _ (fun wx hx ht=>XI R s p d wx hs hp hx ht)
 rw[if_neg h4];by_cases h5:c=91\/c=123
 ·rw[if_pos h5];refine KR 254 (enters_of Tryz.func254 (by kernel_rfl) rfl) R s p d w hs hp hR hTab c hc (by rcases h5 with rfl | rfl<;>rfl) _ (fun wx hx ht=>XL R s p d wx hs hp hd hx c hc)
 rw[if_neg h5];by_cases h6:c=44\/c=93\/c=125
 ·rw[if_pos h6];refine KR 255 (enters_of Tryz.func255 (by kernel_rfl) rfl) R s p d w hs hp hR hTab c hc (by rcases h6 with rfl | rfl | rfl<;>rfl) _ (fun wx hx ht=>W6 R s p d wx hs hp hd hx c hc h6)
 rw[if_neg h6];exact Ah7 R s p d w hs hp hR hTab c hc (ZX ⟨fun e=>h1 (.inl e),fun e=>h1 (.inr e),fun e=>h2 (.inl e),fun e=>h2 (.inr e),h3,h4,fun e=>h5 (.inl e),fun e=>h5 (.inr e),fun e=>h6 (.inl e),fun e=>h6 (.inr (.inl e)),fun e=>h6 (.inr (.inr e))⟩) _ (fun wx hx ht=>L0 R s p d wx hs hp hx ht)
theorem SR (R:Nat) (w:Y):
  Calls Tryz.prog 148 #[.pointer (F ⟨R,0,O⟩)] w fun e w'=>e=.returned (.func (.func 186) #[] #[.pointer (F ⟨w.heap.size,0,O⟩)])/\w'=w.alloc (.cells #[.pointer (F ⟨R,0,O⟩)] 278):=by
 go_enter Tryz.func148,Tryz.ntmps148;go_wp2;go_ret;exact⟨by simp,rfl⟩
def ZD:TP->Array Value
 | .tok k t p=>#[CJ ⟨k,t,p⟩,.nilIface]
 | .bad e p=>#[.agg #[I J 0,Q ⟨#[]⟩,I J p],.iface 325 (.agg #[I J e])]
theorem Au.of_mod {R B:Nat} {C:Nat->Prop} {X Yz:Y} (h:CB R X Yz) (hC:C R):Au C B X Yz:=
 ⟨h.os,h.tape,h.output,Au.size h,fun k o hk hc _=>h.block k o hk (fun e=>hc (by rw[e];exact hC)) (.inl (Gl hk)),h.kinds⟩
def Aes (w:Y) (R:Nat):Nat:=match w.cell? ⟨R,1,O⟩ with | some (.int _ n)=>n.toNat | _=>0
theorem Rr {w:Y} {R:Nat} {s:ByteArray} {p d:Nat} (h:RA w R s p d):Aes w R=p:=by
 unfold Aes;rw[h.cells.2.1];simp
def Z7 (ps:List TP):Prop:=DK ps≠O
theorem OP:∀ (pre:List TP) (e p:Nat),Z7 (pre++[.bad e p])
 | [],_,_=>by unfold Z7;simp[DK]
 | .tok _ _ _::r,e,p=>by
  have:=OP r e p;unfold Z7 at this |-;exact this
 | .bad _ _::r,e,p=>by unfold Z7;simp[DK]
theorem PR (s:ByteArray) (R Bb n₀:Nat) (w0:Y) (hT0:BU w0) (hN0:w0.heap.size<=n₀) (hR0:w0.heap.size<=R) (hBb:w0.heap.size<=Bb) (hne:Bb≠R) (hs:s.size<=1000000) (hv:validD s.data.toList=true):
  Ahs Z7 Tryz.prog 186 #[.pointer (F ⟨Bb,0,O⟩)] ZD (fun k=>k=Bb\/k=R) n₀ (BH s.data.toList 0 0) (fun W=>RA W R s 0 0/\Boxed W Bb 278 (.pointer (F ⟨R,0,O⟩))/\Below w0.heap.size w0 W):=by
 intro l Jz Jx W ⟨hr,hc,hbl⟩ hJ hJx hJb hY h0;refine callsIn_of_wp Tryz.func186 rfl trivial ?_ rfl;simp only[Tryz.ntmps186,List.size_toArray,List.length_cons,List.length_nil,Nat.reduceAdd,Nat.reduceSub,Array.replicate_succ,Array.replicate_zero,List.push_toArray,List.append_toArray,List.nil_append,List.cons_append]
 gi_wp2
 refine Gk ?_
 gi_wp2
 refine wpIn_label ?_
 gi_wp2
 gi_loopw [3,4,5] (fun _ _ _ wr=>∃ (p d:Nat) (pre:List TP),RA wr R s p d/\Boxed wr Bb 278 (.pointer (F ⟨R,0,O⟩))/\Below w0.heap.size w0 wr/\W.heap.size<=wr.heap.size/\Jz pre wr/\p<=s.size/\d<=p/\Hid (BH s.data.toList 0 0=pre++BH s.data.toList p d)) (fun _ _ _ wr=>s.size - Aes wr R)
 case atStart=>exact⟨0,0,[],hr,hc,hbl,Nat.le_refl _,h0,by omega,by omega,hid rfl⟩
 case round=>
  obtain⟨p,d,pre,hr1,hc1,hb1,hz1,hJ1,hp1,hd1,HP⟩:=hrel;clear hr hc hbl h0;have hRB:R≠Bb:=fun e=>hne e.symm;obtain⟨r0,r1,r2,f0,f1,f2⟩:=hr1.cells;have k0:=hc1.cell;have HM:=hid (Rr hr1);rcases Nat.lt_or_ge p s.size with hlt | hge
  ·have hlti:decide ((p:Int)<(s.size:Int))=true:=by simp;omega
   have hlti2:decide (p<s.size)=true:=by simp;omega
   have hI:=fun wx hx=>FM R s p d 0 p [32] 1 1 wx hs (by omega) (by omega) rfl (by omega) hx;have hN:=fun wx hx=>DV R s p d wx hs (by omega) hx;have hO:=fun wx hx ht=>Agf R s p d wx hs hlt (by omega) hx ht hv;have hll:p<s.data.toList.length:=by rw[<- Lib.size_eq];exact hlt
   cases hib:Cg s.data.toList p [32] with
   | true=>
    rw[hib] at hI;have HP':=hid (show BH s.data.toList 0 0=pre++BH s.data.toList (p+1) d by rw[HP.out,Gn hv hll hib]);clear hib HP hll hN hO
    gi_wp2
    gi_region
    gi_wp2_with fail
    refine⟨trivial,rfl,(callsIn_wide.2 (hI wr.drew hr1)).mono ?_⟩;rintro e w2 ⟨rfl,hb2⟩;have hbx:Below wr.heap.size wr w2:=(Bq _ wr).drew.trans hb2;have hr2:=hr1.below hbx;have hc2:Boxed w2 Bb 278 (.pointer (F ⟨R,0,O⟩)):=Ab hc1 hbx;have hb3:=hb1.trans (hbx.mono hb1.size);have hz2:=Nat.le_trans hz1 hbx.size;have hJ2:=hJ _ _ _ hJ1 (Au.of_below hbx);clear hI hr1 hc1 hb1 hz1 hJ1 hb2 hbx r0 r1 r2 f0 f1 f2 k0;obtain⟨r0,r1,r2,f0,f1,f2⟩:=hr2.cells;have k0:=hc2.cell;have hr3:=hr2.set1 (p+1);have HM2:=hid (Rr hr3);have hc3:Boxed (w2.setCell ⟨R,1,O⟩ (I J ((p+1:Nat):Int))) Bb 278 (.pointer (F ⟨R,0,O⟩)):=(Bh w2 ⟨R,1,O⟩ _ _ hne).trans hc2;have hb4:Below w0.heap.size w0 (w2.setCell ⟨R,1,O⟩ (I J ((p+1:Nat):Int))):=hb3.setCell (p:=⟨R,1,O⟩) hR0 _;have hz3:W.heap.size<=(w2.setCell ⟨R,1,O⟩ (I J ((p+1:Nat):Int))).heap.size:=by rw[K1];exact hz2
    have hJ3:=hJ _ _ _ hJ2 (Au.setCell w2 ⟨R,1,O⟩ (I J ((p+1:Nat):Int)) (.inr rfl))
    gi_wp2
    go_roundw
    case rel=>exact⟨p+1,d,pre,hr3,hc3,hb4,hz3,hJ3,by omega,by omega,HP'⟩
    case measure=>rw[HM.out];show s.size - Aes (w2.setCell ⟨R,1,O⟩ (I J ((p+1:Nat):Int))) R<_;rw[HM2.out];omega
   | false=>
    rw[hib] at hI;cases hnb:BA s.data.toList p with
    | true=>
     rw[hnb] at hN;have HX:=hid (show BH s.data.toList 0 0=pre by rw[HP.out,Nj hv hll hib hnb,List.append_nil]);clear hib hnb hll hO HP
     gi_wp2
     gi_region
     gi_wp2_with fail
     refine⟨trivial,rfl,(callsIn_wide.2 (hI wr.drew hr1)).mono ?_⟩;rintro e w2 ⟨rfl,hb2⟩;have hbx:Below wr.heap.size wr w2:=(Bq _ wr).drew.trans hb2;have hr2:=hr1.below hbx;have hc2:Boxed w2 Bb 278 (.pointer (F ⟨R,0,O⟩)):=Ab hc1 hbx;have hJ2:=hJ _ _ _ hJ1 (Au.of_below hbx);clear hI hr1 hc1 hb1 hz1 hJ1 hb2 hbx r0 r1 r2 f0 f1 f2 k0;have k0:=hc2.cell
     gi_wp2_with fail
     refine⟨trivial,rfl,(callsIn_wide.2 (hN w2 hr2)).mono ?_⟩;rintro e w3 ⟨rfl,hb3⟩;have hJ3:=hJ _ _ _ hJ2 (Au.of_below hb3);clear hN hb3 hr2 hc2 hJ2 k0
     gi_wp2
     try simp only[Exit.noGoto_normal]
     go_end0;exact⟨⟨_,rfl⟩,.inl (by rw[HX.out];exact hJ3)⟩
    | false=>
     rw[hnb] at hN;have HN:=hid (Ai hib hnb);clear hib hnb
     gi_wp2
     gi_region
     gi_wp2_with fail
     refine⟨trivial,rfl,(callsIn_wide.2 (hI wr.drew hr1)).mono ?_⟩;rintro e w2 ⟨rfl,hb2⟩;have hbx:Below wr.heap.size wr w2:=(Bq _ wr).drew.trans hb2;have hr2:=hr1.below hbx;have hc2:Boxed w2 Bb 278 (.pointer (F ⟨R,0,O⟩)):=Ab hc1 hbx;have hb3:=hb1.trans (hbx.mono hb1.size);have hz2:=Nat.le_trans hz1 hbx.size;have hJ2:=hJ _ _ _ hJ1 (Au.of_below hbx);clear hI hr1 hc1 hb1 hz1 hJ1 hb2 hbx r0 r1 r2 f0 f1 f2 k0;have k0:=hc2.cell
     gi_wp2_with fail
     refine⟨trivial,rfl,(callsIn_wide.2 (hN w2 hr2)).mono ?_⟩;rintro e w3 ⟨rfl,hbx⟩;have hr3:=hr2.below hbx;have hc3:Boxed w3 Bb 278 (.pointer (F ⟨R,0,O⟩)):=Ab hc2 hbx;have hb4:=hb3.trans (hbx.mono hb3.size);have hz3:=Nat.le_trans hz2 hbx.size;have hJ3:=hJ _ _ _ hJ2 (Au.of_below hbx);clear hN hr2 hc2 hb3 hz2 hJ2 hbx k0;obtain⟨r0,r1,r2,f0,f1,f2⟩:=hr3.cells;have k0:=hc3.cell
     gi_wp2_with fail
     refine⟨trivial,rfl,(callsIn_wide.2 (hO w3 hr3 ⟨w0,hT0,hR0,hb4⟩)).mono ?_⟩;rintro e w4 hQ;clear hO r0 r1 r2 f0 f1 f2 k0;cases ho:Dx s.data.toList p d with
     | ok k t q d'=>
      rw[ho] at hQ;obtain⟨rfl,hr4,hm4⟩:=hQ;obtain⟨g1,g2,_,_,_,g6,_⟩:=Ku hv hll ho;rw[<- Lib.size_eq] at g2;have hdd:d'<=q:=by omega
      have HS:=hid (show BH s.data.toList 0 0=(pre++[.tok k t p])++BH s.data.toList q d' by rw[HP.out,DH hv hll HN.out.1 HN.out.2 ho,List.append_assoc];rfl);have hpre:pre++[TP.tok k t p]<+:BH s.data.toList 0 0:=⟨_,HS.out.symm⟩
      have hr5:=hr4.alloc (.cells #[I J k,Q ⟨t.toArray⟩,I J p] 287);clear g6 ho HP HN;have hc4:Boxed w4 Bb 278 (.pointer (F ⟨R,0,O⟩)):=hm4.heap hc3 hne;have hb5:Below w0.heap.size w0 w4:=Au.below hm4 hb4 (fun k hk=>by omega) hb4.size Nr;have hz4:=Nat.le_trans hz3 (CB.size hm4);have hJ4:=hJ _ _ _ hJ3 (Au.of_mod (C:=fun k=>k=Bb\/k=R) hm4 (.inr rfl));clear hm4 hc3 hb4 hz3 hJ3 hr3;have hJ5:Jz pre (w4.alloc (.cells #[I J k,Q ⟨t.toArray⟩,I J p] 287)):=hJ _ _ _ hJ4 (Au.alloc _ _);have hc5:=hc4.alloc (.cells #[I J k,Q ⟨t.toArray⟩,I J p] 287);have hb6:Below w0.heap.size w0 (w4.alloc (.cells #[I J k,Q ⟨t.toArray⟩,I J p] 287)):=hb5.alloc hb5.size _;have hz5:W.heap.size<=(w4.alloc (.cells #[I J k,Q ⟨t.toArray⟩,I J p] 287)).heap.size:=by rw[World.size_alloc];omega
      obtain⟨fn,tmps,assign,body,hy,hR⟩:=hY pre (TP.tok k t p) _ hJ5 hpre;dsimp only[ZD,CJ] at hy;have HPR:=hid hpre;unfold CJ;clear hJ4 hc4 hb5 hz4 hpre hr4
      gi_wp2
      refine⟨rfl,hR.mono ?_⟩;rintro e W3 (⟨rfl,hJ6,hk6⟩ | ⟨rfl,hJ6,hk6⟩)
      ·have hr6:RA W3 R s q d':=hk6.heap hr5 (.inr (.inl (.inr rfl)));have hc6:Boxed W3 Bb 278 (.pointer (F ⟨R,0,O⟩)):=I6 hc5 hk6 (.inr (.inl rfl));have hb7:Below w0.heap.size w0 W3:=hk6.below hb6 hN0 Nr;have hz6:=Nat.le_trans hz5 hk6.size;have HM2:=hid (Rr hr6);clear hy hJ5 hr5 hc5 hb6 hz5 hk6
       gi_wp2
       go_roundw
       case rel=>exact⟨q,d',_,hr6,hc6,hb7,hz6,hJ6,g2,hdd,HS⟩
       case measure=>rw[HM.out,HM2.out];omega
      ·clear hy hJ5 hr5 hc5 hb6 hz5 hk6
       gi_wp2
       try simp only[Exit.noGoto_normal]
       go_end0;exact⟨⟨_,rfl⟩,.inr ⟨_,HPR.out,hJ6⟩⟩
     | bad er=>
      rw[ho] at hQ;obtain⟨rfl,hm4⟩:=hQ;have HS:=hid (show BH s.data.toList 0 0=pre++[.bad er p] by rw[HP.out,YJ hv hll HN.out.1 HN.out.2 ho]);have hpre:pre++[TP.bad er p]<+:BH s.data.toList 0 0:=⟨[],by rw[HS.out,List.append_nil]⟩
      clear ho HP HN;have hc4:Boxed w4 Bb 278 (.pointer (F ⟨R,0,O⟩)):=hm4.heap hc3 hne;have hb5:Below w0.heap.size w0 w4:=Au.below hm4 hb4 (fun k hk=>by omega) hb4.size Nr;have hz4:=Nat.le_trans hz3 (CB.size hm4);have hJ4:=hJ _ _ _ hJ3 (Au.of_mod (C:=fun k=>k=Bb\/k=R) hm4 (.inr rfl));clear hm4 hc3 hb4 hz3 hJ3 hr3;have hJ5:Jz pre (w4.alloc (.cells #[I J 0,Q ⟨#[]⟩,I J p] 287)):=hJ _ _ _ hJ4 (Au.alloc _ _);have hc5:=hc4.alloc (.cells #[I J 0,Q ⟨#[]⟩,I J p] 287);have hb6:Below w0.heap.size w0 (w4.alloc (.cells #[I J 0,Q ⟨#[]⟩,I J p] 287)):=hb5.alloc hb5.size _;have hz5:W.heap.size<=(w4.alloc (.cells #[I J 0,Q ⟨#[]⟩,I J p] 287)).heap.size:=by rw[World.size_alloc];omega
      obtain⟨fn,tmps,assign,body,hy,hR⟩:=hY pre (TP.bad er p) _ hJ5 hpre;dsimp only[ZD,CJ] at hy;have HPR:=hid hpre;unfold CJ;clear hJ4 hc4 hb5 hz4 hpre
      gi_wp2
      refine⟨rfl,hR.mono ?_⟩;rintro e W3 (⟨rfl,hJ6,hk6⟩ | ⟨rfl,hJ6,hk6⟩)
      ·exact absurd hJ6 (hJb _ _ (OP pre er p))
      ·clear hy hJ5 hc5 hb6 hz5 hk6
       gi_wp2
       try simp only[Exit.noGoto_normal]
       go_end0;exact⟨⟨_,rfl⟩,.inr ⟨_,HPR.out,hJ6⟩⟩
  ·have HX:=hid (show BH s.data.toList 0 0=pre by rw[HP.out,IE d (by rw[<- Lib.size_eq];exact hge),List.append_nil]);have hlti:decide ((p:Int)<(s.size:Int))=false:=by simp;omega
   have hlti2:decide (p<s.size)=false:=by simp;omega
   gi_wp2
   gi_region
   gi_wp2
   try simp only[Exit.noGoto_normal]
   go_end0;exact⟨⟨_,rfl⟩,.inl (by rw[HX.out];exact hJ _ _ _ hJ1 (Au.of_below (Bq _ wr).drew))⟩
end
section
attribute [local go_sem] Oper.semAt_some ID EE
def Gh (r:Nat):Bool:=decide ((r:Int)<32)||((r:Int)==127)
theorem KE (r:Nat):Gh r= !Ac r:=by
 unfold Gh Ac BW;rw[Bool.eq_iff_iff];simp<;>omega
theorem VW (r:Nat) (w:Y):
  Calls Tryz.prog 147 #[.int .i32 (r:Int)] w fun e w'=>e=.returned (.bool (Gh r))/\w'=w:=by
 go_enter Tryz.func147,Tryz.ntmps147;go_wp2;all_goals (go_ret;refine⟨?_,rfl⟩)
 all_goals (refine congrArg (fun b=>Ending.returned (Value.bool b)) (?_:_=Gh r);unfold Gh;first | rfl | (rw[Bool.eq_iff_iff];simp[*];done) | (rw[Bool.eq_iff_iff];simp[*];omega))
theorem JZ (w:Y):PredGrows Tryz.prog 147 #[] Gh w:=fun W x _ _=>by
 refine(VW x W).mono ?_;rintro e w' ⟨rfl,hw⟩;subst w';exact⟨rfl,Bq _ _⟩
theorem Pg (s:ByteArray):∀ (f pos:Nat),s.size - pos<=f->decide (0<=idxFuncFrom Gh true s f pos)= !((Ag (s.data.toList.drop pos)).all Ac)
 | 0,pos,hf=>by
  rw[List.drop_eq_nil_of_le (by rw[<- Lib.size_eq];omega)];rfl
 | f+1,pos,hf=>by
  unfold idxFuncFrom;by_cases hlt:pos<s.size
  ·have hw:=decode_le s pos hlt;rw[if_pos hlt,Av _ (Ej s pos hlt),Lib.decodeL_drop,List.all_cons,List.drop_drop];cases ho:Gh (Utf8.decode s pos).1 with
   | true=>
    rw[KE,Bool.not_eq_true'] at ho;rw[if_pos rfl,ho];simp
   | false=>
    rw[KE,Bool.not_eq_false'] at ho;rw[if_neg (by decide),ho,Pg s f _ (by omega)];simp
  ·rw[if_neg hlt,List.drop_eq_nil_of_le (by rw[<- Lib.size_eq];omega)];rfl
theorem OS (s:ByteArray):decide (0<=idxFunc Gh true s)= !((Ag s.data.toList).all Ac):=by
 have:=Pg s s.size 0 (by omega)
 rwa [List.drop_zero] at this
theorem Q5:∀ (A:Option Addr) (n c:Nat),Value.slice O 0 0=Z A n c->n<=c:=by
 intro A n c h;injection h with _ h1 h2;omega
theorem Abc:(Tryz.prog.info? 287).map (fun i=>(i.zero,i.size,i.bytes))=F (F (.agg #[I J 0,Q ⟨#[]⟩,I J 0]),3,32):=by kernel_rfl
def I2 (w:Y) (B:Nat) (v:Value) (ts:List Tk):Prop:=w.ownsRow B 287 3 v ts.length (ts.flatMap CQ)
theorem Tb:∀ ts:List Tk,(ts.flatMap CQ).length=ts.length*3
 | []=>rfl
 | t::r=>by rw[List.flatMap_cons,List.length_append,Tb r];simp[CQ];omega
theorem Xz:∀ (ts:List Tk) (k:Nat),k<ts.length->(ts.flatMap CQ)[k*3]? =F (I J (ts.getD k ⟨0,[],0⟩).kind)/\(ts.flatMap CQ)[k*3+1]? =F (Q ⟨(ts.getD k ⟨0,[],0⟩).str.toArray⟩)/\(ts.flatMap CQ)[k*3+2]? =F (I J (ts.getD k ⟨0,[],0⟩).at_)
 | [],k,h=>by simp at h
 | t::r,0,h=>⟨rfl,rfl,rfl⟩
 | t::r,k+1,h=>by
  have:=Xz r k (by simpa using h);rw[List.flatMap_cons,show(k+1)*3=3+k*3 by omega];have e:∀ j,(CQ t++r.flatMap CQ)[3+j]? =(r.flatMap CQ)[j]? :=fun j=>by
   rw[List.getElem?_append_right (by simp[CQ])];simp[CQ]
  rw[show 3+k*3+1=3+(k*3+1) by omega,show 3+k*3+2=3+(k*3+2) by omega,e,e,e];exact this
theorem I2.sl {w:Y} {B:Nat} {v:Value} {ts:List Tk} (h:I2 w B v ts):Ii w v ts:=by
 rcases h.2 with ⟨hv,h0⟩ | ⟨g,cap,cur,hv,_,hg,hnc,hcm,hsz,htake⟩
 ·rw[hv];have:ts=[]:=List.eq_nil_of_length_eq_zero h0;subst this;exact Ii.nil w
 ·refine⟨F ⟨g,0,O⟩,cap,hv,fun k hk=>⟨g,0,rfl,(Gl hg),?_⟩⟩;obtain⟨f0,f1,f2⟩:=Xz ts k hk;have hc:∀ j u,(ts.flatMap CQ)[j]? =F u->w.cell? ⟨g,0+j,O⟩=F u:=fun j u hu=>by
   rw[Nat.zero_add,cell_of_row w g j cur 287 (0,0) hg];rw[<- htake,List.getElem?_take] at hu;split at hu
   ·rw[Array.getElem?_toList] at hu;exact hu
   ·cases hu
  exact⟨hc _ _ f0,hc _ _ f1,hc _ _ f2⟩
theorem I2.cap {w:Y} {B:Nat} {v:Value} {ts:List Tk} (h:I2 w B v ts):∀ (A:Option Addr) (n c:Nat),v=Z A n c->n<=c:=by
 intro A n c e;rcases h.2 with ⟨rfl,h0⟩ | ⟨g,cap,cur,rfl,_,_,hnc,_⟩
 ·injection e with _ e1 e2;omega
 ·injection e with _ e1 e2;omega
theorem I2.turn {C:Nat->Prop} {n B:Nat} {v:Value} {ts:List Tk} {X Yz:Y} (h:I2 X B v ts) (ht:Au C n X Yz) (hC:∀ k,C k->∃ T,T≠287/\BF X k T):I2 Yz B v ts:=by
 refine⟨h.1,?_⟩;rcases h.2 with h0 | ⟨g,cap,cur,hv,hb,hg,hr⟩
 ·exact .inl h0
 ·have hng:¬C g:=fun hc=>by obtain⟨T,h1,h2⟩:=hC g hc;exact h2.ne hg h1 rfl
  exact .inr ⟨g,cap,cur,hv,hb,ht.heap hg hng rfl,hr⟩
theorem JV {l:List UInt8} (hv:validD l=true):∀ (f p d:Nat),(DI l f p d).length<=l.length - p
 | 0,p,d=>by simp[DI]
 | f+1,p,d=>by
  rcases Nat.lt_or_ge p l.length with hp | hp
  ·rw[Jy hp];split
   ·have:=JV hv f (p+1) d;omega
   ·split
    ·simp
    ·cases ho:Dx l p d with
     | ok k t q d'=>
      have h1:=(Ku hv hp ho).1;have:=JV hv f q d';simp only[List.length_cons];omega
     | bad e=>simp;omega
  ·rw[MP hp];simp
theorem I2.keep {X Yz:Y} {B:Nat} {v:Value} {ts:List Tk} (h:I2 X B v ts) (hk:∀ (j:Nat) (c:Array Value),X.heap[j]? =F (Obj.cells c 287 (0,0))->Yz.heap[j]? =F (Obj.cells c 287 (0,0))):I2 Yz B v ts:=by
 refine⟨h.1,?_⟩;rcases h.2 with h0 | ⟨g,cap,cur,hv,hb,hg,hr⟩
 ·exact .inl h0
 ·exact .inr ⟨g,cap,cur,hv,hb,hk g cur hg,hr⟩
theorem Wp {X:Y} {j k:Nat} {c:Array Value} {T:TypeId} {u:Value} (hj:X.heap[j]? =F (Obj.cells c 287 (0,0))) (hk:Boxed X k T u) (hT:T≠287):j≠k:=by
 rintro rfl;rw[show X.heap[j]? =_ from hk] at hj;injection hj with hj;injection hj with _ hj;exact hT hj
theorem X2 {w:Y} {B:Nat} {v:Value} {ts:List Tk} (h:I2 w B v ts) {k:Nat} (hk:v.ownBlock=F k):B<=k/\∃ cur,w.heap[k]? =F (.cells cur 287 (0,0)):=by
 rcases h.2 with ⟨rfl,_⟩ | ⟨g,cap,cur,rfl,hb,hg,_⟩
 ·simp[Value.ownBlock] at hk
 ·simp[Value.ownBlock] at hk;subst hk;exact⟨hb,cur,hg⟩
theorem MQ:∀ (pre:List TP) (k:Nat) (t:List UInt8) (p:Nat),DK (pre++[.tok k t p])=DK pre
 | [],_,_,_=>rfl
 | .tok _ _ _::r,k,t,p=>MQ r k t p
 | .bad _ _::_,_,_,_=>rfl
theorem NL:∀ (pre rest:List TP),DK pre=O->DK (pre++rest)=DK rest
 | [],_,_=>rfl
 | .tok _ _ _::r,rest,h=>NL r rest h
 | .bad _ _::_,_,h=>by cases h
theorem Agt {C:Nat->Prop} {N M B:Nat} {Wb w5:Y} {v v':Value} {ts:List Tk} {x:Tk} {o:Obj} (hN:N<=M) (hB:N<=B) (hBz:B<=Wb.heap.size) (hMC:¬C M) (h2:Boxed Wb M 215 v) (h3:I2 Wb B v ts) (hC:∀ j,C j->∃ T,T≠287/\BF Wb j T)
  (hown:w5.ownsRow B 287 3 v' (ts.length+1) (ts.flatMap CQ++CQ x)) (hg:(Wb.alloc o).grownBy w5 v.ownBlock):
  Ak AH C N Wb (w5.setCell ⟨M,0,O⟩ v')/\Boxed (w5.setCell ⟨M,0,O⟩ v') M 215 v'/\I2 (w5.setCell ⟨M,0,O⟩ v') B v' (ts++[x])/\w5.cell? ⟨M,0,O⟩=F v/\w5.frozen? ⟨M,0,O⟩=false∧
  (∀ (j:Nat) (T:TypeId) (c:Array Value),T≠287->j≠M->Wb.heap[j]? =F (Obj.cells c T (0,0))->(w5.setCell ⟨M,0,O⟩ v').heap[j]? =F (Obj.cells c T (0,0)))/\(∀ (j:Nat) (T:TypeId),T≠287->j≠M->BF Wb j T->BF (w5.setCell ⟨M,0,O⟩ v') j T):=by
 have hrow:∀ j (c:Array Value) (T:TypeId) (fz:Nat×Nat),T≠287->Wb.heap[j]? =F (Obj.cells c T fz)->w5.heap[j]? =F (Obj.cells c T fz):=fun j c T fz hT hj=>by
  have hjl:j<Wb.heap.size:=(Gl hj)
  refine(hg.block j (by simp;omega) (fun e=>?_)).trans ((Below.heap_alloc Wb o j hjl).trans hj);obtain⟨_,cur,hc⟩:=X2 h3 e.symm;rw[hj] at hc;injection hc with hc;injection hc with _ hc;exact hT hc
 have hM5:Boxed w5 M 215 v:=hrow M _ 215 _ (by decide) h2;refine⟨?_,hM5.set v',?_,hM5.cell,hM5.frozen,fun j T c hT hj hh=>(Bh w5 ⟨M,0,O⟩ v' j hj).trans (hrow j c T _ hT hh),fun j T hT hj ⟨c,fz,hh⟩=>⟨c,fz,(Bh w5 ⟨M,0,O⟩ v' j hj).trans (hrow j c T fz hT hh)⟩⟩
 ·refine((Ak.alloc Wb o).trans (Ak.grown hg (fun k hk=>?_))).trans (Ak.setCell w5 ⟨M,0,O⟩ v' hN hMC);obtain⟨hb,cur,hc⟩:=X2 h3 hk;have hkl:k<Wb.heap.size:=(Gl hc)
  refine⟨by omega,fun hck=>?_,fun o' ho'=>?_⟩
  ·obtain⟨T,hT,c,fz,hh⟩:=hC k hck;rw[hc] at hh;injection hh with hh;injection hh with _ hh;exact hT hh.symm
  ·rw[Below.heap_alloc Wb o k hkl,hc] at ho';injection ho' with ho';rw[<- ho'];rfl
 ·refine⟨by rw[Tb],?_⟩;rcases hown.2 with ⟨_,h0⟩ | ⟨g,cap,cur,hv,hb,hgc,h4,h5,h6,h7⟩
  ·omega
  ·refine .inr ⟨g,cap,cur,by rw[hv];simp,hb,(Bh w5 ⟨M,0,O⟩ v' g (fun e=>?_)).trans hgc,by simpa using h4,h5,h6,by rw[List.flatMap_append,List.length_append];simpa using h7⟩;have e':g=M:=e;subst e';rw[show w5.heap[g]? =_ from hM5] at hgc;injection hgc with hgc;injection hgc with _ hgc;exact absurd hgc (by decide)
end
end Go.Proofs.YtdpppepmkeinaaaGreatDoor
