/- What is proved: a part of the walk of the program and of its plain laws; no condition beside those that each theorem names. -/
import Derived.Test.YtdpppepmkeinaaaGreatDoorYa
import Derived.Test.YtdpppepmkeinaaaGreatDoorYc
import Derived.Test.YtdpppepmkeinaaaGreatDoorYMaps
import Derived.Shelf.Strings.BuilderK
import Derived.Lib.RuneBytes
import Derived.Laws.Externs
import Derived.WalkSpells
import Derived.Lib.ConvBytes
import Derived.Lib.AtoiAllMem
import Derived.Laws.Closers25b
import Derived.BigCall
import Derived.BigGuard
import Derived.Laws.IdiomRangeMap
namespace Go.Proofs.YtdpppepmkeinaaaGreatDoor
open Go Go.RowKit Go.Lib
open Go.Value renaming int->I,string->Q,slice->Z
open Go.IntKind renaming i64->J
open Option renaming none->O,some->F
open _root_.Go renaming World->Y
set_option linter.unusedSimpArgs false
set_option linter.unusedVariables false
set_option linter.unusedSectionVars false
section
set_option maxHeartbeats 32000000
set_option maxRecDepth 100000
abbrev TB:TypeId:=73
abbrev T8:TypeId:=5
theorem KG:(Tryz.prog.info? TB).map (·.size)=F 2:=by kernel_rfl
theorem PW:liesAt Tryz.prog Tryz.prog.depth TB (2 / Tryz.prog.cellsOf TB) 0 TB 1=true:=by kernel_rfl
theorem Hn:Tryz.prog.underlying 70=F (.pointer TB):=by kernel_rfl
theorem MY:Tryz.prog.underlying 167=F .unsafePointer:=by kernel_rfl
theorem Ic (b:Nat) (w:Y) (h0:w.cell? ⟨b,0,O⟩=F (.pointer (F ⟨b,0,O⟩))):
  Calls Tryz.prog 54 #[.pointer (F ⟨b,0,O⟩)] w fun e w'=>e=.returned (.tuple #[])/\w'=w:=by
 obtain⟨j,hj,_⟩:=Option.map_eq_some_iff.1 KG;go_enter Tryz.func54,Tryz.ntmps54;go_wp2;rw[Lib.run_neq_ptr_same w _ Hn hj];go_wp2;go_end0;exact⟨rfl,rfl⟩
theorem Hz (b:Nat) (w:Y) (h0:w.cell? ⟨b,0,O⟩=F (.pointer O)) (hsh:w.shape? b=F (TB,2)) (hfz:w.frozen? ⟨b,0,O⟩=false):
  Calls Tryz.prog 54 #[.pointer (F ⟨b,0,O⟩)] w fun e w'=>e=.returned (.tuple #[])/\w'=w.setCell ⟨b,0,O⟩ (.pointer (F ⟨b,0,O⟩)):=by
 obtain⟨j,hj,hjs⟩:=Option.map_eq_some_iff.1 KG;go_enter Tryz.func54,Tryz.ntmps54;go_wp2;rw[Lib.run_to_unsafe w ⟨b,0,O⟩ Hn MY hj (by rw[hjs];decide) hsh (Nat.zero_lt_succ 1)];simp only[Result.andThen]
 rw[Oper.upon_value];go_wp2;rw[run_callFunc_extern Tryz.func81 (by kernel_rfl) (by kernel_rfl) (by kernel_rfl) (e:=Extern.AbiNoEscape.same) (by kernel_rfl)];rw[Lib.run_noEscape];simp only[Result.andThen]
 rw[Oper.upon_value];go_wp2;rw[Lib.run_from_unsafe w ⟨b,0,O⟩ MY Hn hj hsh PW];simp only[Result.andThen]
 rw[Oper.upon_value];go_wp2;go_end0;exact⟨rfl,rfl⟩
theorem SP (B b:Nat) (bs:List Value) (w:Y) (h:Lib.IsBuilderF TB T8 B b bs w):
  Calls Tryz.prog 54 #[.pointer (F ⟨b,0,O⟩)] w fun e w'=>e=.returned (.tuple #[])/\(Lib.BuilderAtF TB T8 B b (.pointer (F ⟨b,0,O⟩)) bs w'/\Below B w w'/\Lib.OthersKept T8 (F b) w w'):=by
 rcases h with h | h
 ·refine(Hz b w h.cell0 h.shape h.frozen0).mono ?_;rintro e w' ⟨rfl,rfl⟩;exact⟨rfl,h.used _,(Bq B w).setCell (p:=⟨b,0,O⟩) h.1 _,(Lib.OthersKept.refl _ _ w).setCell ⟨b,0,O⟩ rfl _⟩
 ·refine(Ic b w h.cell0).mono ?_;rintro e w' ⟨rfl,rfl⟩;exact⟨rfl,h,Bq B _,Lib.OthersKept.refl _ _ _⟩
theorem LV (B b:Nat) (bs:List Value) (r:Int) (hr0: -2147483648<=r) (hr1:r<=2147483647) (w:Y) (h:Lib.IsBuilderF TB T8 B b bs w) (hlen:bs.length+4<=140737488355328) (hBw:B<=w.heap.size):
  Calls Tryz.prog 34 #[.pointer (F ⟨b,0,O⟩),.int .i32 r] w fun e w'=>e=.returned (.tuple #[I J (Lib.runeCells r).length,.nilIface])/\(Lib.BuilderAtF TB T8 B b (.pointer (F ⟨b,0,O⟩)) (bs++Lib.runeCells r) w'/\Below B w w'/\Lib.OthersKept T8 (F b) w w'):=by
 have hk4:=Lib.runeCells_le r;go_enter Tryz.func34,Tryz.ntmps34;go_wp2_with fail;refine(SP B b bs _ h).mono ?_;rintro e w1 ⟨rfl,h1,hb1,Up⟩;obtain⟨hB,v,hbk,hown,hne⟩:=h1;obtain⟨ao,cap,rfl⟩:∃ ao cap,v=Z ao bs.length cap:=by
  rcases hown.2 with ⟨hv,h0⟩ | ⟨g,cap,cur,fz,hv,_⟩
  ·exact⟨O,0,by rw[hv,h0]⟩
  ·exact⟨_,_,hv⟩
 have c0:w1.cell? ⟨b,0,O⟩=F (.pointer (F ⟨b,0,O⟩)):=by rw[Lib.cell_of_heap hbk];rfl
 have c1:w1.cell? ⟨b,1,O⟩=F (Z ao bs.length cap):=by rw[Lib.cell_of_heap hbk];rfl
 go_wp2_with fail;refine(Tryz.utf8_AppendRune_row B _ bs.length bs r hr0 hr1 _ hown hlen (by have:=hb1.size;omega)).mono ?_;rintro e w2 ⟨v',rfl,hown',o,hgrow⟩;have hlt:b<w1.heap.size:=by
  rcases Nat.lt_or_ge b w1.heap.size with h' | h'
  ·exact h'
  ·simp[Array.getElem?_eq_none h'] at hbk
 have hb2:w2.heap[b]? =F (.cells #[.pointer (F ⟨b,0,O⟩),Z ao bs.length cap] TB (0,0)):=by
  rw[hgrow.block b (by simp;omega) (fun e=>hne e.symm),Lib.alloc_old w1 _ b hlt];exact hbk
 have d0:w2.cell? ⟨b,0,O⟩=F (.pointer (F ⟨b,0,O⟩)):=by rw[Lib.cell_of_heap hb2];rfl
 have d1:w2.cell? ⟨b,1,O⟩=F (Z ao bs.length cap):=by rw[Lib.cell_of_heap hb2];rfl
 have f1:w2.frozen? ⟨b,1,O⟩=false:=Lib.frozen_of_heap hb2 1;obtain⟨g,cap',rfl⟩:∃ g cap',v'=Z (F ⟨g,0,O⟩) (bs.length+(Lib.runeCells r).length) cap':=by
  rcases hown'.2 with ⟨_,h0⟩ | ⟨g,cap',cur,fz,hv,_⟩
  ·omega
  ·exact⟨g,cap',hv⟩
 go_wp2;go_ret2;refine⟨?_,?_,?_,((Up.alloc _).grown hgrow (Lib.ownsRowF_kind (hown.alloc _))).setCell ⟨b,1,O⟩ rfl _⟩
 ·have e:((bs.length:Int)+((Lib.runeCells r).length:Int) - (bs.length:Int))=((Lib.runeCells r).length:Int):=by omega
  simp[e]
 ·exact Lib.BuilderAtF.put (T:=TB) (e:=T8) hB hb2 (bs':=bs++Lib.runeCells r) (by simpa using hown') (by decide)
 ·exact((hb1.alloc (by have:=hb1.size;omega) _).grown hgrow (by have:=hb1.size;simp;omega) (fun k hk=>(hown.lt k hk).1)).setCell (p:=⟨b,1,O⟩) hB _
theorem Ts (r:Int) (zs:List Int) (b n cap:Nat) (w:Y) (hn:zs.length=n) (hs:n<=1000) (hc:∀ i,i<n->w.cell? ⟨b,i,O⟩=F (.int .i32 (zs[i]?.getD 0))):
  Calls Tryz.prog 36 #[.int .i32 r,Z (F ⟨b,0,O⟩) n cap] w fun e w'=>e=.returned (.bool (BC zs r))/\w=w':=by
 subst hn;go_enter Tryz.func36,Tryz.ntmps36;go_wp2;go_loop [9] (fun i=>∃ k:Nat,k<=zs.length/\i=I J k/\Hid (BC (zs.take k) r=false)) (fun i=>zs.length - (intOf i).toNat)
 case atStart=>exact⟨0,by omega,rfl,hid rfl⟩
 case round=>
  obtain⟨k,hk,rfl,HN⟩:=hrel;by_cases hlt:k<zs.length
  ·have hck:=hc k hlt;clear hc;go_wp2
   ·have hx:(r==zs[k])=true:=by assumption
    go_ret;exact⟨by rw[TG hlt hx];rfl,rfl⟩
   ·have hx:(r==zs[k])=false:=by assumption
    go_round
    case rel=>exact⟨k+1,by omega,by go_num,hid (by rw[OY hlt,HN.out,hx];rfl)⟩
    case measure=>simp[intOf];omega
  ·go_wp2;go_ret;have h:=HN.out;rw[List.take_of_length_le (by omega)] at h;exact⟨by rw[h];rfl,rfl⟩
theorem FU (r:Int) (zs:List Int) (n cap:Nat) (w:Y) (hn:zs.length=n) (hs:n<=1000):
  Calls Tryz.prog 36 #[.int .i32 r,Z (F ⟨w.heap.size,0,O⟩) n cap] (w.alloc (.cells (zs.map (Value.int .i32)).toArray 21)) fun e w'=>e=.returned (.bool (BC zs r))/\Below w.heap.size w w':=by
 refine(Ts r zs w.heap.size n cap _ hn hs (fun i hi=>?_)).mono ?_
 ·have h:=Wn w (.cells (zs.map (Value.int .i32)).toArray 21);unfold World.cell?;rw[h];simp[show i<zs.length by omega]
 ·rintro e w' ⟨rfl,rfl⟩;exact⟨rfl,(Bq _ w).alloc Nr _⟩
theorem Hf (n:Int) (w:Y):
  Calls Tryz.prog 37 #[.int .i32 n] w fun e w'=>e=.returned (.bool (BW n))/\w'=w:=by
 go_enter Tryz.func37,Tryz.ntmps37;go_wp2;all_goals (go_ret;refine⟨?_,rfl⟩)
 all_goals (refine congrArg (fun b=>Ending.returned (Value.bool b)) (?_:_=BW n);unfold BW;rw[Bool.eq_iff_iff];simp;omega)
def encR (r:Int):Value:=.int .i32 r
def Fq:List (Int×Value):=[(10,.int .i32 110),(9,.int .i32 116),(13,.int .i32 114)]
def BL (k:Nat):Obj:=BN encR (Fq.take k)
theorem Ahf (a b:Int):Instr.sameNow (.int .i32) (encR a) (encR b)=F (a==b):=rfl
theorem Abk (a:Int):MapKept.IsKey (.int .i32) (encR a):=by unfold encR;simp[MapKept.IsKey]
theorem Hj (w:Y) (k:Nat) (a:Int) (v:Value) (h:B5 a (Fq.take k)=O) (hk:Fq.take (k+1)=Fq.take k++[(a,v)]):
  (Instr.mapUpdate 79 (.map (F w.heap.size)) (.int .i32 a) v).run Tryz.prog (w.alloc (BL k))=.ok () (w.alloc (BL (k+1))):=by
 unfold BL;rw[hk];have:=FA (P:=Tryz.prog) (enc:=encR) Ahf Abk (t:=79) (k:=21) (e:=21) (w:=w.alloc (BN encR (Fq.take k))) (l:=Fq.take k) Tryz.underlying79 Tryz.underlying21 (Wn w _) a v h;rw[Hh] at this;exact this
theorem KT (w:Y):
  Calls Tryz.prog 35 #[] w fun e w'=>e=.returned (.map (F w.heap.size))/\w'=w.alloc (BL 3):=by
 have hmm:=@run_makeMap Tryz.prog;have h0:(Instr.mapUpdate 79 (.map (F w.heap.size)) (.int .i32 10) (.int .i32 110)).run Tryz.prog (w.alloc (.map #[] 0))=.ok () (w.alloc (BL 1)):=Hj w 0 10 _ rfl rfl;have h1:(Instr.mapUpdate 79 (.map (F w.heap.size)) (.int .i32 9) (.int .i32 116)).run Tryz.prog (w.alloc (BL 1))=.ok () (w.alloc (BL 2)):=Hj w 1 9 _ (by decide+kernel) rfl;have h2:(Instr.mapUpdate 79 (.map (F w.heap.size)) (.int .i32 13) (.int .i32 114)).run Tryz.prog (w.alloc (BL 2))=.ok () (w.alloc (BL 3)):=Hj w 2 13 _ (by decide+kernel) rfl;go_enter Tryz.func35,Tryz.ntmps35;go_wp2;go_ret;exact⟨rfl,rfl⟩
abbrev rdV (s:ByteArray) (q:Int):Value:=.agg #[Q s,.int .i32 q]
def Bw (s:ByteArray) (i:Nat):Int:=(Lib.decodeGo (s.extract (min i s.size) s.size)).1
theorem GX (s:ByteArray) (i:Nat) (h:i<s.size):Bw s i=(Utf8.decode s i).1:=by
 unfold Bw;rw[Nat.min_eq_left (by omega),Jn s i h]
theorem PE (s:ByteArray) (i:Nat) (h:s.size<=i):Bw s i=65533:=by
 unfold Bw;rw[Nat.min_eq_right h];unfold Lib.decodeGo;rw[if_pos (by simp[ByteArray.size_extract])];rfl
theorem Hd (s:ByteArray) (q:Int) (i:Nat) (w:Y) (hs:s.size<=1000000) (hi:i<=2000000) (hT:BU w):
  Calls Tryz.prog 295 #[rdV s q,I J i] w fun e w'=>e=.returned (.int .i32 (Bw s i))/\Below w.heap.size w w':=by
 have hT1:BU (w.alloc (.cells #[Q s,.int .i32 q] 426)):=hT.below ((Bq _ w).alloc Nr _);by_cases h:i<s.size
 ·have hlt:(i:Int)<=(s.size:Int):=by omega
  have HD:=hid (show((Lib.decodeGo (s.extract (min (i:Int) (s.size:Int)).toNat s.size)).1:Int)=Bw s i by unfold Bw;rw[show(min (i:Int) (s.size:Int)).toNat=min i s.size by omega]);go_enter Tryz.func295,Tryz.ntmps295;go_wp2_with fail;refine(FN _ _ hT1).mono ?_;rintro e w1 ⟨rfl,hb1⟩;rw[HD.out];go_wp2;go_ret;exact⟨rfl,(((Bq _ w).alloc Nr _).trans (hb1.mono (by simp)))⟩
 ·have hge:(s.size:Int)<=(i:Int):=by omega
  have HD:=hid (show((Lib.decodeGo (s.extract (min (i:Int) (s.size:Int)).toNat s.size)).1:Int)=Bw s i by unfold Bw;rw[show(min (i:Int) (s.size:Int)).toNat=min i s.size by omega]);go_enter Tryz.func295,Tryz.ntmps295;go_wp2_with fail;refine(FN _ _ hT1).mono ?_;rintro e w1 ⟨rfl,hb1⟩;rw[HD.out];go_wp2;go_ret;exact⟨rfl,(((Bq _ w).alloc Nr _).trans (hb1.mono (by simp)))⟩
def OD (c:UInt8):Option Nat:=if 48<=c.toNat/\c.toNat<=57 then F (c.toNat - 48) else if 97<=(c|||32).toNat/\(c|||32).toNat<=102 then F ((c|||32).toNat - 87) else O
def Ds:Nat->List UInt8->Option Nat
 | acc,[]=>F acc
 | acc,c::t=>match OD c with
  | none=>O
  | some d=>Ds (acc*16+d) t
theorem Ae5 {c:UInt8} {d:Nat} (h:OD c=F d):d<16:=by
 unfold OD at h;split at h
 ·injection h with h;omega
 ·split at h
  ·injection h with h;omega
  ·cases h
theorem Xt:∀ (l:List UInt8) (acc v:Nat),Ds acc l=F v->v<(acc+1)*16 ^ l.length
 | [],acc,v,h=>by unfold Ds at h;injection h with h;simp;omega
 | c::t,acc,v,h=>by
  unfold Ds at h;split at h
  ·cases h
  ·rename_i d hd;have h1:=Xt t _ v h;have h2:=Ae5 hd;have h3:(acc*16+d+1)*16 ^ t.length<=((acc+1)*16)*16 ^ t.length:=Nat.mul_le_mul_right _ (by omega);rw[List.length_cons,Nat.pow_succ]
   calc v<(acc*16+d+1)*16 ^ t.length:=h1
    _<=((acc+1)*16)*16 ^ t.length:=h3
    _=(acc+1)*(16 ^ t.length*16):=by rw[Nat.mul_assoc,Nat.mul_comm 16]
theorem YD (c:UInt8):bits .or .u8 (c.toNat:Int) 32=((c|||32).toNat:Int):=by
 have h:∀ n:Fin 256,bits .or .u8 (n.val:Int) 32=(((UInt8.ofNat n.val)|||32).toNat:Int):=by decide+kernel
 have:=h ⟨c.toNat,c.toNat_lt⟩;simpa using this
def WE:Option Nat->Value
 | some n=>.tuple #[.int .u64 n,.nilIface]
 | none=>.tuple #[.int .u64 0,.iface 306 (I J 2)]
theorem Kz (t:ByteArray) (hne:t.size≠0) (hmax:t.size<=4) (w:Y):
  Calls Tryz.prog 207 #[Q t,I J 16,I J 32] w fun e w'=>e=.returned (WE (Ds 0 t.data.toList))/\w'=Lib.bytesWorld w 5 t:=by
 have hemp:t.toList.isEmpty=false:=by
  rw[<- decide_eq_emptyBytes];exact decide_eq_false (fun h=>hne (by rw[h];rfl))
 have hcv:=Lib.run_convert_string_bytes (P:=Tryz.prog) w 9 71 5 t (u:=.string) Tryz.underlying9 Tryz.underlying71 Tryz.underlying5;have hB:∀ j,j<t.size->(Lib.bytesWorld w 5 t).cell? ⟨w.heap.size,j,O⟩=F (.int .u8 (t.data.toList.getD j 0).toNat):=fun j hj=>Lib.bytesWorld_cell w 5 t j hj;obtain⟨W1,hW1⟩:∃ W1,W1=Lib.bytesWorld w 5 t:=⟨_,rfl⟩
 rw[<- hW1] at hcv hB |-;clear hW1;obtain⟨bs,hL⟩:∃ bs,bs=t.data.toList:=⟨_,rfl⟩
 have hLn:bs.length=t.size:=by rw[hL,Lib.size_eq]
 rw[<- hL] at hB |-;clear hL;have hmv:IntKind.u64.wrap (IntKind.u64.wrap 4294967296 - 1)=4294967295:=by
  rw[IntKind.wrap_u64,IntKind.wrap_u64];decide
 go_enter Tryz.func207,Tryz.ntmps207;go_wp2;go_loop [12,13,101] (fun vu vn vi=>∃ (k acc:Nat) (a:Int),vu=.bool false/\vn=.int .u64 a/\vi=I J k/\k<=t.size/\0<=a/\a<=4095+61440*(k:Int)/\Hid (a=(acc:Int)/\acc+1<=16 ^ k/\Ds 0 bs=Ds acc (bs.drop k)))
  (fun _ _ vi=>t.size - (intOf vi).toNat)
 case atStart=>exact⟨0,0,0,rfl,rfl,rfl,by omega,by omega,by omega,rfl,by omega,rfl⟩
 case round=>
  obtain⟨k,acc,a,rfl,rfl,rfl,hk,a0,_,hh⟩:=hrel;obtain⟨ha,hacc,hdec⟩:=hh.out;clear hh;by_cases hkn:k<t.size
  ·have a1:a<=4095:=by
    have:16 ^ k<=16 ^ 3:=Nat.pow_le_pow_right (by omega) (by omega);omega
   have hc:=hB k hkn;have hdrop:bs.drop k=bs[k]'(by omega)::bs.drop (k+1):=List.drop_eq_getElem_cons (by omega);have hget:bs.getD k 0=bs[k]'(by omega):=by simp[List.getD,List.getElem?_eq_getElem (show k<bs.length by omega)]
   rw[hdrop] at hdec;rw[hget] at hc;generalize bs[k]'(by omega)=c at hc hdec;have hc256:c.toNat<256:=c.toNat_lt;clear hB hdrop hget;by_cases hdig:48<=c.toNat/\c.toNat<=57
   ·obtain⟨hd0,hd1⟩:=hdig;have hF:Ds acc (c::bs.drop (k+1))=Ds (acc*16+(c.toNat - 48)) (bs.drop (k+1)):=by
     show(match OD c with | none=>O | some d=>Ds (acc*16+d) (bs.drop (k+1)))=_;unfold OD;rw[if_pos ⟨hd0,hd1⟩]
    have HN:Hid (a*16+((c.toNat:Int) - 48)=((acc*16+(c.toNat - 48):Nat):Int)/\(acc*16+(c.toNat - 48))+1<=16 ^ (k+1)/\Ds 0 bs=Ds (acc*16+(c.toNat - 48)) (bs.drop (k+1))):=Lib.hid ⟨by omega,by rw[Nat.pow_succ];omega,hdec.trans hF⟩;have hbd:a*16+((c.toNat:Int) - 48)<=4095+61440*((k+1:Nat):Int):=by omega
    have hge:0<=a*16+((c.toNat:Int) - 48):=by omega
    clear hacc hF hdec ha;go_wp2;refine⟨⟨k+1,acc*16+(c.toNat - 48),a*16+((c.toNat:Int) - 48),rfl,(by first | rfl | (congr 1;omega)),(by first | rfl | (congr 1;omega)),by omega,hge,hbd,HN⟩,by simp[intOf];omega⟩
   ·have hlo:=YD c;obtain⟨lc,hlc⟩:∃ lc:Nat,(c|||32).toNat=lc:=⟨_,rfl⟩
    rw[hlc] at hlo;have hl256:lc<256:=by rw[<- hlc];exact(c|||32).toNat_lt
    have hF:Ds acc (c::bs.drop (k+1))=if 97<=lc/\lc<=102 then Ds (acc*16+(lc - 87)) (bs.drop (k+1)) else O:=by
     show(match OD c with | none=>O | some d=>Ds (acc*16+d) (bs.drop (k+1)))=_;unfold OD;rw[if_neg hdig,hlc];by_cases hx:97<=lc/\lc<=102
     ·rw[if_pos hx,if_pos hx]
     ·rw[if_neg hx,if_neg hx]
    have hlw:=fun wx=>Tryz.internal_strconv_lower (c.toNat:Int) wx;rw[hlo] at hlw;have h95:c.toNat=95->lc=127:=fun h=>by
     have:c=95:=UInt8.toNat_inj.1 (by simpa using h);rw[<- hlc,this];rfl
    clear hlo hlc;by_cases hlet:97<=lc/\lc<=102
    ·rw[if_pos hlet] at hF;obtain⟨hd0,hd1⟩:=hlet;have HN:Hid (a*16+((lc:Int) - 87)=((acc*16+(lc - 87):Nat):Int)/\(acc*16+(lc - 87))+1<=16 ^ (k+1)/\Ds 0 bs=Ds (acc*16+(lc - 87)) (bs.drop (k+1))):=Lib.hid ⟨by omega,by rw[Nat.pow_succ];omega,hdec.trans hF⟩;have hbd:a*16+((lc:Int) - 87)<=4095+61440*((k+1:Nat):Int):=by omega
     have hge:0<=a*16+((lc:Int) - 87):=by omega
     have hn95:((c.toNat:Int)==95)=false:=by
      rw[<- Bool.not_eq_true,beq_iff_eq];intro h;have:=h95 (by omega);omega
     clear hacc hF hdec ha h95;go_wp2_with (go_at_call 237;refine(hlw _).mono ?_;rintro e w' ⟨rfl,rfl⟩);all_goals first
      | (exfalso;omega)
      | (refine⟨⟨k+1,acc*16+(lc - 87),a*16+((lc:Int) - 87),rfl,(by first | rfl | (congr 1;omega)),(by first | rfl | (congr 1;omega)),by omega,hge,hbd,HN⟩,by simp[intOf];omega⟩)
    ·rw[if_neg hlet] at hF;rw[hF] at hdec;clear hacc hF ha;by_cases e95:c.toNat=95
     ·have hw95:=fun wx=>Tryz.internal_strconv_lower 95 wx;rw[show bits .or .u8 95 32=127 by decide+kernel] at hw95;have e95i:(c.toNat:Int)=95:=by omega
      rw[e95i] at hc;clear h95 hlw e95 e95i hdig;go_wp2_with (go_at_call 237;refine(hw95 _).mono ?_;rintro e w' ⟨rfl,rfl⟩);all_goals (go_ret2;first | exact⟨rfl,rfl⟩ | exact⟨by rw[hdec];rfl,rfl⟩)
     ·have hn95:((c.toNat:Int)==95)=false:=by
       rw[<- Bool.not_eq_true,beq_iff_eq];intro h;omega
      clear h95 e95;go_wp2_with (go_at_call 237;refine(hlw _).mono ?_;rintro e w' ⟨rfl,rfl⟩);all_goals first
       | (exfalso;omega)
       | (go_ret2;first | exact⟨rfl,rfl⟩ | exact⟨by rw[hdec];rfl,rfl⟩)
  ·have hkk:k=t.size:=by omega
   subst hkk;have hF:Ds acc (bs.drop t.size)=F acc:=by rw[List.drop_eq_nil_of_le (by omega)];rfl
   rw[hF] at hdec;subst ha;clear hacc hF;go_wp2;go_ret2;first | exact⟨rfl,rfl⟩ | exact⟨by rw[hdec];rfl,rfl⟩
theorem Uj (t:ByteArray) (hne:t.size≠0) (hmax:t.size<=4) (v:Nat) (h:Ds 0 t.data.toList=F v) (w:Y):
  Calls Tryz.prog 300 #[Q t,I J 16,I J 32] w fun e w'=>e=.returned (.tuple #[.int .u64 v,.nilIface])/\Below w.heap.size w w':=by
 have hI:=Kz t hne hmax w;rw[h] at hI;unfold WE at hI;clear h;go_enter Tryz.func300,Tryz.ntmps300;go_wp2_with fail;refine hI.mono ?_;rintro e W1 ⟨rfl,hW⟩;have hb1:Below w.heap.size w W1:=by rw[hW];exact Lib.bytesWorld_below _ _ _
 clear hW;go_wp2;go_ret2;exact⟨rfl,hb1⟩
theorem QN (t:ByteArray) (hne:t.size≠0) (hmax:t.size<=4) (h:Ds 0 t.data.toList=O) (w:Y) (hT:BU w):
  Calls Tryz.prog 300 #[Q t,I J 16,I J 32] w fun e w'=>∃ N,e=.returned (.tuple #[.int .u64 0,.iface 309 (.pointer (F ⟨N,0,O⟩))])/\Below w.heap.size w w':=by
 have hI:=Kz t hne hmax w;rw[h] at hI;unfold WE at hI;clear h;obtain⟨te,pe,hv⟩:=hT.syn;have HV:=hid hv;clear hv;go_enter Tryz.func300,Tryz.ntmps300;go_wp2_with fail;refine hI.mono ?_;rintro e W1 ⟨rfl,hW⟩;have hb1:Below w.heap.size w W1:=by rw[hW];exact Lib.bytesWorld_below _ _ _
 have HV1:=hid (cell_below HV.out hb1);clear hW HV;go_wp2_with fail;refine(Tryz.strconv_toError_syntax ⟨#[80,97,114,115,101,85,105,110,116]⟩ t 16 32 _ _ (by omega) HV1.out (.inr ⟨te,pe,rfl⟩)).mono ?_;rintro e W2 ⟨N,rfl,h1,_,h3⟩;go_wp2;go_ret2;exact⟨N,rfl,hb1.trans (h3.mono hb1.size)⟩
end
section
open Go
section
variable {P:Program}
theorem OA (w:Y) (ty:TypeId) (bm since c0:Nat) (seen:Array Nat) (es:Array MapEntry) (clock:Nat) (hb:w.heap[bm]? =F (.map es clock)) (hold:∀ x∈es.toList,x.born<since) (hsc:since<=c0):
  ((leftOf es seen).size=0/\(Instr.next (.pointer (F ⟨w.heap.size,0,O⟩)) false ty).run P (w.alloc (.mapIter (F bm) since seen c0))=.ok (.tuple #[.bool false]) (w.alloc (.mapIter (F bm) since seen c0)))∨
  ∃ e∈(leftOf es seen).toList,∃ w1:Y,(w1=w\/w1=w.drew)/\(Instr.next (.pointer (F ⟨w.heap.size,0,O⟩)) false ty).run P (w.alloc (.mapIter (F bm) since seen c0))=.ok (.tuple #[.bool true,e.key,e.val]) (w1.alloc (.mapIter (F bm) since (seen.push e.born) clock)):=by
 have hlt:bm<w.heap.size:=by
  rcases Nat.lt_or_ge bm w.heap.size with h | h
  ·exact h
  ·simp[Array.getElem?_eq_none h] at hb
 have hb':(w.alloc (.mapIter (F bm) since seen c0)).heap[bm]? =F (.map es clock):=by rw[heap_alloc_old w _ hlt,hb]
 simp only[Instr.next,getObj,Sem.run_bind,Sem.run,heap_alloc_new,hb',Result.andThen,next_test_false seen es since c0 hold hsc,Bool.false_eq_true,if_false]
 unfold leftOf;have hmem:∀ x∈(Array.filter (fun e=> !seen.contains e.born) es).toList,x.born<since:=fun x hx=>hold x (by simp at hx |-;exact hx.1);generalize Array.filter (fun e=> !seen.contains e.born) es=L at hmem |-;have e1:L.filter (fun x=>decide (x.born<since))=L:=Array.filter_eq_self.2 (fun x hx=>by simpa using hmem x (by simpa using hx));have e2:L.filter (fun x=>decide (x.born≥since))=#[]:=by
  rw[Array.filter_eq_empty_iff];intro x hx;have:=hmem x (by simpa using hx);simp;omega
 simp only[e1,e2,Array.append_empty]
 by_cases h0:L.size=0
 ·left;have:L=#[]:=Array.eq_empty_of_size_eq_zero h0;subst this;refine⟨rfl,?_⟩;simp[choose,Sem.run,Question.forced]
 ·right;have hne:L.isEmpty=false:=by simp[Array.isEmpty,h0]
  simp only[hne,Bool.false_eq_true,if_false,Array.empty_append,Array.size_map]
  have hch:∃ (j:Nat) (w1:Y),j<L.size/\(w1=w\/w1=w.drew)/\(choose (Question.mapNext L.size)).run P (w.alloc (.mapIter (F bm) since seen c0))=.ok j (w1.alloc (.mapIter (F bm) since seen c0)):=by
   by_cases hf:L.size<=1
   ·exact⟨0,w,by omega,.inl rfl,by simp[choose,Sem.run,Question.forced,hf]⟩
   ·exact⟨_,w.drew,Nat.mod_lt _ (by omega),.inr rfl,by
     simp only[choose,Sem.run,Question.forced,decide_eq_true_eq,hf,if_false,Question.cut]
     rfl⟩
  obtain⟨j,w1,hj,hal,hrun⟩:=hch;refine⟨L[j],by simp,w1,hal,?_⟩;have hsz:w1.heap.size=w.heap.size:=by rcases hal with rfl | rfl<;>rfl
  have hp:∀ (h:Array Obj) (x y:Obj),(h.push x).setIfInBounds h.size y=h.push y:=by
   intro h x y;apply Array.toList_inj.1;simp
  have hset:∀ (a:Option Nat) (b:Nat) (c:Array Nat) (d:Nat) (o':Obj),(setObj w.heap.size o').run P (w1.alloc (.mapIter a b c d))=.ok () (w1.alloc o'):=fun a b c d o'=>by
   simp only[setObj,Sem.run]
   rw[<- hsz,heap_alloc_new];show Result.ok () ({w1.alloc (.mapIter a b c d) with heap:=(w1.heap.push (.mapIter a b c d)).setIfInBounds w1.heap.size o'}:Y)=_;rw[hp];rfl
  simp only[hrun,Array.getElem?_map,Array.getElem?_eq_getElem hj,Option.map_some,Sem.run_bind,hset,Result.andThen]
  rfl
end
end
end Go.Proofs.YtdpppepmkeinaaaGreatDoor
