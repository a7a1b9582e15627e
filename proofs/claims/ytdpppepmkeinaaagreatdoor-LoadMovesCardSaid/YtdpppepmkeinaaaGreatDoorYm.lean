/- What is proved: a part of the walk of the program and of its plain laws; no condition beside those that each theorem names. -/
import Derived.Test.YtdpppepmkeinaaaGreatDoorYl
import Derived.Test.YtdpppepmkeinaaaGreatDoorYc
import Derived.Test.YtdpppepmkeinaaaGreatDoorYMaps
import Derived.Test.YtdpppepmkeinaaaGreatDoorYf
import Derived.Test.YtdpppepmkeinaaaGreatDoorYh
import Derived.Test.YtdpppepmkeinaaaGreatDoorYa
import Derived.Lib.QuietBelow
import Derived.Deep.DeepCutAuto
import Derived.Deep.CutRange
import Derived.Deep.LoopGhost
import Derived.Deep.QuietTactic
import Derived.BigQuiet
import Derived.Laws.StructEq
import Derived.Stop.RegionWithIn
namespace Go.Proofs.YtdpppepmkeinaaaGreatDoor
open Go Go.RowKit Go.Lib
open Go.Value renaming int->I,string->Q,slice->Z
open Go.IntKind renaming i64->J
open Option renaming none->O,some->F
open _root_.Go renaming World->Y
set_option linter.unusedSimpArgs false
set_option linter.unusedVariables false
set_option linter.unusedSectionVars false
section
set_option maxRecDepth 100000
set_option maxHeartbeats 400000
def GI:Value:=.iface 193 (.float .f64 4602678819172646912)
def EI:List (ByteArray×Value):=[(⟨#[]⟩,.nilIface),(⟨#[110,117,108,108]⟩,.nilIface),(⟨#[126]⟩,.nilIface),(⟨#[116,114,117,101]⟩,.iface 4 (.bool true)),(⟨#[102,97,108,115,101]⟩,.iface 4 (.bool false)),(⟨#[46,105,110,102]⟩,GI),(⟨#[43,46,105,110,102]⟩,GI),(⟨#[45,46,105,110,102]⟩,GI),(⟨#[46,110,97,110]⟩,GI)]
theorem Ab7 (w:Y) (l:List (ByteArray×Value)) (a:ByteArray) (v:Value) (h:B5 a l=O):
  (Instr.mapUpdate 196 (.map (F w.heap.size)) (Q a) v).run Tryz.prog (w.alloc (BN Value.string l))=.ok () (w.alloc (BN Value.string (l++[(a,v)]))):=by
 have:=FA (P:=Tryz.prog) (enc:=Value.string) Ag8 Ab6 (t:=196) (k:=9) (e:=20) (w:=w.alloc (BN Value.string l)) (l:=l) Tryz.underlying196 Tryz.underlying9 (Wn w _) a v h;rw[Hh] at this;exact this
def Bp (k:Nat):Obj:=BN Value.string (EI.take k)
theorem C5 (w:Y) (k:Nat) (a:ByteArray) (v:Value) (h:B5 a (EI.take k)=O) (hk:EI.take (k+1)=EI.take k++[(a,v)]):
  (Instr.mapUpdate 196 (.map (F w.heap.size)) (Q a) v).run Tryz.prog (w.alloc (Bp k))=.ok () (w.alloc (Bp (k+1))):=by
 unfold Bp;rw[hk];exact Ab7 w _ a v h
theorem YU (w:Y):
  Calls Tryz.prog 92 #[] w fun e w'=>e=.returned (.map (F w.heap.size))/\w'=w.alloc (Bp 9):=by
 have hmm:=@run_makeMap Tryz.prog;have h0:(Instr.mapUpdate 196 (.map (F w.heap.size)) (Q ⟨#[]⟩) .nilIface).run Tryz.prog (w.alloc (.map #[] 0))=.ok () (w.alloc (Bp 1)):=C5 w 0 ⟨#[]⟩ .nilIface rfl rfl;have h1:(Instr.mapUpdate 196 (.map (F w.heap.size)) (Q ⟨#[110,117,108,108]⟩) .nilIface).run Tryz.prog (w.alloc (Bp 1))=.ok () (w.alloc (Bp 2)):=C5 w 1 ⟨#[110,117,108,108]⟩ .nilIface (by decide+kernel) rfl;have h2:(Instr.mapUpdate 196 (.map (F w.heap.size)) (Q ⟨#[126]⟩) .nilIface).run Tryz.prog (w.alloc (Bp 2))=.ok () (w.alloc (Bp 3)):=C5 w 2 ⟨#[126]⟩ .nilIface (by decide+kernel) rfl;have h3:(Instr.mapUpdate 196 (.map (F w.heap.size)) (Q ⟨#[116,114,117,101]⟩) (.iface 4 (.bool true))).run Tryz.prog (w.alloc (Bp 3))=.ok () (w.alloc (Bp 4)):=C5 w 3 ⟨#[116,114,117,101]⟩ (.iface 4 (.bool true)) (by decide+kernel) rfl;have h4:(Instr.mapUpdate 196 (.map (F w.heap.size)) (Q ⟨#[102,97,108,115,101]⟩) (.iface 4 (.bool false))).run Tryz.prog (w.alloc (Bp 4))=.ok () (w.alloc (Bp 5)):=C5 w 4 ⟨#[102,97,108,115,101]⟩ (.iface 4 (.bool false)) (by decide+kernel) rfl;have h5:(Instr.mapUpdate 196 (.map (F w.heap.size)) (Q ⟨#[46,105,110,102]⟩) (.iface 193 (.float .f64 4602678819172646912))).run Tryz.prog (w.alloc (Bp 5))=.ok () (w.alloc (Bp 6)):=C5 w 5 ⟨#[46,105,110,102]⟩ (.iface 193 (.float .f64 4602678819172646912)) (by decide+kernel) rfl;have h6:(Instr.mapUpdate 196 (.map (F w.heap.size)) (Q ⟨#[43,46,105,110,102]⟩) (.iface 193 (.float .f64 4602678819172646912))).run Tryz.prog (w.alloc (Bp 6))=.ok () (w.alloc (Bp 7)):=C5 w 6 ⟨#[43,46,105,110,102]⟩ (.iface 193 (.float .f64 4602678819172646912)) (by decide+kernel) rfl
 have h7:(Instr.mapUpdate 196 (.map (F w.heap.size)) (Q ⟨#[45,46,105,110,102]⟩) (.iface 193 (.float .f64 4602678819172646912))).run Tryz.prog (w.alloc (Bp 7))=.ok () (w.alloc (Bp 8)):=C5 w 7 ⟨#[45,46,105,110,102]⟩ (.iface 193 (.float .f64 4602678819172646912)) (by decide+kernel) rfl;have h8:(Instr.mapUpdate 196 (.map (F w.heap.size)) (Q ⟨#[46,110,97,110]⟩) (.iface 193 (.float .f64 4602678819172646912))).run Tryz.prog (w.alloc (Bp 8))=.ok () (w.alloc (Bp 9)):=C5 w 8 ⟨#[46,110,97,110]⟩ (.iface 193 (.float .f64 4602678819172646912)) (by decide+kernel) rfl;go_enter Tryz.func92,Tryz.ntmps92;go_wp2;go_ret;exact⟨rfl,rfl⟩
theorem Tt (r:Nat) (w:Y):
  Calls Tryz.prog 133 #[.int .i32 r] w fun e w'=>e=.returned (.bool (D4 r))/\Below w.heap.size w w':=by
 by_cases h1:(48:Int)<=r/\(r:Int)<=57
 ·obtain⟨h1,h2⟩:=h1;have h1':¬(r:Int)<48:=by omega
  have h2':¬57<(r:Int):=by omega
  go_enter Tryz.func133,Tryz.ntmps133;go_wp2;go_ret;exact⟨by rw[show D4 r=false from(by unfold D4;rw[decide_eq_true (show 48<=r by omega),decide_eq_true (show r<=57 by omega)];rfl)];rfl,Bq _ _⟩
 ·have H1:=hid h1;by_cases hlo:(r:Int)<48
  ·clear h1;go_enter Tryz.func133,Tryz.ntmps133;go_wp2_with fail;refine(IU r [46,101,69,43,45,95] _ _ _ rfl (by decide)).mono ?_;rintro e w1 ⟨rfl,hb1⟩;go_wp2;go_ret;exact⟨by rw[show D4 r= !(BC [46,101,69,43,45,95] r) from(by unfold D4;rw[decide_eq_false (show ¬48<=r by omega)];simp)];rfl,hb1⟩
  ·have hhi:57<(r:Int):=by omega
   clear h1;go_enter Tryz.func133,Tryz.ntmps133;go_wp2_with fail;refine(IU r [46,101,69,43,45,95] _ _ _ rfl (by decide)).mono ?_;rintro e w1 ⟨rfl,hb1⟩;go_wp2;go_ret;exact⟨by rw[show D4 r= !(BC [46,101,69,43,45,95] r) from(by unfold D4;rw[decide_eq_false (show ¬r<=57 by omega)];simp)];rfl,hb1⟩
theorem OB (w:Y):PredGrows Tryz.prog 133 #[] D4 w:=fun W x _ _=>by
 refine(Tt x W).mono ?_;rintro e w' ⟨rfl,hb⟩;exact⟨rfl,hb⟩
theorem QF (s:ByteArray) (w:Y):
  Calls Tryz.prog 93 #[Q s] w fun e w'=>e=.returned (.bool (K7 s.data.toList))/\Below w.heap.size w w':=by
 go_enter Tryz.func93,Tryz.ntmps93;go_wp2_with fail;refine(Tryz.strings_TrimPrefix s ⟨#[43]⟩ _).mono ?_;rintro e w1 ⟨rfl,hw1⟩;subst hw1;go_wp2_with fail;refine(Tryz.strings_TrimPrefix ⟨(Lib.trimPrefix s.data.toList [43]).toArray⟩ ⟨#[45]⟩ _).mono ?_;rintro e w2 ⟨rfl,hw2⟩;subst hw2;go_wp2_with fail;refine(Tryz.strings_HasPrefix s ⟨#[43,45]⟩ _).mono ?_;rintro e w3 ⟨rfl,hw3⟩;subst hw3;cases hp:Lib.hasPrefix s.data.toList [43,45] with
 | true=>
  have HP:=hid hp;clear hp;go_wp2;go_ret;exact⟨by rw[show K7 s.data.toList=false from(by unfold K7;rw[HP.out];rfl)];rfl,Bq _ _⟩
 | false=>
  have HP:=hid hp;clear hp;go_wp2_with fail;refine(Tryz.strings_TrimPrefix ⟨(Lib.trimPrefix (Lib.trimPrefix s.data.toList [43]) [45]).toArray⟩ ⟨#[46]⟩ _).mono ?_;rintro e w4 ⟨rfl,hw4⟩;subst hw4;obtain⟨T,hTT⟩:∃ T:ByteArray,(⟨(Hm s.data.toList).toArray⟩:ByteArray)=T:=⟨_,rfl⟩
  have hTT':(⟨(Lib.trimPrefix (Lib.trimPrefix (Lib.trimPrefix s.data.toList [43]) [45]) [46]).toArray⟩:ByteArray)=T:=hTT;rw[show(⟨(Lib.trimPrefix (⟨(Lib.trimPrefix (Lib.trimPrefix s.data.toList [43]) [45]).toArray⟩:ByteArray).data.toList (⟨#[46]⟩:ByteArray).data.toList).toArray⟩:ByteArray)=T from hTT'];clear hTT';have hTl:Hm s.data.toList=T.data.toList:=by rw[<- hTT]
  have HTT:=hid hTT;clear hTT;have HT:=hid hTl;clear hTl;by_cases hT0:0<T.size
  ·have hTe:=AY hT0;have hTi:(0:Int)<(T.size:Int):=by omega
   have hl:=Lo T hT0;obtain⟨c,hc⟩:∃ c,T[0]'hT0=c:=⟨_,rfl⟩
   rw[hc] at hl;have HL:=hid hl;clear hl;have hemp:T.data.toList.isEmpty=false:=by rw[HL.out];rfl
   have HE:=hid hemp;clear hemp;have hhd:T.data.toList.headD 0=c:=by rw[HL.out];rfl
   have HH:=hid hhd;clear hhd;by_cases hd:(48:Int)<=c.toNat/\(c.toNat:Int)<=57
   ·obtain⟨hd1,hd2⟩:=hd;have hdig:BJ c=true:=by unfold BJ;simp;omega
    have HD:=hid hdig;clear hdig;go_wp2_with fail;refine(Tryz.strings_ContainsFunc_grows 133 #[] (enters_of Tryz.func133 (by kernel_rfl) rfl) D4 T _ (OB _)).mono ?_;rintro e w5 ⟨rfl,hb5⟩;go_wp2;go_ret;exact⟨by rw[show K7 s.data.toList= !(decide (0<=Lib.idxFunc D4 true T)) from(by unfold K7;rw[HP.out,HTT.out,HT.out,HE.out,HH.out,HD.out];rfl)];rfl,hb5⟩
   ·have hdig:BJ c=false:=by unfold BJ;simp;omega
    have HD:=hid hdig;clear hdig;have hfin:K7 s.data.toList=false:=by unfold K7;rw[HP.out,HT.out,HE.out,HH.out,HD.out];rfl
    have HF:=hid hfin;clear hfin;by_cases hd1:(48:Int)<=c.toNat
    ·have hd2:(57:Int)<c.toNat:=by omega
     clear hd;go_wp2;go_ret;exact⟨by rw[HF.out];rfl,Bq _ _⟩
    ·clear hd;go_wp2;go_ret;exact⟨by rw[HF.out];rfl,Bq _ _⟩
  ·have hTe:=Bn hT0;have hemp:T.data.toList.isEmpty=true:=by rw[<- Lib.toList_data];exact hTe
   have hfin:K7 s.data.toList=false:=by unfold K7;rw[HP.out,HT.out,hemp];rfl
   have HF:=hid hfin;clear hfin hemp;go_wp2;go_ret;exact⟨by rw[HF.out];rfl,Bq _ _⟩
theorem HW (w:Y) (k:Nat) (os:Array Obj):Below w.heap.size w (Go.Sort.grow (w.drewN k) os):=
 ⟨rfl,rfl,rfl,by show w.heap.size<=(w.heap++os).size;simp,fun i hi=>by show(w.heap++os)[i]? =_;rw[Array.getElem?_append_left hi]⟩
theorem SH (n:Int) (w:Y) (h0: -9223372036854775808<=n) (h1:n<=9223372036854775807) (hT:BU w):
  Calls Tryz.prog 95 #[I J n] w fun e w'=>e=.returned (Q ⟨(Lib.itoa n).toArray⟩)/\Below w.heap.size w w':=by
 refine(Tryz.strconv_Itoa n h0 h1 w hT.pow).mono ?_;rintro e w' ⟨rfl,k,os,rfl⟩;exact⟨rfl,HW w k os⟩
theorem Ad6 (s:ByteArray) (v:Int) (w:Y) (hs:s.size<=1000000) (h:Lib.atoiAll s.data.toList=.ok v):
  Calls Tryz.prog 94 #[Q s] w fun e w'=>e=.returned (.tuple #[I J v,.nilIface])/\Below w.heap.size w w':=by
 refine(Tryz.strconv_Atoi_ok s (by omega) v h w).mono ?_;rintro e w' ⟨rfl,rfl | ⟨t,rfl⟩⟩
 ·exact⟨rfl,Bq _ _⟩
 ·exact⟨rfl,Lib.bytesWorld_below _ _ _⟩
theorem ZL (s:ByteArray) (w:Y) (hs:s.size<=1000000) (hT:BU w) (h:∀ v,Lib.atoiAll s.data.toList≠ .ok v):
  Calls Tryz.prog 94 #[Q s] w fun e w'=>(∃ v N,e=.returned (.tuple #[I J v,.iface 309 (.pointer (F ⟨N,0,O⟩))]))/\Below w.heap.size w w':=by
 cases ha:Lib.atoiAll s.data.toList with
 | ok v=>exact absurd ha (h v)
 | range=>
  obtain⟨te,pe,hc⟩:=hT.rng;refine(Tryz.strconv_Atoi_range s (by omega) ha _ w hc (.inr ⟨te,pe,rfl⟩)).mono ?_;rintro e w' ⟨N,rfl,_,_,hb⟩;exact⟨⟨_,_,rfl⟩,hb⟩
 | _=>
  obtain⟨te,pe,hc⟩:=hT.syn;refine(Tryz.strconv_Atoi_syntax s (by omega) h (fun h2=>by rw[ha] at h2;cases h2) _ w hc (.inr ⟨te,pe,rfl⟩)).mono ?_;rintro e w' ⟨N,rfl,_,_,hb⟩;exact⟨⟨_,_,rfl⟩,hb⟩
def Io (l:List UInt8):Value:=match Lib.atoiAll l with
 | .ok n=>if Lib.itoa n=l/\ -999999999999999<=n/\n<=999999999999999 then .iface 3 (I J n) else GI
 | _=>GI
def DD (s:ByteArray):Value:=match B5 s EI with
 | some v=>v
 | none=>if K7 s.data.toList then Io s.data.toList else .iface 9 (Q s)
theorem UA (s:ByteArray) (w:Y) (b:Nat) (hb:w.heap[b]? =F (Bp 9)):
  (Instr.lookup 196 (.map (F b)) (Q s) true).run Tryz.prog w=.ok (.tuple #[(B5 s EI).getD .nilIface,.bool (B5 s EI).isSome]) w:=
 DO (P:=Tryz.prog) (enc:=Value.string) Ag8 Ab6 (k:=9) (e:=20) (l:=EI) (z:=.nilIface) Tryz.underlying196 Tryz.underlying9 (by kernel_rfl) hb s true
theorem Pv (s:ByteArray) (w:Y) (hs:s.size<=1000000) (hT:BU w):
  Calls Tryz.prog 62 #[Q s] w fun e w'=>e=.returned (DD s)/\Below w.heap.size w w':=by
 go_enter Tryz.func62,Tryz.ntmps62;go_wp2_with fail;refine(YU _).mono ?_;rintro e w1 ⟨rfl,hw1⟩;have hb1:Below w.heap.size w w1:=by rw[hw1];exact(Bq _ _).alloc Nr _
 have hlk:=UA s w1 w.heap.size (by rw[hw1];exact Wn _ _);have hT1:=hT.below hb1;clear hw1;cases ha:B5 s EI with
 | some v=>
  rw[ha] at hlk;have HA:=hid ha;clear ha;simp only[Option.getD_some,Option.isSome_some] at hlk;go_wp2;go_ret;exact⟨by rw[show DD s=v from(by unfold DD;rw[HA.out])];rfl,hb1⟩
 | none=>
  rw[ha] at hlk;have HA:=hid ha;clear ha;simp only[Option.getD_none,Option.isSome_none] at hlk;go_wp2_with fail;refine(QF s _).mono ?_;rintro e w2 ⟨rfl,hb2⟩;have hb02:Below w.heap.size w w2:=hb1.trans (hb2.mono hb1.size);have hT2:=hT1.below hb2;cases hn:K7 s.data.toList with
  | false=>
   have HN:=hid hn;clear hn;go_wp2;go_ret;exact⟨by rw[show DD s=.iface 9 (Q s) from(by unfold DD;rw[HA.out,HN.out];rfl)];rfl,hb02⟩
  | true=>
   have HN:=hid hn;clear hn;have hval:DD s=Io s.data.toList:=by unfold DD;rw[HA.out,HN.out];rfl
   have HV:=hid hval;clear hval;go_wp2_with fail;cases hat:Lib.atoiAll s.data.toList with
   | ok n=>
    have hb:=WF hat;have HT:=hid hat;refine(Ad6 s n _ hs hat).mono ?_;clear hat;rintro e w3 ⟨rfl,hb3⟩;have hb03:Below w.heap.size w w3:=hb02.trans (hb3.mono hb02.size);have hT3:=hT2.below hb3;go_wp2_with fail;refine(SH n _ hb.1 hb.2 hT3).mono ?_;rintro e w4 ⟨rfl,hb4⟩;have hb04:Below w.heap.size w w4:=hb03.trans (hb4.mono hb03.size);by_cases hi:Lib.itoa n=s.data.toList
    ·have hii:(!Lib.itoa n==s.toList)=false:=by rw[Lib.toList_data,hi];simp
     have HI:=hid hi;clear hi;by_cases hlo:n< -999999999999999
     ·have hfin:Io s.data.toList=GI:=by unfold Io;rw[HT.out];simp only[];rw[if_neg (by omega)]
      have HF:=hid hfin;clear hfin;go_wp2;go_ret;exact⟨by rw[HV.out,HF.out];rfl,hb04⟩
     ·by_cases hhi:999999999999999<n
      ·have hfin:Io s.data.toList=GI:=by unfold Io;rw[HT.out];simp only[];rw[if_neg (by omega)]
       have HF:=hid hfin;clear hfin;go_wp2;go_ret;exact⟨by rw[HV.out,HF.out];rfl,hb04⟩
      ·have hfin:Io s.data.toList=.iface 3 (I J n):=by unfold Io;rw[HT.out];simp only[];rw[if_pos ⟨HI.out,by omega,by omega⟩]
       have HF:=hid hfin;clear hfin;go_wp2;go_ret;exact⟨by rw[HV.out,HF.out];rfl,hb04⟩
    ·have hii:(!Lib.itoa n==s.toList)=true:=by rw[Lib.toList_data];simpa using hi
     have hfin:Io s.data.toList=GI:=by unfold Io;rw[HT.out];simp only[];rw[if_neg (fun h=>hi h.1)]
     have HF:=hid hfin;clear hfin hi;go_wp2;go_ret;exact⟨by rw[HV.out,HF.out];rfl,hb04⟩
   | _=>
    have hbad:∀ v,Lib.atoiAll s.data.toList≠ .ok v:=by intro v hv;rw[hat] at hv;cases hv
    have hfin:Io s.data.toList=GI:=by unfold Io;rw[hat]
    have HF:=hid hfin;clear hfin;refine(ZL s _ hs hT2 hbad).mono ?_;clear hat hbad;rintro e w3 ⟨⟨v,N,rfl⟩,hb3⟩;have hb03:Below w.heap.size w w3:=hb02.trans (hb3.mono hb02.size);go_wp2;go_ret;exact⟨by rw[HV.out,HF.out];rfl,hb03⟩
def Gv:Value->Sc×Int
 | .iface _ (.float _ _)=>(AJ,50)
 | .iface _ (.bool b)=>(⟨1,if b then 1 else 0,⟨#[]⟩⟩,0)
 | .iface _ (.int _ n)=>(⟨2,n,⟨#[]⟩⟩,0)
 | .iface _ (Q s)=>(⟨3,0,s⟩,0)
 | _=>(AJ,0)
theorem Acg (w:Y):(Instr.typeAssert .nilIface 20 193 true).run Tryz.prog w=.ok (.tuple #[.float .f64 0,.bool false]) w:=by kernel_rfl
theorem Aji (v:Value) (w:Y):(Instr.typeAssert (.iface 193 v) 20 193 true).run Tryz.prog w=.ok (.tuple #[v,.bool true]) w:=by kernel_rfl
theorem Aig (v:Value) (w:Y):(Instr.typeAssert (.iface 4 v) 20 193 true).run Tryz.prog w=.ok (.tuple #[.float .f64 0,.bool false]) w:=by kernel_rfl
theorem Aje (v:Value) (w:Y):(Instr.typeAssert (.iface 3 v) 20 193 true).run Tryz.prog w=.ok (.tuple #[.float .f64 0,.bool false]) w:=by kernel_rfl
theorem Aid (v:Value) (w:Y):(Instr.typeAssert (.iface 9 v) 20 193 true).run Tryz.prog w=.ok (.tuple #[.float .f64 0,.bool false]) w:=by kernel_rfl
theorem Acp (w:Y):(Instr.typeAssert .nilIface 20 4 true).run Tryz.prog w=.ok (.tuple #[.bool false,.bool false]) w:=by kernel_rfl
theorem Ahy (v:Value) (w:Y):(Instr.typeAssert (.iface 193 v) 20 4 true).run Tryz.prog w=.ok (.tuple #[.bool false,.bool false]) w:=by kernel_rfl
theorem Ah5 (v:Value) (w:Y):(Instr.typeAssert (.iface 4 v) 20 4 true).run Tryz.prog w=.ok (.tuple #[v,.bool true]) w:=by kernel_rfl
theorem Ajd (v:Value) (w:Y):(Instr.typeAssert (.iface 3 v) 20 4 true).run Tryz.prog w=.ok (.tuple #[.bool false,.bool false]) w:=by kernel_rfl
theorem Aip (v:Value) (w:Y):(Instr.typeAssert (.iface 9 v) 20 4 true).run Tryz.prog w=.ok (.tuple #[.bool false,.bool false]) w:=by kernel_rfl
theorem ZS (w:Y):(Instr.typeAssert .nilIface 20 3 true).run Tryz.prog w=.ok (.tuple #[I J 0,.bool false]) w:=by kernel_rfl
theorem Aii (v:Value) (w:Y):(Instr.typeAssert (.iface 193 v) 20 3 true).run Tryz.prog w=.ok (.tuple #[I J 0,.bool false]) w:=by kernel_rfl
theorem Aif (v:Value) (w:Y):(Instr.typeAssert (.iface 4 v) 20 3 true).run Tryz.prog w=.ok (.tuple #[I J 0,.bool false]) w:=by kernel_rfl
theorem Aiv (v:Value) (w:Y):(Instr.typeAssert (.iface 3 v) 20 3 true).run Tryz.prog w=.ok (.tuple #[v,.bool true]) w:=by kernel_rfl
theorem Ahw (v:Value) (w:Y):(Instr.typeAssert (.iface 9 v) 20 3 true).run Tryz.prog w=.ok (.tuple #[I J 0,.bool false]) w:=by kernel_rfl
theorem Ab8 (w:Y):(Instr.typeAssert .nilIface 20 9 true).run Tryz.prog w=.ok (.tuple #[Q ⟨#[]⟩,.bool false]) w:=by kernel_rfl
theorem Aib (v:Value) (w:Y):(Instr.typeAssert (.iface 193 v) 20 9 true).run Tryz.prog w=.ok (.tuple #[Q ⟨#[]⟩,.bool false]) w:=by kernel_rfl
theorem Ai3 (v:Value) (w:Y):(Instr.typeAssert (.iface 4 v) 20 9 true).run Tryz.prog w=.ok (.tuple #[Q ⟨#[]⟩,.bool false]) w:=by kernel_rfl
theorem Ajz (v:Value) (w:Y):(Instr.typeAssert (.iface 3 v) 20 9 true).run Tryz.prog w=.ok (.tuple #[Q ⟨#[]⟩,.bool false]) w:=by kernel_rfl
theorem Ajj (v:Value) (w:Y):(Instr.typeAssert (.iface 9 v) 20 9 true).run Tryz.prog w=.ok (.tuple #[v,.bool true]) w:=by kernel_rfl
attribute [local go_sem] Acg Acp ZS Ab8 Aji Aig Aje Aid Ahy Ah5 Ajd Aip Aii Aif Aiv Ahw Aib Ai3 Ajz Ajj
def Ahc (v:Value):Prop:=v=.nilIface\/v=GI\/(∃ b,v=.iface 4 (.bool b))\/(∃ n,v=.iface 3 (I J n))\/∃ s,v=.iface 9 (Q s)
theorem MJ (v:Value) (w:Y) (hv:Ahc v):
  Calls Tryz.prog 61 #[v] w fun e w'=>e=.returned (.tuple #[Ev (Gv v).1,I J (Gv v).2])/\Below w.heap.size w w':=by
 rcases hv with rfl | rfl | ⟨b,rfl⟩ | ⟨n,rfl⟩ | ⟨s,rfl⟩
 ·go_enter Tryz.func61,Tryz.ntmps61;go_wp2;exact bodyPost_ret (v:=.tuple #[.agg #[I J 0,I J 0,Q ⟨#[]⟩],I J 0]) (by simp[results,Tryz.results61,go_sem]) rfl ⟨rfl,by repeat (first | exact Bq _ _ | refine Below.alloc ?_ (by simp) _ | refine Below.setCell ?_ (by simp) _)⟩
 ·unfold GI;go_enter Tryz.func61,Tryz.ntmps61;go_wp2;exact bodyPost_ret (v:=.tuple #[.agg #[I J 0,I J 0,Q ⟨#[]⟩],I J 50]) (by simp[results,Tryz.results61,go_sem]) rfl ⟨rfl,by repeat (first | exact Bq _ _ | refine Below.alloc ?_ (by simp) _ | refine Below.setCell ?_ (by simp) _)⟩
 ·cases b
  ·go_enter Tryz.func61,Tryz.ntmps61;go_wp2;exact bodyPost_ret (v:=.tuple #[.agg #[I J 1,I J 0,Q ⟨#[]⟩],I J 0]) (by simp[results,Tryz.results61,go_sem]) rfl ⟨rfl,by repeat (first | exact Bq _ _ | refine Below.alloc ?_ (by simp) _ | refine Below.setCell ?_ (by simp) _)⟩
  ·go_enter Tryz.func61,Tryz.ntmps61;go_wp2;exact bodyPost_ret (v:=.tuple #[.agg #[I J 1,I J 1,Q ⟨#[]⟩],I J 0]) (by simp[results,Tryz.results61,go_sem]) rfl ⟨rfl,by repeat (first | exact Bq _ _ | refine Below.alloc ?_ (by simp) _ | refine Below.setCell ?_ (by simp) _)⟩
 ·go_enter Tryz.func61,Tryz.ntmps61;go_wp2;exact bodyPost_ret (v:=.tuple #[.agg #[I J 2,I J n,Q ⟨#[]⟩],I J 0]) (by simp[results,Tryz.results61,go_sem]) rfl ⟨rfl,by repeat (first | exact Bq _ _ | refine Below.alloc ?_ (by simp) _ | refine Below.setCell ?_ (by simp) _)⟩
 ·go_enter Tryz.func61,Tryz.ntmps61;go_wp2;exact bodyPost_ret (v:=.tuple #[.agg #[I J 3,I J 0,Q s],I J 0]) (by simp[results,Tryz.results61,go_sem]) rfl ⟨rfl,by repeat (first | exact Bq _ _ | refine Below.alloc ?_ (by simp) _ | refine Below.setCell ?_ (by simp) _)⟩
end
section
instance:Inhabited Sc:=⟨AJ⟩
theorem Aaz (k1 n1 k2 n2:Int) (s1 s2:ByteArray) (w:Y):
  (binOp .eql 36 (.agg #[I J k1,I J n1,Q s1]) (.agg #[I J k2,I J n2,Q s2])).run Tryz.prog w=.ok (.bool (k1==k2&&(n1==n2&&s1.toList==s2.toList))) w:=by
 rw[run_eql_struct];cases h1:(k1==k2)<;>cases h2:(n1==n2)<;>cases h3:(s1.toList==s2.toList)<;>go_simp
theorem Ag2 (x y:Sc):((x.kind:Int)==(y.kind:Int)&&((x.num:Int)==(y.num:Int)&&x.str.toList==y.str.toList))=decide (x=y):=by
 rw[Lib.toList_data,Lib.toList_data,Bool.eq_iff_iff];simp only[Bool.and_eq_true,beq_iff_eq,decide_eq_true_eq]
 constructor
 ·rintro⟨h1,h2,h3⟩;exact KH (by simp[Jf,h1,h2,h3])
 ·rintro rfl;exact⟨rfl,rfl,rfl⟩
def CR (x:Sc):List Value:=[I J x.kind,I J x.num,Q x.str]
def Om (w:Y) (v:Value) (ts:List Sc):Prop:=
 ∃ (A:Option Addr) (cap:Nat),v=Z A ts.length cap/\∀ k,k<ts.length->∃ (b o:Nat),A=F ⟨b,o,O⟩/\b<w.heap.size∧
  w.cell? ⟨b,o+k*3,O⟩=F (I J (ts.getD k AJ).kind)/\w.cell? ⟨b,o+k*3+1,O⟩=F (I J (ts.getD k AJ).num)/\w.cell? ⟨b,o+k*3+2,O⟩=F (Q (ts.getD k AJ).str)
theorem Om.nil (w:Y):Om w (Z O 0 0) []:=⟨O,0,rfl,fun k h=>by simp at h⟩
theorem Om.below {w w':Y} {v:Value} {ts:List Sc} (h:Om w v ts) (hb:Below w.heap.size w w'):Om w' v ts:=by
 obtain⟨A,cap,hv,hc⟩:=h;refine⟨A,cap,hv,fun k hk=>?_⟩;obtain⟨b,o,ha,hlt,h0,h1,h2⟩:=hc k hk;exact⟨b,o,ha,Nat.lt_of_lt_of_le hlt hb.size,(hb.cell (p:=⟨b,o+k*3,O⟩) hlt).trans h0,(hb.cell (p:=⟨b,o+k*3+1,O⟩) hlt).trans h1,(hb.cell (p:=⟨b,o+k*3+2,O⟩) hlt).trans h2⟩
end
section
theorem Pw:∀ ts:List Sc,(ts.flatMap CR).length=ts.length*3
 | []=>rfl
 | t::r=>by rw[List.flatMap_cons,List.length_append,Pw r];simp[CR];omega
theorem SL:∀ (ts:List Sc) (k:Nat),k<ts.length->(ts.flatMap CR)[k*3]? =F (I J (ts.getD k AJ).kind)/\(ts.flatMap CR)[k*3+1]? =F (I J (ts.getD k AJ).num)/\(ts.flatMap CR)[k*3+2]? =F (Q (ts.getD k AJ).str)
 | [],k,h=>by simp at h
 | t::r,0,h=>⟨rfl,rfl,rfl⟩
 | t::r,k+1,h=>by
  have:=SL r k (by simpa using h);rw[List.flatMap_cons,show(k+1)*3=3+k*3 by omega];have e:∀ j,(CR t++r.flatMap CR)[3+j]? =(r.flatMap CR)[j]? :=fun j=>by
   rw[List.getElem?_append_right (by simp[CR])];simp[CR]
  rw[show 3+k*3+1=3+(k*3+1) by omega,show 3+k*3+2=3+(k*3+2) by omega,e,e,e];exact this
end
section
def OkT (l:List UInt8) (p d k:Nat) (t:List UInt8) (tq d':Nat):Prop:=
 p<tq/\tq<=l.length/\1<=k/\k<=11/\(4<k->t=[])/\((k=8\/k=10)/\d'=d+1\/(k=9\/k=11)/\d=d'+1\/(k<=7/\d'=d))/\(k=7->0<d)/\(k=5->d=0)
theorem Js {l:List UInt8} {p d k tq d':Nat} {t:List UInt8} (hp:p<=l.length) (h:CM l p d=.ok k t tq d'):OkT l p d k t tq d':=by
 obtain⟨rfl,rfl,h3,h4,h5,h6,h7⟩:=Yu hp h;exact⟨h6,h7,by omega,by omega,by omega,by omega,by omega,by omega⟩
theorem Ku {l:List UInt8} {p d k tq d':Nat} {t:List UInt8} (hv:validD l=true) (hp:p<l.length) (h:Dx l p d=.ok k t tq d'):OkT l p d k t tq d':=by
 unfold Dx Ql at h;split at h
 ·rename_i hc;obtain⟨q,hq,hq8⟩:=PN hp hc;unfold Ht at h;split at h
  ·rename_i he;have:=Ug hq hq8 hv he;split at h
   ·injection h with h1 h2 h3 h4;subst h1 h2 h3 h4;exact⟨by omega,by omega,by omega,by omega,by omega,by omega,by omega,by omega⟩
   ·cases h
  ·cases h
 ·split at h
  ·unfold Jv at h;split at h
   ·rename_i hn;injection h with h1 h2 h3 h4;subst h1 h2 h3 h4;have hle:(nameOf l p).length<=(l.drop (p+1)).length:=(List.takeWhile_prefix _).length_le;rw[List.length_drop] at hle;refine⟨by omega,by omega,by split<;>omega,by split<;>omega,fun hk=>by split at hk<;>omega,?_,fun hk=>by split at hk<;>omega,fun hk=>by split at hk<;>omega⟩;refine .inr (.inr ⟨by split<;>omega,rfl⟩)
   ·cases h
  ·split at h
   ·unfold Hw at h;split at h
    ·split at h
     ·cases h
     ·injection h with h1 h2 h3 h4;subst h1 h2 h3 h4;exact⟨by omega,by omega,by omega,by omega,fun _=>rfl,by omega,by omega,by omega⟩
    ·exact Js (by omega) h
   ·split at h
    ·unfold Fp at h;split at h
     ·injection h with h1 h2 h3 h4;subst h1 h2 h3 h4;exact⟨by omega,by omega,by omega,by omega,fun _=>rfl,by omega,by omega,by omega⟩
     ·exact Js (by omega) h
    ·split at h
     ·injection h with h1 h2 h3 h4;subst h1 h2 h3 h4;refine⟨by omega,by omega,by split<;>omega,by split<;>omega,fun _=>rfl,.inl ⟨by split<;>simp,rfl⟩,fun hk=>by split at hk<;>omega,fun hk=>by split at hk<;>omega⟩
     ·split at h
      ·unfold Eu at h;split at h
       ·cases h
       ·split at h
        ·injection h with h1 h2 h3 h4;subst h1 h2 h3 h4;exact⟨by omega,by omega,by omega,by omega,fun _=>rfl,by omega,by omega,by omega⟩
        ·injection h with h1 h2 h3 h4;subst h1 h2 h3 h4;refine⟨by omega,by omega,by split<;>omega,by split<;>omega,fun _=>rfl,.inr (.inl ⟨by split<;>simp,by omega⟩),fun hk=>by split at hk<;>omega,fun hk=>by split at hk<;>omega⟩
      ·exact Js (by omega) h
theorem Hl {l:List UInt8} (hv:validD l=true):∀ (f g p d:Nat),l.length<f+p->l.length<g+p->DI l f p d=DI l g p d
 | 0,0,p,d,_,_=>rfl
 | 0,g+1,p,d,hf,_=>by unfold DI;rw[if_pos (by omega)]
 | f+1,0,p,d,_,hg=>by unfold DI;rw[if_pos (by omega)]
 | f+1,g+1,p,d,hf,hg=>by
  unfold DI;split
  ·rfl
  ·rename_i hp;split
   ·exact Hl hv f g (p+1) d (by omega) (by omega)
   ·split
    ·rfl
    ·cases ho:Dx l p d with
     | bad e=>rfl
     | ok k t tq d'=>
      have:=Ku hv (by omega) ho;exact congrArg _ (Hl hv f g tq d' (by have:=this.1;omega) (by have:=this.1;omega))
theorem EB {l:List UInt8} (hv:validD l=true) {f p:Nat} (d:Nat) (h:l.length<f+p):BH l p d=DI l f p d:=by
 unfold BH;rcases Nat.lt_or_ge l.length p with h1 | h1
 ·rw[show l.length+1 - p=0 by omega];exact Hl hv 0 f p d (by omega) h
 ·exact Hl hv _ f p d (by omega) h
theorem IE {l:List UInt8} {p:Nat} (d:Nat) (h:l.length<=p):BH l p d=[]:=by
 unfold BH;cases hn:l.length+1 - p with
 | zero=>rfl
 | succ n=>unfold DI;rw[if_pos h]
theorem Gn {l:List UInt8} (hv:validD l=true) {p d:Nat} (hp:p<l.length) (h:Cg l p [32]=true):BH l p d=BH l (p+1) d:=by
 rw[EB hv d (f:=l.length+1) (by omega),EB hv (p:=p+1) d (f:=l.length) (by omega)];show(if l.length<=p then [] else _)=_;rw[if_neg (by omega),if_pos h]
theorem Nj {l:List UInt8} (hv:validD l=true) {p d:Nat} (hp:p<l.length) (h:Cg l p [32]=false) (hn:BA l p=true):BH l p d=[]:=by
 rw[EB hv d (f:=l.length+1) (by omega)];show(if l.length<=p then [] else _)=_;rw[if_neg (by omega),h,if_neg (by decide),if_pos hn]
theorem DH {l:List UInt8} (hv:validD l=true) {p d k tq d':Nat} {t:List UInt8} (hp:p<l.length) (h:Cg l p [32]=false) (hn:BA l p=false) (ho:Dx l p d=.ok k t tq d'):BH l p d=.tok k t p::BH l tq d':=by
 rw[EB hv d (f:=l.length+1) (by omega),EB hv (p:=tq) d' (f:=l.length) (by have:=(Ku hv hp ho).1;omega)];show(if l.length<=p then [] else _)=_;rw[if_neg (by omega),h,if_neg (by decide),hn,if_neg (by decide),ho]
theorem YJ {l:List UInt8} (hv:validD l=true) {p d e:Nat} (hp:p<l.length) (h:Cg l p [32]=false) (hn:BA l p=false) (ho:Dx l p d=.bad e):BH l p d=[.bad e p]:=by
 rw[EB hv d (f:=l.length+1) (by omega)];show(if l.length<=p then [] else _)=_;rw[if_neg (by omega),h,if_neg (by decide),hn,if_neg (by decide),ho]
def J7:TP->Tk
 | .tok k t p=>⟨k,t,p⟩
 | .bad e p=>⟨0,[],0⟩
def DK:List TP->Option (Nat×Nat)
 | []=>O
 | .tok _ _ _::r=>DK r
 | .bad e p::_=>F (e,p)
theorem FZ:∀ (ps:List TP) (acc:List Tk),Jb ps acc=match DK ps with | some (e,p)=>([],p,e) | none=>(acc++ps.map J7,0,0)
 | [],acc=>by simp[Jb,DK]
 | .tok k t p::r,acc=>by
  unfold Jb DK;rw[FZ r];cases DK r with
  | some x=>rfl
  | none=>simp[J7]
 | .bad e p::r,acc=>rfl
theorem Jy {l:List UInt8} {f p d:Nat} (hp:p<l.length):DI l (f+1) p d=if Cg l p [32] then DI l f (p+1) d else if BA l p then [] else match Dx l p d with
  | .ok k t tq d'=>.tok k t p::DI l f tq d'
  | .bad e=>[.bad e p]:=by
 show(if l.length<=p then [] else _)=_;rw[if_neg (by omega)];rfl
theorem MP {l:List UInt8} {f p d:Nat} (hp:l.length<=p):DI l f p d=[]:=by
 cases f with
 | zero=>rfl
 | succ f=>unfold DI;rw[if_pos hp]
def ZO (n:Nat):Int->Nat->List Tk->Prop
 | _,_,[]=>True
 | last,d,t::r=>last<(t.at_:Int)/\t.at_<n/\1<=t.kind/\t.kind<=11/\(4<t.kind->t.str=[])∧
   ∃ d',((t.kind=8\/t.kind=10)/\d'=d+1\/(t.kind=9\/t.kind=11)/\d=d'+1\/(t.kind<=7/\d'=d))/\(t.kind=7->0<d)/\(t.kind=5->d=0)/\ZO n (t.at_:Int) d' r
theorem I5 {l:List UInt8} (hv:validD l=true):∀ (f p d:Nat) (last:Int),last<(p:Int)->DK (DI l f p d)=O->ZO l.length last d ((DI l f p d).map J7)
 | 0,p,d,last,hl,_=>trivial
 | f+1,p,d,last,hl,h=>by
  rcases Nat.lt_or_ge p l.length with hp | hp
  ·rw[Jy hp] at h |-;split
   ·rename_i hb;rw[if_pos hb] at h;exact I5 hv f (p+1) d last (by omega) h
   ·rename_i hb;rw[if_neg hb] at h;split
    ·trivial
    ·rename_i hn;rw[if_neg hn] at h;cases ho:Dx l p d with
     | ok k t tq d'=>
      rw[ho] at h;obtain⟨h1,h2,h3,h4,h5,h6,h7,h8⟩:=Ku hv hp ho;exact⟨hl,hp,h3,h4,h5,d',h6,h7,h8,I5 hv f tq d' p (by omega) h⟩
     | bad e=>rw[ho] at h;simp[DK] at h
  ·rw[MP hp];trivial
theorem Agm (l:List UInt8) {p:Nat} (h:p<l.length):p+1+(nameOf l p).length<=l.length:=by
 have hle:(nameOf l p).length<=(l.drop (p+1)).length:=(List.takeWhile_prefix _).length_le;rw[List.length_drop] at hle;omega
theorem B0 (c:UInt8) (hc:c.toNat<128) (m:List UInt8):∀ (n:Nat) (l:List UInt8),l.length<=n->validD (l++c::m)=true->validD l=true
 | _,[],_,_=>rfl
 | 0,d::t,h,_=>by simp at h
 | n+1,d::t,h,hv=>by
  have hne:d::t++c::m≠[]:=by simp
  have hb:¬((decodeL (d::t++c::m)).1=65533/\(decodeL (d::t++c::m)).2=1):=fun h=>by rw[validD_step _ hne,if_pos h] at hv;cases hv
  have he:=encode_decode _ hne hb;have hvr:=ER _ hne hb;have hw:=decodeL_width (d::t++c::m);have hle:=decodeL_le _ hne;have hk:(decodeL (d::t++c::m)).2<=(d::t).length:=by
   rcases Nat.lt_or_ge (d::t).length (decodeL (d::t++c::m)).2 with h1 | h1
   ·exfalso;have hmem:c∈encodeRune ((decodeL (d::t++c::m)).1:Int):=by
     rw[he,List.take_append];obtain⟨j,hj⟩:∃ j,(decodeL (d::t++c::m)).2 - (d::t).length=j+1:=⟨_,(Nat.succ_pred (by omega)).symm⟩
     rw[hj,List.take_succ_cons];simp
    by_cases h2:128<=((decodeL (d::t++c::m)).1:Int)
    ·have:=MM _ h2 c hmem;omega
    ·have hd:d.toNat<128:=by
      rcases Nat.lt_or_ge d.toNat 128 with h3 | h3
      ·exact h3
      ·have:=E7 d (t++c::m) h3;simp only[List.cons_append] at h2;omega
     rw[List.cons_append,decodeL_ascii d _ hd] at h1;simp at h1
   ·exact h1
  have hsg:PH ((decodeL (d::t++c::m)).1:Int)=true:=by
   unfold Lib.validRune at hvr;rw[decide_eq_true_eq] at hvr;rw[GT];omega
  have hx:=Gy _ hsg ((d::t).drop (decodeL (d::t++c::m)).2);rw[he,List.take_append_of_le_length hk,List.take_append_drop,List.length_take,Nat.min_eq_left hk] at hx;have hv2:=Cu _ hne hv;rw[List.drop_append_of_le_length hk] at hv2;have ih:=B0 c hc m n _ (by rw[List.length_drop];have h2:(d::t).length<=n+1:=h;omega) hv2;rw[validD_step (d::t) (by simp),hx,if_neg (by simpa using hb)];simpa using ih
end
end Go.Proofs.YtdpppepmkeinaaaGreatDoor
