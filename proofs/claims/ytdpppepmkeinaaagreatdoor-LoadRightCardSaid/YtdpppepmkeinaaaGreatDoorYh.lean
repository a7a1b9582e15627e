/- What is proved: a part of the walk of the program and of its plain laws; no condition beside those that each theorem names. -/
import Derived.Test.YtdpppepmkeinaaaGreatDoorYa
import Derived.Test.YtdpppepmkeinaaaGreatDoorYg
import Derived.Laws.EntriesVeiled
import Derived.RegionTactic
import Derived.Stop.RegionWithIn
namespace Go.Proofs.YtdpppepmkeinaaaGreatDoor
open Go Go.RowKit Go.Lib
open Go.Value renaming int->I,string->Q,slice->Z
open Go.IntKind renaming i64->J
open Option renaming none->O,some->F
open _root_.Go renaming World->Y
set_option linter.unusedSimpArgs false
set_option linter.unusedVariables false
set_option linter.unusedSectionVars false
section
set_option maxRecDepth 100000
set_option maxHeartbeats 4000000
theorem G5 {w w':Y} {o:Obj} (h:w'=w.alloc o):Below w.heap.size w w':=by rw[h];exact(Bq _ _).alloc Nr _
theorem Hg {w w':Y} {o:Obj} (h:w'=w.alloc o):w'.heap[w.heap.size]? =F o:=by rw[h];exact Wn _ _
abbrev Lh (R f:Nat):Value:=.iface 323 (.func (.func f) #[.pointer (F ⟨R,0,O⟩)] #[])
def X4 (R:Nat):List (Int×Value):=[(34,(Lh R 250)),(39,(Lh R 250)),(38,(Lh R 251)),(42,(Lh R 251)),(45,(Lh R 252)),(58,(Lh R 253)),(91,(Lh R 254)),(123,(Lh R 254)),(44,(Lh R 255)),(93,(Lh R 255)),(125,(Lh R 255))]
def NC (R k:Nat):Obj:=AZ K1 ((X4 R).take k)
theorem BI (R:Nat) (w:Y) (k:Nat) (a:Int) (v:Value) (h:AN a ((X4 R).take k)=O) (hk:(X4 R).take (k+1)=(X4 R).take k++[(a,v)]):
  (Instr.mapUpdate 369 (.map (F w.heap.size)) (.int .u8 a) v).run Tryz.prog (w.alloc (NC R k))=.ok () (w.alloc (NC R (k+1))):=by
 unfold NC;rw[hk];have:=Ed (P:=Tryz.prog) (enc:=K1) US OV (t:=369) (k:=5) (e:=20) (w:=w.alloc (AZ K1 ((X4 R).take k))) (l:=(X4 R).take k) Tryz.underlying369 Tryz.underlying5 (Wn w _) a v h;rw[Fq] at this;exact this
theorem VR (R:Nat) (c:Int) (w:Y) (b:Nat) (hb:w.heap[b]? =F (NC R 11)):
  (Instr.lookup 369 (.map (F b)) (.int .u8 c) true).run Tryz.prog w=.ok (.tuple #[(AN c (X4 R)).getD .nilIface,.bool (AN c (X4 R)).isSome]) w:=
 CE (P:=Tryz.prog) (enc:=K1) US OV (k:=5) (e:=20) (l:=X4 R) (z:=.nilIface) Tryz.underlying369 Tryz.underlying5 (by kernel_rfl) hb c true
theorem JL (R:Nat) (w:Y):
  Calls Tryz.prog 223 #[.pointer (F ⟨R,0,O⟩)] w fun e w'=>e=.returned (.map (F w.heap.size))/\w'=w.alloc (NC R 11):=by
 have hmm:=@run_makeMap Tryz.prog;have h0:=BI R w 0 34 (Lh R 250) (by rfl) rfl;rw[show NC R 0=.map #[] 0 from rfl] at h0;have h1:=BI R w 1 39 (Lh R 250) (by rfl) rfl;have h2:=BI R w 2 38 (Lh R 251) (by rfl) rfl;have h3:=BI R w 3 42 (Lh R 251) (by rfl) rfl;have h4:=BI R w 4 45 (Lh R 252) (by rfl) rfl;have h5:=BI R w 5 58 (Lh R 253) (by rfl) rfl;have h6:=BI R w 6 91 (Lh R 254) (by rfl) rfl;have h7:=BI R w 7 123 (Lh R 254) (by rfl) rfl;have h8:=BI R w 8 44 (Lh R 255) (by rfl) rfl;have h9:=BI R w 9 93 (Lh R 255) (by rfl) rfl;have h10:=BI R w 10 125 (Lh R 255) (by rfl) rfl;go_enter Tryz.func223,Tryz.ntmps223;go_wp2;go_ret;exact⟨rfl,rfl⟩
theorem VX (v:Value) (w:Y):(Instr.typeAssert (.iface 323 v) 20 323 false).run Tryz.prog w=.ok v w:=by kernel_rfl
theorem J1 (f:Nat) (eg:∀ args w,(callFunc f args).run Tryz.prog w=.ok (.enter f args) w) (R:Nat) (s:ByteArray) (p d:Nat) (w:Y) (hs:s.size<=1000000) (hp:p<s.size) (hR:RA w R s p d) (hTab:GU R w) (c:UInt8) (hc:s[p]'hp=c) (hA:AN (c.toNat:Int) (X4 R)=F (Lh R f)) (r:TR)
  (hF:∀ wx,RA wx R s p d->GU R wx->Calls Tryz.prog f #[.pointer (F ⟨R,0,O⟩)] wx (A5 R s p r wx)):
  Calls Tryz.prog 189 #[.pointer (F ⟨R,0,O⟩)] w (A5 R s p r w):=by
 have HA:=hid hA;clear hA;have hlt:=hR.lt;have hta:=VX;have hpi:(p:Int)<(s.size:Int):=by omega
 have hS:=Sx.new hR;go_enter Tryz.func189,Tryz.ntmps189;go_wp2;replace hS:=hS.below (Bq _ _).drew;refine wp_region_noPanic ?_;refine wR 19 (S:=(fun w'=>w'.cell? ⟨R,0,O⟩=F (Q s)/\w'.cell? ⟨R,1,O⟩=F (I J p))) rfl ?_ (fun hHeld=>?_)
 ·(try dsimp only);exact⟨hS.ra.cells.1,hS.ra.cells.2.1⟩
 simp only[gR]
 refine wN hHeld ?_;try simp only[gS]
 refine wI 2 hHeld ?_;try simp only[gS]
 refine wI 3 hHeld ?_;try simp only[gS]
 refine wI 4 hHeld ?_;try simp only[gS]
 refine wI 5 hHeld ?_;try simp only[gS]
 refine wI 6 hHeld ?_;try simp only[gS]
 refine wI 7 hHeld ?_;try simp only[gS]
 refine wI 8 hHeld ?_;try simp only[gS]
 refine wI 9 hHeld ?_;try simp only[gS]
 refine wI 10 hHeld ?_;try simp only[gS]
 refine wI 11 hHeld ?_;try simp only[gS]
 refine wI 12 hHeld ?_;try simp only[gS]
 refine wB 1 rfl (fun K hK=>?_);go_simp;refine(JL R _).mono ?_;rintro e wz ⟨rfl,hwz⟩;have hb:=G5 hwz;replace hS:=hS.below hb;have hMap:=VR R (c.toNat:Int) wz _ (Hg hwz);rw[HA.out] at hMap
 (have hz:(((w.alloc (.cells #[I J 0,Q ⟨#[]⟩,I J 0] 287)).drew).heap.size)=w.heap.size+1:=World.size_alloc _ _)
 try rw[hz] at hMap
 clear hwz hb hz;try go_wp2_with fail
 refine hK.out _ _ ?_ (fun hHeld2=>?_)
 ·(try dsimp only);exact⟨hS.ra.cells.1,hS.ra.cells.2.1⟩
 clear hK K hHeld;have hHeld:=hHeld2;clear hHeld2;try simp only[gS]
 refine wB 13 rfl (fun K hK=>?_)
 skip
 go_simp;refine hK.out _ _ ?_ (fun hHeld2=>?_)
 ·(try dsimp only);exact⟨hS.ra.cells.1,hS.ra.cells.2.1⟩
 clear hK K hHeld;have hHeld:=hHeld2;clear hHeld2;try simp only[gS]
 iterate 5 (refine wN hHeld ?_;try simp only[gS])
 refine wpAnyH_done (by kernel_rfl) ?_ _;refine NoPanic.normal ?_;clear hMap;go_wp2_with fail;refine(hF _ hS.ra (hTab.mod hS.md)).mono ?_;rintro e w2 hQ;clear hF;cases r with
 | ok k t q d'=>
  obtain⟨rfl,hr2,hm2⟩:=hQ;replace hS:=hS.mod hlt hr2 hm2;clear hr2 hm2;obtain⟨n0,n1,n2,g0,g1,g2⟩:=hS.cells;unfold BG;go_wp2;obtain⟨e0,e1,e2,e3,e4⟩:=hS.fin hlt (I J k) (Q ⟨t.toArray⟩) (I J p);refine bodyPost_ret (v:=.tuple #[BG ⟨k,t,p⟩,.nilIface]) (by simp[results,Tryz.results189,go_sem,BG,e0,e1,e2]) rfl (A5.ok rfl rfl e3 e4)
 | bad er=>
  obtain⟨rfl,hm2⟩:=hQ;have hZ:=hS.sz hlt hm2;clear hS hm2;obtain⟨n0,n1,n2,g0,g1,g2⟩:=hZ.cells;unfold BG;go_wp2;obtain⟨e0,e1,e2,e4⟩:=hZ.fin (I J 0) (Q ⟨#[]⟩) (I J 0);refine bodyPost_ret (v:=.tuple #[BG ⟨0,[],0⟩,.iface 325 (.agg #[I J er])]) (by simp[results,Tryz.results189,go_sem,BG,e0,e1,e2]) rfl (A5.bad rfl rfl e4)
theorem Agy (R:Nat) (s:ByteArray) (p d:Nat) (w:Y) (hs:s.size<=1000000) (hp:p<s.size) (hR:RA w R s p d) (hTab:GU R w) (c:UInt8) (hc:s[p]'hp=c) (hA:AN (c.toNat:Int) (X4 R)=O) (r:TR)
  (hF:∀ wx,RA wx R s p d->GU R wx->Calls Tryz.prog 224 #[.pointer (F ⟨R,0,O⟩)] wx (A5 R s p r wx)):
  Calls Tryz.prog 189 #[.pointer (F ⟨R,0,O⟩)] w (A5 R s p r w):=by
 have HA:=hid hA;clear hA;have hlt:=hR.lt;have hpi:(p:Int)<(s.size:Int):=by omega
 have hS:=Sx.new hR;go_enter Tryz.func189,Tryz.ntmps189;go_wp2;replace hS:=hS.below (Bq _ _).drew;refine wp_region_noPanic ?_;refine wR 19 (S:=(fun w'=>w'.cell? ⟨R,0,O⟩=F (Q s)/\w'.cell? ⟨R,1,O⟩=F (I J p))) rfl ?_ (fun hHeld=>?_)
 ·(try dsimp only);exact⟨hS.ra.cells.1,hS.ra.cells.2.1⟩
 simp only[gR]
 refine wN hHeld ?_;try simp only[gS]
 refine wI 2 hHeld ?_;try simp only[gS]
 refine wI 3 hHeld ?_;try simp only[gS]
 refine wI 4 hHeld ?_;try simp only[gS]
 refine wI 5 hHeld ?_;try simp only[gS]
 refine wI 6 hHeld ?_;try simp only[gS]
 refine wI 7 hHeld ?_;try simp only[gS]
 refine wI 8 hHeld ?_;try simp only[gS]
 refine wI 9 hHeld ?_;try simp only[gS]
 refine wI 10 hHeld ?_;try simp only[gS]
 refine wI 11 hHeld ?_;try simp only[gS]
 refine wI 12 hHeld ?_;try simp only[gS]
 refine wB 1 rfl (fun K hK=>?_);go_simp;refine(JL R _).mono ?_;rintro e wz ⟨rfl,hwz⟩;have hb:=G5 hwz;replace hS:=hS.below hb;have hMap:=VR R (c.toNat:Int) wz _ (Hg hwz);rw[HA.out] at hMap
 (have hz:(((w.alloc (.cells #[I J 0,Q ⟨#[]⟩,I J 0] 287)).drew).heap.size)=w.heap.size+1:=World.size_alloc _ _)
 try rw[hz] at hMap
 clear hwz hb hz;try go_wp2_with fail
 refine hK.out _ _ ?_ (fun hHeld2=>?_)
 ·(try dsimp only);exact⟨hS.ra.cells.1,hS.ra.cells.2.1⟩
 clear hK K hHeld;have hHeld:=hHeld2;clear hHeld2;try simp only[gS]
 refine wB 13 rfl (fun K hK=>?_)
 skip
 go_simp;refine hK.out _ _ ?_ (fun hHeld2=>?_)
 ·(try dsimp only);exact⟨hS.ra.cells.1,hS.ra.cells.2.1⟩
 clear hK K hHeld;have hHeld:=hHeld2;clear hHeld2;try simp only[gS]
 iterate 5 (refine wN hHeld ?_;try simp only[gS])
 refine wpAnyH_done (by kernel_rfl) ?_ _;refine NoPanic.normal ?_;clear hMap;go_wp2_with fail;refine(hF _ hS.ra (hTab.mod hS.md)).mono ?_;rintro e w2 hQ;clear hF;cases r with
 | ok k t q d'=>
  obtain⟨rfl,hr2,hm2⟩:=hQ;replace hS:=hS.mod hlt hr2 hm2;clear hr2 hm2;obtain⟨n0,n1,n2,g0,g1,g2⟩:=hS.cells;unfold BG;go_wp2;obtain⟨e0,e1,e2,e3,e4⟩:=hS.fin hlt (I J k) (Q ⟨t.toArray⟩) (I J p);refine bodyPost_ret (v:=.tuple #[BG ⟨k,t,p⟩,.nilIface]) (by simp[results,Tryz.results189,go_sem,BG,e0,e1,e2]) rfl (A5.ok rfl rfl e3 e4)
 | bad er=>
  obtain⟨rfl,hm2⟩:=hQ;have hZ:=hS.sz hlt hm2;clear hS hm2;obtain⟨n0,n1,n2,g0,g1,g2⟩:=hZ.cells;unfold BG;go_wp2;obtain⟨e0,e1,e2,e4⟩:=hZ.fin (I J 0) (Q ⟨#[]⟩) (I J 0);refine bodyPost_ret (v:=.tuple #[BG ⟨0,[],0⟩,.iface 325 (.agg #[I J er])]) (by simp[results,Tryz.results189,go_sem,BG,e0,e1,e2]) rfl (A5.bad rfl rfl e4)
end
section
def Afh {α:Type} (bad:List α->Prop) (P:Program) (gf:Nat) (lb:Array Value) (encs:α->Array Value) (C:Nat->Prop) (n₀:Nat) (xs:List α) (St:Y->Prop):Prop:=
 ∀ (l:Nat) (Jz Jx:List α->Y->Prop) (W:Y),St W->(∀ s X Yz,Jz s X->Ah C W.heap.size X Yz->Jz s Yz)->(∀ s X Yz,Jx s X->Ah C W.heap.size X Yz->Jx s Yz)->(∀ s X,bad s->¬Jz s X)→
  (∀ pre x W1,Jz pre W1->pre++[x]<+:xs->YieldAt Fence.wide 0 P l (encs x) W1 fun e W'=>
   (e=.returned (.bool true)/\Jz (pre++[x]) W'/\Ae Obj.isWalk C n₀ W1 W')\/(e=.returned (.bool false)/\Jx (pre++[x]) W'/\Ae Obj.isWalk C n₀ W1 W'))→
  Jz [] W→
  CallsIn Fence.wide 0 P gf (#[.func (.yield l) #[] #[]]++lb) W fun e W'=>(∃ v,e=.returned v)/\(Jz xs W'\/∃ pre,pre<+:xs/\Jx pre W')
variable {P:Program}
theorem Me {α:Type} {bad:List α->Prop} {g:Operand} {ps:Array Tmp} {assign body:Code} {Qz:Exit->Act->Y->Prop} {a:Act} {w:Y}
  {gf:Nat} {lb:Array Value} (hg:a.eval g=.func (.func gf) #[] lb) (eg:∀ args w,(callFunc gf args).run P w=.ok (.enter gf args) w)
  {encs:α->Array Value} {C:Nat->Prop} {n₀:Nat} {xs:List α} {St:Y->Prop} (hseq:Afh bad P gf lb encs C n₀ xs St)
  (hst:∀ Yz,Below w.heap.size w Yz->St Yz) (hC:∀ k,C k->k<w.heap.size) (hn:n₀<=w.heap.size) (hps:∀ x,(encs x).size=ps.size)
  (Iz:List α->Y->Prop) (Ix:Code->List α->Y->Prop) (hI:∀ s X Yz,Iz s X->Ah C w.heap.size X Yz->Iz s Yz) (hIx:∀ c s X Yz,Ix c s X->Ah C w.heap.size X Yz->Ix c s Yz) (hbad:∀ s X,bad s->¬Iz s X) (h0:Iz [] w)
  (hround:∀ (l:Nat) (pre:List α) (x:α) (W:Y),w.heap.size<=l->Iz pre W->pre++[x]<+:xs→
   assign.wpIn (Fence.wide.inRound l) 0 P (Exit.then (fun a' W'=>Ae Ar C n₀ W W'/\∀ Wb,Ah C w.heap.size W' Wb->(∃ r,Wb.heap[l]? =F (.loop r))->body.wpIn (Fence.wide.inRound l) 0 P (Yg C n₀ Iz Ix (pre++[x]) Wb) a' Wb) (fun _ _ _=>False))
    {tmps:=(ps.zip (encs x)).foldl (fun t (p,v)=>t.setIfInBounds p v) a.tmps,defers:=[]} W)
  (hdone:∀ (D:Nat) (W:Y),w.heap.size<=D->Iz xs W->W.heap[D]? =F (.deferred (F []))->Qz .normal {a with defers:={target:=.collected D,args:=#[]}::a.defers} W)
  (hstop:∀ (D:Nat) (c:Code) (pre:List α) (W:Y),w.heap.size<=D->pre<+:xs->Ix c pre W->W.heap[D]? =F (.deferred (F []))->c.wpIn Fence.wide 0 P Qz {a with defers:={target:=.collected D,args:=#[]}::a.defers} W):
  (Code.rangeFunc g ps assign body).wpIn Fence.wide 0 P Qz a w:=by
 refine wpIn_rangeFunc (fun fn hfn=>?_);obtain⟨rec,hrec⟩:∃ rec:LoopState->Option Code->Loop,rec=fun st pe=>{state:=st,pending:=pe,fn,tmps:=a.tmps,params:=ps,assign,body,defers:=w.heap.size}:=⟨_,rfl⟩
 obtain⟨W1,hW1⟩:∃ W1,(w.alloc (.deferred (F []))).alloc (.loop (rec .ready O))=W1:=⟨_,rfl⟩
 have hz1:W1.heap.size=w.heap.size+1+1:=by rw[<- hW1];simp
 have hL1:W1.heap[w.heap.size+1]? =F (.loop (rec .ready O)):=by
  rw[<- hW1];have:=Wn (w.alloc (.deferred (F []))) (.loop (rec .ready O));rwa [World.size_alloc] at this
 have hD1:W1.heap[w.heap.size]? =F (.deferred (F [])):=by
  rw[<- hW1];exact(Below.heap_alloc _ _ _ (by simp)).trans (Wn w _)
 have hB1:Below w.heap.size w W1:=by
  rw[<- hW1];exact((Bq _ w).alloc Nr _).alloc (by simp) _
 have hI1:Iz [] W1:=by rw[<- hW1];exact hI _ _ _ (hI _ _ _ h0 (Ah.alloc _ _)) (Ah.alloc _ _)
 have hCl:¬C (w.heap.size+1):=fun h=>by have:=hC _ h;omega
 have hCD:¬C w.heap.size:=fun h=>by have:=hC _ h;omega
 refine⟨w.heap.size+1,[{target:=.collected w.heap.size,args:=#[]}],W1,{target:=.fn (.func gf) lb,args:=#[.func (.yield (w.heap.size+1)) #[] #[]]},W1,gf,
  #[.func (.yield (w.heap.size+1)) #[] #[]]++lb,W1,?_,?_,?_,?_,fun h=>by simp[Fence.wide] at h,?_⟩
 ·rw[<- hW1,hrec];exact run_enterLoop_outer _ _ _ _ _
 ·simp only[resolve,hg]
  simp[go_sem]
 ·intro f' _;trivial
 ·simp[invoke,go_sem,eg]
 refine(hseq (w.heap.size+1)
  (fun pre W=>Iz pre W/\W.heap[w.heap.size+1]? =F (.loop (rec .ready O))/\W.heap[w.heap.size]? =F (.deferred (F [])))
  (fun pre W=>∃ c,Ix c pre W/\W.heap[w.heap.size+1]? =F (.loop (rec .done (F c)))/\W.heap[w.heap.size]? =F (.deferred (F [])))
  W1 (hst _ hB1)
  (fun s X Yz hs ht=>⟨hI _ _ _ hs.1 (ht.mono (by omega)),ht.old hs.2.1 hCl (by omega),ht.old hs.2.2 hCD (by omega)⟩)
  (fun s X Yz hs ht=>by
   obtain⟨c,hc,hl,hk⟩:=hs;exact⟨c,hIx _ _ _ _ hc (ht.mono (by omega)),ht.old hl hCl (by omega),ht.old hk hCD (by omega)⟩)
  (fun s X hb hj=>hbad s X hb hj.1) ?_ ⟨hI1,hL1,hD1⟩).mono ?_
 ·rintro pre x W ⟨hi,hl,hk⟩ hpre;have hy:=run_yield (P:=P) (args:=encs x) hl (by rw[hrec];exact hps x);rw[hrec] at hy;refine⟨fn,_,assign,body,hy,roundIn_of_wpIn hfn (wpIn_mono (hround _ pre x W (by omega) hi hpre) ?_)⟩;clear hy;intro e0 a' Wa he0;cases e0 with
  | normal=>?_
  | _=>exact he0.elim
  obtain⟨hka,hbd⟩:=he0;have hla:Wa.heap[w.heap.size+1]? =F (.loop (rec .ready O)):=hka.heap hl (.inr (.inr rfl));have hDa:Wa.heap[w.heap.size]? =F (.deferred (F [])):=hka.heap hk (.inr (.inr rfl));have hlt:w.heap.size+1<Wa.heap.size:=(Gl hla)
  refine⟨_,run_beginRound hla (by rw[hrec]),?_⟩;obtain⟨Wb,hWb⟩:∃ Wb,Wa.putObj (w.heap.size+1) (.loop {rec .ready O with state:=.busy})=Wb:=⟨_,rfl⟩
  have hl2:Wb.heap[w.heap.size+1]? =F (.loop {rec .ready O with state:=.busy}):=by rw[<- hWb];exact World.putObj_heap_same hlt
  have hD2:Wb.heap[w.heap.size]? =F (.deferred (F [])):=by rw[<- hWb];exact(World.putObj_heap_other (by omega)).trans hDa
  have hk2:Ae Obj.isWalk C n₀ Wa Wb:=by rw[<- hWb];exact Ae.putObj _ hla (by omega) hCl rfl
  have hta:Ah C w.heap.size Wa Wb:=by rw[<- hWb];exact Ah.putObj _ hla (by omega) rfl
  rw[hWb];refine wpIn_mono (hbd Wb hta ⟨_,hl2⟩) ?_;have fin:∀ (jump:Option Code) (W3:Y),Ae Ar C n₀ Wb W3→
    (Instr.endRound (w.heap.size+1) jump).run P W3=.ok (.bool jump.isNone) (W3.putObj (w.heap.size+1) (.loop (rec (if jump.isNone then .ready else .done) jump)))∧
    (W3.putObj (w.heap.size+1) (.loop (rec (if jump.isNone then .ready else .done) jump))).heap[w.heap.size+1]? =F (.loop (rec (if jump.isNone then .ready else .done) jump))∧
    (W3.putObj (w.heap.size+1) (.loop (rec (if jump.isNone then .ready else .done) jump))).heap[w.heap.size]? =F (.deferred (F []))∧
    Ah C w.heap.size W3 (W3.putObj (w.heap.size+1) (.loop (rec (if jump.isNone then .ready else .done) jump)))∧
    Ae Obj.isWalk C n₀ W3 (W3.putObj (w.heap.size+1) (.loop (rec (if jump.isNone then .ready else .done) jump))):=fun jump W3 hk3=>by
   have hl3:W3.heap[w.heap.size+1]? =F (.loop {rec .ready O with state:=.busy}):=hk3.heap hl2 (.inr (.inr rfl));have hD3:W3.heap[w.heap.size]? =F (.deferred (F [])):=hk3.heap hD2 (.inr (.inr rfl));have hr:=run_endRound (P:=P) jump hl3;rw[hrec] at hr |-;exact⟨hr,World.putObj_heap_same (Gl hl3),(World.putObj_heap_other (by omega)).trans hD3,Ah.putObj _ hl3 (by omega) rfl,Ae.putObj _ hl3 (by omega) hCl rfl⟩
  rintro e a3 W3 hp;cases e with
  | normal=>
   obtain⟨hr,hl4,hD4,ht4,hk4⟩:=fin O W3 hp.1;exact⟨_,_,hr,.inl ⟨rfl,⟨hI _ _ _ hp.2 ht4,hl4,hD4⟩,((hka.walks.trans hk2).trans hp.1.walks).trans hk4⟩⟩
  | ret=>
   obtain⟨hr,hl4,hD4,ht4,hk4⟩:=fin (F .ret) W3 hp.1;exact⟨_,_,hr,.inr ⟨rfl,⟨.ret,hIx _ _ _ _ hp.2 ht4,hl4,hD4⟩,((hka.walks.trans hk2).trans hp.1.walks).trans hk4⟩⟩
  | exit id=>
   obtain⟨hr,hl4,hD4,ht4,hk4⟩:=fin (F (.exit id)) W3 hp.1;exact⟨_,_,hr,.inr ⟨rfl,⟨.exit id,hIx _ _ _ _ hp.2 ht4,hl4,hD4⟩,((hka.walks.trans hk2).trans hp.1.walks).trans hk4⟩⟩
  | goto t=>
   obtain⟨hr,hl4,hD4,ht4,hk4⟩:=fin (F (.goto t)) W3 hp.1;exact⟨_,_,hr,.inr ⟨rfl,⟨.goto t,hIx _ _ _ _ hp.2 ht4,hl4,hD4⟩,((hka.walks.trans hk2).trans hp.1.walks).trans hk4⟩⟩
  | panic ch=>exact hp.elim
  | outgrown=>exact hp.elim
 ·rintro e W2 ⟨⟨v,rfl⟩,(⟨hi,hl,hk⟩ | ⟨pre,hpre,c,hi,hl,hk⟩)⟩
  ·refine⟨O,_,by have:=run_endLoop (P:=P) hl (by rw[hrec];simp);rw[hrec] at this;exact this,hdone _ _ Nr (hI _ _ _ hi (Ah.putObj _ hl (by omega) rfl)) ((World.putObj_heap_other (by omega)).trans hk)⟩
  ·refine⟨F c,_,by have:=run_endLoop (P:=P) hl (by rw[hrec];simp);rw[hrec] at this;exact this,hstop _ c pre _ Nr hpre (hIx _ _ _ _ hi (Ah.putObj _ hl (by omega) rfl)) ((World.putObj_heap_other (by omega)).trans hk)⟩
end
section
set_option maxRecDepth 100000
set_option maxHeartbeats 4000000
attribute [local go_sem] Oper.semAt_some
theorem Zo {R:Nat} {c:UInt8} (h:c≠34/\c≠39/\c≠38/\c≠42/\c≠45/\c≠58/\c≠91/\c≠123/\c≠44/\c≠93/\c≠125):AN (c.toNat:Int) (X4 R)=O:=by
 have hn:∀ k:UInt8,c≠k->((c.toNat:Int)==(k.toNat:Int))=false:=fun k hk=>by rw[Pm,beq_eq_false_iff_ne];exact hk
 obtain⟨a1,a2,a3,a4,a5,a6,a7,a8,a9,a10,a11⟩:=h;have b1:((c.toNat:Int)==34)=false:=hn 34 a1;have b2:((c.toNat:Int)==39)=false:=hn 39 a2;have b3:((c.toNat:Int)==38)=false:=hn 38 a3;have b4:((c.toNat:Int)==42)=false:=hn 42 a4;have b5:((c.toNat:Int)==45)=false:=hn 45 a5;have b6:((c.toNat:Int)==58)=false:=hn 58 a6;have b7:((c.toNat:Int)==91)=false:=hn 91 a7;have b8:((c.toNat:Int)==123)=false:=hn 123 a8;have b9:((c.toNat:Int)==44)=false:=hn 44 a9;have b10:((c.toNat:Int)==93)=false:=hn 93 a10;have b11:((c.toNat:Int)==125)=false:=hn 125 a11;unfold X4;simp only[AN,b1,b2,b3,b4,b5,b6,b7,b8,b9,b10,b11]
 rfl
theorem Adh (R:Nat) (s:ByteArray) (p d:Nat) (w:Y) (hs:s.size<=1000000) (hp:p<s.size) (hd:d<=1000000) (hR:RA w R s p d) (hTab:GU R w) (hv:validD s.data.toList=true):
  Calls Tryz.prog 189 #[.pointer (F ⟨R,0,O⟩)] w (A5 R s p (Hk s.data.toList p d) w):=by
 obtain⟨c,hc⟩:∃ c,s[p]'hp=c:=⟨_,rfl⟩
 have hg:s.data.toList.getD p 0=c:=(Cq s p hp).trans hc;unfold Hk Ace;rw[hg];by_cases h1:c=34\/c=39
 ·rw[if_pos h1];refine J1 250 (enters_of Tryz.func250 (by kernel_rfl) rfl) R s p d w hs hp hR hTab c hc (by rcases h1 with rfl | rfl<;>rfl) _ (fun wx hx ht=>Ss R s p d wx hs hp hx ht hv (by rw[hg];exact h1))
 rw[if_neg h1];by_cases h2:c=38\/c=42
 ·rw[if_pos h2];refine J1 251 (enters_of Tryz.func251 (by kernel_rfl) rfl) R s p d w hs hp hR hTab c hc (by rcases h2 with rfl | rfl<;>rfl) _ (fun wx hx ht=>VW R s p d wx hs hp hx)
 rw[if_neg h2];by_cases h3:c=45
 ·rw[if_pos h3];refine J1 252 (enters_of Tryz.func252 (by kernel_rfl) rfl) R s p d w hs hp hR hTab c hc (by rw[h3];rfl) _ (fun wx hx ht=>ZC R s p d wx hs hp hx ht)
 rw[if_neg h3];by_cases h4:c=58
 ·rw[if_pos h4];refine J1 253 (enters_of Tryz.func253 (by kernel_rfl) rfl) R s p d w hs hp hR hTab c hc (by rw[h4];rfl) _ (fun wx hx ht=>XA R s p d wx hs hp hx ht)
 rw[if_neg h4];by_cases h5:c=91\/c=123
 ·rw[if_pos h5];refine J1 254 (enters_of Tryz.func254 (by kernel_rfl) rfl) R s p d w hs hp hR hTab c hc (by rcases h5 with rfl | rfl<;>rfl) _ (fun wx hx ht=>Wq R s p d wx hs hp hd hx c hc)
 rw[if_neg h5];by_cases h6:c=44\/c=93\/c=125
 ·rw[if_pos h6];refine J1 255 (enters_of Tryz.func255 (by kernel_rfl) rfl) R s p d w hs hp hR hTab c hc (by rcases h6 with rfl | rfl | rfl<;>rfl) _ (fun wx hx ht=>SJ R s p d wx hs hp hd hx c hc h6)
 rw[if_neg h6];exact Agy R s p d w hs hp hR hTab c hc (Zo ⟨fun e=>h1 (.inl e),fun e=>h1 (.inr e),fun e=>h2 (.inl e),fun e=>h2 (.inr e),h3,h4,fun e=>h5 (.inl e),fun e=>h5 (.inr e),fun e=>h6 (.inl e),fun e=>h6 (.inr (.inl e)),fun e=>h6 (.inr (.inr e))⟩) _ (fun wx hx ht=>Jl R s p d wx hs hp hx ht)
theorem Px (R:Nat) (w:Y):
  Calls Tryz.prog 148 #[.pointer (F ⟨R,0,O⟩)] w fun e w'=>e=.returned (.func (.func 186) #[] #[.pointer (F ⟨w.heap.size,0,O⟩)])/\w'=w.alloc (.cells #[.pointer (F ⟨R,0,O⟩)] 278):=by
 go_enter Tryz.func148,Tryz.ntmps148;go_wp2;go_ret;exact⟨by simp,rfl⟩
def Yi:TP->Array Value
 | .tok k t p=>#[BG ⟨k,t,p⟩,.nilIface]
 | .bad e p=>#[.agg #[I J 0,Q ⟨#[]⟩,I J p],.iface 325 (.agg #[I J e])]
theorem Ah.of_mod {R B:Nat} {C:Nat->Prop} {X Yz:Y} (h:BC R X Yz) (hC:C R):Ah C B X Yz:=
 ⟨h.os,h.tape,h.output,Ah.size h,fun k o hk hc _=>h.block k o hk (fun e=>hc (by rw[e];exact hC)) (.inl (Gl hk)),h.kinds⟩
def Ae2 (w:Y) (R:Nat):Nat:=match w.cell? ⟨R,1,O⟩ with | some (.int _ n)=>n.toNat | _=>0
theorem OI {w:Y} {R:Nat} {s:ByteArray} {p d:Nat} (h:RA w R s p d):Ae2 w R=p:=by
 unfold Ae2;rw[h.cells.2.1];simp
def YP (ps:List TP):Prop:=Ds ps≠O
theorem N0:∀ (pre:List TP) (e p:Nat),YP (pre++[.bad e p])
 | [],_,_=>by unfold YP;simp[Ds]
 | .tok _ _ _::r,e,p=>by
  have:=N0 r e p;unfold YP at this |-;exact this
 | .bad _ _::r,e,p=>by unfold YP;simp[Ds]
theorem OB (s:ByteArray) (R Bb n₀:Nat) (w0:Y) (hT0:Bf w0) (hN0:w0.heap.size<=n₀) (hR0:w0.heap.size<=R) (hBb:w0.heap.size<=Bb) (hne:Bb≠R) (hs:s.size<=1000000) (hv:validD s.data.toList=true):
  Afh YP Tryz.prog 186 #[.pointer (F ⟨Bb,0,O⟩)] Yi (fun k=>k=Bb\/k=R) n₀ (BH s.data.toList 0 0) (fun W=>RA W R s 0 0/\Boxed W Bb 278 (.pointer (F ⟨R,0,O⟩))/\Below w0.heap.size w0 W):=by
 intro l Jz Jx W ⟨hr,hc,hbl⟩ hJ hJx hJb hY h0;refine callsIn_of_wp Tryz.func186 rfl trivial ?_ rfl;simp only[Tryz.ntmps186,List.size_toArray,List.length_cons,List.length_nil,Nat.reduceAdd,Nat.reduceSub,Array.replicate_succ,Array.replicate_zero,List.push_toArray,List.append_toArray,List.nil_append,List.cons_append]
 gi_wp2
 refine Ey ?_
 gi_wp2
 refine wpIn_label ?_
 gi_wp2
 gi_loopw [3,4,5] (fun _ _ _ wr=>∃ (p d:Nat) (pre:List TP),RA wr R s p d/\Boxed wr Bb 278 (.pointer (F ⟨R,0,O⟩))/\Below w0.heap.size w0 wr/\W.heap.size<=wr.heap.size/\Jz pre wr/\p<=s.size/\d<=p/\Hid (BH s.data.toList 0 0=pre++BH s.data.toList p d)) (fun _ _ _ wr=>s.size - Ae2 wr R)
 case atStart=>exact⟨0,0,[],hr,hc,hbl,Nat.le_refl _,h0,by omega,by omega,hid rfl⟩
 case round=>
  obtain⟨p,d,pre,hr1,hc1,hb1,hz1,hJ1,hp1,hd1,HP⟩:=hrel;clear hr hc hbl h0;have hRB:R≠Bb:=fun e=>hne e.symm;obtain⟨r0,r1,r2,f0,f1,f2⟩:=hr1.cells;have k0:=hc1.cell;have HM:=hid (OI hr1);rcases Nat.lt_or_ge p s.size with hlt | hge
  ·have hlti:decide ((p:Int)<(s.size:Int))=true:=by simp;omega
   have hlti2:decide (p<s.size)=true:=by simp;omega
   have hI:=fun wx hx=>E3 R s p d 0 p [32] 1 1 wx hs (by omega) (by omega) rfl (by omega) hx;have hN:=fun wx hx=>CJ R s p d wx hs (by omega) hx;have hO:=fun wx hx ht=>Adh R s p d wx hs hlt (by omega) hx ht hv;have hll:p<s.data.toList.length:=by rw[<- Lib.size_eq];exact hlt
   cases hib:DV s.data.toList p [32] with
   | true=>
    rw[hib] at hI;have HP':=hid (show BH s.data.toList 0 0=pre++BH s.data.toList (p+1) d by rw[HP.out,QN hv hll hib]);clear hib HP hll hN hO
    gi_wp2
    gi_region
    gi_wp2_with fail
    refine⟨trivial,rfl,(callsIn_wide.2 (hI wr.drew hr1)).mono ?_⟩;rintro e w2 ⟨rfl,hb2⟩;have hbx:Below wr.heap.size wr w2:=(Bq _ wr).drew.trans hb2;have hr2:=hr1.below hbx;have hc2:Boxed w2 Bb 278 (.pointer (F ⟨R,0,O⟩)):=Ab hc1 hbx;have hb3:=hb1.trans (hbx.mono hb1.size);have hz2:=Nat.le_trans hz1 hbx.size;have hJ2:=hJ _ _ _ hJ1 (Ah.of_below hbx);clear hI hr1 hc1 hb1 hz1 hJ1 hb2 hbx r0 r1 r2 f0 f1 f2 k0;obtain⟨r0,r1,r2,f0,f1,f2⟩:=hr2.cells;have k0:=hc2.cell;have hr3:=hr2.set1 (p+1);have HM2:=hid (OI hr3);have hc3:Boxed (w2.setCell ⟨R,1,O⟩ (I J ((p+1:Nat):Int))) Bb 278 (.pointer (F ⟨R,0,O⟩)):=(Bh w2 ⟨R,1,O⟩ _ _ hne).trans hc2;have hb4:Below w0.heap.size w0 (w2.setCell ⟨R,1,O⟩ (I J ((p+1:Nat):Int))):=hb3.setCell (p:=⟨R,1,O⟩) hR0 _;have hz3:W.heap.size<=(w2.setCell ⟨R,1,O⟩ (I J ((p+1:Nat):Int))).heap.size:=by rw[I8];exact hz2
    have hJ3:=hJ _ _ _ hJ2 (Ah.setCell w2 ⟨R,1,O⟩ (I J ((p+1:Nat):Int)) (.inr rfl))
    gi_wp2
    go_roundw
    case rel=>exact⟨p+1,d,pre,hr3,hc3,hb4,hz3,hJ3,by omega,by omega,HP'⟩
    case measure=>rw[HM.out];show s.size - Ae2 (w2.setCell ⟨R,1,O⟩ (I J ((p+1:Nat):Int))) R<_;rw[HM2.out];omega
   | false=>
    rw[hib] at hI;cases hnb:CC s.data.toList p with
    | true=>
     rw[hnb] at hN;have HX:=hid (show BH s.data.toList 0 0=pre by rw[HP.out,SC hv hll hib hnb,List.append_nil]);clear hib hnb hll hO HP
     gi_wp2
     gi_region
     gi_wp2_with fail
     refine⟨trivial,rfl,(callsIn_wide.2 (hI wr.drew hr1)).mono ?_⟩;rintro e w2 ⟨rfl,hb2⟩;have hbx:Below wr.heap.size wr w2:=(Bq _ wr).drew.trans hb2;have hr2:=hr1.below hbx;have hc2:Boxed w2 Bb 278 (.pointer (F ⟨R,0,O⟩)):=Ab hc1 hbx;have hJ2:=hJ _ _ _ hJ1 (Ah.of_below hbx);clear hI hr1 hc1 hb1 hz1 hJ1 hb2 hbx r0 r1 r2 f0 f1 f2 k0;have k0:=hc2.cell
     gi_wp2_with fail
     refine⟨trivial,rfl,(callsIn_wide.2 (hN w2 hr2)).mono ?_⟩;rintro e w3 ⟨rfl,hb3⟩;have hJ3:=hJ _ _ _ hJ2 (Ah.of_below hb3);clear hN hb3 hr2 hc2 hJ2 k0
     gi_wp2
     try simp only[Exit.noGoto_normal]
     go_end0;exact⟨⟨_,rfl⟩,.inl (by rw[HX.out];exact hJ3)⟩
    | false=>
     rw[hnb] at hN;have HN:=hid (Ai hib hnb);clear hib hnb
     gi_wp2
     gi_region
     gi_wp2_with fail
     refine⟨trivial,rfl,(callsIn_wide.2 (hI wr.drew hr1)).mono ?_⟩;rintro e w2 ⟨rfl,hb2⟩;have hbx:Below wr.heap.size wr w2:=(Bq _ wr).drew.trans hb2;have hr2:=hr1.below hbx;have hc2:Boxed w2 Bb 278 (.pointer (F ⟨R,0,O⟩)):=Ab hc1 hbx;have hb3:=hb1.trans (hbx.mono hb1.size);have hz2:=Nat.le_trans hz1 hbx.size;have hJ2:=hJ _ _ _ hJ1 (Ah.of_below hbx);clear hI hr1 hc1 hb1 hz1 hJ1 hb2 hbx r0 r1 r2 f0 f1 f2 k0;have k0:=hc2.cell
     gi_wp2_with fail
     refine⟨trivial,rfl,(callsIn_wide.2 (hN w2 hr2)).mono ?_⟩;rintro e w3 ⟨rfl,hbx⟩;have hr3:=hr2.below hbx;have hc3:Boxed w3 Bb 278 (.pointer (F ⟨R,0,O⟩)):=Ab hc2 hbx;have hb4:=hb3.trans (hbx.mono hb3.size);have hz3:=Nat.le_trans hz2 hbx.size;have hJ3:=hJ _ _ _ hJ2 (Ah.of_below hbx);clear hN hr2 hc2 hb3 hz2 hJ2 hbx k0;obtain⟨r0,r1,r2,f0,f1,f2⟩:=hr3.cells;have k0:=hc3.cell
     gi_wp2_with fail
     refine⟨trivial,rfl,(callsIn_wide.2 (hO w3 hr3 ⟨w0,hT0,hR0,hb4⟩)).mono ?_⟩;rintro e w4 hQ;clear hO r0 r1 r2 f0 f1 f2 k0;cases ho:Hk s.data.toList p d with
     | ok k t q d'=>
      rw[ho] at hQ;obtain⟨rfl,hr4,hm4⟩:=hQ;obtain⟨g1,g2,_,_,_,g6,_⟩:=Jb hv hll ho;rw[<- Lib.size_eq] at g2;have hdd:d'<=q:=by omega
      have HS:=hid (show BH s.data.toList 0 0=(pre++[.tok k t p])++BH s.data.toList q d' by rw[HP.out,Y9 hv hll HN.out.1 HN.out.2 ho,List.append_assoc];rfl);have hpre:pre++[TP.tok k t p]<+:BH s.data.toList 0 0:=⟨_,HS.out.symm⟩
      have hr5:=hr4.alloc (.cells #[I J k,Q ⟨t.toArray⟩,I J p] 287);clear g6 ho HP HN;have hc4:Boxed w4 Bb 278 (.pointer (F ⟨R,0,O⟩)):=hm4.heap hc3 hne;have hb5:Below w0.heap.size w0 w4:=Ah.below hm4 hb4 (fun k hk=>by omega) hb4.size Nr;have hz4:=Nat.le_trans hz3 (BC.size hm4);have hJ4:=hJ _ _ _ hJ3 (Ah.of_mod (C:=fun k=>k=Bb\/k=R) hm4 (.inr rfl));clear hm4 hc3 hb4 hz3 hJ3 hr3;have hJ5:Jz pre (w4.alloc (.cells #[I J k,Q ⟨t.toArray⟩,I J p] 287)):=hJ _ _ _ hJ4 (Ah.alloc _ _);have hc5:=hc4.alloc (.cells #[I J k,Q ⟨t.toArray⟩,I J p] 287);have hb6:Below w0.heap.size w0 (w4.alloc (.cells #[I J k,Q ⟨t.toArray⟩,I J p] 287)):=hb5.alloc hb5.size _;have hz5:W.heap.size<=(w4.alloc (.cells #[I J k,Q ⟨t.toArray⟩,I J p] 287)).heap.size:=by rw[World.size_alloc];omega
      obtain⟨fn,tmps,assign,body,hy,hR⟩:=hY pre (TP.tok k t p) _ hJ5 hpre;dsimp only[Yi,BG] at hy;have HPR:=hid hpre;unfold BG;clear hJ4 hc4 hb5 hz4 hpre hr4
      gi_wp2
      refine⟨rfl,hR.mono ?_⟩;rintro e W3 (⟨rfl,hJ6,hk6⟩ | ⟨rfl,hJ6,hk6⟩)
      ·have hr6:RA W3 R s q d':=hk6.heap hr5 (.inr (.inl (.inr rfl)));have hc6:Boxed W3 Bb 278 (.pointer (F ⟨R,0,O⟩)):=Gm hc5 hk6 (.inr (.inl rfl));have hb7:Below w0.heap.size w0 W3:=hk6.below hb6 hN0 Nr;have hz6:=Nat.le_trans hz5 hk6.size;have HM2:=hid (OI hr6);clear hy hJ5 hr5 hc5 hb6 hz5 hk6
       gi_wp2
       go_roundw
       case rel=>exact⟨q,d',_,hr6,hc6,hb7,hz6,hJ6,g2,hdd,HS⟩
       case measure=>rw[HM.out,HM2.out];omega
      ·clear hy hJ5 hr5 hc5 hb6 hz5 hk6
       gi_wp2
       try simp only[Exit.noGoto_normal]
       go_end0;exact⟨⟨_,rfl⟩,.inr ⟨_,HPR.out,hJ6⟩⟩
     | bad er=>
      rw[ho] at hQ;obtain⟨rfl,hm4⟩:=hQ;have HS:=hid (show BH s.data.toList 0 0=pre++[.bad er p] by rw[HP.out,WS hv hll HN.out.1 HN.out.2 ho]);have hpre:pre++[TP.bad er p]<+:BH s.data.toList 0 0:=⟨[],by rw[HS.out,List.append_nil]⟩
      clear ho HP HN;have hc4:Boxed w4 Bb 278 (.pointer (F ⟨R,0,O⟩)):=hm4.heap hc3 hne;have hb5:Below w0.heap.size w0 w4:=Ah.below hm4 hb4 (fun k hk=>by omega) hb4.size Nr;have hz4:=Nat.le_trans hz3 (BC.size hm4);have hJ4:=hJ _ _ _ hJ3 (Ah.of_mod (C:=fun k=>k=Bb\/k=R) hm4 (.inr rfl));clear hm4 hc3 hb4 hz3 hJ3 hr3;have hJ5:Jz pre (w4.alloc (.cells #[I J 0,Q ⟨#[]⟩,I J p] 287)):=hJ _ _ _ hJ4 (Ah.alloc _ _);have hc5:=hc4.alloc (.cells #[I J 0,Q ⟨#[]⟩,I J p] 287);have hb6:Below w0.heap.size w0 (w4.alloc (.cells #[I J 0,Q ⟨#[]⟩,I J p] 287)):=hb5.alloc hb5.size _;have hz5:W.heap.size<=(w4.alloc (.cells #[I J 0,Q ⟨#[]⟩,I J p] 287)).heap.size:=by rw[World.size_alloc];omega
      obtain⟨fn,tmps,assign,body,hy,hR⟩:=hY pre (TP.bad er p) _ hJ5 hpre;dsimp only[Yi,BG] at hy;have HPR:=hid hpre;unfold BG;clear hJ4 hc4 hb5 hz4 hpre
      gi_wp2
      refine⟨rfl,hR.mono ?_⟩;rintro e W3 (⟨rfl,hJ6,hk6⟩ | ⟨rfl,hJ6,hk6⟩)
      ·exact absurd hJ6 (hJb _ _ (N0 pre er p))
      ·clear hy hJ5 hc5 hb6 hz5 hk6
       gi_wp2
       try simp only[Exit.noGoto_normal]
       go_end0;exact⟨⟨_,rfl⟩,.inr ⟨_,HPR.out,hJ6⟩⟩
  ·have HX:=hid (show BH s.data.toList 0 0=pre by rw[HP.out,Wt d (by rw[<- Lib.size_eq];exact hge),List.append_nil]);have hlti:decide ((p:Int)<(s.size:Int))=false:=by simp;omega
   have hlti2:decide (p<s.size)=false:=by simp;omega
   gi_wp2
   gi_region
   gi_wp2
   try simp only[Exit.noGoto_normal]
   go_end0;exact⟨⟨_,rfl⟩,.inl (by rw[HX.out];exact hJ _ _ _ hJ1 (Ah.of_below (Bq _ wr).drew))⟩
end
section
attribute [local go_sem] Oper.semAt_some GA D4
def Ew (r:Nat):Bool:=decide ((r:Int)<32)||((r:Int)==127)
theorem Im (r:Nat):Ew r= !An r:=by
 unfold Ew An BA;rw[Bool.eq_iff_iff];simp<;>omega
theorem S5 (r:Nat) (w:Y):
  Calls Tryz.prog 147 #[.int .i32 (r:Int)] w fun e w'=>e=.returned (.bool (Ew r))/\w'=w:=by
 go_enter Tryz.func147,Tryz.ntmps147;go_wp2;all_goals (go_ret;refine⟨?_,rfl⟩)
 all_goals (refine congrArg (fun b=>Ending.returned (Value.bool b)) (?_:_=Ew r);unfold Ew;first | rfl | (rw[Bool.eq_iff_iff];simp[*];done) | (rw[Bool.eq_iff_iff];simp[*];omega))
theorem IY (w:Y):PredGrows Tryz.prog 147 #[] Ew w:=fun W x _ _=>by
 refine(S5 x W).mono ?_;rintro e w' ⟨rfl,hw⟩;subst w';exact⟨rfl,Bq _ _⟩
theorem NJ (s:ByteArray):∀ (f pos:Nat),s.size - pos<=f->decide (0<=idxFuncFrom Ew true s f pos)= !((AJ (s.data.toList.drop pos)).all An)
 | 0,pos,hf=>by
  rw[List.drop_eq_nil_of_le (by rw[<- Lib.size_eq];omega)];rfl
 | f+1,pos,hf=>by
  unfold idxFuncFrom;by_cases hlt:pos<s.size
  ·have hw:=decode_le s pos hlt;rw[if_pos hlt,Bo _ (CS s pos hlt),Lib.decodeL_drop,List.all_cons,List.drop_drop];cases ho:Ew (Utf8.decode s pos).1 with
   | true=>
    rw[Im,Bool.not_eq_true'] at ho;rw[if_pos rfl,ho];simp
   | false=>
    rw[Im,Bool.not_eq_false'] at ho;rw[if_neg (by decide),ho,NJ s f _ (by omega)];simp
  ·rw[if_neg hlt,List.drop_eq_nil_of_le (by rw[<- Lib.size_eq];omega)];rfl
theorem Nn (s:ByteArray):decide (0<=idxFunc Ew true s)= !((AJ s.data.toList).all An):=by
 have:=NJ s s.size 0 (by omega)
 rwa [List.drop_zero] at this
theorem O2:∀ (A:Option Addr) (n c:Nat),Value.slice O 0 0=Z A n c->n<=c:=by
 intro A n c h;injection h with _ h1 h2;omega
theorem Aa6:(Tryz.prog.info? 287).map (fun i=>(i.zero,i.size,i.bytes))=F (F (.agg #[I J 0,Q ⟨#[]⟩,I J 0]),3,32):=by kernel_rfl
def Gp (w:Y) (B:Nat) (v:Value) (ts:List Tk):Prop:=w.ownsRow B 287 3 v ts.length (ts.flatMap BQ)
theorem P0:∀ ts:List Tk,(ts.flatMap BQ).length=ts.length*3
 | []=>rfl
 | t::r=>by rw[List.flatMap_cons,List.length_append,P0 r];simp[BQ];omega
theorem UL:∀ (ts:List Tk) (k:Nat),k<ts.length->(ts.flatMap BQ)[k*3]? =F (I J (ts.getD k ⟨0,[],0⟩).kind)/\(ts.flatMap BQ)[k*3+1]? =F (Q ⟨(ts.getD k ⟨0,[],0⟩).str.toArray⟩)/\(ts.flatMap BQ)[k*3+2]? =F (I J (ts.getD k ⟨0,[],0⟩).at_)
 | [],k,h=>by simp at h
 | t::r,0,h=>⟨rfl,rfl,rfl⟩
 | t::r,k+1,h=>by
  have:=UL r k (by simpa using h);rw[List.flatMap_cons,show(k+1)*3=3+k*3 by omega];have e:∀ j,(BQ t++r.flatMap BQ)[3+j]? =(r.flatMap BQ)[j]? :=fun j=>by
   rw[List.getElem?_append_right (by simp[BQ])];simp[BQ]
  rw[show 3+k*3+1=3+(k*3+1) by omega,show 3+k*3+2=3+(k*3+2) by omega,e,e,e];exact this
theorem Gp.sl {w:Y} {B:Nat} {v:Value} {ts:List Tk} (h:Gp w B v ts):FP w v ts:=by
 rcases h.2 with ⟨hv,h0⟩ | ⟨g,cap,cur,hv,_,hg,hnc,hcm,hsz,htake⟩
 ·rw[hv];have:ts=[]:=List.eq_nil_of_length_eq_zero h0;subst this;exact FP.nil w
 ·refine⟨F ⟨g,0,O⟩,cap,hv,fun k hk=>⟨g,0,rfl,(Gl hg),?_⟩⟩;obtain⟨f0,f1,f2⟩:=UL ts k hk;have hc:∀ j u,(ts.flatMap BQ)[j]? =F u->w.cell? ⟨g,0+j,O⟩=F u:=fun j u hu=>by
   rw[Nat.zero_add,cell_of_row w g j cur 287 (0,0) hg];rw[<- htake,List.getElem?_take] at hu;split at hu
   ·rw[Array.getElem?_toList] at hu;exact hu
   ·cases hu
  exact⟨hc _ _ f0,hc _ _ f1,hc _ _ f2⟩
theorem Gp.cap {w:Y} {B:Nat} {v:Value} {ts:List Tk} (h:Gp w B v ts):∀ (A:Option Addr) (n c:Nat),v=Z A n c->n<=c:=by
 intro A n c e;rcases h.2 with ⟨rfl,h0⟩ | ⟨g,cap,cur,rfl,_,_,hnc,_⟩
 ·injection e with _ e1 e2;omega
 ·injection e with _ e1 e2;omega
theorem Gp.turn {C:Nat->Prop} {n B:Nat} {v:Value} {ts:List Tk} {X Yz:Y} (h:Gp X B v ts) (ht:Ah C n X Yz) (hC:∀ k,C k->∃ T,T≠287/\AT X k T):Gp Yz B v ts:=by
 refine⟨h.1,?_⟩;rcases h.2 with h0 | ⟨g,cap,cur,hv,hb,hg,hr⟩
 ·exact .inl h0
 ·have hng:¬C g:=fun hc=>by obtain⟨T,h1,h2⟩:=hC g hc;exact h2.ne hg h1 rfl
  exact .inr ⟨g,cap,cur,hv,hb,ht.heap hg hng rfl,hr⟩
theorem IW {l:List UInt8} (hv:validD l=true):∀ (f p d:Nat),(C3 l f p d).length<=l.length - p
 | 0,p,d=>by simp[C3]
 | f+1,p,d=>by
  rcases Nat.lt_or_ge p l.length with hp | hp
  ·rw[H2 hp];split
   ·have:=IW hv f (p+1) d;omega
   ·split
    ·simp
    ·cases ho:Hk l p d with
     | ok k t q d'=>
      have h1:=(Jb hv hp ho).1;have:=IW hv f q d';simp only[List.length_cons];omega
     | bad e=>simp;omega
  ·rw[Mz hp];simp
theorem Gp.keep {X Yz:Y} {B:Nat} {v:Value} {ts:List Tk} (h:Gp X B v ts) (hk:∀ (j:Nat) (c:Array Value),X.heap[j]? =F (Obj.cells c 287 (0,0))->Yz.heap[j]? =F (Obj.cells c 287 (0,0))):Gp Yz B v ts:=by
 refine⟨h.1,?_⟩;rcases h.2 with h0 | ⟨g,cap,cur,hv,hb,hg,hr⟩
 ·exact .inl h0
 ·exact .inr ⟨g,cap,cur,hv,hb,hk g cur hg,hr⟩
theorem Tb {X:Y} {j k:Nat} {c:Array Value} {T:TypeId} {u:Value} (hj:X.heap[j]? =F (Obj.cells c 287 (0,0))) (hk:Boxed X k T u) (hT:T≠287):j≠k:=by
 rintro rfl;rw[show X.heap[j]? =_ from hk] at hj;injection hj with hj;injection hj with _ hj;exact hT hj
theorem U5 {w:Y} {B:Nat} {v:Value} {ts:List Tk} (h:Gp w B v ts) {k:Nat} (hk:v.ownBlock=F k):B<=k/\∃ cur,w.heap[k]? =F (.cells cur 287 (0,0)):=by
 rcases h.2 with ⟨rfl,_⟩ | ⟨g,cap,cur,rfl,hb,hg,_⟩
 ·simp[Value.ownBlock] at hk
 ·simp[Value.ownBlock] at hk;subst hk;exact⟨hb,cur,hg⟩
theorem Lo:∀ (pre:List TP) (k:Nat) (t:List UInt8) (p:Nat),Ds (pre++[.tok k t p])=Ds pre
 | [],_,_,_=>rfl
 | .tok _ _ _::r,k,t,p=>Lo r k t p
 | .bad _ _::_,_,_,_=>rfl
theorem Lg:∀ (pre rest:List TP),Ds pre=O->Ds (pre++rest)=Ds rest
 | [],_,_=>rfl
 | .tok _ _ _::r,rest,h=>Lg r rest h
 | .bad _ _::_,_,h=>by cases h
theorem Acy {C:Nat->Prop} {N M B:Nat} {Wb w5:Y} {v v':Value} {ts:List Tk} {x:Tk} {o:Obj} (hN:N<=M) (hB:N<=B) (hBz:B<=Wb.heap.size) (hMC:¬C M) (h2:Boxed Wb M 215 v) (h3:Gp Wb B v ts) (hC:∀ j,C j->∃ T,T≠287/\AT Wb j T)
  (hown:w5.ownsRow B 287 3 v' (ts.length+1) (ts.flatMap BQ++BQ x)) (hg:(Wb.alloc o).grownBy w5 v.ownBlock):
  Ae Ar C N Wb (w5.setCell ⟨M,0,O⟩ v')/\Boxed (w5.setCell ⟨M,0,O⟩ v') M 215 v'/\Gp (w5.setCell ⟨M,0,O⟩ v') B v' (ts++[x])/\w5.cell? ⟨M,0,O⟩=F v/\w5.frozen? ⟨M,0,O⟩=false∧
  (∀ (j:Nat) (T:TypeId) (c:Array Value),T≠287->j≠M->Wb.heap[j]? =F (Obj.cells c T (0,0))->(w5.setCell ⟨M,0,O⟩ v').heap[j]? =F (Obj.cells c T (0,0)))/\(∀ (j:Nat) (T:TypeId),T≠287->j≠M->AT Wb j T->AT (w5.setCell ⟨M,0,O⟩ v') j T):=by
 have hrow:∀ j (c:Array Value) (T:TypeId) (fz:Nat×Nat),T≠287->Wb.heap[j]? =F (Obj.cells c T fz)->w5.heap[j]? =F (Obj.cells c T fz):=fun j c T fz hT hj=>by
  have hjl:j<Wb.heap.size:=(Gl hj)
  refine(hg.block j (by simp;omega) (fun e=>?_)).trans ((Below.heap_alloc Wb o j hjl).trans hj);obtain⟨_,cur,hc⟩:=U5 h3 e.symm;rw[hj] at hc;injection hc with hc;injection hc with _ hc;exact hT hc
 have hM5:Boxed w5 M 215 v:=hrow M _ 215 _ (by decide) h2;refine⟨?_,hM5.set v',?_,hM5.cell,hM5.frozen,fun j T c hT hj hh=>(Bh w5 ⟨M,0,O⟩ v' j hj).trans (hrow j c T _ hT hh),fun j T hT hj ⟨c,fz,hh⟩=>⟨c,fz,(Bh w5 ⟨M,0,O⟩ v' j hj).trans (hrow j c T fz hT hh)⟩⟩
 ·refine((Ae.alloc Wb o).trans (Ae.grown hg (fun k hk=>?_))).trans (Ae.setCell w5 ⟨M,0,O⟩ v' hN hMC);obtain⟨hb,cur,hc⟩:=U5 h3 hk;have hkl:k<Wb.heap.size:=(Gl hc)
  refine⟨by omega,fun hck=>?_,fun o' ho'=>?_⟩
  ·obtain⟨T,hT,c,fz,hh⟩:=hC k hck;rw[hc] at hh;injection hh with hh;injection hh with _ hh;exact hT hh.symm
  ·rw[Below.heap_alloc Wb o k hkl,hc] at ho';injection ho' with ho';rw[<- ho'];rfl
 ·refine⟨by rw[P0],?_⟩;rcases hown.2 with ⟨_,h0⟩ | ⟨g,cap,cur,hv,hb,hgc,h4,h5,h6,h7⟩
  ·omega
  ·refine .inr ⟨g,cap,cur,by rw[hv];simp,hb,(Bh w5 ⟨M,0,O⟩ v' g (fun e=>?_)).trans hgc,by simpa using h4,h5,h6,by rw[List.flatMap_append,List.length_append];simpa using h7⟩;have e':g=M:=e;subst e';rw[show w5.heap[g]? =_ from hM5] at hgc;injection hgc with hgc;injection hgc with _ hgc;exact absurd hgc (by decide)
end
end Go.Proofs.YtdpppepmkeinaaaGreatDoor
