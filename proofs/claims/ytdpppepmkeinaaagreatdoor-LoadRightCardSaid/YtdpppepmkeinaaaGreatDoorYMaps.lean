/- What is proved: a part of the walk of the program and of its plain laws; no condition beside those that each theorem names. -/
import Derived.MapKept
import Derived.RangeFuncRecord
namespace Go.Proofs.YtdpppepmkeinaaaGreatDoor
set_option linter.unusedSimpArgs false
set_option linter.unusedVariables false
set_option linter.unusedSectionVars false
section
open Go Go.MapKept
def AZ {α:Type} (enc:α→Value) (l:List (α×Value)):Obj:=.map (l.zipIdx.map fun p=>{key:=enc p.1.1,val:=p.1.2,born:=p.2}).toArray l.length
def FU {α:Type} [BEq α] (a:α):List (α×Value)→Nat→Option (Nat×Value)
 | [],_=>none
 | p::l,i=>if a==p.1 then some (i,p.2) else FU a l (i+1)
def AN {α:Type} [BEq α] (a:α):List (α×Value)→Option Value
 | []=>none
 | p::l=>if a==p.1 then some p.2 else AN a l
theorem EB {α:Type} [BEq α] (a:α):∀ (l:List (α×Value)) (i:Nat),(FU a l i).map (·.2)=AN a l
 | [],_=>rfl
 | p::l,i=>by
  unfold FU AN;split
  ·rfl
  ·exact EB a l (i+1)
theorem L2 {α:Type} [BEq α] {a:α} {l:List (α×Value)} {i:Nat} (h:AN a l=none):FU a l i=none:=by
 have:=EB a l i;rw[h] at this;simpa using this
section
variable {α:Type} [BEq α] {enc:α→Value} {kind:TypeDesc} (hsame:∀ a b,Instr.sameNow kind (enc a) (enc b)=some (a==b)) (hkey:∀ a,IsKey kind (enc a))
include hsame
theorem Fy (a:α):∀ (l:List (α×Value)) (n i:Nat),Instr.findNow kind (enc a) ((l.zipIdx n).map fun p=>{key:=enc p.1.1,val:=p.1.2,born:=p.2}) i=some (FU a l i)
 | [],_,_=>rfl
 | p::l,n,i=>by
  simp only[List.zipIdx_cons,List.map_cons,Instr.findNow,hsame,FU]
  cases h:a==p.1
  ·simp[Fy a l (n+1) (i+1)]
  ·simp
include hkey
variable {P:Program} {w:World} {t k e:TypeId}
theorem CE (ht:P.underlying t=some (.map k e)) (hk:P.underlying k=some kind) {z:Value} (hz:(zeroValue e).run P w=.ok z w) {b:Nat} {l:List (α×Value)} (hb:w.heap[b]? =some (AZ enc l)) (a:α) (ok:Bool):
  (Instr.lookup t (.map (some b)) (enc a) ok).run P w=.ok (if ok then .tuple #[(AN a l).getD z,.bool (AN a l).isSome] else (AN a l).getD z) w:=by
 have hf:=run_findKey (w:=w) hk (Fy hsame a l 0 0);have hc:=fun em=>run_checkKey (w:=w) hk (hkey a) em 9999;have hf2:=EB a l 0;unfold Instr.lookup;simp only[Sem.run_bind,run_underlying ht,Result.andThen,run_getObj_map (show w.heap[b]? =some (.map _ _) from hb),Sem.run_pure,hc,hf]
 cases hfl:FU a l 0 with
 | none=>rw[hfl] at hf2;cases ok<;>simp[hz,← hf2,Result.andThen]
 | some q=>rw[hfl] at hf2;cases ok<;>simp[← hf2]
theorem Ed (ht:P.underlying t=some (.map k e)) (hk:P.underlying k=some kind) {b:Nat} {l:List (α×Value)} (hb:w.heap[b]? =some (AZ enc l)) (a:α) (v:Value) (hno:AN a l=none):
  (Instr.mapUpdate t (.map (some b)) (enc a) v).run P w=.ok () (w.putObj b (AZ enc (l++[(a,v)]))):=by
 have hf:=run_findKey (w:=w) hk (Fy hsame a l 0 0);have hc:=run_checkKey (w:=w) hk (hkey a) false 9999;rw[L2 hno] at hf;unfold Instr.mapUpdate;simp only[Sem.run_bind,run_underlying ht,Result.andThen,run_getObj_map (show w.heap[b]? =some (.map _ _) from hb),hc,hf]
 rw[run_setObj_map _ (show w.heap[b]? =some (.map _ _) from hb)];simp[World.putObj,AZ,List.zipIdx_append]
end
theorem Afv (a b:ByteArray):Instr.sameNow .string (.string a) (.string b)=some (a==b):=rfl
theorem YR (a:ByteArray):IsKey .string (.string a):=trivial
theorem Fq (w:World) (o o':Obj):(w.alloc o).putObj w.heap.size o'=w.alloc o':=by
 have h:(w.heap.push o).setIfInBounds w.heap.size o'=w.heap.push o':=by
  refine Array.ext (by simp) (fun i h1 h2=>?_);rw[Array.getElem_setIfInBounds,Array.getElem_push]
  ·split
   ·rename_i h3;subst h3;simp
   ·rename_i h3;have h4:i<w.heap.size:=by simp at h2;omega
    rw[dif_pos h4,Array.getElem_push,dif_pos h4]
  ·simpa using h2
 show({w with heap:=(w.heap.push o).setIfInBounds w.heap.size o'}:World)={w with heap:=w.heap.push o'}
 rw[h]
end
end Go.Proofs.YtdpppepmkeinaaaGreatDoor
