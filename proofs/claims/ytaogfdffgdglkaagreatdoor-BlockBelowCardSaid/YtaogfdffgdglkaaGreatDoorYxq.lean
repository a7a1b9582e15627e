/- What is proved: a part of the walk of the program and of its plain laws; no condition beside those that each theorem names. -/
import Derived.Test.YtaogfdffgdglkaaGreatDoorYxh
import Derived.Test.YtaogfdffgdglkaaGreatDoorYxp
import Derived.Test.YtaogfdffgdglkaaGreatDoorYa
namespace Go.Proofs.YtaogfdffgdglkaaGreatDoor
open Go Go.RowKit Go.Lib
set_option linter.unusedSimpArgs false
set_option linter.unusedVariables false
section
set_option maxRecDepth 100000
set_option maxHeartbeats 8000000
attribute [local go_sem ↓] Go.wp_at_zero Go.wp_at_succ
def Ip (x : Sc) : Sc := ⟨x.kind, x.num, ⟨(x.str.data.toList.take 200).toArray⟩⟩
def Le (n j : Int) (x : Sc) : Sc := ⟨x.kind + j, x.num + n, x.str⟩
theorem KR {xs : List Sc} {f : Sc -> Sc} {k : Nat} (h : k < xs.length) : (xs.take (k + 1)).map f = (xs.take k).map f ++ [f (xs.getD k CF)] := by
 rw [List.take_succ_eq_append_getElem h, List.map_append]
 simp [List.getD, List.getElem?_eq_getElem h]
theorem BU.below {w w' : World} {B : Nat} {v : Value} {ts : List Sc} (h : BU w B v ts) (hb : Below w.heap.size w w') : BU w' B v ts := Cf h hb
theorem BU.rm {w : World} {B n : Nat} {v : Value} {ts : List Sc} (h : BU w B v ts) (hn : ts.length = n) : VZ v n := by
 subst hn
 rcases h.2 with ⟨rfl, h0⟩ | ⟨g, cap, cur, rfl, _, _, hnc, _⟩
 ·exact ⟨none, 0, by rw [h0], by omega⟩
 ·exact ⟨_, cap, rfl, hnc⟩
def IR (w : World) (N : Nat) (u : Value) (ys : List Sc) : Prop :=
 (u = .slice none 0 0 /\ ys = []) \/ ∃ b o c, u = .slice (some ⟨b, o, none⟩) ys.length c /\ b < N /\ ∀ j x, (ys.flatMap A6)[j]? = some x -> w.cell? ⟨b, o + j, none⟩ = some x
theorem IR.below {w w' : World} {N : Nat} {u : Value} {ys : List Sc} (h : IR w N u ys) (hb : Below N w w') : IR w' N u ys := by
 rcases h with h | ⟨b, o, c, hu, hN, hc⟩
 ·exact .inl h
 ·exact .inr ⟨b, o, c, hu, hN, fun j x hx => (hb.cell (p := ⟨b, o + j, none⟩) hN).trans (hc j x hx)⟩
theorem BU.src {w : World} {B N : Nat} {v : Value} {ts : List Sc} (h : BU w B v ts) (hN : w.heap.size <= N) : IR w N v ts := by
 rcases h.2 with ⟨hv, h0⟩ | ⟨g, cap, cur, hv, _, hg, hnc, hcm, hsz, htake⟩
 ·exact .inl ⟨hv, List.eq_nil_of_length_eq_zero h0⟩
 ·refine .inr ⟨g, 0, cap, hv, by have := (Gl hg); omega, fun j u hu => ?_⟩
  rw [Nat.zero_add, cell_of_row w g j cur 40 (0, 0) hg]
  rw [<- htake, List.getElem?_take] at hu
  split at hu
  ·rw [Array.getElem?_toList] at hu; exact hu
  ·cases hu
theorem IR.lit {w : World} {b N : Nat} {k p : Int} {s : ByteArray} {ty : TypeId} (h : w.heap[b]? = some (.cells #[.int .i64 k, .int .i64 p, .string s] ty)) (hN : b < N) : IR w N (.slice (some ⟨b, 0, none⟩) 1 1) [⟨k, p, s⟩] := by
 refine .inr ⟨b, 0, 1, rfl, hN, fun j x hx => ?_⟩
 rw [Nat.zero_add, cell_of_row w b j _ ty (0, 0) h]
 have e : [Sc.mk k p s].flatMap A6 = [.int .i64 k, .int .i64 p, .string s] := by simp [A6]
 rw [e] at hx
 simpa using hx
theorem FP {o : Oper} {a : Act} {K : Act -> World -> Prop} {Q : Exit -> Act -> World -> Prop} (s x : Operand)
  (ho : o.op = .call { callee := .builtin .append, args := #[s, x], argTypes := #[22, 22] }) (B N : Nat) (v u : Value) (ts ys zs : List Sc) (k : Nat) (w : World)
  (hs : a.eval s = v) (hx : a.eval x = u) (hown : BU w B v ts) (hu : IR w N u ys) (hB : B <= w.heap.size) (hl : ts.length <= 10000) (hl2 : ys.length <= 10000) (hz : ts ++ ys = zs) (hk : zs.length = k)
  (h : ∀ v' w', BU w' B v' zs -> Below B w w' -> VZ v' k -> K (a.put o.dst v') w') : o.wp Tryz.prog a w K Q := by
 obtain ⟨i0, hi, hz1, hz2, hz3⟩ := info_parts Lc
 have hut : Tryz.prog.underlying 22 = some (.slice 40) := by kernel_rfl
 have hown0 : w.ownsRow B 40 3 v ts.length (ts.flatMap A6) := hown
 subst hz
 rcases hu with ⟨hu0, hn0⟩ | ⟨b, of, c, hv, hN, hc⟩
 ·subst hn0
  have hrun := run_append_owned_none (P := Tryz.prog) (w := w) B 22 o.type 40 i0 3 hut hi v ts.length _ hown0
  unfold Oper.wp
  simp only [execOp, ho, resolve, invoke, builtin, Sem.run_bind, Sem.run_pure, Result.andThen_ok, List.map_toArray, List.map_cons, List.map_nil, hs, hx, hu0, hrun]
  exact h v w (by rw [List.append_nil]; exact hown) (Bq _ _) (by rw [List.append_nil] at hk; exact hown.rm hk)
 ·refine wp_append_own w s x 22 ho B 40 i0 (.agg #[.int .i64 0, .int .i64 0, .string ⟨#[]⟩]) 3 32 hut hi hz1 hz2 hz3 rfl (by decide) v ts.length _ hs hown0 ⟨b, of, none⟩ ys.length c (ys.flatMap A6) (hx.trans hv) (Hk ys)
   (fun j uu hj => by
    have hadd : (⟨b, of, none⟩ : Addr).add j = ⟨b, of + j, none⟩ := by unfold Addr.add; split <;> simp_all
    rw [hadd]; exact hc j uu hj) (by
    intro uu hu
    obtain ⟨y, _, hy⟩ := List.mem_flatMap.1 hu
    simp [A6] at hy; rcases hy with rfl | rfl | rfl <;> rfl) (by unfold maxLen; omega) (by omega) hB ?_
  intro v' w' h1 h2 h3
  have hown' : BU w' B v' (ts ++ ys) := by
   unfold BU
   rw [List.length_append, List.flatMap_append]
   exact h1
  exact h v' w' hown' ((Bq B w).grown h2 hB (fun j hj => (World.ownsRow.lt hown0 j hj).1)) (hown'.rm hk)
theorem OY {ops : Array Oper} {rest : List Oper} {o : Oper} {a : Act} {Q : Exit -> Act -> World -> Prop} (hgd : o.guard = none) (s x : Operand)
  (ho : o.op = .call { callee := .builtin .append, args := #[s, x], argTypes := #[22, 22] }) (B N : Nat) (v u : Value) (ts ys zs : List Sc) (k : Nat) (w : World)
  (hs : a.eval s = v) (hx : a.eval x = u) (hown : BU w B v ts) (hu : IR w N u ys) (hB : B <= w.heap.size) (hl : ts.length <= 10000) (hl2 : ys.length <= 10000) (hz : ts ++ ys = zs) (hk : zs.length = k)
  (h : ∀ v' w', BU w' B v' zs -> Below B w w' -> VZ v' k -> wpList Tryz.prog ops Q rest (a.put o.dst v') w') :
  wpList Tryz.prog ops Q (o :: rest) a w :=
 wpList_plain hgd fun _ hK => FP s x ho B N v u ts ys zs k w hs hx hown hu hB hl hl2 hz hk fun v' w' h1 h2 h3 => hK _ _ (h v' w' h1 h2 h3)
theorem EN {ops : Array Oper} {o : Oper} {a : Act} {K : Act -> World -> Prop} {Q : Exit -> Act -> World -> Prop} {E : Prop} (hgd : o.guard = none) (s x : Operand)
  (ho : o.op = .call { callee := .builtin .append, args := #[s, x], argTypes := #[22, 22] }) (B N : Nat) (v u : Value) (ts ys zs : List Sc) (k : Nat) (w : World)
  (hs : a.eval s = v) (hx : a.eval x = u) (hown : BU w B v ts) (hu : IR w N u ys) (hB : B <= w.heap.size) (hl : ts.length <= 10000) (hl2 : ys.length <= 10000) (hz : ts ++ ys = zs) (hk : zs.length = k)
  (h : ∀ v' w', BU w' B v' zs -> Below B w w' -> VZ v' k -> K (a.put o.dst v') w') :
  if Region.wanted o (yielded ops a.tmps) = true then Oper.wp Tryz.prog o a w K Q else E := by
 have hw : Region.wanted o (yielded ops a.tmps) = true := by simp [Region.wanted, hgd]
 rw [if_pos hw]
 exact FP s x ho B N v u ts ys zs k w hs hx hown hu hB hl hl2 hz hk h
theorem Th (s : ByteArray) (n : Nat) : s.extract 0 (min s.size n) = ⟨(s.data.toList.take n).toArray⟩ := by
 rw [Lib.extract_upto]
 congr 2
 by_cases h : s.size <= n
 ·rw [Nat.min_eq_left h, List.take_of_length_le (by rw [<- Lib.size_eq]; omega), List.take_of_length_le (by rw [<- Lib.size_eq]; omega)]
 ·rw [Nat.min_eq_right (by omega)]
theorem Vs (v : Value) (xs : List Sc) (w : World) (hx : Cy w v xs) :
  Calls Tryz.prog 11 #[v] w fun e w' => ∃ u, e = .returned u /\ BU w' w.heap.size u ((xs.take 40).map Ip) /\ Below w.heap.size w w' := by
 obtain ⟨A, ca, rfl, hA⟩ := hx
 obtain ⟨i0, hi, hz0, hz1, hz2⟩ := info_parts Lc
 have hu : Tryz.prog.underlying 22 = some (.slice 40) := by kernel_rfl
 have HU := hid hu
 have HA := hid hA
 obtain ⟨n, hn⟩ : ∃ n, xs.length = n := ⟨_, rfl⟩
 rw [hn] at HA |-
 have HN := hid hn
 clear hA hu hn
 go_enter Tryz.func11, Tryz.ntmps11
 go_wp2
 go_loopw [3, 4] (fun o i wr => ∃ k : Nat, k <= n /\ k <= 40 /\ i = .int .i64 k /\ BU wr w.heap.size o ((xs.take k).map Ip) /\ Below w.heap.size w wr) (fun _ i _ => 40 - (intOf i).toNat)
 case atStart => exact ⟨0, by omega, by omega, rfl, World.ownsRow_nil _ _ _ _, Bq _ _⟩
 case round =>
  obtain ⟨k, hk, hk40, rfl, hown, hb⟩ := hrel
  by_cases hlt : k < n /\ k < 40
  ·obtain ⟨hlt, hlt40⟩ := hlt
   have hki : (k : Int) < (n : Int) := by omega
   have hki40 : (k : Int) < 40 := by omega
   have hk0 : (0 : Int) <= (k : Int) := by omega
   obtain ⟨a, o, rfl, ha, a0, a1, a2⟩ := HA.out k hlt
   have hmt := KR (xs := xs) (f := Ip) (k := k) (by rw [HN.out]; exact hlt)
   have hlen : ((xs.take k).map Ip).length = k := by rw [List.length_map, List.length_take, HN.out]; omega
   obtain ⟨⟨k1, n1, s1⟩, hx⟩ : ∃ x, xs.getD k CF = x := ⟨_, rfl⟩
   rw [hx] at a0 a1 a2 hmt
   have HMT := hid hmt
   clear hx hmt
   obtain ⟨ts, hts⟩ : ∃ ts, (xs.take k).map Ip = ts := ⟨_, rfl⟩
   rw [hts] at hown hlen HMT
   have HL := hid hlen
   clear hts hlen
   replace a0 := Ab a0 hb
   replace a1 := Ab a1 hb
   replace a2 := Ab a2 hb
   have haw : a < wr.heap.size := Nat.lt_of_lt_of_le ha hb.size
   have hmin : (min (s1.size : Int) 200) = ((min s1.size 200 : Nat) : Int) := by omega
   have hle : ((min s1.size 200 : Nat) : Int) <= (s1.size : Int) := by omega
   have hex := Th s1 200
   obtain ⟨m, hm⟩ : ∃ m, min s1.size 200 = m := ⟨_, rfl⟩
   rw [hm] at hmin hle hex
   have hle2 : m <= s1.size := by omega
   obtain ⟨cs, hcs⟩ : ∃ z : ByteArray, (⟨(s1.data.toList.take 200).toArray⟩ : ByteArray) = z := ⟨_, rfl⟩
   rw [hcs] at hex
   have HCS := hid hcs
   have hbs : w.heap.size <= wr.heap.size := hb.size
   have hbn : ∀ ob, Below wr.heap.size wr (wr.drew.alloc ob) := fun ob => (Bq _ wr).drew.alloc Nr ob
   have hS1 := hid (show ∀ ob, (wr.drew.alloc ob).cell? ⟨a, o + k * 3, none⟩ = some (.int .i64 k1) /\ (wr.drew.alloc ob).cell? ⟨a, o + k * 3 + 1, none⟩ = some (.int .i64 n1) /\ (wr.drew.alloc ob).cell? ⟨a, o + k * 3 + 2, none⟩ = some (.string s1) from
    fun ob => ⟨Ab a0 (hbn ob), Ab a1 (hbn ob), Ab a2 (hbn ob)⟩)
   have HW := hid (Ai hown (Ai hb (Ai ha hbn)))
   clear hown hcs hm hb hbn
   go_wp2
   refine wp_region_noPanic ?_
   refine wR 28 (S := (fun w' => w'.cell? ⟨a, o + k * 3, none⟩ = some (.int .i64 k1) /\ w'.cell? ⟨a, o + k * 3 + 1, none⟩ = some (.int .i64 n1) /\ w'.cell? ⟨a, o + k * 3 + 2, none⟩ = some (.string s1))) rfl ⟨a0, a1, a2⟩ (fun hHeld => ?_)
   simp only [gR]
   iterate 25 (refine wN hHeld ?_; try simp only [gS])
   refine wB 25 rfl (fun K hK => ?_)
   go_simp
   refine hK.out _ _ (hS1.out _) (fun hHeld2 => ?_)
   clear hK K hHeld
   have hHeld := hHeld2; clear hHeld2
   try simp only [gS]
   refine wB 26 rfl (fun K hK => ?_)
   refine EN (by rfl) _ _ (by rfl) w.heap.size (wr.heap.size + 1) u3 (.slice (some ⟨wr.heap.size, 0, none⟩) 1 1) ts [⟨k1, n1, cs⟩] (ts ++ [⟨k1, n1, cs⟩]) (k + 1) (wr.drew.alloc (.cells #[.int .i64 k1, .int .i64 n1, .string cs] 40)) (by rfl) (by rfl) (Cf HW.out.1 (HW.out.2.2.2 _)) (IR.lit (heap_alloc_new wr.drew _) (by omega)) (by simp; omega) (by rw [HL.out]; omega) (by simp) rfl (by rw [List.length_append, HL.out]; rfl) ?_
   rintro v9 w9 hown9 hb9 ⟨A9, c9, rfl, hc9⟩
   refine hK.out _ _ ⟨(hb9.cell (p := ⟨a, _, none⟩) HW.out.2.2.1).trans (hS1.out _).1, (hb9.cell (p := ⟨a, _, none⟩) HW.out.2.2.1).trans (hS1.out _).2.1, (hb9.cell (p := ⟨a, _, none⟩) HW.out.2.2.1).trans (hS1.out _).2.2⟩ (fun hHeld2 => ?_)
   clear hK K hHeld
   have hHeld := hHeld2; clear hHeld2
   try simp only [gS]
   refine wN hHeld ?_; try simp only [gS]
   refine wpAnyH_done (by kernel_rfl) ?_ _
   refine NoPanic.normal ?_
   have HF := hid (show BU w9 w.heap.size (.slice A9 (k + 1) c9) ((xs.take (k + 1)).map Ip) /\ Below w.heap.size w w9 from
    ⟨by rw [HMT.out]; unfold Ip; rw [HCS.out]; exact hown9, (HW.out.2.1.trans ((HW.out.2.2.2 _).mono hbs)).trans hb9⟩)
   clear hown9 hb9 hHeld hS1 HW a0 a1 a2
   go_wp2
   go_roundw
   case rel => exact ⟨k + 1, by omega, by omega, by go_num, HF.out.1, HF.out.2⟩
   case measure => simp [intOf]; omega
  ·have HE := hid (show (xs.take k).map Ip = (xs.take 40).map Ip by
    by_cases h : k < n
    ·rw [show k = 40 by omega]
    ·rw [List.take_of_length_le (by rw [HN.out]; omega), List.take_of_length_le (show xs.length <= 40 by rw [HN.out]; omega)])
   have HO := hid hown
   clear hown
   by_cases h : k < n
   ·have hki : (k : Int) < (n : Int) := by omega
    have hki40 : ¬ (k : Int) < 40 := by omega
    clear hlt
    go_wp2
    refine bodyPost_ret (v := u3) (by simp [results, Tryz.results11, go_sem]) rfl ?_
    exact ⟨u3, rfl, by first | (rw [<- HE.out]; exact HO.out) | (rw [<- List.map_take, <- HE.out]; exact HO.out), hb⟩
   ·have hki : ¬ (k : Int) < (n : Int) := by omega
    clear hlt
    go_wp2
    refine bodyPost_ret (v := u3) (by simp [results, Tryz.results11, go_sem]) rfl ?_
    exact ⟨u3, rfl, by first | (rw [<- HE.out]; exact HO.out) | (rw [<- List.map_take, <- HE.out]; exact HO.out), hb⟩
theorem Vu (v : Value) (xs : List Sc) (m j : Int) (w : World) (hx : Cy w v xs) (hl : xs.length <= 1000) (hw : ∀ x ∈ xs, -9223372036854775808 <= x.kind + j /\ x.kind + j <= 9223372036854775807 /\ -9223372036854775808 <= x.num + m /\ x.num + m <= 9223372036854775807) :
  Calls Tryz.prog 16 #[v, .int .i64 m, .int .i64 j] w fun e w' => ∃ u, e = .returned u /\ BU w' w.heap.size u (xs.map (Le m j)) /\ Below w.heap.size w w' := by
 obtain ⟨A, ca, rfl, hA⟩ := hx
 have HA := hid hA
 have HWR := hid hw
 obtain ⟨n, hn⟩ : ∃ n, xs.length = n := ⟨_, rfl⟩
 rw [hn] at HA hl |-
 have HN := hid hn
 clear hA hn hw
 go_enter Tryz.func16, Tryz.ntmps16
 go_wp2
 go_loopw [7, 8] (fun o i wr => ∃ k : Nat, k <= n /\ i = .int .i64 k /\ BU wr w.heap.size o ((xs.take k).map (Le m j)) /\ Below w.heap.size w wr) (fun _ i _ => n - (intOf i).toNat)
 case atStart => exact ⟨0, by omega, rfl, World.ownsRow_nil _ _ _ _, Bq _ _⟩
 case round =>
  obtain ⟨k, hk, rfl, hown, hb⟩ := hrel
  by_cases hlt : k < n
  ·have hki : (k : Int) < (n : Int) := by omega
   have hk0 : (0 : Int) <= (k : Int) := by omega
   obtain ⟨a, o, rfl, ha, a0, a1, a2⟩ := HA.out k hlt
   have hmt := KR (xs := xs) (f := Le m j) (k := k) (by rw [HN.out]; exact hlt)
   have hlen : ((xs.take k).map (Le m j)).length = k := by rw [List.length_map, List.length_take, HN.out]; omega
   have hwr := HWR.out (xs.getD k CF) (F3 _ _ _ (by rw [HN.out]; exact hlt))
   obtain ⟨⟨k1, n1, s1⟩, hx⟩ : ∃ x, xs.getD k CF = x := ⟨_, rfl⟩
   rw [hx] at a0 a1 a2 hmt hwr
   dsimp only at a0 a1 a2 hwr
   have hw1 : IntKind.i64.wrap (k1 + j) = k1 + j := by go_arith
   have hw2 : IntKind.i64.wrap (n1 + m) = n1 + m := by go_arith
   have HMT := hid hmt
   clear hx hmt hwr
   obtain ⟨ts, hts⟩ : ∃ ts, (xs.take k).map (Le m j) = ts := ⟨_, rfl⟩
   rw [hts] at hown hlen HMT
   have HL := hid hlen
   clear hts hlen
   replace a0 := Ab a0 hb
   replace a1 := Ab a1 hb
   replace a2 := Ab a2 hb
   have hbs : w.heap.size <= wr.heap.size := hb.size
   have hbn : ∀ ob, Below wr.heap.size wr (wr.drew.alloc ob) := fun ob => (Bq _ wr).drew.alloc Nr ob
   have hS1 := hid (show ∀ ob, (wr.drew.alloc ob).cell? ⟨a, o + k * 3, none⟩ = some (.int .i64 k1) /\ (wr.drew.alloc ob).cell? ⟨a, o + k * 3 + 1, none⟩ = some (.int .i64 n1) /\ (wr.drew.alloc ob).cell? ⟨a, o + k * 3 + 2, none⟩ = some (.string s1) from
    fun ob => ⟨Ab a0 (hbn ob), Ab a1 (hbn ob), Ab a2 (hbn ob)⟩)
   have HW := hid (Ai hown (Ai hb (Ai ha hbn)))
   clear hown hb hbn
   go_wp2
   refine wp_region_noPanic ?_
   refine wR 24 (S := (fun w' => w'.cell? ⟨a, o + k * 3, none⟩ = some (.int .i64 k1) /\ w'.cell? ⟨a, o + k * 3 + 1, none⟩ = some (.int .i64 n1) /\ w'.cell? ⟨a, o + k * 3 + 2, none⟩ = some (.string s1))) rfl ⟨a0, a1, a2⟩ (fun hHeld => ?_)
   simp only [gR]
   iterate 21 (refine wN hHeld ?_; try simp only [gS])
   refine wB 21 rfl (fun K hK => ?_)
   go_simp
   refine hK.out _ _ (hS1.out _) (fun hHeld2 => ?_)
   clear hK K hHeld
   have hHeld := hHeld2; clear hHeld2
   try simp only [gS]
   refine wB 22 rfl (fun K hK => ?_)
   refine EN (by rfl) _ _ (by rfl) w.heap.size (wr.heap.size + 1) u7 (.slice (some ⟨wr.heap.size, 0, none⟩) 1 1) ts [⟨k1 + j, n1 + m, s1⟩] (ts ++ [⟨k1 + j, n1 + m, s1⟩]) (k + 1) (wr.drew.alloc (.cells #[.int .i64 (k1 + j), .int .i64 (n1 + m), .string s1] 40)) (by rfl) (by rfl) (Cf HW.out.1 (HW.out.2.2.2 _)) (IR.lit (heap_alloc_new wr.drew _) (by omega)) (by simp; omega) (by rw [HL.out]; omega) (by simp) rfl (by rw [List.length_append, HL.out]; rfl) ?_
   rintro v9 w9 hown9 hb9 ⟨A9, c9, rfl, hc9⟩
   refine hK.out _ _ ⟨(hb9.cell (p := ⟨a, _, none⟩) HW.out.2.2.1).trans (hS1.out _).1, (hb9.cell (p := ⟨a, _, none⟩) HW.out.2.2.1).trans (hS1.out _).2.1, (hb9.cell (p := ⟨a, _, none⟩) HW.out.2.2.1).trans (hS1.out _).2.2⟩ (fun hHeld2 => ?_)
   clear hK K hHeld
   have hHeld := hHeld2; clear hHeld2
   try simp only [gS]
   refine wN hHeld ?_; try simp only [gS]
   refine wpAnyH_done (by kernel_rfl) ?_ _
   refine NoPanic.normal ?_
   have HF := hid (show BU w9 w.heap.size (.slice A9 (k + 1) c9) ((xs.take (k + 1)).map (Le m j)) /\ Below w.heap.size w w9 from
    ⟨by rw [HMT.out]; exact hown9, (HW.out.2.1.trans ((HW.out.2.2.2 _).mono hbs)).trans hb9⟩)
   clear hown9 hb9 hHeld hS1 HW a0 a1 a2 hw1 hw2
   go_wp2
   go_roundw
   case rel => exact ⟨k + 1, by omega, by go_num, HF.out.1, HF.out.2⟩
   case measure => simp only [intOf]; omega
  ·have HE := hid (show (xs.take k).map (Le m j) = xs.map (Le m j) by rw [List.take_of_length_le (by rw [HN.out]; omega)])
   have HO := hid hown
   clear hown
   have hki : ¬ (k : Int) < (n : Int) := by omega
   go_wp2
   refine bodyPost_ret (v := u7) (by simp [results, Tryz.results16, go_sem]) rfl ?_
   exact ⟨u7, rfl, by rw [<- HE.out]; exact HO.out, hb⟩
end
section
set_option maxRecDepth 100000
set_option maxHeartbeats 8000000
def Lb (W : World) : Nat -> List Obj -> Prop
 | _, [] => True
 | m, o :: r => W.heap[m]? = some o /\ Lb W (m + 1) r
def Lt (w : World) : List Obj -> World
 | [] => w
 | o :: r => Lt (w.alloc o) r
theorem Lb.below {W W' : World} (hb : Below W.heap.size W W') : ∀ {l : List Obj} {m : Nat}, Lb W m l -> Lb W' m l
 | [], _, _ => trivial
 | _ :: _, _, h => ⟨Aa h.1 hb, Lb.below hb h.2⟩
theorem Ey : ∀ (l : List Obj) (w : World), Below w.heap.size w (Lt w l)
 | [], w => Bq _ _
 | o :: r, w => ((Bq w.heap.size w).alloc Nr o).trans ((Ey r (w.alloc o)).mono (by simp))
theorem Lb.new : ∀ (l : List Obj) (w : World), Lb (Lt w l) w.heap.size l
 | [], w => trivial
 | o :: r, w => by
  refine ⟨Aa (Wn w o) (Ey r (w.alloc o)), ?_⟩
  have := Lb.new r (w.alloc o)
  rwa [World.size_alloc] at this
def IL (F : Nat) (l : List Hi) : Bool := match C7 l with
 | .ok es => decide (4 * Dw es + 2 <= F)
 | _ => true
theorem GZ {F : Nat} {l : List Hi} (h : IL F l = true) : ∀ es, C7 l = .ok es -> 4 * Dw es + 2 <= F := fun es he => by
 unfold IL at h
 rw [he] at h
 simpa using h
theorem Lv {xs : List Sc} (h : (xs.all fun x => decide (x.str.size <= 100000)) = true) : ∀ x ∈ xs, x.str.size <= 100000 := fun x hx => of_decide_eq_true (List.all_eq_true.1 h x hx)
def GW : Tr := .mk 1 ⟨#[]⟩ CF [] [.mk 2 ⟨#[]⟩ CF [⟨3, 0, ⟨#[97]⟩⟩, ⟨3, 0, ⟨#[98]⟩⟩] [.mk 0 ⟨#[]⟩ ⟨2, 1, ⟨#[]⟩⟩ [] [], .mk 0 ⟨#[]⟩ CF [] []], .mk 1 ⟨#[120]⟩ CF [] [.mk 3 ⟨#[120]⟩ CF [] []]]
theorem Wi : Sm 1000000 GW := by
 unfold GW
 simp [Sm, Sm.SmTs]
def Vw : List Sc := [⟨1, 0, ⟨#[45, 32, 97, 58, 32, 49]⟩⟩, ⟨2, 2, ⟨#[98, 58]⟩⟩, ⟨3, 0, ⟨#[45, 32, 38, 120]⟩⟩, ⟨4, 2, ⟨#[45, 32, 42, 120]⟩⟩]
theorem W7 : EY [45, 32, 97, 58, 32, 49, 10, 32, 32, 98, 58, 10, 45, 32, 38, 120, 10, 32, 32, 45, 32, 42, 120, 10] = (Vw, 0, 0) := by kernel_rfl
theorem Wu : AL 100 (Vw.map B7) = (GW, 0, 0) := by kernel_rfl
theorem Ww : IL 100 (Vw.map B7) = true := by kernel_rfl
theorem Wz : (Vw.all fun x => decide (x.str.size <= 100000)) = true := by kernel_rfl
def Vt : List Sc := [⟨1, 0, ⟨#[97, 58, 32, 49]⟩⟩, ⟨2, 0, ⟨#[45, 32, 98]⟩⟩]
theorem Ws : EY [97, 58, 32, 49, 10, 45, 32, 98, 10] = (Vt, 0, 0) := by kernel_rfl
theorem W6 : AL 100 (Vt.map B7) = (CL, 2, 93) := by kernel_rfl
theorem Wx : IL 100 (Vt.map B7) = true := by kernel_rfl
theorem Wv : (Vt.all fun x => decide (x.str.size <= 100000)) = true := by kernel_rfl
def Vv : List Sc := [⟨1, 0, ⟨#[45, 32, 97]⟩⟩, ⟨2, 2, ⟨#[45, 32, 98]⟩⟩]
theorem Wt : EY [45, 32, 97, 10, 32, 32, 45, 32, 98, 10] = (Vv, 0, 0) := by kernel_rfl
theorem Wy : AL 100 (Vv.map B7) = (CL, 2, 92) := by kernel_rfl
theorem W5 : IL 100 (Vv.map B7) = true := by kernel_rfl
theorem W8 : (Vv.all fun x => decide (x.str.size <= 100000)) = true := by kernel_rfl
theorem Qm {W : World} {c1 c2 c3 c4 : Nat} (h1 : W.heap[c1]? = some (.cells #[.int .i64 3, .int .i64 0, .string ⟨#[97]⟩, .int .i64 3, .int .i64 0, .string ⟨#[98]⟩] 26)) (h2 : W.heap[c2]? = some (.cells #[.int .i64 0, .string ⟨#[]⟩, .int .i64 2, .int .i64 1, .string ⟨#[]⟩, .slice none 0 0, .slice none 0 0, .int .i64 0, .string ⟨#[]⟩, .int .i64 0, .int .i64 0, .string ⟨#[]⟩, .slice none 0 0, .slice none 0 0] 30)) (h3 : W.heap[c3]? = some (.cells #[.int .i64 3, .string ⟨#[120]⟩, .int .i64 0, .int .i64 0, .string ⟨#[]⟩, .slice none 0 0, .slice none 0 0] 30))
  (h4 : W.heap[c4]? = some (.cells #[.int .i64 2, .string ⟨#[]⟩, .int .i64 0, .int .i64 0, .string ⟨#[]⟩, .slice (some ⟨c1, 0, none⟩) 2 2, .slice (some ⟨c2, 0, none⟩) 2 2, .int .i64 1, .string ⟨#[120]⟩, .int .i64 0, .int .i64 0, .string ⟨#[]⟩, .slice none 0 0, .slice (some ⟨c3, 0, none⟩) 1 1] 30)) :
  Ao W (fun _ => True) GW (.agg #[.int .i64 1, .string ⟨#[]⟩, .int .i64 0, .int .i64 0, .string ⟨#[]⟩, .slice none 0 0, .slice (some ⟨c4, 0, none⟩) 2 2]) := by
 have l1 := (Gl h1)
 have l2 := (Gl h2)
 have l3 := (Gl h3)
 have l4 := (Gl h4)
 have one : ∀ x : Sc, Ao W (fun _ => True) (.mk 0 ⟨#[]⟩ x [] []) (.agg #[.int .i64 0, .string ⟨#[]⟩, .int .i64 x.kind, .int .i64 x.num, .string x.str, .slice none 0 0, .slice none 0 0]) := fun x => Ao.one W _ x
 have hx : Ao W (fun _ => True) (.mk 3 ⟨#[120]⟩ CF [] []) (.agg #[.int .i64 3, .string ⟨#[120]⟩, .int .i64 0, .int .i64 0, .string ⟨#[]⟩, .slice none 0 0, .slice none 0 0]) := Ao.ref W _ [120]
 have hseq : Ao W (fun _ => True) (.mk 1 ⟨#[120]⟩ CF [] [.mk 3 ⟨#[120]⟩ CF [] []]) (.agg #[.int .i64 1, .string ⟨#[120]⟩, .int .i64 0, .int .i64 0, .string ⟨#[]⟩, .slice none 0 0, .slice (some ⟨c3, 0, none⟩) 1 1]) := by
  rw [Ao]
  refine ⟨.slice none 0 0, some ⟨c3, 0, none⟩, 1, rfl, Cy.nil W, Gx.nil _, ?_⟩
  rw [Ao.TsIn, Ao.TsIn]
  refine ⟨⟨c3, 0, _, rfl, trivial, l3, ⟨3, ⟨#[120]⟩, CF, .slice none 0 0, .slice none 0 0, rfl, ?_, ?_, ?_, ?_, ?_, ?_, ?_⟩, hx⟩, trivial⟩ <;> simp [World.cell?, h3, CF]
 have hmap : Ao W (fun _ => True) (.mk 2 ⟨#[]⟩ CF [⟨3, 0, ⟨#[97]⟩⟩, ⟨3, 0, ⟨#[98]⟩⟩] [.mk 0 ⟨#[]⟩ ⟨2, 1, ⟨#[]⟩⟩ [] [], .mk 0 ⟨#[]⟩ CF [] []]) (.agg #[.int .i64 2, .string ⟨#[]⟩, .int .i64 0, .int .i64 0, .string ⟨#[]⟩, .slice (some ⟨c1, 0, none⟩) 2 2, .slice (some ⟨c2, 0, none⟩) 2 2]) := by
  rw [Ao]
  refine ⟨.slice (some ⟨c1, 0, none⟩) 2 2, some ⟨c2, 0, none⟩, 2, rfl, ⟨some ⟨c1, 0, none⟩, 2, rfl, fun j hj => ⟨c1, 0, rfl, l1, ?_⟩⟩, fun _ _ _ _ _ _ => trivial, ?_⟩
  ·match j, hj with
   | 0, _ => simp [World.cell?, h1]
   | 1, _ => simp [World.cell?, h1]
  ·rw [Ao.TsIn, Ao.TsIn, Ao.TsIn]
   refine ⟨⟨c2, 0, _, rfl, trivial, l2, ⟨0, ⟨#[]⟩, ⟨2, 1, ⟨#[]⟩⟩, .slice none 0 0, .slice none 0 0, rfl, ?_, ?_, ?_, ?_, ?_, ?_, ?_⟩, one _⟩, ⟨c2, 0, _, rfl, trivial, l2, ⟨0, ⟨#[]⟩, CF, .slice none 0 0, .slice none 0 0, rfl, ?_, ?_, ?_, ?_, ?_, ?_, ?_⟩, one _⟩, trivial⟩ <;> simp [World.cell?, h2, CF]
 unfold GW
 rw [Ao]
 refine ⟨.slice none 0 0, some ⟨c4, 0, none⟩, 2, rfl, Cy.nil W, Gx.nil _, ?_⟩
 rw [Ao.TsIn, Ao.TsIn, Ao.TsIn]
 refine ⟨⟨c4, 0, _, rfl, trivial, l4, ⟨2, ⟨#[]⟩, CF, .slice (some ⟨c1, 0, none⟩) 2 2, .slice (some ⟨c2, 0, none⟩) 2 2, rfl, ?_, ?_, ?_, ?_, ?_, ?_, ?_⟩, hmap⟩, ⟨c4, 0, _, rfl, trivial, l4, ⟨1, ⟨#[120]⟩, CF, .slice none 0 0, .slice (some ⟨c3, 0, none⟩) 1 1, rfl, ?_, ?_, ?_, ?_, ?_, ?_, ?_⟩, hseq⟩, trivial⟩ <;> simp [World.cell?, h4, CF]
theorem Uf (w : World) (hT : Bz w) (hE : Cb w) (hL : Ot w) :
  Calls Tryz.prog 10 #[] w fun e w' => e = .returned (.bool true) /\ Below w.heap.size w w' := by
 have hS := fun s wx (hb : Below w.heap.size w wx) => P7 s wx (hT.below hb) (hL.below hb)
 have hR := fun v xs wx (hb : Below w.heap.size w wx) hx hl hs hF => Qp 100 (by decide) v xs wx hx hl hs hF (hT.below hb) (hE.below hb)
 clear hT hE hL
 go_enter Tryz.func10, Tryz.ntmps10
 go_wp2_with fail
 refine (hS ⟨#[45, 32, 97, 58, 32, 49, 10, 32, 32, 98, 58, 10, 45, 32, 38, 120, 10, 32, 32, 45, 32, 42, 120, 10]⟩ _ (Bq _ _)).mono ?_
 rw [show EY (⟨#[45, 32, 97, 58, 32, 49, 10, 32, 32, 98, 58, 10, 45, 32, 38, 120, 10, 32, 32, 45, 32, 42, 120, 10]⟩ : ByteArray).data.toList = (Vw, 0, 0) from W7]
 rintro e w1 ⟨v1, rfl, hl1, hb1⟩
 go_wp2_with fail
 refine (hR v1 Vw w1 hb1 hl1 (by decide) (Lv Wz) (GZ Ww)).mono ?_
 rw [Wu]
 rintro e w2 ⟨tv, rfl, htv, hb2⟩
 replace hb2 := hb1.trans (hb2.mono hb1.size)
 obtain ⟨tk, tnm, xk, xn, xs, KA0, kl, kc, TA, tl, tc, rfl⟩ := htv.form
 clear hb1 hl1
 have h7 := Lb.new [.cells #[.int .i64 tk, .string tnm, .int .i64 xk, .int .i64 xn, .string xs, .slice KA0 kl kc, .slice TA tl tc] 30, .cells #[.int .i64 0, .string ⟨#[]⟩, .int .i64 2, .int .i64 1, .string ⟨#[]⟩, .slice none 0 0, .slice none 0 0] 30, .cells #[.int .i64 3, .int .i64 0, .string ⟨#[97]⟩, .int .i64 3, .int .i64 0, .string ⟨#[98]⟩] 26, .cells #[.int .i64 0, .string ⟨#[]⟩, .int .i64 2, .int .i64 1, .string ⟨#[]⟩, .slice none 0 0, .slice none 0 0, .int .i64 0, .string ⟨#[]⟩, .int .i64 0, .int .i64 0, .string ⟨#[]⟩, .slice none 0 0, .slice none 0 0] 30, .cells #[.int .i64 3, .string ⟨#[120]⟩, .int .i64 0, .int .i64 0, .string ⟨#[]⟩, .slice none 0 0, .slice none 0 0] 30, .cells #[.int .i64 2, .string ⟨#[]⟩, .int .i64 0, .int .i64 0, .string ⟨#[]⟩, .slice (some ⟨w2.heap.size + 1 + 1, 0, none⟩) 2 2, .slice (some ⟨w2.heap.size + 1 + 1 + 1, 0, none⟩) 2 2, .int .i64 1, .string ⟨#[120]⟩, .int .i64 0, .int .i64 0, .string ⟨#[]⟩, .slice none 0 0, .slice (some ⟨w2.heap.size + 1 + 1 + 1 + 1, 0, none⟩) 1 1] 30, .cells #[.int .i64 1, .string ⟨#[]⟩, .int .i64 0, .int .i64 0, .string ⟨#[]⟩, .slice none 0 0, .slice (some ⟨w2.heap.size + 1 + 1 + 1 + 1 + 1, 0, none⟩) 2 2] 30] w2
 have hbA := Ey [.cells #[.int .i64 tk, .string tnm, .int .i64 xk, .int .i64 xn, .string xs, .slice KA0 kl kc, .slice TA tl tc] 30, .cells #[.int .i64 0, .string ⟨#[]⟩, .int .i64 2, .int .i64 1, .string ⟨#[]⟩, .slice none 0 0, .slice none 0 0] 30, .cells #[.int .i64 3, .int .i64 0, .string ⟨#[97]⟩, .int .i64 3, .int .i64 0, .string ⟨#[98]⟩] 26, .cells #[.int .i64 0, .string ⟨#[]⟩, .int .i64 2, .int .i64 1, .string ⟨#[]⟩, .slice none 0 0, .slice none 0 0, .int .i64 0, .string ⟨#[]⟩, .int .i64 0, .int .i64 0, .string ⟨#[]⟩, .slice none 0 0, .slice none 0 0] 30, .cells #[.int .i64 3, .string ⟨#[120]⟩, .int .i64 0, .int .i64 0, .string ⟨#[]⟩, .slice none 0 0, .slice none 0 0] 30, .cells #[.int .i64 2, .string ⟨#[]⟩, .int .i64 0, .int .i64 0, .string ⟨#[]⟩, .slice (some ⟨w2.heap.size + 1 + 1, 0, none⟩) 2 2, .slice (some ⟨w2.heap.size + 1 + 1 + 1, 0, none⟩) 2 2, .int .i64 1, .string ⟨#[120]⟩, .int .i64 0, .int .i64 0, .string ⟨#[]⟩, .slice none 0 0, .slice (some ⟨w2.heap.size + 1 + 1 + 1 + 1, 0, none⟩) 1 1] 30, .cells #[.int .i64 1, .string ⟨#[]⟩, .int .i64 0, .int .i64 0, .string ⟨#[]⟩, .slice none 0 0, .slice (some ⟨w2.heap.size + 1 + 1 + 1 + 1 + 1, 0, none⟩) 2 2] 30] w2
 simp only [Lt] at h7 hbA
 have hb3 := hb2.trans (hbA.mono hb2.size)
 have htv3 := htv.below hbA
 go_wp2_with fail
 refine (hS ⟨#[97, 58, 32, 49, 10, 45, 32, 98, 10]⟩ _ hb3).mono ?_
 rw [show EY (⟨#[97, 58, 32, 49, 10, 45, 32, 98, 10]⟩ : ByteArray).data.toList = (Vt, 0, 0) from Ws]
 rintro e w4 ⟨v4, rfl, hl4, hq4⟩
 replace h7 := h7.below hq4
 replace htv3 := htv3.below hq4
 have hb4 := hb3.trans (hq4.mono hb3.size)
 clear hq4 hb3 hbA htv
 go_wp2_with fail
 refine (hR v4 Vt w4 hb4 hl4 (by decide) (Lv Wv) (GZ Wx)).mono ?_
 rw [W6]
 rintro e w5 ⟨tv2, rfl, htv2, hq5⟩
 obtain ⟨uk, unm, yk, yn, ys, KB0, ul, uc, UA, vl, vc, rfl⟩ := htv2.form
 replace h7 := h7.below hq5
 replace htv3 := htv3.below hq5
 have hb5 := hb4.trans (hq5.mono hb4.size)
 have hqA : Below w5.heap.size w5 (w5.alloc (.cells #[.int .i64 uk, .string unm, .int .i64 yk, .int .i64 yn, .string ys, .slice KB0 ul uc, .slice UA vl vc] 30)) := (Bq _ _).alloc Nr _
 replace h7 := h7.below hqA
 replace htv3 := htv3.below hqA
 have hb6 := hb5.trans (hqA.mono hb5.size)
 clear hq5 hb4 hqA htv2 hl4 hb5
 go_wp2_with fail
 refine (hS ⟨#[45, 32, 97, 10, 32, 32, 45, 32, 98, 10]⟩ _ hb6).mono ?_
 rw [show EY (⟨#[45, 32, 97, 10, 32, 32, 45, 32, 98, 10]⟩ : ByteArray).data.toList = (Vv, 0, 0) from Wt]
 rintro e w7 ⟨v7, rfl, hl7, hq7⟩
 replace h7 := h7.below hq7
 replace htv3 := htv3.below hq7
 have hb7 := hb6.trans (hq7.mono hb6.size)
 clear hq7 hb6
 go_wp2_with fail
 refine (hR v7 Vv w7 hb7 hl7 (by decide) (Lv W8) (GZ W5)).mono ?_
 rw [Wy]
 rintro e w8 ⟨tv3, rfl, htv4, hq8⟩
 obtain ⟨sk, snm, zk, zn, zs, KC0, sl, sc, SA, rl, rc, rfl⟩ := htv4.form
 replace h7 := h7.below hq8
 replace htv3 := htv3.below hq8
 have hb8 := hb7.trans (hq8.mono hb7.size)
 have hqB : Below w8.heap.size w8 (w8.alloc (.cells #[.int .i64 sk, .string snm, .int .i64 zk, .int .i64 zn, .string zs, .slice KC0 sl sc, .slice SA rl rc] 30)) := (Bq _ _).alloc Nr _
 replace h7 := h7.below hqB
 replace htv3 := htv3.below hqB
 have hb9 := hb8.trans (hqB.mono hb8.size)
 clear hq8 hb7 hqB htv4 hl7 hb8 hS hR
 obtain ⟨g0, g1, g2, g3, g4, g5, g6, _⟩ := h7
 have hS1 := OK GW _ _ _ _ _ htv3 (Qm g2 g3 g4 g5) Wi
 obtain ⟨x0, x1, x2, x3, x4, x5, x6, _, _, _, _, _, _, _⟩ := Ay g0
 obtain ⟨y0, y1, y2, y3, y4, y5, y6, _, _, _, _, _, _, _⟩ := Ay g6
 clear g0 g1 g2 g3 g4 g5 g6 htv3
 go_wp2_with fail
 refine hS1.mono ?_
 rintro e w11 ⟨rfl, hq11⟩
 have HB := hid (hb9.trans (hq11.mono hb9.size))
 clear hS1 hq11 hb9 x0 x1 x2 x3 x4 x5 x6 y0 y1 y2 y3 y4 y5 y6
 go_wp2
 go_ret
 exact ⟨rfl, HB.out⟩
end
end Go.Proofs.YtaogfdffgdglkaaGreatDoor
