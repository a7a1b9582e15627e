/- What is proved: the law FlowMoves returns true whatever comes in, its arguments reading as they did; and its card. No condition beside the card's own. -/
import Derived.Test.YtiinnnbpbnojgaaGreatDoorFlm
import Derived.Test.YtiinnnbpbnojgaaGreatDoorTc
import Derived.Test.YtiinnnbpbnojgaaGreatDoorJf
import Derived.Test.YtiinnnbpbnojgaaGreatDoorTo
import Derived.Test.YtiinnnbpbnojgaaGreatDoorCards
import Derived.Test.YtiinnnbpbnojgaaGreatDoorTie
namespace Go.Proofs.YtiinnnbpbnojgaaGreatDoor.flowMoves
open Go Go.ChangeShapes Go.WideShapes Go.ChangeAt Go.RowKit
open Go.ChangeMaps (open_string shut_string)
set_option linter.unusedSimpArgs false

set_option maxRecDepth 100000 in
theorem post (H : Type) (enc : TypeId × Value → H) (W : World) (base : Nat) (args : Array Value) (ds gs : List (DataW H)) (before : List MemPlace)
    (hval : ∀ (j : Nat) t v, Tryz.f3.params[j]? = some t → args[j]? = some v → Value.okWide Tryz.prog W .any base t v)
    (hW : DataW.Whole enc Tryz.prog Tryz.f3.params.toList Rows.flowMovesSpec.vars false W args.toList ds gs before) (hL : laidMetH Tryz.prog Rows.flowMovesRow.laid W) :
    Calls Tryz.prog 3 args W fun e W' => ∃ v, e = .returned v ∧ Rows.flowMovesSpec.post enc Tryz.prog Tryz.f3 false true false false W args v W' := by
  have hW' := hW
  obtain ⟨p, q, hA0, hV, rfl, hfz, hnd⟩ := hW
  have hA : DataW.TrodAll enc Tryz.prog W 0 (fun _ => true) true Tryz.f3.params.toList args.toList ds p := hA0
  rw [Tryz.params3] at hA hval
  obtain ⟨v0, vs0, d0, ds0, p0, q0, hargs, rfl, rfl, h0, r0⟩ := trodAll_cons hA
  obtain ⟨v1, vs1, d1, ds1, p1, q1, rfl, rfl, rfl, h1, r1⟩ := trodAll_cons r0
  obtain ⟨v2, vs2, d2, ds2, p2, q2, rfl, rfl, rfl, h2, r2⟩ := trodAll_cons r1
  obtain ⟨rfl, rfl, rfl⟩ := trodAll_nil r2
  obtain rfl : args = #[v0, v1, v2] := by cases args; simp_all
  obtain ⟨rfl, rfl⟩ := trodVars_none hV
  obtain ⟨xs0, hxs0⟩ := open_toks (hval 0 _ v0 rfl rfl) h0
  obtain ⟨xs1, hxs1⟩ := open_toks (hval 1 _ v1 rfl rfl) h1
  obtain ⟨xs2, hxs2⟩ := open_toks (hval 2 _ v2 rfl rfl) h2
  simp only [List.nil_append, List.append_nil] at hW'
  refine (FlowMoves_any v0 v1 v2 xs0 xs1 xs2 W hxs0 hxs1 hxs2 (tabs_laid hL) (errTy_laid hL)).mono ?_
  rintro e W' ⟨rfl, hb⟩
  have ht0 := Below.trod (by kernel_rfl) (by kernel_rfl) (of_decide_eq_true (by kernel_rfl)) h0 hb (fun x hx => hW'.lt x (by simp [hx]))
  have ht1 := Below.trod (by kernel_rfl) (by kernel_rfl) (of_decide_eq_true (by kernel_rfl)) h1 hb (fun x hx => hW'.lt x (by simp [hx]))
  have ht2 := Below.trod (by kernel_rfl) (by kernel_rfl) (of_decide_eq_true (by kernel_rfl)) h2 hb (fun x hx => hW'.lt x (by simp [hx]))
  refine ⟨_, rfl, _, _, _, [], p0 ++ (p1 ++ (p2)), [], hW', ?_, ?_, ?_, hb.frame _, fun h => by cases h⟩
  · exact trodAll_mk1 (shut_bool Tryz.underlying4 true)
  · exact trodAll_cons_mk (p := p0) ht0 (trodAll_cons_mk (p := p1) ht1 (trodAll_mk1 ht2))
  · rfl

set_option maxRecDepth 100000 in
theorem witness (os : Os) {H : Type} (enc : TypeId × Value → H) :
    (OpenSpec.ofChange Rows.flowMovesSpec).preRow enc Tryz.prog Tryz.f3 Rows.flowMovesRow.domain false Rows.flowMovesRow.laid ((laidWorld os).forCall (fun _ _ => 0) ⟨#[], #[.slice none 0 0, .slice none 0 0, .slice none 0 0], []⟩).memory #[.slice none 0 0, .slice none 0 0, .slice none 0 0] := by
  have hw : (DataW.whole enc Tryz.prog ((laidWorld os).forCall (fun _ _ => 0) ⟨#[], #[.slice none 0 0, .slice none 0 0, .slice none 0 0], []⟩).memory Tryz.f3.params.toList Rows.flowMovesSpec.vars false #[Value.slice none 0 0, .slice none 0 0, .slice none 0 0].toList 8).map (fun x => (x.1, x.2.1)) =
      some ([.nil, .nil, .nil], []) := by kernel_rfl
  obtain ⟨⟨x1, x2, x3⟩, hx, hx1⟩ := Option.map_eq_some_iff.1 hw
  simp only [Prod.mk.injEq] at hx1
  obtain ⟨rfl, rfl⟩ := hx1
  exact OpenSpec.preRow_of_cond 8 hx (by kernel_rfl) (fun k hk => by cases hk) (by kernel_rfl) (laid_met os _)

set_option maxRecDepth 100000 in
theorem lifted (os : Os) (started : os.Started) (H : Type) (enc : TypeId × Value → H) (F : Stop.Interp) :
    ReturnsInHanded {} Tryz.checked os 3 .any ((OpenSpec.ofChange Rows.flowMovesSpec).preRow enc Tryz.prog Tryz.f3 Rows.flowMovesRow.domain false Rows.flowMovesRow.laid) (((OpenSpec.ofChange Rows.flowMovesSpec).at F).post enc Tryz.prog Tryz.f3 false true false false) := by
  refine returnsInHanded_of_row (C := Tryz.checked) (s := OpenSpec.ofChange Rows.flowMovesSpec) own started (by kernel_rfl) Tryz.func3
    (witness_row_atRef (enc := enc) (C := Tryz.checked) false (laidWorld os) #[.slice none 0 0, .slice none 0 0, .slice none 0 0] rfl (by kernel_rfl) (by kernel_rfl) (by kernel_rfl) (witness os enc)) ?_
  intro W base args ds gs before hval hW _ _ _ hL _ _
  exact post H enc W base args ds gs before hval hW hL

theorem f_inPlace : (Rows.flowMovesRow.inPlace == Tryz.prog.inPlace 3) = true := by kernel_rfl
theorem f_unfollowed : (Rows.flowMovesRow.unfollowed == Tryz.prog.unfollowed 3) = true := by kernel_rfl
theorem f_recurses : (Rows.flowMovesRow.recurses == Tryz.prog.recurses 3) = true := by kernel_rfl
theorem f_named : (Rows.flowMovesRow.named == Tryz.prog.varsNamed 3) = true := by kernel_rfl
theorem closed : joinedFacts Tryz.prog 3 Tryz.f3 (OpenSpec.ofChange Rows.flowMovesSpec).bare Rows.flowMovesRow = true := by
  unfold joinedFacts
  rw [jf_laid, jf_maps, f_inPlace, f_unfollowed, f_recurses, f_named]
  kernel_rfl

theorem said : Rows.FlowMovesSaid :=
  OpenClaim.holds_of_cond 3 Tryz.f3 rfl rfl rfl rfl rfl rfl rfl ⟨rfl, rfl, rfl, rfl, rfl⟩ rfl rfl rfl rfl rfl (by kernel_rfl) Tryz.func3 closed
    (of_decide_eq_true (by kernel_rfl)) (by unfold Func.isWrapper; first | (rw [if_pos (by decide +kernel)]; kernel_rfl) | (rw [if_neg (by decide +kernel)]; exact ⟨rfl, rfl⟩))
    (fun os started H enc _ F => by rw [OpenClaim.pre_eq_preRow]; exact lifted os started H enc F)

theorem plain (f : FuncId) (fn : Func) (hf : Tryz.pinned.checked.prog.funcNamed "sigillary/sigillarylaw16.FlowMoves" = some f) (hfn : Tryz.pinned.checked.prog.funcs[f]? = some fn) :
    true = Tryz.pinned.checked.prog.looks [] ∧ ∀ (j : Nat) t, fn.params[j]? = some t → Tryz.pinned.checked.prog.wantsStandIn t = false := by
  obtain rfl : f = 3 := Option.some.inj ((show Tryz.prog.funcNamed "sigillary/sigillarylaw16.FlowMoves" = some 3 by kernel_rfl).symm.trans hf) |>.symm
  obtain rfl : fn = Tryz.f3 := (Option.some.inj (Tryz.func3.symm.trans hfn)).symm
  refine ⟨by kernel_rfl, fun j t ht => ?_⟩
  rw [Tryz.params3] at ht
  have hm : t = 22 ∨ t = 22 ∨ t = 22 := by simpa using Array.mem_of_getElem? ht
  rcases hm with rfl | rfl | rfl
  · exact (show Tryz.prog.wantsStandIn 22 = false by kernel_rfl)
  · exact (show Tryz.prog.wantsStandIn 22 = false by kernel_rfl)
  · exact (show Tryz.prog.wantsStandIn 22 = false by kernel_rfl)

end Go.Proofs.YtiinnnbpbnojgaaGreatDoor.flowMoves
namespace Go.Proofs.YtiinnnbpbnojgaaGreatDoor
open Go
/-- THE CARD of FlowMoves. -/
theorem flowMoves_card : Rows.FlowMovesCardSaid :=
  Claim7.holds_tied_plain_at .later [] _ _ _ _ flowMoves.said (fun _ h => by cases h) (by kernel_rfl) (fun _ h => by cases h) flowMoves_row_tie rfl ⟨rfl, rfl⟩ (by kernel_rfl) rfl flowMoves.plain (by kernel_rfl)
end Go.Proofs.YtiinnnbpbnojgaaGreatDoor
