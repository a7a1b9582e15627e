/- What is proved: the law ScalPlain returns true whatever comes in, its arguments reading as they did; and its card. No condition beside the card's own. -/
import Derived.Test.YtkdhaipjfkalfaaGreatDoorLgq
import Derived.Test.YtkdhaipjfkalfaaGreatDoorTp
import Derived.Test.YtkdhaipjfkalfaaGreatDoorCards
import Derived.Test.YtkdhaipjfkalfaaGreatDoorTie
namespace Go.Proofs.YtkdhaipjfkalfaaGreatDoor.scalPlain
open Go Go.ChangeShapes Go.WideShapes Go.ChangeAt Go.RowKit
open Go.ChangeMaps (open_string shut_string)
set_option linter.unusedSimpArgs false

set_option maxRecDepth 100000 in
theorem post (H : Type) (enc : TypeId × Value → H) (W : World) (base : Nat) (args : Array Value) (ds gs : List (DataW H)) (before : List MemPlace)
    (hval : ∀ (j : Nat) t v, Tryz.f10.params[j]? = some t → args[j]? = some v → Value.okWide Tryz.prog W .any base t v)
    (hW : DataW.Whole enc Tryz.prog Tryz.f10.params.toList Rows.scalPlainSpec.vars false W args.toList ds gs before) (hL : laidMetH Tryz.prog Rows.scalPlainRow.laid W) :
    Calls Tryz.prog 10 args W fun e W' => ∃ v, e = .returned v ∧ Rows.scalPlainSpec.post enc Tryz.prog Tryz.f10 false true false false W args v W' := by
  have hW' := hW
  obtain ⟨p, q, hA0, hV, rfl, hfz, hnd⟩ := hW
  have hA : DataW.TrodAll enc Tryz.prog W 0 (fun _ => true) true Tryz.f10.params.toList args.toList ds p := hA0
  rw [Tryz.params10] at hA hval
  obtain ⟨v0, vs0, d0, ds0, p0, q0, hargs, rfl, rfl, h0, r0⟩ := trodAll_cons hA
  obtain ⟨rfl, rfl, rfl⟩ := trodAll_nil r0
  obtain rfl : args = #[v0] := by cases args; simp_all
  obtain ⟨rfl, rfl⟩ := trodVars_none hV
  obtain ⟨k0, n0, t0, rfl, rfl⟩ := open_scalar (hval 0 _ v0 rfl rfl) h0
  refine (ScalPlain_any k0 n0 t0 W (tabs_scalTells hL)).mono ?_
  rintro e W' ⟨rfl, hb⟩
  have hsc0 := Below.trod (by kernel_rfl) (by kernel_rfl) (of_decide_eq_true (by kernel_rfl)) h0 hb (fun x hx => by cases hx)
  refine ⟨_, rfl, _, _, _, [], [], [], hW', ?_, ?_, ?_, hb.frame _, fun h => by cases h⟩
  · exact trodAll_mk1 (shut_bool Tryz.underlying4 true)
  · exact trodAll_mk1 hsc0
  · rfl

set_option maxRecDepth 100000 in
theorem witness (os : Os) {H : Type} (enc : TypeId × Value → H) :
    (OpenSpec.ofChange Rows.scalPlainSpec).preRow enc Tryz.prog Tryz.f10 Rows.scalPlainRow.domain false Rows.scalPlainRow.laid ((laidWorld os).forCall (fun _ _ => 0) ⟨#[], #[.agg #[.int .i64 0, .int .i64 0, .string ⟨#[]⟩]], []⟩).memory #[.agg #[.int .i64 0, .int .i64 0, .string ⟨#[]⟩]] := by
  have hw : (DataW.whole enc Tryz.prog ((laidWorld os).forCall (fun _ _ => 0) ⟨#[], #[.agg #[.int .i64 0, .int .i64 0, .string ⟨#[]⟩]], []⟩).memory Tryz.f10.params.toList Rows.scalPlainSpec.vars false #[Value.agg #[.int .i64 0, .int .i64 0, .string ⟨#[]⟩]].toList 8).map (fun x => (x.1, x.2.1)) =
      some ([.agg [.lit (.int .i64 0), .lit (.int .i64 0), .lit (.string [])]], []) := by kernel_rfl
  obtain ⟨⟨x1, x2, x3⟩, hx, hx1⟩ := Option.map_eq_some_iff.1 hw
  simp only [Prod.mk.injEq] at hx1
  obtain ⟨rfl, rfl⟩ := hx1
  exact OpenSpec.preRow_of_cond 8 hx (by kernel_rfl) (fun k hk => by cases hk) (by kernel_rfl) (laid_met os _)

set_option maxRecDepth 100000 in
theorem lifted (os : Os) (started : os.Started) (H : Type) (enc : TypeId × Value → H) (F : Stop.Interp) :
    ReturnsInHanded {} Tryz.checked os 10 .any ((OpenSpec.ofChange Rows.scalPlainSpec).preRow enc Tryz.prog Tryz.f10 Rows.scalPlainRow.domain false Rows.scalPlainRow.laid) (((OpenSpec.ofChange Rows.scalPlainSpec).at F).post enc Tryz.prog Tryz.f10 false true false false) := by
  refine returnsInHanded_of_row (C := Tryz.checked) (s := OpenSpec.ofChange Rows.scalPlainSpec) own started (by kernel_rfl) Tryz.func10
    (witness_row_atRef (enc := enc) (C := Tryz.checked) false (laidWorld os) #[.agg #[.int .i64 0, .int .i64 0, .string ⟨#[]⟩]] rfl (by kernel_rfl) (by kernel_rfl) (by kernel_rfl) (witness os enc)) ?_
  intro W base args ds gs before hval hW _ _ _ hL _ _
  exact post H enc W base args ds gs before hval hW hL

theorem said : Rows.ScalPlainSaid :=
  OpenClaim.holds_of_cond 10 Tryz.f10 rfl rfl rfl rfl rfl rfl rfl ⟨rfl, rfl, rfl, rfl, rfl⟩ rfl rfl rfl rfl rfl (by kernel_rfl) Tryz.func10 (by kernel_rfl)
    (of_decide_eq_true (by kernel_rfl)) (by unfold Func.isWrapper; first | (rw [if_pos (by decide +kernel)]; kernel_rfl) | (rw [if_neg (by decide +kernel)]; exact ⟨rfl, rfl⟩))
    (fun os started H enc _ F => by rw [OpenClaim.pre_eq_preRow]; exact lifted os started H enc F)

theorem plain (f : FuncId) (fn : Func) (hf : Tryz.pinned.checked.prog.funcNamed "sigillary/sigillarylaw06.ScalPlain" = some f) (hfn : Tryz.pinned.checked.prog.funcs[f]? = some fn) :
    true = Tryz.pinned.checked.prog.looks [] ∧ ∀ (j : Nat) t, fn.params[j]? = some t → Tryz.pinned.checked.prog.wantsStandIn t = false := by
  obtain rfl : f = 10 := Option.some.inj ((show Tryz.prog.funcNamed "sigillary/sigillarylaw06.ScalPlain" = some 10 by kernel_rfl).symm.trans hf) |>.symm
  obtain rfl : fn = Tryz.f10 := (Option.some.inj (Tryz.func10.symm.trans hfn)).symm
  refine ⟨by kernel_rfl, fun j t ht => ?_⟩
  rw [Tryz.params10] at ht
  have hm : t = 23 := by simpa using Array.mem_of_getElem? ht
  subst hm
  exact (show Tryz.prog.wantsStandIn 23 = false by kernel_rfl)

end Go.Proofs.YtkdhaipjfkalfaaGreatDoor.scalPlain
namespace Go.Proofs.YtkdhaipjfkalfaaGreatDoor
open Go
/-- THE CARD of ScalPlain. -/
theorem scalPlain_card : Rows.ScalPlainCardSaid :=
  Claim7.holds_tied_plain_at .later [] _ _ _ _ scalPlain.said (fun _ h => by cases h) (by kernel_rfl) (fun _ h => by cases h) scalPlain_row_tie rfl ⟨rfl, rfl⟩ (by kernel_rfl) rfl scalPlain.plain (by kernel_rfl)
end Go.Proofs.YtkdhaipjfkalfaaGreatDoor
