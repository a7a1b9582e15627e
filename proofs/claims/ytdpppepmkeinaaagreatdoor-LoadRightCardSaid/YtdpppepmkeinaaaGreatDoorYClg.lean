/- What is proved: the law LoadRight returns true whatever comes in, its arguments reading as they did; and its card. No condition beside the card's own. -/
import Derived.Test.YtdpppepmkeinaaaGreatDoorYElg
import Derived.Test.YtdpppepmkeinaaaGreatDoorYxa
import Derived.Test.YtdpppepmkeinaaaGreatDoorCards
import Derived.Test.YtdpppepmkeinaaaGreatDoorTie
namespace Go.Proofs.YtdpppepmkeinaaaGreatDoor.loadRight
set_option maxRecDepth 100000
open Go Go.ChangeShapes Go.WideShapes Go.ChangeAt Go.RowKit
open Go.ChangeMaps (open_string shut_string)
set_option linter.unusedSimpArgs false
theorem post (H : Type) (enc : TypeId × Value -> H) (W : World) (base : Nat) (args : Array Value) (ds gs : List (DataW H)) (before : List MemPlace)
  (hval : ∀ (j : Nat) t v, Tryz.f10.params[j]? = some t -> args[j]? = some v -> Value.okWide Tryz.prog W .any base t v)
  (hW : DataW.Whole enc Tryz.prog Tryz.f10.params.toList Rows.loadRightSpec.vars false W args.toList ds gs before) (hL : laidMetH Tryz.prog Rows.loadRightRow.laid W) (hSh : W.ShapedOpen Tryz.prog) :
  Calls Tryz.prog 10 args W fun e W' => ∃ v, e = .returned v /\ Rows.loadRightSpec.post enc Tryz.prog Tryz.f10 false true false false W args v W' := by
 have hW' := hW
 obtain ⟨p, q, hA0, hV, rfl, hfz, hnd⟩ := hW
 have hA : DataW.TrodAll enc Tryz.prog W 0 (fun _ => true) true Tryz.f10.params.toList args.toList ds p := hA0
 rw [Tryz.params10] at hA hval
 obtain ⟨v0, vs0, d0, ds0, p0, q0, hargs, rfl, rfl, h0, r0⟩ := trodAll_cons hA
 obtain ⟨rfl, rfl, rfl⟩ := trodAll_nil r0
 obtain rfl : args = #[v0] := by cases args; simp_all
 obtain ⟨rfl, rfl⟩ := trodVars_none hV
 obtain ⟨s0, rfl, rfl, rfl, hs0⟩ := open_string Tryz.underlying9 (hval 0 _ v0 rfl rfl) h0
 refine (Abu s0 W (Ajx hL hSh)).mono ?_
 rintro e W' ⟨rfl, hb⟩
 refine ⟨_, rfl, _, _, _, [], [], [], hW', ?_, ?_, ?_, hb.frame _, fun h => by cases h⟩
 ·exact trodAll_mk1 (shut_bool Tryz.underlying4 true)
 ·exact trodAll_mk1 (shut_string Tryz.underlying9 hs0)
 ·rfl
theorem witness (os : Os) {H : Type} (enc : TypeId × Value -> H) :
  (OpenSpec.ofChange Rows.loadRightSpec).preRow enc Tryz.prog Tryz.f10 Rows.loadRightRow.domain false Rows.loadRightRow.laid ((Xj os).forCall (fun _ _ => 0) ⟨#[], #[.string ⟨#[]⟩], []⟩).memory #[.string ⟨#[]⟩] := by
 have hw : (DataW.whole enc Tryz.prog ((Xj os).forCall (fun _ _ => 0) ⟨#[], #[.string ⟨#[]⟩], []⟩).memory Tryz.f10.params.toList Rows.loadRightSpec.vars false #[Value.string ⟨#[]⟩].toList 8).map (fun x => (x.1, x.2.1)) =
   some ([.lit (.string [])], []) := by kernel_rfl
 obtain ⟨⟨x1, x2, x3⟩, hx, hx1⟩ := Option.map_eq_some_iff.1 hw
 simp only [Prod.mk.injEq] at hx1
 obtain ⟨rfl, rfl⟩ := hx1
 exact OpenSpec.preRow_of_cond 8 hx (by kernel_rfl) (fun k hk => by cases hk) (by kernel_rfl) (Aj0 os _)
theorem lifted (os : Os) (started : os.Started) (H : Type) (enc : TypeId × Value -> H) (F : Stop.Interp) :
  ReturnsInHanded {} Tryz.checked os 10 .any ((OpenSpec.ofChange Rows.loadRightSpec).preRow enc Tryz.prog Tryz.f10 Rows.loadRightRow.domain false Rows.loadRightRow.laid) (((OpenSpec.ofChange Rows.loadRightSpec).at F).post enc Tryz.prog Tryz.f10 false true false false) := by
 refine returnsInHanded_of_row (C := Tryz.checked) (s := OpenSpec.ofChange Rows.loadRightSpec) own started (by kernel_rfl) Tryz.func10
  (witness_row_atRef (enc := enc) (C := Tryz.checked) false (Xj os) #[.string ⟨#[]⟩] rfl (by kernel_rfl) (by kernel_rfl) (by kernel_rfl) (witness os enc)) ?_
 intro W base args ds gs before hval hW _ _ _ hL hSh _
 exact post H enc W base args ds gs before hval hW hL hSh
theorem f_inPlace : (Rows.loadRightRow.inPlace == Tryz.prog.inPlace 10) = true := by kernel_rfl
theorem f_unfollowed : (Rows.loadRightRow.unfollowed == Tryz.prog.unfollowed 10) = true := by kernel_rfl
theorem f_recurses : (Rows.loadRightRow.recurses == Tryz.prog.recurses 10) = true := by kernel_rfl
theorem f_named : (Rows.loadRightRow.named == Tryz.prog.varsNamed 10) = true := by kernel_rfl
theorem closed : joinedFacts Tryz.prog 10 Tryz.f10 (OpenSpec.ofChange Rows.loadRightSpec).bare Rows.loadRightRow = true := by
 unfold joinedFacts
 rw [Akh, Akm, f_inPlace, f_unfollowed, f_recurses, f_named]
 kernel_rfl
theorem said : Rows.LoadRightSaid :=
 OpenClaim.holds_of_cond 10 Tryz.f10 rfl rfl rfl rfl rfl rfl rfl ⟨rfl, rfl, rfl, rfl, rfl⟩ rfl rfl rfl rfl rfl (by kernel_rfl) Tryz.func10 closed
  (of_decide_eq_true (by kernel_rfl)) (by unfold Func.isWrapper; first | (rw [if_pos (by decide +kernel)]; kernel_rfl) | (rw [if_neg (by decide +kernel)]; exact ⟨rfl, rfl⟩))
  (fun os started H enc _ F => by rw [OpenClaim.pre_eq_preRow]; exact lifted os started H enc F)
theorem plain (f : FuncId) (fn : Func) (hf : Tryz.pinned.checked.prog.funcNamed "sigillary/sigillarylaw19.LoadRight" = some f) (hfn : Tryz.pinned.checked.prog.funcs[f]? = some fn) :
  true = Tryz.pinned.checked.prog.looks [] /\ ∀ (j : Nat) t, fn.params[j]? = some t -> Tryz.pinned.checked.prog.wantsStandIn t = false := by
 obtain rfl : f = 10 := Option.some.inj ((show Tryz.prog.funcNamed "sigillary/sigillarylaw19.LoadRight" = some 10 by kernel_rfl).symm.trans hf) |>.symm
 obtain rfl : fn = Tryz.f10 := (Option.some.inj (Tryz.func10.symm.trans hfn)).symm
 refine ⟨by kernel_rfl, fun j t ht => ?_⟩
 rw [Tryz.params10] at ht
 have hm : t = 9 := by simpa using Array.mem_of_getElem? ht
 subst hm
 exact (show Tryz.prog.wantsStandIn 9 = false by kernel_rfl)
end Go.Proofs.YtdpppepmkeinaaaGreatDoor.loadRight
namespace Go.Proofs.YtdpppepmkeinaaaGreatDoor
set_option maxRecDepth 100000
open Go
theorem loadRight_card : Rows.LoadRightCardSaid :=
 Claim7.holds_tied_plain_at .later [] _ _ _ _ loadRight.said (fun _ h => by cases h) (by kernel_rfl) (fun _ h => by cases h) loadRight_row_tie rfl ⟨rfl, rfl⟩ (by kernel_rfl) rfl loadRight.plain (by kernel_rfl)
end Go.Proofs.YtdpppepmkeinaaaGreatDoor
