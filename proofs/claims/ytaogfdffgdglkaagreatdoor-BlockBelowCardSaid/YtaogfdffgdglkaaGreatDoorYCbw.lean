/- What is proved: the law BlockBelow returns true whatever comes in, its arguments reading as they did; and its card. No condition beside the card's own. -/
import Derived.Test.YtaogfdffgdglkaaGreatDoorYBlw
import Derived.Test.YtaogfdffgdglkaaGreatDoorYxt
import Derived.Test.YtaogfdffgdglkaaGreatDoorCards
import Derived.Test.YtaogfdffgdglkaaGreatDoorTie
namespace Go.Proofs.YtaogfdffgdglkaaGreatDoor.blockBelow
open Go Go.ChangeShapes Go.WideShapes Go.ChangeAt Go.RowKit
open Go.ChangeMaps (open_string shut_string)
set_option linter.unusedSimpArgs false
set_option maxRecDepth 100000
theorem post (H : Type) (enc : TypeId × Value -> H) (W : World) (base : Nat) (args : Array Value) (ds gs : List (DataW H)) (before : List MemPlace)
  (hval : ∀ (j : Nat) t v, Tryz.f6.params[j]? = some t -> args[j]? = some v -> Value.okWide Tryz.prog W .any base t v)
  (hW : DataW.Whole enc Tryz.prog Tryz.f6.params.toList Rows.blockBelowSpec.vars false W args.toList ds gs before) (hL : laidMetH Tryz.prog Rows.blockBelowRow.laid W) (hSh : W.ShapedOpen Tryz.prog) :
  Calls Tryz.prog 6 args W fun e W' => ∃ v, e = .returned v /\ Rows.blockBelowSpec.post enc Tryz.prog Tryz.f6 false true false false W args v W' := by
 have hW' := hW
 obtain ⟨p, q, hA0, hV, rfl, hfz, hnd⟩ := hW
 have hA : DataW.TrodAll enc Tryz.prog W 0 (fun _ => true) true Tryz.f6.params.toList args.toList ds p := hA0
 rw [Tryz.params6] at hA hval
 obtain ⟨v0, vs0, d0, ds0, p0, q0, hargs, rfl, rfl, h0, r0⟩ := trodAll_cons hA
 obtain ⟨v1, vs1, d1, ds1, p1, q1, rfl, rfl, rfl, h1, r1⟩ := trodAll_cons r0
 obtain ⟨rfl, rfl, rfl⟩ := trodAll_nil r1
 obtain rfl : args = #[v0, v1] := by cases args; simp_all
 obtain ⟨rfl, rfl⟩ := trodVars_none hV
 obtain ⟨xs0, hxs0⟩ := V8 (hval 0 _ v0 rfl rfl) h0
 obtain ⟨b1, rfl, rfl, rfl⟩ := open_bool Tryz.underlying4 (hval 1 _ v1 rfl rfl) h1
 simp only [List.nil_append, List.append_nil] at hW'
 refine (BlockBelow_any v0 b1 xs0 W hxs0 (Vx hL) (UP hL) (Tryz.laysM145.s1_3 W hSh)).mono ?_
 rintro e W' ⟨rfl, hb⟩
 have ht0 := Below.trod (by kernel_rfl) (by kernel_rfl) (of_decide_eq_true (by kernel_rfl)) h0 hb (fun x hx => hW'.lt x (by simp [hx]))
 refine ⟨_, rfl, _, _, _, [], p0, [], hW', ?_, ?_, ?_, hb.frame _, fun h => by cases h⟩
 ·exact trodAll_mk1 (shut_bool Tryz.underlying4 true)
 ·have h3 := trodAll_cons_mk (p := p0) ht0 (trodAll_mk1 (shut_bool Tryz.underlying4 b1))
  simp only [List.append_nil, List.nil_append] at h3
  exact h3
 ·rfl
theorem witness (os : Os) {H : Type} (enc : TypeId × Value -> H) :
  (OpenSpec.ofChange Rows.blockBelowSpec).preRow enc Tryz.prog Tryz.f6 Rows.blockBelowRow.domain false Rows.blockBelowRow.laid ((Qo os).forCall (fun _ _ => 0) ⟨#[], #[.slice none 0 0, .bool false], []⟩).memory #[.slice none 0 0, .bool false] := by
 have hw : (DataW.whole enc Tryz.prog ((Qo os).forCall (fun _ _ => 0) ⟨#[], #[.slice none 0 0, .bool false], []⟩).memory Tryz.f6.params.toList Rows.blockBelowSpec.vars false #[Value.slice none 0 0, .bool false].toList 8).map (fun x => (x.1, x.2.1)) =
   some ([.nil, .lit (.bool false)], []) := by kernel_rfl
 obtain ⟨⟨x1, x2, x3⟩, hx, hx1⟩ := Option.map_eq_some_iff.1 hw
 simp only [Prod.mk.injEq] at hx1
 obtain ⟨rfl, rfl⟩ := hx1
 exact OpenSpec.preRow_of_cond 8 hx (by kernel_rfl) (fun k hk => by cases hk) (by kernel_rfl) (V6 os _)
theorem lifted (os : Os) (started : os.Started) (H : Type) (enc : TypeId × Value -> H) (F : Stop.Interp) :
  ReturnsInHanded {} Tryz.checked os 6 .any ((OpenSpec.ofChange Rows.blockBelowSpec).preRow enc Tryz.prog Tryz.f6 Rows.blockBelowRow.domain false Rows.blockBelowRow.laid) (((OpenSpec.ofChange Rows.blockBelowSpec).at F).post enc Tryz.prog Tryz.f6 false true false false) := by
 refine returnsInHanded_of_row (C := Tryz.checked) (s := OpenSpec.ofChange Rows.blockBelowSpec) own started (by kernel_rfl) Tryz.func6
  (witness_row_atRef (enc := enc) (C := Tryz.checked) false (Qo os) #[.slice none 0 0, .bool false] rfl (by kernel_rfl) (by kernel_rfl) (by kernel_rfl) (witness os enc)) ?_
 intro W base args ds gs before hval hW _ _ _ hL hSh _
 exact post H enc W base args ds gs before hval hW hL hSh
theorem f_inPlace : (Rows.blockBelowRow.inPlace == Tryz.prog.inPlace 6) = true := by kernel_rfl
theorem f_unfollowed : (Rows.blockBelowRow.unfollowed == Tryz.prog.unfollowed 6) = true := by kernel_rfl
theorem f_recurses : (Rows.blockBelowRow.recurses == Tryz.prog.recurses 6) = true := by kernel_rfl
theorem f_named : (Rows.blockBelowRow.named == Tryz.prog.varsNamed 6) = true := by kernel_rfl
theorem closed : joinedFacts Tryz.prog 6 Tryz.f6 (OpenSpec.ofChange Rows.blockBelowSpec).bare Rows.blockBelowRow = true := by
 unfold joinedFacts
 rw [VT, VQ, f_inPlace, f_unfollowed, f_recurses, f_named]
 kernel_rfl
theorem said : Rows.BlockBelowSaid :=
 OpenClaim.holds_of_cond 6 Tryz.f6 rfl rfl rfl rfl rfl rfl rfl ⟨rfl, rfl, rfl, rfl, rfl⟩ rfl rfl rfl rfl rfl (by kernel_rfl) Tryz.func6 closed
  (of_decide_eq_true (by kernel_rfl)) (by unfold Func.isWrapper; first | (rw [if_pos (by decide +kernel)]; kernel_rfl) | (rw [if_neg (by decide +kernel)]; exact ⟨rfl, rfl⟩))
  (fun os started H enc _ F => by rw [OpenClaim.pre_eq_preRow]; exact lifted os started H enc F)
theorem plain (f : FuncId) (fn : Func) (hf : Tryz.pinned.checked.prog.funcNamed "sigillary/sigillarylaw17.BlockBelow" = some f) (hfn : Tryz.pinned.checked.prog.funcs[f]? = some fn) :
  true = Tryz.pinned.checked.prog.looks [] /\ ∀ (j : Nat) t, fn.params[j]? = some t -> Tryz.pinned.checked.prog.wantsStandIn t = false := by
 obtain rfl : f = 6 := Option.some.inj ((show Tryz.prog.funcNamed "sigillary/sigillarylaw17.BlockBelow" = some 6 by kernel_rfl).symm.trans hf) |>.symm
 obtain rfl : fn = Tryz.f6 := (Option.some.inj (Tryz.func6.symm.trans hfn)).symm
 refine ⟨by kernel_rfl, fun j t ht => ?_⟩
 rw [Tryz.params6] at ht
 have hm : t = 22 \/ t = 4 := by simpa using Array.mem_of_getElem? ht
 rcases hm with rfl | rfl
 ·exact (show Tryz.prog.wantsStandIn 22 = false by kernel_rfl)
 ·exact (show Tryz.prog.wantsStandIn 4 = false by kernel_rfl)
end Go.Proofs.YtaogfdffgdglkaaGreatDoor.blockBelow
namespace Go.Proofs.YtaogfdffgdglkaaGreatDoor
set_option maxRecDepth 100000
open Go
theorem blockBelow_card : Rows.BlockBelowCardSaid :=
 Claim7.holds_tied_plain_at .later [] _ _ _ _ blockBelow.said (fun _ h => by cases h) (by kernel_rfl) (fun _ h => by cases h) blockBelow_row_tie rfl ⟨rfl, rfl⟩ (by kernel_rfl) rfl blockBelow.plain (by kernel_rfl)
end Go.Proofs.YtaogfdffgdglkaaGreatDoor
