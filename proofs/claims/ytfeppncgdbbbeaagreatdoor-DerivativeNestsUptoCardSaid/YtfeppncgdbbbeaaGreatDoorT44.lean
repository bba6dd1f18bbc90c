/- Proved: for every pattern that reads as data of bulk at most 1048576, with the package variable shapes as the program lays it, the law DerivativeNests returns true and its argument reads behind the call as it read before. -/
import Derived.Test.YtfeppncgdbbbeaaGreatDoorT34
import Derived.Test.YtfeppncgdbbbeaaGreatDoorT43
set_option linter.all false

namespace Go.Proofs.YtfeppncgdbbbeaaGreatDoor.derivativeNests
open Go.ChangeShapes Go.WideShapes Go.ChangeAt Go.RowKit Go.Ab
set_option maxRecDepth 100000
theorem awake_ok : law22_awake 40000000 = some true := by kernel_rfl
theorem law (x : GPattern) (hx : x.bulk ≤ 1048576) : CallP Tryz.prog 3 [Encs.eGPattern x] (.bool true) := by
 have h := c3 _ x true (nests_law (Nat.le_refl _) awake_ok hx)
 rw [← Encs.eGPattern_eq] at h
 exact h
theorem own : ownKnob Tryz.prog.godebug = none := by kernel_rfl
theorem u4 : Tryz.prog.underlying 4 = some .bool := by kernel_rfl
theorem laidOut : laidOutB Tryz.prog = true := by kernel_rfl
theorem contract (H : Type) (enc : TypeId × Value → H) (W : World) (base : Nat) (args : Array Value) (ds gs : List (DataW H)) (before : List MemPlace)
 (hval : ∀ (j : Nat) t v, Tryz.f3.params[j]? = some t → args[j]? = some v → Value.okWide Tryz.prog W .any base t v)
 (hW : DataW.Whole enc Tryz.prog Tryz.f3.params.toList Rows.derivativeNestsSpec.vars false W args.toList ds gs before) (hL : laidMetH Tryz.prog Rows.derivativeNestsRow.laid W) (hb : Rows.uptoSmall H (ds ++ gs) = true) :
 Calls Tryz.prog 3 args W fun e W' => ∃ v, e = .returned v ∧ Rows.derivativeNestsSpec.post enc Tryz.prog Tryz.f3 false true false false W args v W' := by
 have hW' := hW
 obtain ⟨p, q, hA0, hV, rfl, hfz, hnd⟩ := hW
 have hA : DataW.TrodAll enc Tryz.prog W 0 (fun _ => true) true Tryz.f3.params.toList args.toList ds p := hA0
 rw [Tryz.params3] at hA hval
 obtain ⟨v0, vs0, d0, ds0, p0, q0, hargs, rfl, rfl, h0, r0⟩ := trodAll_cons hA
 obtain ⟨rfl, rfl, rfl⟩ := trodAll_nil r0
 obtain rfl : args = #[v0] := by cases args; simp_all
 obtain ⟨rfl, rfl⟩ := trodVars_none hV
 have hbulk : Rows.uptoBulk d0 ≤ 1048576 := by
  have := of_decide_eq_true hb
  simpa [Rows.uptoBulkAll] using this
 have hlt : ∀ x ∈ p0, x.block < W.heap.size := fun x hx => by
  have := hW'.lt x (by simp [hx])
  simpa using this
 refine (law_run hL Tryz.call3 law (hval 0 29 v0 rfl rfl) h0 hbulk).mono fun e W' ⟨he, hbl⟩ => ?_
 subst he
 refine ⟨_, rfl, _, _, _, [], p0 ++ [], [], hW', ?_, ?_, rfl, hbl.frame _, fun h => by cases h⟩
 ·exact trodAll_cons_mk (shut_bool u4 _) trodAll_mk0
 exact trodAll_cons_mk (Below.trod laidOut (by kernel_rfl) (of_decide_eq_true (by kernel_rfl)) h0 hbl hlt) trodAll_mk0
def arg0 : Value := .agg #[.int .i64 0, .slice none 0 0, .int .i64 0, .int .i64 0, .int .i64 0, .int .i64 0, .int .i64 0, .slice none 0 0, .int .i64 0, .int .i64 0, .int .i64 0, .int .i64 0, .int .i64 0, .string ⟨#[]⟩]
noncomputable def laidWorld (os : Os) : World :=
 { World.holding Tryz.prog os ⟨#[], #[], []⟩ with heap := (World.holding Tryz.prog os ⟨#[], #[], []⟩).heap.modify 0 fun
  | .cells _ t frozen => .cells #[.int .i64 0, .int .i64 0, .bool true, .bool true, .bool false, .bool false, .int .i64 2, .int .i64 64, .bool false, .bool false, .bool false, .bool false, .int .i64 2, .int .i64 64, .bool false, .bool false, .bool false, .bool false, .int .i64 2, .int .i64 64, .bool false, .bool false, .bool false, .bool false, .int .i64 1, .int .i64 1, .bool false, .bool false, .bool false, .bool false, .int .i64 1, .int .i64 1, .bool true, .bool true, .bool true, .bool false, .int .i64 1, .int .i64 1, .bool false, .bool false, .bool true, .bool true, .int .i64 1, .int .i64 1, .bool false, .bool true, .bool false, .bool false, .int .i64 2, .int .i64 2, .bool false, .bool false, .bool false, .bool false, .int .i64 1, .int .i64 1, .bool true, .bool true, .bool true, .bool false, .int .i64 1, .int .i64 1, .bool false, .bool false, .bool true, .bool true] t frozen
  | o => o }
theorem laid_met (os : Os) : laidMet Tryz.prog Rows.derivativeNestsRow.laid ((laidWorld os).forCall (fun _ _ => 0) ⟨#[], #[arg0], []⟩).memory :=
 laidMet_of_run' 8 (by kernel_rfl) (by kernel_rfl)
def datum {H : Type} : DataW H := .agg [.lit (.int .i64 0), .nil, .lit (.int .i64 0), .lit (.int .i64 0), .lit (.int .i64 0), .lit (.int .i64 0), .agg [.lit (.int .i64 0), .nil, .lit (.int .i64 0), .lit (.int .i64 0), .lit (.int .i64 0), .agg [.lit (.int .i64 0), .lit (.int .i64 0), .lit (.string [])]]]
theorem reads (os : Os) {H : Type} (enc : TypeId × Value → H) : ∃ places, DataW.whole enc Tryz.prog ((laidWorld os).forCall (fun _ _ => 0) ⟨#[], #[arg0], []⟩).memory Tryz.f3.params.toList Rows.derivativeNestsSpec.vars false #[arg0].toList 8 = some ([datum], [], places) :=
 ⟨[], by kernel_rfl⟩
theorem liftedUpto (os : Os) (started : os.Started) (H : Type) (enc : TypeId × Value → H) (F : Stop.Interp) :
 ReturnsInHanded {} Tryz.checked os 3 .any ((Rows.OpenSpec.upto Rows.derivativeNestsSpec).preRow enc Tryz.prog Tryz.f3 Rows.derivativeNestsUptoRow.domain false Rows.derivativeNestsUptoRow.laid) (((Rows.OpenSpec.upto Rows.derivativeNestsSpec).at F).post enc Tryz.prog Tryz.f3 false true false false) := by
 obtain ⟨places, hx⟩ := reads os enc
 refine returnsInHanded_of_row (C := Tryz.checked) (s := Rows.OpenSpec.upto Rows.derivativeNestsSpec) own started (by kernel_rfl) Tryz.func3
  (witness_row_at (enc := enc) (C := Tryz.checked) false (laidWorld os) #[arg0] rfl (by kernel_rfl) (by kernel_rfl) (by kernel_rfl)
   (OpenSpec.preRow_of_cond 8 hx (by kernel_rfl) (fun k hk => by cases hk; kernel_rfl) (by kernel_rfl) (laid_met os))) ?_
 intro W base args ds gs before hval hW _ hcond _ hL _ _
 exact contract H enc W base args ds gs before hval hW hL (hcond _ rfl)
theorem saidUpto : Rows.DerivativeNestsUptoSaid :=
 OpenClaim.holds_of_cond 3 Tryz.f3 rfl rfl rfl rfl rfl rfl rfl ⟨rfl, rfl, rfl, rfl, rfl⟩ rfl rfl rfl rfl rfl (by kernel_rfl) Tryz.func3 (by kernel_rfl)
  (of_decide_eq_true (by kernel_rfl)) (by unfold Func.isWrapper; first | (rw [if_pos (by decide +kernel)]; kernel_rfl) | (rw [if_neg (by decide +kernel)]; exact ⟨rfl, rfl⟩))
  (fun os started H enc _ F => by rw [OpenClaim.pre_eq_preRow]; exact liftedUpto os started H enc F)
theorem plain (f : FuncId) (fn : Func) (hf : Tryz.pinned.checked.prog.funcNamed "tidegate/tidegatelaw22.DerivativeNests" = some f) (hfn : Tryz.pinned.checked.prog.funcs[f]? = some fn) :
 false = Tryz.pinned.checked.prog.looks [] ∧ ∀ (j : Nat) t, fn.params[j]? = some t → Tryz.pinned.checked.prog.wantsStandIn t = false := by
 obtain rfl : f = 3 := Option.some.inj ((show Tryz.prog.funcNamed "tidegate/tidegatelaw22.DerivativeNests" = some 3 by kernel_rfl).symm.trans hf) |>.symm
 obtain rfl : fn = Tryz.f3 := (Option.some.inj (Tryz.func3.symm.trans hfn)).symm
 refine ⟨by kernel_rfl, fun j t ht => ?_⟩
 rw [Tryz.params3] at ht
 obtain rfl : t = 29 := by simpa using Array.mem_of_getElem? ht
 exact (show Tryz.prog.wantsStandIn 29 = false by kernel_rfl)
theorem cardUpto : Rows.DerivativeNestsUptoCardSaid :=
 Claim7.holds_tied_plain_at .later [] _ _ _ _ saidUpto (fun _ h => by cases h) (by kernel_rfl) (fun _ h => by cases h) derivativeNestsUpto_row_tie rfl ⟨rfl, rfl⟩ (by kernel_rfl) rfl plain (by kernel_rfl)
#print axioms cardUpto
end Go.Proofs.YtfeppncgdbbbeaaGreatDoor.derivativeNests

