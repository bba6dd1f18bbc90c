/- Proved: for all arguments that together hold at most 1048576 values and letters the law PredicateDecides returns true and its arguments read behind the call as they read before. -/
import Derived.Test.YtodfgmbacmnalaaGreatT36
import Derived.Test.YtodfgmbacmnalaaGreatT38
import Derived.Test.YtodfgmbacmnalaaGreatT48
import Derived.JoinedCond
import Derived.LaidByText
set_option linter.all false

namespace Go.Proofs.YtodfgmbacmnalaaGreat.predicateDecides
open Go.ChangeShapes Go.WideShapes Go.ChangeAt Go.RowKit Go.Ab
set_option maxRecDepth 100000
theorem awake_ok : law27_awake 40000000 = some true := by kernel_rfl
theorem law (x0 : List GSchema) (x1 : Gtidegatelaw27_Case) (b0 : muL GSchema.mu x0 ≤ 1048576) (b1 : Gtidegatelaw27_Case.mu x1 ≤ 1048576) : CallP Tryz.prog 4 [.sl (Ar.lst Encs.eGSchema x0) .ro, Encs.eGtidegatelaw27_Case x1] (.bool true) := by
 have h := c4 _ x0 x1 true (decides_law1 awake_ok x0 x1 (by have hq : GExpr.bulk x1.Cond ≤ Gtidegatelaw27_Case.mu x1 := (by unfold Gtidegatelaw27_Case.mu; omega); omega))
 rw [← Encs.eGtidegatelaw27_Case_eq] at h
 exact h
theorem own : ownKnob Tryz.prog.godebug = none := by kernel_rfl
theorem laidOut : laidOutB Tryz.prog = true := by kernel_rfl
theorem globs0 {W : World} : ∀ n, VR (g0 W) W (.pointer (some ⟨n, 0, none⟩)) (Glob.gl n) := fun n => .bad _
theorem contract (H : Type) (enc : TypeId × Value → H) (W : World) (base : Nat) (args : Array Value) (ds gs : List (DataW H)) (before : List MemPlace)
 (hval : ∀ (j : Nat) t v, Tryz.f4.params[j]? = some t → args[j]? = some v → Value.okWide Tryz.prog W .any base t v)
 (hW : DataW.Whole enc Tryz.prog Tryz.f4.params.toList Rows.predicateDecidesSpec.vars false W args.toList ds gs before) (hb : Rows.uptoSmall H (ds ++ gs) = true) :
 Calls Tryz.prog 4 args W fun e W' => ∃ v, e = .returned v ∧ Rows.predicateDecidesSpec.post enc Tryz.prog Tryz.f4 false true false false W args v W' := by
 have hW' := hW
 obtain ⟨p, q, hA0, hV, rfl, hfz, hnd⟩ := hW
 have hA : DataW.TrodAll enc Tryz.prog W 0 (fun _ => true) true Tryz.f4.params.toList args.toList ds p := hA0
 rw [Tryz.params4] at hA hval
 obtain ⟨v0, vs0, d0, ds0, p0, q0, hargs, rfl, rfl, h0, r0⟩ := trodAll_cons hA
 obtain ⟨v1, vs1, d1, ds1, p1, q1, rfl, rfl, rfl, h1, r1⟩ := trodAll_cons r0
 obtain ⟨rfl, rfl, rfl⟩ := trodAll_nil r1
 obtain rfl : args = #[v0, v1] := by cases args; simp_all
 obtain ⟨rfl, rfl⟩ := trodVars_none hV
 have hbulk := of_decide_eq_true hb
 simp only [List.append_nil, Rows.uptoBulkAll] at hbulk
 have hlt : ∀ x ∈ p0 ++ (p1 ++ []), x.block < W.heap.size := fun x hx => by
  have := hW'.lt x (by simpa using hx)
  simpa using this
 obtain ⟨x0, k0, kb0⟩ := arg_LGSchema (hval 0 22 v0 rfl rfl) h0
 obtain ⟨x1, k1, kb1⟩ := arg_Gtidegatelaw27_Case (hval 1 32 v1 rfl rfl) h1
 refine (law_run globs0 Tryz.call4 (law x0 x1 (by omega) (by omega)) (args2 k0 k1)).mono fun e W' ⟨he, hbl⟩ => ?_
 subst he
 refine ⟨_, rfl, _, _, _, [], p0 ++ (p1 ++ []), [], hW', ?_, ?_, rfl, hbl.frame _, fun h => by cases h⟩
 ·exact trodAll_cons_mk (shut_bool u4 _) trodAll_mk0
 ·exact trodAll_cons_mk (Below.trod laidOut (by kernel_rfl) (of_decide_eq_true (by kernel_rfl)) h0 hbl fun x hx => hlt x (by simp [hx]))
   (trodAll_cons_mk (Below.trod laidOut (by kernel_rfl) (of_decide_eq_true (by kernel_rfl)) h1 hbl fun x hx => hlt x (by simp [hx]))
   trodAll_mk0)
def arg0 : Value := .slice none 0 0
def arg1 : Value := .agg #[.int .i64 0, .int .i64 0, .int .i64 0, .slice none 0 0, .int .i64 0, .int .i64 0, .int .i64 0, .int .i64 0, .int .i64 0, .string ⟨#[]⟩, .int .i64 0, .int .i64 0, .int .i64 0, .int .i64 0, .slice none 0 0]
def datum0 {H : Type} : DataW H := .nil
def datum1 {H : Type} : DataW H := .agg [.lit (.int .i64 0), .lit (.int .i64 0), .agg [.lit (.int .i64 0), .nil, .lit (.int .i64 0), .lit (.int .i64 0), .lit (.int .i64 0), .agg [.lit (.int .i64 0), .lit (.int .i64 0), .lit (.string [])]], .agg [.lit (.int .i64 0), .lit (.int .i64 0), .lit (.int .i64 0), .lit (.int .i64 0), .nil]]
noncomputable def world0 (os : Os) : World := World.holding Tryz.prog os ⟨#[], #[], []⟩
theorem laid_met (os : Os) : laidMet Tryz.prog Rows.predicateDecidesRow.laid ((world0 os).forCall (fun _ _ => 0) ⟨#[], #[arg0, arg1], []⟩).memory :=
 laidMet_of_run' 8 (by kernel_rfl) (by kernel_rfl)
theorem reads (os : Os) {H : Type} (enc : TypeId × Value → H) : ∃ places, DataW.whole enc Tryz.prog ((world0 os).forCall (fun _ _ => 0) ⟨#[], #[arg0, arg1], []⟩).memory Tryz.f4.params.toList Rows.predicateDecidesSpec.vars false #[arg0, arg1].toList 8 = some ([datum0, datum1], [], places) :=
 ⟨[], by kernel_rfl⟩
theorem liftedUpto (os : Os) (started : os.Started) (H : Type) (enc : TypeId × Value → H) (F : Stop.Interp) :
 ReturnsInHanded {} Tryz.checked os 4 .any ((Rows.OpenSpec.upto Rows.predicateDecidesSpec).preRow enc Tryz.prog Tryz.f4 Rows.predicateDecidesUptoRow.domain false Rows.predicateDecidesUptoRow.laid) (((Rows.OpenSpec.upto Rows.predicateDecidesSpec).at F).post enc Tryz.prog Tryz.f4 false true false false) := by
 obtain ⟨places, hx⟩ := reads os enc
 refine returnsInHanded_of_row (C := Tryz.checked) (s := Rows.OpenSpec.upto Rows.predicateDecidesSpec) own started (by kernel_rfl) Tryz.func4
  (witness_row_at (enc := enc) (C := Tryz.checked) false (world0 os) #[arg0, arg1] rfl (by kernel_rfl) (by kernel_rfl) (by kernel_rfl)
   (OpenSpec.preRow_of_cond 8 hx (by kernel_rfl) (fun k hk => by cases hk; kernel_rfl) (by kernel_rfl) (laid_met os))) ?_
 intro W base args ds gs before hval hW _ hcond _ _ _ _
 exact contract H enc W base args ds gs before hval hW (hcond _ rfl)
theorem uptoSaid : Rows.PredicateDecidesUptoSaid :=
 OpenClaim.holds_of_cond 4 Tryz.f4 rfl rfl rfl rfl rfl rfl rfl ⟨rfl, rfl, rfl, rfl, rfl⟩ rfl rfl rfl rfl rfl (by kernel_rfl) Tryz.func4 (by kernel_rfl)
  (of_decide_eq_true (by kernel_rfl)) (by unfold Func.isWrapper; first | (rw [if_pos (by decide +kernel)]; kernel_rfl) | (rw [if_neg (by decide +kernel)]; exact ⟨rfl, rfl⟩))
  (fun os started H enc _ F => by rw [OpenClaim.pre_eq_preRow]; exact liftedUpto os started H enc F)
#print axioms uptoSaid
end Go.Proofs.YtodfgmbacmnalaaGreat.predicateDecides

