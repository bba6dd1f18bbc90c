/- Proved: for all arguments that together hold at most 1048576 values and letters the law RegistersNeeds returns true and its arguments read behind the call as they read before. -/
import Derived.Test.YtbjdkpckplopdaaT36
import Derived.Test.YtbjdkpckplopdaaT39
import Derived.Test.YtbjdkpckplopdaaT46
import Derived.JoinedCond
import Derived.LaidByText
set_option linter.all false

namespace Go.Proofs.Ytbjdkpckplopdaa.registersNeeds
open Go.ChangeShapes Go.WideShapes Go.ChangeAt Go.RowKit Go.Ab
set_option maxRecDepth 100000
theorem awake_ok : law26_awake 40000000 = some true := by kernel_rfl
theorem law (x0 : GAutomaton) (b0 : GAutomaton.mu x0 ≤ 1048576) : CallP Try.prog 4 [Encs.eGAutomaton x0] (.bool true) := by
 have h := c4 _ x0 true (needs_said (Nat.le_refl _) awake_ok b0)
 rw [← Encs.eGAutomaton_eq] at h
 exact h
theorem own : ownKnob Try.prog.godebug = none := by kernel_rfl
theorem laidOut : laidOutB Try.prog = true := by kernel_rfl
theorem globs0 {W : World} : ∀ n, VR (g0 W) W (.pointer (some ⟨n, 0, none⟩)) (Glob.gl n) := fun n => .bad _
theorem contract (H : Type) (enc : TypeId × Value → H) (W : World) (base : Nat) (args : Array Value) (ds gs : List (DataW H)) (before : List MemPlace)
 (hval : ∀ (j : Nat) t v, Try.f4.params[j]? = some t → args[j]? = some v → Value.okWide Try.prog W .any base t v)
 (hW : DataW.Whole enc Try.prog Try.f4.params.toList Rows.registersNeedsSpec.vars false W args.toList ds gs before) (hb : Rows.uptoSmall H (ds ++ gs) = true) :
 Calls Try.prog 4 args W fun e W' => ∃ v, e = .returned v ∧ Rows.registersNeedsSpec.post enc Try.prog Try.f4 false true false false W args v W' := by
 have hW' := hW
 obtain ⟨p, q, hA0, hV, rfl, hfz, hnd⟩ := hW
 have hA : DataW.TrodAll enc Try.prog W 0 (fun _ => true) true Try.f4.params.toList args.toList ds p := hA0
 rw [Try.params4] at hA hval
 obtain ⟨v0, vs0, d0, ds0, p0, q0, hargs, rfl, rfl, h0, r0⟩ := trodAll_cons hA
 obtain ⟨rfl, rfl, rfl⟩ := trodAll_nil r0
 obtain rfl : args = #[v0] := by cases args; simp_all
 obtain ⟨rfl, rfl⟩ := trodVars_none hV
 have hbulk := of_decide_eq_true hb
 simp only [List.append_nil, Rows.uptoBulkAll] at hbulk
 have hlt : ∀ x ∈ p0 ++ [], x.block < W.heap.size := fun x hx => by
  have := hW'.lt x (by simpa using hx)
  simpa using this
 obtain ⟨x0, k0, kb0⟩ := arg_GAutomaton (hval 0 40 v0 rfl rfl) h0
 refine (law_run globs0 Try.call4 (law x0 (by omega)) (args1 k0)).mono fun e W' ⟨he, hbl⟩ => ?_
 subst he
 refine ⟨_, rfl, _, _, _, [], p0 ++ [], [], hW', ?_, ?_, rfl, hbl.frame _, fun h => by cases h⟩
 ·exact trodAll_cons_mk (shut_bool u4 _) trodAll_mk0
 exact trodAll_cons_mk (Below.trod laidOut (by kernel_rfl) (of_decide_eq_true (by kernel_rfl)) h0 hbl fun x hx => hlt x (by simp [hx]))
  trodAll_mk0
def arg0 : Value := .agg #[.int .i64 0, .int .i64 0, .slice none 0 0, .slice none 0 0]
def datum0 {H : Type} : DataW H := .agg [.lit (.int .i64 0), .lit (.int .i64 0), .nil, .nil]
noncomputable def world0 (os : Os) : World := World.holding Try.prog os ⟨#[], #[], []⟩
theorem laid_met (os : Os) : laidMet Try.prog Rows.registersNeedsRow.laid ((world0 os).forCall (fun _ _ => 0) ⟨#[], #[arg0], []⟩).memory :=
 laidMet_of_run' 8 (by kernel_rfl) (by kernel_rfl)
theorem reads (os : Os) {H : Type} (enc : TypeId × Value → H) : ∃ places, DataW.whole enc Try.prog ((world0 os).forCall (fun _ _ => 0) ⟨#[], #[arg0], []⟩).memory Try.f4.params.toList Rows.registersNeedsSpec.vars false #[arg0].toList 8 = some ([datum0], [], places) :=
 ⟨[], by kernel_rfl⟩
theorem liftedUpto (os : Os) (started : os.Started) (H : Type) (enc : TypeId × Value → H) (F : Stop.Interp) :
 ReturnsInHanded {} Try.checked os 4 .any ((Rows.OpenSpec.upto Rows.registersNeedsSpec).preRow enc Try.prog Try.f4 Rows.registersNeedsUptoRow.domain false Rows.registersNeedsUptoRow.laid) (((Rows.OpenSpec.upto Rows.registersNeedsSpec).at F).post enc Try.prog Try.f4 false true false false) := by
 obtain ⟨places, hx⟩ := reads os enc
 refine returnsInHanded_of_row (C := Try.checked) (s := Rows.OpenSpec.upto Rows.registersNeedsSpec) own started (by kernel_rfl) Try.func4
  (witness_row_at (enc := enc) (C := Try.checked) false (world0 os) #[arg0] rfl (by kernel_rfl) (by kernel_rfl) (by kernel_rfl)
   (OpenSpec.preRow_of_cond 8 hx (by kernel_rfl) (fun k hk => by cases hk; kernel_rfl) (by kernel_rfl) (laid_met os))) ?_
 intro W base args ds gs before hval hW _ hcond _ _ _ _
 exact contract H enc W base args ds gs before hval hW (hcond _ rfl)
theorem uptoSaid : Rows.RegistersNeedsUptoSaid :=
 OpenClaim.holds_of_cond 4 Try.f4 rfl rfl rfl rfl rfl rfl rfl ⟨rfl, rfl, rfl, rfl, rfl⟩ rfl rfl rfl rfl rfl (by kernel_rfl) Try.func4 (by kernel_rfl)
  (of_decide_eq_true (by kernel_rfl)) (by unfold Func.isWrapper; first | (rw [if_pos (by decide +kernel)]; kernel_rfl) | (rw [if_neg (by decide +kernel)]; exact ⟨rfl, rfl⟩))
  (fun os started H enc _ F => by rw [OpenClaim.pre_eq_preRow]; exact liftedUpto os started H enc F)
#print axioms uptoSaid
end Go.Proofs.Ytbjdkpckplopdaa.registersNeeds

