/- Proved: for all arguments the law RegistersSettles returns true and its arguments read behind the call as they read before. -/
import Derived.Test.YtbjdkpckplopdaaT37
import Derived.Test.YtbjdkpckplopdaaT39
import Derived.Test.YtbjdkpckplopdaaT43
import Derived.JoinedCond
import Derived.LaidByText
set_option linter.all false

namespace Go.Proofs.Ytbjdkpckplopdaa.registersSettles
open Go.ChangeShapes Go.WideShapes Go.ChangeAt Go.RowKit Go.Ab
set_option maxRecDepth 100000
theorem awake_ok : law26_awake 40000000 = some true := by kernel_rfl
theorem law (x0 : List GNeed) (x1 : List GNeed) (x2 : GS62)  : CallP Try.prog 6 [.sl (Ar.lst Encs.eGNeed x0) .ro, .sl (Ar.lst Encs.eGNeed x1) .ro, Encs.eGS62 x2] (.bool true) := by
 have h := c6 _ x0 x1 x2 true (settles_said (Nat.le_refl _) awake_ok x0 x1 x2)
 rw [← Encs.eGS62_eq] at h
 exact h
theorem own : ownKnob Try.prog.godebug = none := by kernel_rfl
theorem laidOut : laidOutB Try.prog = true := by kernel_rfl
theorem globs0 {W : World} : ∀ n, VR (g0 W) W (.pointer (some ⟨n, 0, none⟩)) (Glob.gl n) := fun n => .bad _
theorem contract (H : Type) (enc : TypeId × Value → H) (W : World) (base : Nat) (args : Array Value) (ds gs : List (DataW H)) (before : List MemPlace)
 (hval : ∀ (j : Nat) t v, Try.f6.params[j]? = some t → args[j]? = some v → Value.okWide Try.prog W .any base t v)
 (hW : DataW.Whole enc Try.prog Try.f6.params.toList Rows.registersSettlesSpec.vars false W args.toList ds gs before) :
 Calls Try.prog 6 args W fun e W' => ∃ v, e = .returned v ∧ Rows.registersSettlesSpec.post enc Try.prog Try.f6 false true false false W args v W' := by
 have hW' := hW
 obtain ⟨p, q, hA0, hV, rfl, hfz, hnd⟩ := hW
 have hA : DataW.TrodAll enc Try.prog W 0 (fun _ => true) true Try.f6.params.toList args.toList ds p := hA0
 rw [Try.params6] at hA hval
 obtain ⟨v0, vs0, d0, ds0, p0, q0, hargs, rfl, rfl, h0, r0⟩ := trodAll_cons hA
 obtain ⟨v1, vs1, d1, ds1, p1, q1, rfl, rfl, rfl, h1, r1⟩ := trodAll_cons r0
 obtain ⟨v2, vs2, d2, ds2, p2, q2, rfl, rfl, rfl, h2, r2⟩ := trodAll_cons r1
 obtain ⟨rfl, rfl, rfl⟩ := trodAll_nil r2
 obtain rfl : args = #[v0, v1, v2] := by cases args; simp_all
 obtain ⟨rfl, rfl⟩ := trodVars_none hV
 have hlt : ∀ x ∈ p0 ++ (p1 ++ (p2 ++ [])), x.block < W.heap.size := fun x hx => by
  have := hW'.lt x (by simpa using hx)
  simpa using this
 obtain ⟨x0, k0, _⟩ := arg_LGNeed (hval 0 29 v0 rfl rfl) h0
 obtain ⟨x1, k1, _⟩ := arg_LGNeed (hval 1 29 v1 rfl rfl) h1
 obtain ⟨x2, k2, _⟩ := arg_GS62 (hval 2 62 v2 rfl rfl) h2
 refine (law_run globs0 Try.call6 (law x0 x1 x2) (args3 k0 k1 k2)).mono fun e W' ⟨he, hbl⟩ => ?_
 subst he
 refine ⟨_, rfl, _, _, _, [], p0 ++ (p1 ++ (p2 ++ [])), [], hW', ?_, ?_, rfl, hbl.frame _, fun h => by cases h⟩
 ·exact trodAll_cons_mk (shut_bool u4 _) trodAll_mk0
 exact trodAll_cons_mk (Below.trod laidOut (by kernel_rfl) (of_decide_eq_true (by kernel_rfl)) h0 hbl fun x hx => hlt x (by simp [hx]))
  (trodAll_cons_mk (Below.trod laidOut (by kernel_rfl) (of_decide_eq_true (by kernel_rfl)) h1 hbl fun x hx => hlt x (by simp [hx]))
  (trodAll_cons_mk (Below.trod laidOut (by kernel_rfl) (of_decide_eq_true (by kernel_rfl)) h2 hbl fun x hx => hlt x (by simp [hx]))
  trodAll_mk0))
def arg0 : Value := .slice none 0 0
def arg1 : Value := .slice none 0 0
def arg2 : Value := .agg #[.slice none 0 0, .slice none 0 0]
def datum0 {H : Type} : DataW H := .nil
def datum1 {H : Type} : DataW H := .nil
def datum2 {H : Type} : DataW H := .agg [.agg [.nil], .agg [.nil]]
noncomputable def world0 (os : Os) : World := World.holding Try.prog os ⟨#[], #[], []⟩
theorem laid_met (os : Os) : laidMet Try.prog Rows.registersSettlesRow.laid ((world0 os).forCall (fun _ _ => 0) ⟨#[], #[arg0, arg1, arg2], []⟩).memory :=
 laidMet_of_run' 8 (by kernel_rfl) (by kernel_rfl)
theorem reads (os : Os) {H : Type} (enc : TypeId × Value → H) : ∃ places, DataW.whole enc Try.prog ((world0 os).forCall (fun _ _ => 0) ⟨#[], #[arg0, arg1, arg2], []⟩).memory Try.f6.params.toList Rows.registersSettlesSpec.vars false #[arg0, arg1, arg2].toList 8 = some ([datum0, datum1, datum2], [], places) :=
 ⟨[], by kernel_rfl⟩
theorem lifted (os : Os) (started : os.Started) (H : Type) (enc : TypeId × Value → H) (F : Stop.Interp) :
 ReturnsInHanded {} Try.checked os 6 .any ((OpenSpec.ofChange Rows.registersSettlesSpec).preRow enc Try.prog Try.f6 Rows.registersSettlesRow.domain false Rows.registersSettlesRow.laid) (((OpenSpec.ofChange Rows.registersSettlesSpec).at F).post enc Try.prog Try.f6 false true false false) := by
 obtain ⟨places, hx⟩ := reads os enc
 refine returnsInHanded_of_row (C := Try.checked) (s := OpenSpec.ofChange Rows.registersSettlesSpec) own started (by kernel_rfl) Try.func6
  (witness_row_at (enc := enc) (C := Try.checked) false (world0 os) #[arg0, arg1, arg2] rfl (by kernel_rfl) (by kernel_rfl) (by kernel_rfl)
   (OpenSpec.preRow_of_cond 8 hx (by kernel_rfl) (fun k hk => by cases hk) (by kernel_rfl) (laid_met os))) ?_
 intro W base args ds gs before hval hW _ _ _ _ _ _
 exact contract H enc W base args ds gs before hval hW
theorem said : Rows.RegistersSettlesSaid :=
 OpenClaim.holds_of_cond 6 Try.f6 rfl rfl rfl rfl rfl rfl rfl ⟨rfl, rfl, rfl, rfl, rfl⟩ rfl rfl rfl rfl rfl (by kernel_rfl) Try.func6 (by kernel_rfl)
  (of_decide_eq_true (by kernel_rfl)) (by unfold Func.isWrapper; first | (rw [if_pos (by decide +kernel)]; kernel_rfl) | (rw [if_neg (by decide +kernel)]; exact ⟨rfl, rfl⟩))
  (fun os started H enc _ F => by rw [OpenClaim.pre_eq_preRow]; exact lifted os started H enc F)
#print axioms said
end Go.Proofs.Ytbjdkpckplopdaa.registersSettles

