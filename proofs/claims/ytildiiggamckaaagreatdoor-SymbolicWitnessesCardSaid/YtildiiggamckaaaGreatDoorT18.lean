/- Proved: for all arguments the law SymbolicWitnesses returns true and its arguments read behind the call as they read before. The package variable tidegate/pattern.shapes holds what the program lays there. -/
import Derived.Test.YtildiiggamckaaaGreatDoorT17
import Derived.Test.YtildiiggamckaaaGreatDoorTie
import Derived.Test.YtildiiggamckaaaGreatDoorCards
import Derived.JoinedCond
import Derived.LaidByText
set_option linter.all false
namespace Go.Proofs.YtildiiggamckaaaGreatDoor.symbolicWitnesses
open Go.ChangeShapes Go.WideShapes Go.ChangeAt Go.RowKit Go.Ab
set_option maxRecDepth 100000
theorem Uw : Ai 40000000 = some true := by kernel_rfl
theorem law (x0 : A3) (x1 : List B2)  : B5 Tryz.prog 6 [G4.eYq x0, .sl (Ar.lst G4.eYf x1) .ro] (.bool true) := by
 have h := c6 _ x0 x1 true (JA Uw x0 x1);rw [G4.eYC];exact h
theorem own : ownKnob Tryz.prog.godebug = none := by kernel_rfl
theorem Rf : laidOutB Tryz.prog = true := by kernel_rfl
theorem Us (H : Type) (enc : TypeId × Value → H) (W : World) (base : Nat) (args : Array Value) (ds gs : List (DataW H)) (before : List MemPlace)
 (hval : ∀ (j : Nat) t v, Tryz.f6.params[j]? = some t → args[j]? = some v → Value.okWide Tryz.prog W .any base t v)
 (hW : DataW.Whole enc Tryz.prog Tryz.f6.params.toList Rows.symbolicWitnessesSpec.vars false W args.toList ds gs before) (hL : laidMetH Tryz.prog Rows.symbolicWitnessesRow.laid W) :
 Calls Tryz.prog 6 args W fun e W' => ∃ v, e = .returned v ∧ Rows.symbolicWitnessesSpec.post enc Tryz.prog Tryz.f6 false true false false W args v W' := by
 have hW' := hW;obtain ⟨p, q, hA0, hV, rfl, hfz, hnd⟩ := hW;have hA : DataW.TrodAll enc Tryz.prog W 0 (fun _ => true) true Tryz.f6.params.toList args.toList ds p := hA0
 rw [Tryz.params6] at hA hval
 obtain ⟨v0, vs0, d0, ds0, p0, q0, hargs, rfl, rfl, h0, r0⟩ := trodAll_cons hA;obtain ⟨v1, vs1, d1, ds1, p1, q1, rfl, rfl, rfl, h1, r1⟩ := trodAll_cons r0;obtain ⟨rfl, rfl, rfl⟩ := trodAll_nil r1
 obtain rfl : args = #[v0, v1] := by cases args; simp_all
 obtain ⟨rfl, rfl⟩ := trodVars_none hV
 have hlt : ∀ x ∈ p0 ++ (p1 ++ []), x.block < W.heap.size := fun x hx => by
  have := hW'.lt x (by simpa using hx)
  simpa using this
 obtain ⟨x0, k0⟩ := Lx (hval 0 25 v0 rfl rfl) h0;obtain ⟨x1, k1⟩ := Nt (hval 1 26 v1 rfl rfl) h1;refine (VI (WW hL) Tryz.call6 (law x0 x1) (XV k0 k1)).mono fun e W' ⟨he, hbl⟩ => ?_;subst he;refine ⟨_, rfl, _, _, _, [], p0 ++ (p1 ++ []), [], hW', ?_, ?_, rfl, hbl.frame _, fun h => by cases h⟩
 ·exact trodAll_cons_mk (shut_bool u4 _) trodAll_mk0
 exact trodAll_cons_mk (Below.trod Rf (by kernel_rfl) (of_decide_eq_true (by kernel_rfl)) h0 hbl fun x hx => hlt x (by simp [hx]))
  (trodAll_cons_mk (Below.trod Rf (by kernel_rfl) (of_decide_eq_true (by kernel_rfl)) h1 hbl fun x hx => hlt x (by simp [hx]))
  trodAll_mk0)
def Wb : Value := .agg #[.int .i64 0, .slice none 0 0, .slice none 0 0]
def Wa : Value := .slice none 0 0
def Xc {H : Type} : DataW H := .agg [.lit (.int .i64 0), .nil, .nil]
def Xb {H : Type} : DataW H := .nil
noncomputable def Pz (os : Os) : World :=
 { World.holding Tryz.prog os ⟨#[], #[], []⟩ with heap := (World.holding Tryz.prog os ⟨#[], #[], []⟩).heap.modify 0 fun
  | .cells _ t frozen => .cells #[.int .i64 0, .int .i64 0, .bool true, .bool true, .bool false, .bool false, .int .i64 2, .int .i64 64, .bool false, .bool false, .bool false, .bool false, .int .i64 2, .int .i64 64, .bool false, .bool false, .bool false, .bool false, .int .i64 2, .int .i64 64, .bool false, .bool false, .bool false, .bool false, .int .i64 1, .int .i64 1, .bool false, .bool false, .bool false, .bool false, .int .i64 1, .int .i64 1, .bool true, .bool true, .bool true, .bool false, .int .i64 1, .int .i64 1, .bool false, .bool false, .bool true, .bool true, .int .i64 1, .int .i64 1, .bool false, .bool true, .bool false, .bool false, .int .i64 2, .int .i64 2, .bool false, .bool false, .bool false, .bool false, .int .i64 1, .int .i64 1, .bool true, .bool true, .bool true, .bool false, .int .i64 1, .int .i64 1, .bool false, .bool false, .bool true, .bool true] t frozen
  | o => o }
theorem TY (os : Os) : laidMet Tryz.prog Rows.symbolicWitnessesRow.laid ((Pz os).forCall (fun _ _ => 0) ⟨#[], #[Wb, Wa], []⟩).memory :=
 laidMet_of_run' 8 (by kernel_rfl) (by kernel_rfl)
theorem XC (os : Os) {H : Type} (enc : TypeId × Value → H) : ∃ places, DataW.whole enc Tryz.prog ((Pz os).forCall (fun _ _ => 0) ⟨#[], #[Wb, Wa], []⟩).memory Tryz.f6.params.toList Rows.symbolicWitnessesSpec.vars false #[Wb, Wa].toList 8 = some ([Xc, Xb], [], places) :=
 ⟨[], by kernel_rfl⟩
theorem WR (os : Os) (started : os.Started) (H : Type) (enc : TypeId × Value → H) (F : Stop.Interp) :
 ReturnsInHanded {} Tryz.checked os 6 .any ((OpenSpec.ofChange Rows.symbolicWitnessesSpec).preRow enc Tryz.prog Tryz.f6 Rows.symbolicWitnessesRow.domain false Rows.symbolicWitnessesRow.laid) (((OpenSpec.ofChange Rows.symbolicWitnessesSpec).at F).post enc Tryz.prog Tryz.f6 false true false false) := by
 obtain ⟨places, hx⟩ := XC os enc
 refine returnsInHanded_of_row (C := Tryz.checked) (s := OpenSpec.ofChange Rows.symbolicWitnessesSpec) own started (by kernel_rfl) Tryz.func6
  (witness_row_at (enc := enc) (C := Tryz.checked) false (Pz os) #[Wb, Wa] rfl (by kernel_rfl) (by kernel_rfl) (by kernel_rfl)
   (OpenSpec.preRow_of_cond 8 hx (by kernel_rfl) (fun k hk => by cases hk) (by kernel_rfl) (TY os))) ?_
 intro W base args ds gs before hval hW _ _ _ hL _ _;exact Us H enc W base args ds gs before hval hW hL
theorem saF : Tryz.pinned.checked.prog.funcNamed Rows.symbolicWitnessesRow.func = some 6 := by kernel_rfl
theorem saC : joinedFacts Tryz.pinned.checked.prog 6 Tryz.f6 (OpenSpec.ofChange Rows.symbolicWitnessesSpec).bare Rows.symbolicWitnessesRow = true := by kernel_rfl
theorem saI : Tryz.f6.isInstance Tryz.pinned.checked.prog Rows.symbolicWitnessesRow.origin Rows.symbolicWitnessesRow.targs := of_decide_eq_true (by kernel_rfl)
theorem saW : Tryz.f6.isWrapper Tryz.pinned.checked.prog Rows.symbolicWitnessesRow.wrapper Rows.symbolicWitnessesRow.mainSum := by unfold Func.isWrapper; first | (rw [if_pos (by decide +kernel)]; kernel_rfl) | (rw [if_neg (by decide +kernel)]; exact ⟨rfl, rfl⟩)
theorem saH (os : Os) (started : os.Started) (H : Type) (enc : TypeId × Value → H) (F : Stop.Interp) : ReturnsInHanded Rows.symbolicWitnessesRow.assume Tryz.pinned.checked os 6 .any (Rows.symbolicWitnessesRow.pre enc Tryz.pinned.checked.prog Tryz.f6 (OpenSpec.ofChange Rows.symbolicWitnessesSpec)) (((OpenSpec.ofChange Rows.symbolicWitnessesSpec).at F).post enc Tryz.pinned.checked.prog Tryz.f6 Rows.symbolicWitnessesRow.apart Rows.symbolicWitnessesRow.fresh Rows.symbolicWitnessesRow.handsOn Rows.symbolicWitnessesRow.again) := by rw [OpenClaim.pre_eq_preRow]; exact WR os started H enc F
theorem said : Rows.SymbolicWitnessesSaid :=
 OpenClaim.holds_of_cond 6 Tryz.f6 rfl rfl rfl rfl rfl rfl rfl ⟨rfl, rfl, rfl, rfl, rfl⟩ rfl rfl rfl rfl rfl saF Tryz.func6 saC saI saW (fun os started H enc _ F => saH os started H enc F)
theorem plain (f : FuncId) (fn : Func) (hf : Tryz.pinned.checked.prog.funcNamed "tidegate/tidegatelaw28.SymbolicWitnesses" = some f) (hfn : Tryz.pinned.checked.prog.funcs[f]? = some fn) :
 false = Tryz.pinned.checked.prog.looks [] ∧ ∀ (j : Nat) t, fn.params[j]? = some t → Tryz.pinned.checked.prog.wantsStandIn t = false := by
 obtain rfl : f = 6 := Option.some.inj ((show Tryz.prog.funcNamed "tidegate/tidegatelaw28.SymbolicWitnesses" = some 6 by kernel_rfl).symm.trans hf) |>.symm;obtain rfl : fn = Tryz.f6 := (Option.some.inj (Tryz.func6.symm.trans hfn)).symm;refine ⟨by kernel_rfl, fun j t ht => ?_⟩
 rw [Tryz.params6] at ht
 rcases (show t = 25 ∨ t = 26 by simpa using Array.mem_of_getElem? ht) with rfl | rfl
 ·exact (show Tryz.prog.wantsStandIn 25 = false by kernel_rfl)
 exact (show Tryz.prog.wantsStandIn 26 = false by kernel_rfl)
theorem card : Rows.SymbolicWitnessesCardSaid :=
 Claim7.holds_tied_plain_at .later [] _ _ _ _ said (fun _ h => by cases h) (by kernel_rfl) (fun _ h => by cases h) symbolicWitnesses_row_tie rfl ⟨rfl, rfl⟩ (by kernel_rfl) rfl plain (by kernel_rfl)
#print axioms card
end Go.Proofs.YtildiiggamckaaaGreatDoor.symbolicWitnesses
