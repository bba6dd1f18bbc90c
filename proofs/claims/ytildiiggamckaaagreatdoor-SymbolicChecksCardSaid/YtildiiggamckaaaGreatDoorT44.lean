/- Proved: for all arguments the law SymbolicChecks returns true and its arguments read behind the call as they read before. The package variable tidegate/pattern.shapes holds what the program lays there. -/
import Derived.Test.YtildiiggamckaaaGreatDoorT40
import Derived.Test.YtildiiggamckaaaGreatDoorT41
import Derived.Test.YtildiiggamckaaaGreatDoorT43
import Derived.Test.YtildiiggamckaaaGreatDoorTie
import Derived.Test.YtildiiggamckaaaGreatDoorCards
import Derived.JoinedCond
import Derived.LaidByText
set_option linter.all false
namespace Go.Proofs.YtildiiggamckaaaGreatDoor.symbolicChecks
open Go.ChangeShapes Go.WideShapes Go.ChangeAt Go.RowKit Go.Ab
set_option maxRecDepth 100000
theorem SN : AL 40000000 = some true := by kernel_rfl
theorem law (x0 : B3) (x1 : List B8)  : B4 Tryz.prog 3 [G1.eWL x0, .sl (Ar.lst G1.eWq x1) .ro] (.bool true) := by
 have h := c3 _ x0 x1 true (MH SN x0 x1)
 rw [G1.eWT]
 exact h
theorem own : ownKnob Tryz.prog.godebug = none := by kernel_rfl
theorem PN : laidOutB Tryz.prog = true := by kernel_rfl
theorem SJ (H : Type) (enc : TypeId × Value → H) (W : World) (base : Nat) (args : Array Value) (ds gs : List (DataW H)) (before : List MemPlace)
 (hval : ∀ (j : Nat) t v, Tryz.f3.params[j]? = some t → args[j]? = some v → Value.okWide Tryz.prog W .any base t v)
 (hW : DataW.Whole enc Tryz.prog Tryz.f3.params.toList Rows.symbolicChecksSpec.vars false W args.toList ds gs before) (hL : laidMetH Tryz.prog Rows.symbolicChecksRow.laid W) :
 Calls Tryz.prog 3 args W fun e W' => ∃ v, e = .returned v ∧ Rows.symbolicChecksSpec.post enc Tryz.prog Tryz.f3 false true false false W args v W' := by
 have hW' := hW;obtain ⟨p, q, hA0, hV, rfl, hfz, hnd⟩ := hW;have hA : DataW.TrodAll enc Tryz.prog W 0 (fun _ => true) true Tryz.f3.params.toList args.toList ds p := hA0
 rw [Tryz.params3] at hA hval
 obtain ⟨v0, vs0, d0, ds0, p0, q0, hargs, rfl, rfl, h0, r0⟩ := trodAll_cons hA;obtain ⟨v1, vs1, d1, ds1, p1, q1, rfl, rfl, rfl, h1, r1⟩ := trodAll_cons r0;obtain ⟨rfl, rfl, rfl⟩ := trodAll_nil r1
 obtain rfl : args = #[v0, v1] := by cases args; simp_all
 obtain ⟨rfl, rfl⟩ := trodVars_none hV
 have hlt : ∀ x ∈ p0 ++ (p1 ++ []), x.block < W.heap.size := fun x hx => by
  have := hW'.lt x (by simpa using hx)
  simpa using this
 obtain ⟨x0, k0, _⟩ := Ky (hval 0 25 v0 rfl rfl) h0;obtain ⟨x1, k1, _⟩ := Mg (hval 1 26 v1 rfl rfl) h1;refine (Ua (Vl hL) Tryz.call3 (law x0 x1) (Wf k0 k1)).mono fun e W' ⟨he, hbl⟩ => ?_;subst he;refine ⟨_, rfl, _, _, _, [], p0 ++ (p1 ++ []), [], hW', ?_, ?_, rfl, hbl.frame _, fun h => by cases h⟩
 ·exact trodAll_cons_mk (shut_bool u4 _) trodAll_mk0
 exact trodAll_cons_mk (Below.trod PN (by kernel_rfl) (of_decide_eq_true (by kernel_rfl)) h0 hbl fun x hx => hlt x (by simp [hx]))
  (trodAll_cons_mk (Below.trod PN (by kernel_rfl) (of_decide_eq_true (by kernel_rfl)) h1 hbl fun x hx => hlt x (by simp [hx]))
  trodAll_mk0)
def Ut : Value := .agg #[.int .i64 0, .slice none 0 0, .slice none 0 0]
def Us : Value := .slice none 0 0
def Vr {H : Type} : DataW H := .agg [.lit (.int .i64 0), .nil, .nil]
def Vq {H : Type} : DataW H := .nil
noncomputable def Od (os : Os) : World :=
 { World.holding Tryz.prog os ⟨#[], #[], []⟩ with heap := (World.holding Tryz.prog os ⟨#[], #[], []⟩).heap.modify 0 fun
  | .cells _ t frozen => .cells #[.int .i64 0, .int .i64 0, .bool true, .bool true, .bool false, .bool false, .int .i64 2, .int .i64 64, .bool false, .bool false, .bool false, .bool false, .int .i64 2, .int .i64 64, .bool false, .bool false, .bool false, .bool false, .int .i64 2, .int .i64 64, .bool false, .bool false, .bool false, .bool false, .int .i64 1, .int .i64 1, .bool false, .bool false, .bool false, .bool false, .int .i64 1, .int .i64 1, .bool true, .bool true, .bool true, .bool false, .int .i64 1, .int .i64 1, .bool false, .bool false, .bool true, .bool true, .int .i64 1, .int .i64 1, .bool false, .bool true, .bool false, .bool false, .int .i64 2, .int .i64 2, .bool false, .bool false, .bool false, .bool false, .int .i64 1, .int .i64 1, .bool true, .bool true, .bool true, .bool false, .int .i64 1, .int .i64 1, .bool false, .bool false, .bool true, .bool true] t frozen
  | o => o }
theorem Sr (os : Os) : laidMet Tryz.prog Rows.symbolicChecksRow.laid ((Od os).forCall (fun _ _ => 0) ⟨#[], #[Ut, Us], []⟩).memory :=
 laidMet_of_run' 8 (by kernel_rfl) (by kernel_rfl)
theorem VQ (os : Os) {H : Type} (enc : TypeId × Value → H) : ∃ places, DataW.whole enc Tryz.prog ((Od os).forCall (fun _ _ => 0) ⟨#[], #[Ut, Us], []⟩).memory Tryz.f3.params.toList Rows.symbolicChecksSpec.vars false #[Ut, Us].toList 8 = some ([Vr, Vq], [], places) :=
 ⟨[], by kernel_rfl⟩
theorem Vi (os : Os) (started : os.Started) (H : Type) (enc : TypeId × Value → H) (F : Stop.Interp) :
 ReturnsInHanded {} Tryz.checked os 3 .any ((OpenSpec.ofChange Rows.symbolicChecksSpec).preRow enc Tryz.prog Tryz.f3 Rows.symbolicChecksRow.domain false Rows.symbolicChecksRow.laid) (((OpenSpec.ofChange Rows.symbolicChecksSpec).at F).post enc Tryz.prog Tryz.f3 false true false false) := by
 obtain ⟨places, hx⟩ := VQ os enc
 refine returnsInHanded_of_row (C := Tryz.checked) (s := OpenSpec.ofChange Rows.symbolicChecksSpec) own started (by kernel_rfl) Tryz.func3
  (witness_row_at (enc := enc) (C := Tryz.checked) false (Od os) #[Ut, Us] rfl (by kernel_rfl) (by kernel_rfl) (by kernel_rfl)
   (OpenSpec.preRow_of_cond 8 hx (by kernel_rfl) (fun k hk => by cases hk) (by kernel_rfl) (Sr os))) ?_
 intro W base args ds gs before hval hW _ _ _ hL _ _;exact SJ H enc W base args ds gs before hval hW hL
theorem saF : Tryz.pinned.checked.prog.funcNamed Rows.symbolicChecksRow.func = some 3 := by kernel_rfl
theorem saC : joinedFacts Tryz.pinned.checked.prog 3 Tryz.f3 (OpenSpec.ofChange Rows.symbolicChecksSpec).bare Rows.symbolicChecksRow = true := by kernel_rfl
theorem saI : Tryz.f3.isInstance Tryz.pinned.checked.prog Rows.symbolicChecksRow.origin Rows.symbolicChecksRow.targs := of_decide_eq_true (by kernel_rfl)
theorem saW : Tryz.f3.isWrapper Tryz.pinned.checked.prog Rows.symbolicChecksRow.wrapper Rows.symbolicChecksRow.mainSum := by unfold Func.isWrapper; first | (rw [if_pos (by decide +kernel)]; kernel_rfl) | (rw [if_neg (by decide +kernel)]; exact ⟨rfl, rfl⟩)
theorem saH (os : Os) (started : os.Started) (H : Type) (enc : TypeId × Value → H) (F : Stop.Interp) : ReturnsInHanded Rows.symbolicChecksRow.assume Tryz.pinned.checked os 3 .any (Rows.symbolicChecksRow.pre enc Tryz.pinned.checked.prog Tryz.f3 (OpenSpec.ofChange Rows.symbolicChecksSpec)) (((OpenSpec.ofChange Rows.symbolicChecksSpec).at F).post enc Tryz.pinned.checked.prog Tryz.f3 Rows.symbolicChecksRow.apart Rows.symbolicChecksRow.fresh Rows.symbolicChecksRow.handsOn Rows.symbolicChecksRow.again) := by rw [OpenClaim.pre_eq_preRow]; exact Vi os started H enc F
theorem said : Rows.SymbolicChecksSaid :=
 OpenClaim.holds_of_cond 3 Tryz.f3 rfl rfl rfl rfl rfl rfl rfl ⟨rfl, rfl, rfl, rfl, rfl⟩ rfl rfl rfl rfl rfl saF Tryz.func3 saC saI saW
  (fun os started H enc _ F => saH os started H enc F)
theorem plain (f : FuncId) (fn : Func) (hf : Tryz.pinned.checked.prog.funcNamed "tidegate/tidegatelaw28.SymbolicChecks" = some f) (hfn : Tryz.pinned.checked.prog.funcs[f]? = some fn) :
 false = Tryz.pinned.checked.prog.looks [] ∧ ∀ (j : Nat) t, fn.params[j]? = some t → Tryz.pinned.checked.prog.wantsStandIn t = false := by
 obtain rfl : f = 3 := Option.some.inj ((show Tryz.prog.funcNamed "tidegate/tidegatelaw28.SymbolicChecks" = some 3 by kernel_rfl).symm.trans hf) |>.symm;obtain rfl : fn = Tryz.f3 := (Option.some.inj (Tryz.func3.symm.trans hfn)).symm;refine ⟨by kernel_rfl, fun j t ht => ?_⟩
 rw [Tryz.params3] at ht
 rcases (show t = 25 ∨ t = 26 by simpa using Array.mem_of_getElem? ht) with rfl | rfl
 ·exact (show Tryz.prog.wantsStandIn 25 = false by kernel_rfl)
 exact (show Tryz.prog.wantsStandIn 26 = false by kernel_rfl)
theorem card : Rows.SymbolicChecksCardSaid :=
 Claim7.holds_tied_plain_at .later [] _ _ _ _ said (fun _ h => by cases h) (by kernel_rfl) (fun _ h => by cases h) symbolicChecks_row_tie rfl ⟨rfl, rfl⟩ (by kernel_rfl) rfl plain (by kernel_rfl)
#print axioms card
end Go.Proofs.YtildiiggamckaaaGreatDoor.symbolicChecks
