/- Proved: for all arguments the law SymbolicEmpties returns true and its arguments read behind the call as they read before. The package variable tidegate/pattern.shapes holds what the program lays there. -/
import Derived.Test.YtildiiggamckaaaGreatDoorT40
import Derived.Test.YtildiiggamckaaaGreatDoorT41
import Derived.Test.YtildiiggamckaaaGreatDoorT46
import Derived.Test.YtildiiggamckaaaGreatDoorTie
import Derived.Test.YtildiiggamckaaaGreatDoorCards
import Derived.JoinedCond
import Derived.LaidByText
set_option linter.all false
namespace Go.Proofs.YtildiiggamckaaaGreatDoor.symbolicEmpties
open Go.ChangeShapes Go.WideShapes Go.ChangeAt Go.RowKit Go.Ab
set_option maxRecDepth 100000
theorem Uc : AS 40000000 = some true := by kernel_rfl
theorem law (x0 : A5)  : B6 Tryz.prog 5 [G6.eYh x0] (.bool true) := by
 have h := c5 _ x0 true (Ou Uc x0);rw [G6.eYp];exact h
theorem own : ownKnob Tryz.prog.godebug = none := by kernel_rfl
theorem Vo : laidOutB Tryz.prog = true := by kernel_rfl
theorem TX (H : Type) (enc : TypeId × Value → H) (W : World) (base : Nat) (args : Array Value) (ds gs : List (DataW H)) (before : List MemPlace)
 (hval : ∀ (j : Nat) t v, Tryz.f5.params[j]? = some t → args[j]? = some v → Value.okWide Tryz.prog W .any base t v)
 (hW : DataW.Whole enc Tryz.prog Tryz.f5.params.toList Rows.symbolicEmptiesSpec.vars false W args.toList ds gs before) (hL : laidMetH Tryz.prog Rows.symbolicEmptiesRow.laid W) :
 Calls Tryz.prog 5 args W fun e W' => ∃ v, e = .returned v ∧ Rows.symbolicEmptiesSpec.post enc Tryz.prog Tryz.f5 false true false false W args v W' := by
 have hW' := hW;obtain ⟨p, q, hA0, hV, rfl, hfz, hnd⟩ := hW;have hA : DataW.TrodAll enc Tryz.prog W 0 (fun _ => true) true Tryz.f5.params.toList args.toList ds p := hA0
 rw [Tryz.params5] at hA hval
 obtain ⟨v0, vs0, d0, ds0, p0, q0, hargs, rfl, rfl, h0, r0⟩ := trodAll_cons hA;obtain ⟨rfl, rfl, rfl⟩ := trodAll_nil r0
 obtain rfl : args = #[v0] := by cases args; simp_all
 obtain ⟨rfl, rfl⟩ := trodVars_none hV
 have hlt : ∀ x ∈ p0 ++ [], x.block < W.heap.size := fun x hx => by
  have := hW'.lt x (by simpa using hx)
  simpa using this
 obtain ⟨x0, k0, _⟩ := KX (hval 0 25 v0 rfl rfl) h0;refine (Vn (WG hL) Tryz.call5 (law x0) (XB k0)).mono fun e W' ⟨he, hbl⟩ => ?_;subst he;refine ⟨_, rfl, _, _, _, [], p0 ++ [], [], hW', ?_, ?_, rfl, hbl.frame _, fun h => by cases h⟩
 ·exact trodAll_cons_mk (shut_bool u4 _) trodAll_mk0
 exact trodAll_cons_mk (Below.trod Vo (by kernel_rfl) (of_decide_eq_true (by kernel_rfl)) h0 hbl fun x hx => hlt x (by simp [hx]))
  trodAll_mk0
def VG : Value := .agg #[.int .i64 0, .slice none 0 0, .slice none 0 0]
def WK {H : Type} : DataW H := .agg [.lit (.int .i64 0), .nil, .nil]
noncomputable def Pc (os : Os) : World :=
 { World.holding Tryz.prog os ⟨#[], #[], []⟩ with heap := (World.holding Tryz.prog os ⟨#[], #[], []⟩).heap.modify 0 fun
  | .cells _ t frozen => .cells #[.int .i64 0, .int .i64 0, .bool true, .bool true, .bool false, .bool false, .int .i64 2, .int .i64 64, .bool false, .bool false, .bool false, .bool false, .int .i64 2, .int .i64 64, .bool false, .bool false, .bool false, .bool false, .int .i64 2, .int .i64 64, .bool false, .bool false, .bool false, .bool false, .int .i64 1, .int .i64 1, .bool false, .bool false, .bool false, .bool false, .int .i64 1, .int .i64 1, .bool true, .bool true, .bool true, .bool false, .int .i64 1, .int .i64 1, .bool false, .bool false, .bool true, .bool true, .int .i64 1, .int .i64 1, .bool false, .bool true, .bool false, .bool false, .int .i64 2, .int .i64 2, .bool false, .bool false, .bool false, .bool false, .int .i64 1, .int .i64 1, .bool true, .bool true, .bool true, .bool false, .int .i64 1, .int .i64 1, .bool false, .bool false, .bool true, .bool true] t frozen
  | o => o }
theorem TD (os : Os) : laidMet Tryz.prog Rows.symbolicEmptiesRow.laid ((Pc os).forCall (fun _ _ => 0) ⟨#[], #[VG], []⟩).memory :=
 laidMet_of_run' 8 (by kernel_rfl) (by kernel_rfl)
theorem Xk (os : Os) {H : Type} (enc : TypeId × Value → H) : ∃ places, DataW.whole enc Tryz.prog ((Pc os).forCall (fun _ _ => 0) ⟨#[], #[VG], []⟩).memory Tryz.f5.params.toList Rows.symbolicEmptiesSpec.vars false #[VG].toList 8 = some ([WK], [], places) :=
 ⟨[], by kernel_rfl⟩
theorem WC (os : Os) (started : os.Started) (H : Type) (enc : TypeId × Value → H) (F : Stop.Interp) :
 ReturnsInHanded {} Tryz.checked os 5 .any ((OpenSpec.ofChange Rows.symbolicEmptiesSpec).preRow enc Tryz.prog Tryz.f5 Rows.symbolicEmptiesRow.domain false Rows.symbolicEmptiesRow.laid) (((OpenSpec.ofChange Rows.symbolicEmptiesSpec).at F).post enc Tryz.prog Tryz.f5 false true false false) := by
 obtain ⟨places, hx⟩ := Xk os enc
 refine returnsInHanded_of_row (C := Tryz.checked) (s := OpenSpec.ofChange Rows.symbolicEmptiesSpec) own started (by kernel_rfl) Tryz.func5
  (witness_row_at (enc := enc) (C := Tryz.checked) false (Pc os) #[VG] rfl (by kernel_rfl) (by kernel_rfl) (by kernel_rfl)
   (OpenSpec.preRow_of_cond 8 hx (by kernel_rfl) (fun k hk => by cases hk) (by kernel_rfl) (TD os))) ?_
 intro W base args ds gs before hval hW _ _ _ hL _ _;exact TX H enc W base args ds gs before hval hW hL
theorem saF : Tryz.pinned.checked.prog.funcNamed Rows.symbolicEmptiesRow.func = some 5 := by kernel_rfl
theorem saC : joinedFacts Tryz.pinned.checked.prog 5 Tryz.f5 (OpenSpec.ofChange Rows.symbolicEmptiesSpec).bare Rows.symbolicEmptiesRow = true := by kernel_rfl
theorem saI : Tryz.f5.isInstance Tryz.pinned.checked.prog Rows.symbolicEmptiesRow.origin Rows.symbolicEmptiesRow.targs := of_decide_eq_true (by kernel_rfl)
theorem saW : Tryz.f5.isWrapper Tryz.pinned.checked.prog Rows.symbolicEmptiesRow.wrapper Rows.symbolicEmptiesRow.mainSum := by unfold Func.isWrapper; first | (rw [if_pos (by decide +kernel)]; kernel_rfl) | (rw [if_neg (by decide +kernel)]; exact ⟨rfl, rfl⟩)
theorem saH (os : Os) (started : os.Started) (H : Type) (enc : TypeId × Value → H) (F : Stop.Interp) : ReturnsInHanded Rows.symbolicEmptiesRow.assume Tryz.pinned.checked os 5 .any (Rows.symbolicEmptiesRow.pre enc Tryz.pinned.checked.prog Tryz.f5 (OpenSpec.ofChange Rows.symbolicEmptiesSpec)) (((OpenSpec.ofChange Rows.symbolicEmptiesSpec).at F).post enc Tryz.pinned.checked.prog Tryz.f5 Rows.symbolicEmptiesRow.apart Rows.symbolicEmptiesRow.fresh Rows.symbolicEmptiesRow.handsOn Rows.symbolicEmptiesRow.again) := by rw [OpenClaim.pre_eq_preRow]; exact WC os started H enc F
theorem said : Rows.SymbolicEmptiesSaid :=
 OpenClaim.holds_of_cond 5 Tryz.f5 rfl rfl rfl rfl rfl rfl rfl ⟨rfl, rfl, rfl, rfl, rfl⟩ rfl rfl rfl rfl rfl saF Tryz.func5 saC saI saW (fun os started H enc _ F => saH os started H enc F)
theorem plain (f : FuncId) (fn : Func) (hf : Tryz.pinned.checked.prog.funcNamed "tidegate/tidegatelaw28.SymbolicEmpties" = some f) (hfn : Tryz.pinned.checked.prog.funcs[f]? = some fn) :
 false = Tryz.pinned.checked.prog.looks [] ∧ ∀ (j : Nat) t, fn.params[j]? = some t → Tryz.pinned.checked.prog.wantsStandIn t = false := by
 obtain rfl : f = 5 := Option.some.inj ((show Tryz.prog.funcNamed "tidegate/tidegatelaw28.SymbolicEmpties" = some 5 by kernel_rfl).symm.trans hf) |>.symm;obtain rfl : fn = Tryz.f5 := (Option.some.inj (Tryz.func5.symm.trans hfn)).symm;refine ⟨by kernel_rfl, fun j t ht => ?_⟩
 rw [Tryz.params5] at ht
 obtain rfl : t = 25 := by simpa using Array.mem_of_getElem? ht
 exact (show Tryz.prog.wantsStandIn 25 = false by kernel_rfl)
theorem card : Rows.SymbolicEmptiesCardSaid :=
 Claim7.holds_tied_plain_at .later [] _ _ _ _ said (fun _ h => by cases h) (by kernel_rfl) (fun _ h => by cases h) symbolicEmpties_row_tie rfl ⟨rfl, rfl⟩ (by kernel_rfl) rfl plain (by kernel_rfl)
#print axioms card
end Go.Proofs.YtildiiggamckaaaGreatDoor.symbolicEmpties
