/- Proved: for all arguments the law SymbolicCombines returns true and its arguments read behind the call as they read before. The package variable tidegate/pattern.shapes holds what the program lays there. -/
import Derived.Test.YtildiiggamckaaaGreatDoorK22
import Derived.Test.YtildiiggamckaaaGreatDoorTie
import Derived.Test.YtildiiggamckaaaGreatDoorCards
import Derived.JoinedCond
import Derived.LaidByText
set_option linter.all false
namespace Go.Proofs.YtildiiggamckaaaGreatDoor.symbolicCombines
open Go.ChangeShapes Go.WideShapes Go.ChangeAt Go.RowKit Go.Ab
set_option maxRecDepth 100000
theorem Ai2 :CI 40000000=some true:=by kernel_rfl
theorem law (x0:A0)(x1:A0):C7 Tryz.prog 7 [K8.eAG4 x0,K8.eAG4 x1] (.bool true):=by
 have h:=c7 _ x0 x1 true (SY Ai2 x0 x1);rw[K8.eAH2,K8.eAH2];exact h
theorem own :ownKnob Tryz.prog.godebug=none:=by kernel_rfl
theorem Xy :laidOutB Tryz.prog=true:=by kernel_rfl
theorem Ah3 (H:Type) (enc:TypeId×Value→H) (W:World) (base:Nat) (args:Array Value) (ds gs:List (DataW H)) (before:List MemPlace)
 (hval:∀(j:Nat) t v,Tryz.f7.params[j]? =some t→args[j]? =some v→Value.okWide Tryz.prog W .any base t v)
 (hW:DataW.Whole enc Tryz.prog Tryz.f7.params.toList Rows.symbolicCombinesSpec.vars false W args.toList ds gs before) (hL:laidMetH Tryz.prog Rows.symbolicCombinesRow.laid W):
 Calls Tryz.prog 7 args W fun e W'=>∃v,e= .returned v∧Rows.symbolicCombinesSpec.post enc Tryz.prog Tryz.f7 false true false false W args v W':=by
 have hW':=hW;obtain⟨p,q,hA0,hV,rfl,hfz,hnd⟩:=hW;have hA:DataW.TrodAll enc Tryz.prog W 0 (fun _=>true) true Tryz.f7.params.toList args.toList ds p:=hA0
 rw[Tryz.params7]at hA hval
 obtain⟨v0,vs0,d0,ds0,p0,q0,hargs,rfl,rfl,h0,r0⟩:=trodAll_cons hA;obtain⟨v1,vs1,d1,ds1,p1,q1,rfl,rfl,rfl,h1,r1⟩:=trodAll_cons r0;obtain⟨rfl,rfl,rfl⟩:=trodAll_nil r1
 obtain rfl:args= #[v0,v1]:=by cases args;simp_all
 obtain⟨rfl,rfl⟩:=trodVars_none hV
 have hlt:∀x∈p0++(p1++[]),x.block<W.heap.size:=fun x hx=>by
  have:=hW'.lt x (by simpa using hx)
  simpa using this
 obtain⟨x0,k0⟩:=Lr (hval 0 25 v0 rfl rfl) h0;obtain⟨x1,k1⟩:=Lr (hval 1 25 v1 rfl rfl) h1;refine(Ap1 (Ax4 hL) Tryz.call7 (law x0 x1) (AC8 k0 k1)).mono fun e W' ⟨he,hbl⟩=>?_;subst he;refine⟨_,rfl,_,_,_,[],p0++(p1++[]),[],hW',?_,?_,rfl,hbl.frame _,fun h=>by cases h⟩
 ·exact trodAll_cons_mk (shut_bool u4 _) trodAll_mk0
 exact trodAll_cons_mk (Below.trod Xy (by kernel_rfl) (of_decide_eq_true (by kernel_rfl)) h0 hbl fun x hx=>hlt x (by simp[hx]))
  (trodAll_cons_mk (Below.trod Xy (by kernel_rfl) (of_decide_eq_true (by kernel_rfl)) h1 hbl fun x hx=>hlt x (by simp[hx]))
  trodAll_mk0)
def Ar5 :Value:=.agg #[.int .i64 0,.slice none 0 0,.slice none 0 0]
def Ar4 :Value:=.agg #[.int .i64 0,.slice none 0 0,.slice none 0 0]
def Ax9 {H:Type}:DataW H:=.agg [.lit (.int .i64 0),.nil,.nil]
def Ax8 {H:Type}:DataW H:=.agg [.lit (.int .i64 0),.nil,.nil]
noncomputable def VE (os:Os):World:=
 {World.holding Tryz.prog os ⟨#[], #[],[]⟩with heap:=(World.holding Tryz.prog os ⟨#[], #[],[]⟩).heap.modify 0 fun
  | .cells _ t frozen=>.cells #[.int .i64 0,.int .i64 0,.bool true,.bool true,.bool false,.bool false,.int .i64 2,.int .i64 64,.bool false,.bool false,.bool false,.bool false,.int .i64 2,.int .i64 64,.bool false,.bool false,.bool false,.bool false,.int .i64 2,.int .i64 64,.bool false,.bool false,.bool false,.bool false,.int .i64 1,.int .i64 1,.bool false,.bool false,.bool false,.bool false,.int .i64 1,.int .i64 1,.bool true,.bool true,.bool true,.bool false,.int .i64 1,.int .i64 1,.bool false,.bool false,.bool true,.bool true,.int .i64 1,.int .i64 1,.bool false,.bool true,.bool false,.bool false,.int .i64 2,.int .i64 2,.bool false,.bool false,.bool false,.bool false,.int .i64 1,.int .i64 1,.bool true,.bool true,.bool true,.bool false,.int .i64 1,.int .i64 1,.bool false,.bool false,.bool true,.bool true] t frozen
  |o=>o}
theorem Af2 (os:Os):laidMet Tryz.prog Rows.symbolicCombinesRow.laid ((VE os).forCall (fun _ _=>0) ⟨#[], #[Ar5,Ar4],[]⟩).memory:=
 laidMet_of_run' 8 (by kernel_rfl) (by kernel_rfl)
theorem AB0 (os:Os){H:Type}(enc:TypeId×Value→H):∃places,DataW.whole enc Tryz.prog ((VE os).forCall (fun _ _=>0) ⟨#[], #[Ar5,Ar4],[]⟩).memory Tryz.f7.params.toList Rows.symbolicCombinesSpec.vars false #[Ar5,Ar4].toList 8=some ([Ax9,Ax8],[],places):=
 ⟨[],by kernel_rfl⟩
theorem Ax1 (os:Os) (started:os.Started) (H:Type) (enc:TypeId×Value→H) (F:Stop.Interp):
 ReturnsInHanded {} Tryz.checked os 7 .any ((OpenSpec.ofChange Rows.symbolicCombinesSpec).preRow enc Tryz.prog Tryz.f7 Rows.symbolicCombinesRow.domain false Rows.symbolicCombinesRow.laid) (((OpenSpec.ofChange Rows.symbolicCombinesSpec).at F).post enc Tryz.prog Tryz.f7 false true false false):=by
 obtain⟨places,hx⟩:=AB0 os enc
 refine returnsInHanded_of_row (C:=Tryz.checked) (s:=OpenSpec.ofChange Rows.symbolicCombinesSpec) own started (by kernel_rfl) Tryz.func7
  (witness_row_at (enc:=enc) (C:=Tryz.checked) false (VE os) #[Ar5,Ar4] rfl (by kernel_rfl) (by kernel_rfl) (by kernel_rfl)
   (OpenSpec.preRow_of_cond 8 hx (by kernel_rfl) (fun k hk=>by cases hk) (by kernel_rfl) (Af2 os))) ?_
 intro W base args ds gs before hval hW _ _ _ hL _ _;exact Ah3 H enc W base args ds gs before hval hW hL
theorem saF :Tryz.pinned.checked.prog.funcNamed Rows.symbolicCombinesRow.func=some 7:=by kernel_rfl
theorem saC :joinedFacts Tryz.pinned.checked.prog 7 Tryz.f7 (OpenSpec.ofChange Rows.symbolicCombinesSpec).bare Rows.symbolicCombinesRow=true:=by kernel_rfl
theorem saI :Tryz.f7.isInstance Tryz.pinned.checked.prog Rows.symbolicCombinesRow.origin Rows.symbolicCombinesRow.targs:=of_decide_eq_true (by kernel_rfl)
theorem saW :Tryz.f7.isWrapper Tryz.pinned.checked.prog Rows.symbolicCombinesRow.wrapper Rows.symbolicCombinesRow.mainSum:=by unfold Func.isWrapper;first|(rw[if_pos (by decide+kernel)];kernel_rfl)|(rw[if_neg (by decide+kernel)];exact⟨rfl,rfl⟩)
theorem saH (os:Os)(started:os.Started)(H:Type)(enc:TypeId×Value→H)(F:Stop.Interp):ReturnsInHanded Rows.symbolicCombinesRow.assume Tryz.pinned.checked os 7 .any (Rows.symbolicCombinesRow.pre enc Tryz.pinned.checked.prog Tryz.f7 (OpenSpec.ofChange Rows.symbolicCombinesSpec)) (((OpenSpec.ofChange Rows.symbolicCombinesSpec).at F).post enc Tryz.pinned.checked.prog Tryz.f7 Rows.symbolicCombinesRow.apart Rows.symbolicCombinesRow.fresh Rows.symbolicCombinesRow.handsOn Rows.symbolicCombinesRow.again):=by rw[OpenClaim.pre_eq_preRow];exact Ax1 os started H enc F
theorem said :Rows.SymbolicCombinesSaid:=
 OpenClaim.holds_of_cond 7 Tryz.f7 rfl rfl rfl rfl rfl rfl rfl ⟨rfl,rfl,rfl,rfl,rfl⟩ rfl rfl rfl rfl rfl saF Tryz.func7 saC saI saW (fun os started H enc _ F=>saH os started H enc F)
theorem plain (f:FuncId)(fn:Func)(hf:Tryz.pinned.checked.prog.funcNamed "tidegate/tidegatelaw28.SymbolicCombines" =some f)(hfn:Tryz.pinned.checked.prog.funcs[f]? =some fn):
 false=Tryz.pinned.checked.prog.looks []∧∀(j:Nat) t,fn.params[j]? =some t→Tryz.pinned.checked.prog.wantsStandIn t=false:=by
 obtain rfl:f=7:=Option.some.inj ((show Tryz.prog.funcNamed "tidegate/tidegatelaw28.SymbolicCombines" =some 7 by kernel_rfl).symm.trans hf)|>.symm;obtain rfl:fn=Tryz.f7:=(Option.some.inj (Tryz.func7.symm.trans hfn)).symm;refine⟨by kernel_rfl,fun j t ht=>?_⟩
 rw[Tryz.params7]at ht
 rcases(show t=25∨t=25 by simpa using Array.mem_of_getElem? ht)with rfl|rfl
 ·exact(show Tryz.prog.wantsStandIn 25=false by kernel_rfl)
 exact(show Tryz.prog.wantsStandIn 25=false by kernel_rfl)
theorem card :Rows.SymbolicCombinesCardSaid:=
 Claim7.holds_tied_plain_at .later [] _ _ _ _ said (fun _ h=>by cases h) (by kernel_rfl) (fun _ h=>by cases h) symbolicCombines_row_tie rfl ⟨rfl,rfl⟩ (by kernel_rfl) rfl plain (by kernel_rfl)
#print axioms card
end Go.Proofs.YtildiiggamckaaaGreatDoor.symbolicCombines
