/- Proved: for all arguments the law SymbolicLanguages returns true and its arguments read behind the call as they read before. The package variable tidegate/pattern.shapes holds what the program lays there. -/
import Derived.Test.YtildiiggamckaaaGreatDoorL20
import Derived.Test.YtildiiggamckaaaGreatDoorTie
import Derived.Test.YtildiiggamckaaaGreatDoorCards
import Derived.JoinedCond
import Derived.LaidByText
set_option linter.all false
namespace Go.Proofs.YtildiiggamckaaaGreatDoor.symbolicLanguages
open Go.ChangeShapes Go.WideShapes Go.ChangeAt Go.RowKit Go.Ab
set_option maxRecDepth 100000
theorem Ae4 :DO 40000000=some true:=by kernel_rfl
theorem law (x0:A0)(x1:A0)(x2:List B8):C5 Tryz.prog 8 [K2.eAC2 x0,K2.eAC2 x1,.sl (Ar.lst K2.eAA8 x2) .ro] (.bool true):=by
 have h:=c8 _ x0 x1 x2 true (QI Ae4 x0 x1 x2);rw[K2.eAC9,K2.eAC9];exact h
theorem own :ownKnob Tryz.prog.godebug=none:=by kernel_rfl
theorem Sx :laidOutB Tryz.prog=true:=by kernel_rfl
theorem Ad9 (H:Type) (enc:TypeId×Value→H) (W:World) (base:Nat) (args:Array Value) (ds gs:List (DataW H)) (before:List MemPlace)
 (hval:∀(j:Nat) t v,Tryz.f8.params[j]? =some t→args[j]? =some v→Value.okWide Tryz.prog W .any base t v)
 (hW:DataW.Whole enc Tryz.prog Tryz.f8.params.toList Rows.symbolicLanguagesSpec.vars false W args.toList ds gs before) (hL:laidMetH Tryz.prog Rows.symbolicLanguagesRow.laid W):
 Calls Tryz.prog 8 args W fun e W'=>∃v,e= .returned v∧Rows.symbolicLanguagesSpec.post enc Tryz.prog Tryz.f8 false true false false W args v W':=by
 have hW':=hW;obtain⟨p,q,hA0,hV,rfl,hfz,hnd⟩:=hW;have hA:DataW.TrodAll enc Tryz.prog W 0 (fun _=>true) true Tryz.f8.params.toList args.toList ds p:=hA0
 rw[Tryz.params8]at hA hval
 obtain⟨v0,vs0,d0,ds0,p0,q0,hargs,rfl,rfl,h0,r0⟩:=trodAll_cons hA;obtain⟨v1,vs1,d1,ds1,p1,q1,rfl,rfl,rfl,h1,r1⟩:=trodAll_cons r0;obtain⟨v2,vs2,d2,ds2,p2,q2,rfl,rfl,rfl,h2,r2⟩:=trodAll_cons r1;obtain⟨rfl,rfl,rfl⟩:=trodAll_nil r2
 obtain rfl:args= #[v0,v1,v2]:=by cases args;simp_all
 obtain⟨rfl,rfl⟩:=trodVars_none hV
 have hlt:∀x∈p0++(p1++(p2++[])),x.block<W.heap.size:=fun x hx=>by
  have:=hW'.lt x (by simpa using hx)
  simpa using this
 obtain⟨x0,k0⟩:=Lg (hval 0 25 v0 rfl rfl) h0;obtain⟨x1,k1⟩:=Lg (hval 1 25 v1 rfl rfl) h1;obtain⟨x2,k2⟩:=SP (hval 2 26 v2 rfl rfl) h2;refine(Am1 (At9 hL) Tryz.call8 (law x0 x1 x2) (Az6 k0 k1 k2)).mono fun e W' ⟨he,hbl⟩=>?_;subst he;refine⟨_,rfl,_,_,_,[],p0++(p1++(p2++[])),[],hW',?_,?_,rfl,hbl.frame _,fun h=>by cases h⟩
 ·exact trodAll_cons_mk (shut_bool u4 _) trodAll_mk0
 exact trodAll_cons_mk (Below.trod Sx (by kernel_rfl) (of_decide_eq_true (by kernel_rfl)) h0 hbl fun x hx=>hlt x (by simp[hx]))
  (trodAll_cons_mk (Below.trod Sx (by kernel_rfl) (of_decide_eq_true (by kernel_rfl)) h1 hbl fun x hx=>hlt x (by simp[hx]))
  (trodAll_cons_mk (Below.trod Sx (by kernel_rfl) (of_decide_eq_true (by kernel_rfl)) h2 hbl fun x hx=>hlt x (by simp[hx]))
  trodAll_mk0))
def Ao4 :Value:=.agg #[.int .i64 0,.slice none 0 0,.slice none 0 0]
def Ao3 :Value:=.agg #[.int .i64 0,.slice none 0 0,.slice none 0 0]
def Ao2 :Value:=.slice none 0 0
def Au5 {H:Type}:DataW H:=.agg [.lit (.int .i64 0),.nil,.nil]
def Au4 {H:Type}:DataW H:=.agg [.lit (.int .i64 0),.nil,.nil]
def Au3 {H:Type}:DataW H:=.nil
noncomputable def Vl (os:Os):World:=
 {World.holding Tryz.prog os ⟨#[], #[],[]⟩with heap:=(World.holding Tryz.prog os ⟨#[], #[],[]⟩).heap.modify 0 fun
  | .cells _ t frozen=>.cells #[.int .i64 0,.int .i64 0,.bool true,.bool true,.bool false,.bool false,.int .i64 2,.int .i64 64,.bool false,.bool false,.bool false,.bool false,.int .i64 2,.int .i64 64,.bool false,.bool false,.bool false,.bool false,.int .i64 2,.int .i64 64,.bool false,.bool false,.bool false,.bool false,.int .i64 1,.int .i64 1,.bool false,.bool false,.bool false,.bool false,.int .i64 1,.int .i64 1,.bool true,.bool true,.bool true,.bool false,.int .i64 1,.int .i64 1,.bool false,.bool false,.bool true,.bool true,.int .i64 1,.int .i64 1,.bool false,.bool true,.bool false,.bool false,.int .i64 2,.int .i64 2,.bool false,.bool false,.bool false,.bool false,.int .i64 1,.int .i64 1,.bool true,.bool true,.bool true,.bool false,.int .i64 1,.int .i64 1,.bool false,.bool false,.bool true,.bool true] t frozen
  |o=>o}
theorem Ab9 (os:Os):laidMet Tryz.prog Rows.symbolicLanguagesRow.laid ((Vl os).forCall (fun _ _=>0) ⟨#[], #[Ao4,Ao3,Ao2],[]⟩).memory:=
 laidMet_of_run' 8 (by kernel_rfl) (by kernel_rfl)
theorem Ax6 (os:Os){H:Type}(enc:TypeId×Value→H):∃places,DataW.whole enc Tryz.prog ((Vl os).forCall (fun _ _=>0) ⟨#[], #[Ao4,Ao3,Ao2],[]⟩).memory Tryz.f8.params.toList Rows.symbolicLanguagesSpec.vars false #[Ao4,Ao3,Ao2].toList 8=some ([Au5,Au4,Au3],[],places):=
 ⟨[],by kernel_rfl⟩
theorem At5 (os:Os) (started:os.Started) (H:Type) (enc:TypeId×Value→H) (F:Stop.Interp):
 ReturnsInHanded {} Tryz.checked os 8 .any ((OpenSpec.ofChange Rows.symbolicLanguagesSpec).preRow enc Tryz.prog Tryz.f8 Rows.symbolicLanguagesRow.domain false Rows.symbolicLanguagesRow.laid) (((OpenSpec.ofChange Rows.symbolicLanguagesSpec).at F).post enc Tryz.prog Tryz.f8 false true false false):=by
 obtain⟨places,hx⟩:=Ax6 os enc
 refine returnsInHanded_of_row (C:=Tryz.checked) (s:=OpenSpec.ofChange Rows.symbolicLanguagesSpec) own started (by kernel_rfl) Tryz.func8
  (witness_row_at (enc:=enc) (C:=Tryz.checked) false (Vl os) #[Ao4,Ao3,Ao2] rfl (by kernel_rfl) (by kernel_rfl) (by kernel_rfl)
   (OpenSpec.preRow_of_cond 8 hx (by kernel_rfl) (fun k hk=>by cases hk) (by kernel_rfl) (Ab9 os))) ?_
 intro W base args ds gs before hval hW _ _ _ hL _ _;exact Ad9 H enc W base args ds gs before hval hW hL
theorem saF :Tryz.pinned.checked.prog.funcNamed Rows.symbolicLanguagesRow.func=some 8:=by kernel_rfl
theorem saC :joinedFacts Tryz.pinned.checked.prog 8 Tryz.f8 (OpenSpec.ofChange Rows.symbolicLanguagesSpec).bare Rows.symbolicLanguagesRow=true:=by kernel_rfl
theorem saI :Tryz.f8.isInstance Tryz.pinned.checked.prog Rows.symbolicLanguagesRow.origin Rows.symbolicLanguagesRow.targs:=of_decide_eq_true (by kernel_rfl)
theorem saW :Tryz.f8.isWrapper Tryz.pinned.checked.prog Rows.symbolicLanguagesRow.wrapper Rows.symbolicLanguagesRow.mainSum:=by unfold Func.isWrapper;first|(rw[if_pos (by decide+kernel)];kernel_rfl)|(rw[if_neg (by decide+kernel)];exact⟨rfl,rfl⟩)
theorem saH (os:Os)(started:os.Started)(H:Type)(enc:TypeId×Value→H)(F:Stop.Interp):ReturnsInHanded Rows.symbolicLanguagesRow.assume Tryz.pinned.checked os 8 .any (Rows.symbolicLanguagesRow.pre enc Tryz.pinned.checked.prog Tryz.f8 (OpenSpec.ofChange Rows.symbolicLanguagesSpec)) (((OpenSpec.ofChange Rows.symbolicLanguagesSpec).at F).post enc Tryz.pinned.checked.prog Tryz.f8 Rows.symbolicLanguagesRow.apart Rows.symbolicLanguagesRow.fresh Rows.symbolicLanguagesRow.handsOn Rows.symbolicLanguagesRow.again):=by rw[OpenClaim.pre_eq_preRow];exact At5 os started H enc F
theorem said :Rows.SymbolicLanguagesSaid:=
 OpenClaim.holds_of_cond 8 Tryz.f8 rfl rfl rfl rfl rfl rfl rfl ⟨rfl,rfl,rfl,rfl,rfl⟩ rfl rfl rfl rfl rfl saF Tryz.func8 saC saI saW (fun os started H enc _ F=>saH os started H enc F)
theorem plain (f:FuncId)(fn:Func)(hf:Tryz.pinned.checked.prog.funcNamed "tidegate/tidegatelaw28.SymbolicLanguages" =some f)(hfn:Tryz.pinned.checked.prog.funcs[f]? =some fn):
 false=Tryz.pinned.checked.prog.looks []∧∀(j:Nat) t,fn.params[j]? =some t→Tryz.pinned.checked.prog.wantsStandIn t=false:=by
 obtain rfl:f=8:=Option.some.inj ((show Tryz.prog.funcNamed "tidegate/tidegatelaw28.SymbolicLanguages" =some 8 by kernel_rfl).symm.trans hf)|>.symm;obtain rfl:fn=Tryz.f8:=(Option.some.inj (Tryz.func8.symm.trans hfn)).symm;refine⟨by kernel_rfl,fun j t ht=>?_⟩
 rw[Tryz.params8]at ht
 rcases(show t=25∨t=25∨t=26 by simpa using Array.mem_of_getElem? ht)with rfl|rfl|rfl
 ·exact(show Tryz.prog.wantsStandIn 25=false by kernel_rfl)
 ·exact(show Tryz.prog.wantsStandIn 25=false by kernel_rfl)
 exact(show Tryz.prog.wantsStandIn 26=false by kernel_rfl)
theorem card :Rows.SymbolicLanguagesCardSaid:=
 Claim7.holds_tied_plain_at .later [] _ _ _ _ said (fun _ h=>by cases h) (by kernel_rfl) (fun _ h=>by cases h) symbolicLanguages_row_tie rfl ⟨rfl,rfl⟩ (by kernel_rfl) rfl plain (by kernel_rfl)
#print axioms card
end Go.Proofs.YtildiiggamckaaaGreatDoor.symbolicLanguages
