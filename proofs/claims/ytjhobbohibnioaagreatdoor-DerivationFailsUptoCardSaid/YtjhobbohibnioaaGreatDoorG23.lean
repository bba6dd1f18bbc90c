/- Proved: for all arguments that together hold at most 1048576 values and letters the law DerivationFails returns true and its arguments read behind the call as they read before. The package variable tidegate/pattern.shapes holds what the program lays there. -/
import Derived.Test.YtjhobbohibnioaaGreatDoorG22
import Derived.Test.YtjhobbohibnioaaGreatDoorTie
import Derived.Test.YtjhobbohibnioaaGreatDoorCards
import Derived.JoinedCond
import Derived.LaidByText
set_option linter.all false
namespace Go.Proofs.YtjhobbohibnioaaGreatDoor.derivationFails
open Go.ChangeShapes Go.WideShapes Go.ChangeAt Go.RowKit Go.Ab
set_option maxRecDepth 100000
theorem AQ0 :Bt 40000000=some true:=by kernel_rfl
theorem law (x0:A2)(x1:List A8)(x2:Int)(c2:0≤x2)(d2:x2<256)(b0:A2.bulk x0≤1048576)(b1:VO A8.mu x1≤1048576):C2 Tryz.prog 9 [R0.eBo6 x0,.sl (Ar.lst R0.eBo2 x1) .ro,.int .u8 x2] (.bool true):=by
 have h:=c9 _ x0 x1 x2 true (AB3 (Nat.le_refl _) AQ0 (by omega) (by have:=Aq9 (f:=A8.mu) (fun a=>by unfold A8.mu;omega) x1;omega) c2 d2);rw[R0.eBo7];exact h
theorem own :ownKnob Tryz.prog.godebug=none:=by kernel_rfl
theorem Xq :laidOutB Tryz.prog=true:=by kernel_rfl
theorem AP2 (H:Type) (enc:TypeId×Value→H) (W:World) (base:Nat) (args:Array Value) (ds gs:List (DataW H)) (before:List MemPlace)
 (hval:∀(j:Nat) t v,Tryz.f9.params[j]? =some t→args[j]? =some v→Value.okWide Tryz.prog W .any base t v)
 (hW:DataW.Whole enc Tryz.prog Tryz.f9.params.toList Rows.derivationFailsSpec.vars false W args.toList ds gs before) (hL:laidMetH Tryz.prog Rows.derivationFailsRow.laid W) (hb:Rows.uptoSmall H (ds++gs)=true):
 Calls Tryz.prog 9 args W fun e W'=>∃v,e= .returned v∧Rows.derivationFailsSpec.post enc Tryz.prog Tryz.f9 false true false false W args v W':=by
 have hW':=hW;obtain⟨p,q,hA0,hV,rfl,hfz,hnd⟩:=hW;have hA:DataW.TrodAll enc Tryz.prog W 0 (fun _=>true) true Tryz.f9.params.toList args.toList ds p:=hA0
 rw[Tryz.params9]at hA hval
 obtain⟨v0,vs0,d0,ds0,p0,q0,hargs,rfl,rfl,h0,r0⟩:=trodAll_cons hA;obtain⟨v1,vs1,d1,ds1,p1,q1,rfl,rfl,rfl,h1,r1⟩:=trodAll_cons r0;obtain⟨v2,vs2,d2,ds2,p2,q2,rfl,rfl,rfl,h2,r2⟩:=trodAll_cons r1;obtain⟨rfl,rfl,rfl⟩:=trodAll_nil r2
 obtain rfl:args= #[v0,v1,v2]:=by cases args;simp_all
 obtain⟨rfl,rfl⟩:=trodVars_none hV;have hbulk:=of_decide_eq_true hb
 simp only[List.append_nil,Rows.uptoBulkAll]at hbulk
 have hlt:∀x∈p0++(p1++(p2++[])),x.block<W.heap.size:=fun x hx=>by
  have:=hW'.lt x (by simpa using hx)
  simpa using this
 obtain⟨x0,k0,kb0⟩:=XO (hval 0 29 v0 rfl rfl) h0;obtain⟨x1,k1,kb1⟩:=Ac8 (hval 1 30 v1 rfl rfl) h1;obtain⟨x2,k2,g2,e2⟩:=Bi2 (hval 2 5 v2 rfl rfl);refine(AX5 (Bh2 hL) Tryz.call9 (law x0 x1 x2 g2 e2 (by omega) (by omega)) (Bn5 k0 k1 k2)).mono fun e W' ⟨he,hbl⟩=>?_;subst he;refine⟨_,rfl,_,_,_,[],p0++(p1++(p2++[])),[],hW',?_,?_,rfl,hbl.frame _,fun h=>by cases h⟩
 ·exact trodAll_cons_mk (shut_bool u4 _) trodAll_mk0
 exact trodAll_cons_mk (Below.trod Xq (by kernel_rfl) (of_decide_eq_true (by kernel_rfl)) h0 hbl fun x hx=>hlt x (by simp[hx]))
  (trodAll_cons_mk (Below.trod Xq (by kernel_rfl) (of_decide_eq_true (by kernel_rfl)) h1 hbl fun x hx=>hlt x (by simp[hx]))
  (trodAll_cons_mk (Below.trod Xq (by kernel_rfl) (of_decide_eq_true (by kernel_rfl)) h2 hbl fun x hx=>hlt x (by simp[hx]))
  trodAll_mk0))
def AQ3 :Value:=.agg #[.int .i64 0,.slice none 0 0,.int .i64 0,.int .i64 0,.int .i64 0,.int .i64 0,.int .i64 0,.slice none 0 0,.int .i64 0,.int .i64 0,.int .i64 0,.int .i64 0,.int .i64 0,.string ⟨#[]⟩]
def Ba5 :Value:=.slice none 0 0
def Ba4 :Value:=.int .u8 0
def Bh7 {H:Type}:DataW H:=.agg [.lit (.int .i64 0),.nil,.lit (.int .i64 0),.lit (.int .i64 0),.lit (.int .i64 0),.lit (.int .i64 0),.agg [.lit (.int .i64 0),.nil,.lit (.int .i64 0),.lit (.int .i64 0),.lit (.int .i64 0),.agg [.lit (.int .i64 0),.lit (.int .i64 0),.lit (.string [])]]]
def Bh6 {H:Type}:DataW H:=.nil
def Bh5 {H:Type}:DataW H:=.lit (.int .u8 0)
noncomputable def Ae9 (os:Os):World:=
 {World.holding Tryz.prog os ⟨#[], #[],[]⟩with heap:=(World.holding Tryz.prog os ⟨#[], #[],[]⟩).heap.modify 0 fun
  | .cells _ t frozen=>.cells #[.int .i64 0,.int .i64 0,.bool true,.bool true,.bool false,.bool false,.int .i64 2,.int .i64 64,.bool false,.bool false,.bool false,.bool false,.int .i64 2,.int .i64 64,.bool false,.bool false,.bool false,.bool false,.int .i64 2,.int .i64 64,.bool false,.bool false,.bool false,.bool false,.int .i64 1,.int .i64 1,.bool false,.bool false,.bool false,.bool false,.int .i64 1,.int .i64 1,.bool true,.bool true,.bool true,.bool false,.int .i64 1,.int .i64 1,.bool false,.bool false,.bool true,.bool true,.int .i64 1,.int .i64 1,.bool false,.bool true,.bool false,.bool false,.int .i64 2,.int .i64 2,.bool false,.bool false,.bool false,.bool false,.int .i64 1,.int .i64 1,.bool true,.bool true,.bool true,.bool false,.int .i64 1,.int .i64 1,.bool false,.bool false,.bool true,.bool true] t frozen
  |o=>o}
theorem AM6 (os:Os):laidMet Tryz.prog Rows.derivationFailsRow.laid ((Ae9 os).forCall (fun _ _=>0) ⟨#[], #[AQ3,Ba5,Ba4],[]⟩).memory:=
 laidMet_of_run' 8 (by kernel_rfl) (by kernel_rfl)
theorem Bk7 (os:Os){H:Type}(enc:TypeId×Value→H):∃places,DataW.whole enc Tryz.prog ((Ae9 os).forCall (fun _ _=>0) ⟨#[], #[AQ3,Ba5,Ba4],[]⟩).memory Tryz.f9.params.toList Rows.derivationFailsSpec.vars false #[AQ3,Ba5,Ba4].toList 8=some ([Bh7,Bh6,Bh5],[],places):=
 ⟨[],by kernel_rfl⟩
theorem Aj6 (os:Os) (started:os.Started) (H:Type) (enc:TypeId×Value→H) (F:Stop.Interp):
 ReturnsInHanded {} Tryz.checked os 9 .any ((Rows.OpenSpec.upto Rows.derivationFailsSpec).preRow enc Tryz.prog Tryz.f9 Rows.derivationFailsUptoRow.domain false Rows.derivationFailsUptoRow.laid) (((Rows.OpenSpec.upto Rows.derivationFailsSpec).at F).post enc Tryz.prog Tryz.f9 false true false false):=by
 obtain⟨places,hx⟩:=Bk7 os enc
 refine returnsInHanded_of_row (C:=Tryz.checked) (s:=Rows.OpenSpec.upto Rows.derivationFailsSpec) own started (by kernel_rfl) Tryz.func9
  (witness_row_at (enc:=enc) (C:=Tryz.checked) false (Ae9 os) #[AQ3,Ba5,Ba4] rfl (by kernel_rfl) (by kernel_rfl) (by kernel_rfl)
   (OpenSpec.preRow_of_cond 8 hx (by kernel_rfl) (fun k hk=>by cases hk;kernel_rfl) (by kernel_rfl) (AM6 os))) ?_
 intro W base args ds gs before hval hW _ hcond _ hL _ _;exact AP2 H enc W base args ds gs before hval hW hL (hcond _ rfl)
theorem saF :Tryz.pinned.checked.prog.funcNamed Rows.derivationFailsUptoRow.func=some 9:=by kernel_rfl
noncomputable abbrev PP :=Tryz.pinned.checked.prog
abbrev RR :=Rows.derivationFailsUptoRow
abbrev SS :=(Rows.OpenSpec.upto Rows.derivationFailsSpec).bare
theorem jf {P:Program}{f:FuncId}{fn:Func}{s:ChangeSpec}{c:OpenClaim}(h0:c.wf (OpenSpec.ofChange s)=true)(h1:laidOutB P=true)(h2:mapsRowed P=true)(h3:fn.params.all (P.readableRec ·)=true)(h4:namedTie P c.named s.vars=true)(h5:(c.stops==[])=true)(h6:(P.stops==[])=true)(h7:(c.knobs==[])=true)(h8:(P.stopKnobs==[])=true)(h9:(c.inPlace==P.inPlace f)=true)(h10:(c.unfollowed==P.unfollowed f)=true)(h11:(c.recurses==P.recurses f)=true)(h12:(c.named==P.varsNamed f)=true)(h13:(c.maps==(fn.params.toList++s.plain.varTypes P).any (P.mapsRec ·))=true)(h14:(c.ifaces==(fn.params.toList++s.plain.varTypes P).any (P.ifacesRec ·))=true)(h15:(c.mapsOut==P.mapsAmong fn.resultTypes.toList)=true)(h16:(c.loops==(fn.params.toList++s.plain.varTypes P).any (P.loopsFrom ·))=true)(h17:(c.wideKeys==(fn.params.toList++s.plain.varTypes P++fn.resultTypes.toList).any (P.wideKeysFrom ·))=true)(h18:s.vars.all (P.varReadable ·)=true)(h19:fn.resultTypes.all (fun t=>P.readableRec t&&decide (t<P.types.size))=true)(h20:(c.ifacesOut==fn.resultTypes.toList.any (P.ifacesRec ·))=true)(h21:(c.loopsOut==fn.resultTypes.toList.any (P.loopsFrom ·))=true)(h22:(c.plainKeys==P.plainKeys)=true)(h23:c.shortTexts.isNone=true)(h24:P.stopsHeard=true)(h25:P.mayEnter=true)(h26:(c.lifted==P.liftsFinal)=true)(h27:(P.make==some c.make)=true)(h28:(c.kinds==(if c.domain.isEmpty then[]else fn.params.toList.map fun t=>match P.underlying t with|some (.int k)=>some k|_=>none))=true)(h29:(c.pinned==c.pinnedBy)=true)(h30:(c.veiled==(fn.params.toList++s.plain.varTypes P++fn.resultTypes.toList).any (P.veiledRec ·))=true)(h31:c.veiledFits P fn.params.toList (fn.params.toList++s.plain.varTypes P++fn.resultTypes.toList)=true):joinedFacts P f fn s c=true:=by
 unfold joinedFacts;simp only[h0,h1,h2,h3,h4,h5,h6,h7,h8,h9,h10,h11,h12,h13,h14,h15,h16,h17,h18,h19,h20,h21,h22,h23,h24,h25,h26,h27,h29,h30,h31,Bool.and_self,Bool.and_true,Bool.true_and];exact h28
theorem j0 :RR.wf (OpenSpec.ofChange SS)=true:=by kernel_rfl
theorem j1 :laidOutB PP=true:=by kernel_rfl
theorem j2 :mapsRowed PP=true:=by kernel_rfl
theorem j3 :Tryz.f9.params.all (PP.readableRec ·)=true:=by kernel_rfl
theorem j4 :namedTie PP RR.named SS.vars=true:=by kernel_rfl
theorem j9 :(RR.inPlace==PP.inPlace 9)=true:=by kernel_rfl
theorem j10 :(RR.unfollowed==PP.unfollowed 9)=true:=by kernel_rfl
theorem j11 :(RR.recurses==PP.recurses 9)=true:=by kernel_rfl
theorem j12 :(RR.named==PP.varsNamed 9)=true:=by kernel_rfl
theorem j13 :(RR.maps==(Tryz.f9.params.toList++SS.plain.varTypes PP).any (PP.mapsRec ·))=true:=by kernel_rfl
theorem j14 :(RR.ifaces==(Tryz.f9.params.toList++SS.plain.varTypes PP).any (PP.ifacesRec ·))=true:=by kernel_rfl
theorem j16 :(RR.loops==(Tryz.f9.params.toList++SS.plain.varTypes PP).any (PP.loopsFrom ·))=true:=by kernel_rfl
theorem j17 :(RR.wideKeys==(Tryz.f9.params.toList++SS.plain.varTypes PP++Tryz.f9.resultTypes.toList).any (PP.wideKeysFrom ·))=true:=by kernel_rfl
theorem j22 :(RR.plainKeys==PP.plainKeys)=true:=by kernel_rfl
theorem j24 :PP.stopsHeard=true:=by kernel_rfl
theorem j25 :PP.mayEnter=true:=by kernel_rfl
theorem j26 :(RR.lifted==PP.liftsFinal)=true:=by kernel_rfl
theorem j30 :(RR.veiled==(Tryz.f9.params.toList++SS.plain.varTypes PP++Tryz.f9.resultTypes.toList).any (PP.veiledRec ·))=true:=by kernel_rfl
theorem j31 :RR.veiledFits PP Tryz.f9.params.toList (Tryz.f9.params.toList++SS.plain.varTypes PP++Tryz.f9.resultTypes.toList)=true:=by kernel_rfl
theorem saC :joinedFacts PP 9 Tryz.f9 SS RR=true:=jf j0 j1 j2 j3 j4 (by kernel_rfl) (by kernel_rfl) (by kernel_rfl) (by kernel_rfl) j9 j10 j11 j12 j13 j14 (by kernel_rfl) j16 j17 (by kernel_rfl) (by kernel_rfl) (by kernel_rfl) (by kernel_rfl) j22 (by kernel_rfl) j24 j25 j26 (by kernel_rfl) (by kernel_rfl) (by kernel_rfl) j30 j31
theorem saI :Tryz.f9.isInstance Tryz.pinned.checked.prog Rows.derivationFailsUptoRow.origin Rows.derivationFailsUptoRow.targs:=of_decide_eq_true (by kernel_rfl)
theorem saW :Tryz.f9.isWrapper Tryz.pinned.checked.prog Rows.derivationFailsUptoRow.wrapper Rows.derivationFailsUptoRow.mainSum:=by unfold Func.isWrapper;first|(rw[if_pos (by decide+kernel)];kernel_rfl)|(rw[if_neg (by decide+kernel)];exact⟨rfl,rfl⟩)
theorem saH (os:Os)(started:os.Started)(H:Type)(enc:TypeId×Value→H)(F:Stop.Interp):ReturnsInHanded Rows.derivationFailsUptoRow.assume Tryz.pinned.checked os 9 .any (Rows.derivationFailsUptoRow.pre enc Tryz.pinned.checked.prog Tryz.f9 (Rows.OpenSpec.upto Rows.derivationFailsSpec)) (((Rows.OpenSpec.upto Rows.derivationFailsSpec).at F).post enc Tryz.pinned.checked.prog Tryz.f9 Rows.derivationFailsUptoRow.apart Rows.derivationFailsUptoRow.fresh Rows.derivationFailsUptoRow.handsOn Rows.derivationFailsUptoRow.again):=by rw[OpenClaim.pre_eq_preRow];exact Aj6 os started H enc F
theorem uptoSaid :Rows.DerivationFailsUptoSaid:=
 OpenClaim.holds_of_cond 9 Tryz.f9 rfl rfl rfl rfl rfl rfl rfl ⟨rfl,rfl,rfl,rfl,rfl⟩ rfl rfl rfl rfl rfl saF Tryz.func9 saC saI saW (fun os started H enc _ F=>saH os started H enc F)
theorem plain (f:FuncId)(fn:Func)(hf:Tryz.pinned.checked.prog.funcNamed "tidegate/tidegatelaw21.DerivationFails" =some f)(hfn:Tryz.pinned.checked.prog.funcs[f]? =some fn):
 false=Tryz.pinned.checked.prog.looks []∧∀(j:Nat) t,fn.params[j]? =some t→Tryz.pinned.checked.prog.wantsStandIn t=false:=by
 obtain rfl:f=9:=Option.some.inj ((show Tryz.prog.funcNamed "tidegate/tidegatelaw21.DerivationFails" =some 9 by kernel_rfl).symm.trans hf)|>.symm;obtain rfl:fn=Tryz.f9:=(Option.some.inj (Tryz.func9.symm.trans hfn)).symm;refine⟨by kernel_rfl,fun j t ht=>?_⟩
 rw[Tryz.params9]at ht
 rcases(show t=29∨t=30∨t=5 by simpa using Array.mem_of_getElem? ht)with rfl|rfl|rfl
 ·exact(show Tryz.prog.wantsStandIn 29=false by kernel_rfl)
 ·exact(show Tryz.prog.wantsStandIn 30=false by kernel_rfl)
 exact(show Tryz.prog.wantsStandIn 5=false by kernel_rfl)
theorem cW :OpenClaim.wfByText (Rows.OpenSpec.upto Rows.derivationFailsSpec) RR=true:=by kernel_rfl
theorem cM :PP.mainIs=some (Rows.derivationFailsUptoCard.stood.harness.1,Rows.derivationFailsUptoCard.stood.harness.2.toList):=by kernel_rfl
theorem cG :false=RR.goesBy PP:=by kernel_rfl
theorem cardUpto :Rows.DerivationFailsUptoCardSaid:=
 Claim7.holds_tied_plain_at .later [] _ _ _ _ uptoSaid (fun _ h=>by cases h) cW (fun _ h=>by cases h) derivationFailsUpto_row_tie rfl ⟨rfl,rfl⟩ cM rfl plain cG
#print axioms cardUpto
end Go.Proofs.YtjhobbohibnioaaGreatDoor.derivationFails
