/- Proved: for all arguments that together hold at most 1048576 values and letters the law DerivationAgrees returns true and its arguments read behind the call as they read before. The package variable tidegate/pattern.shapes holds what the program lays there. -/
import Derived.Test.YtagnkafeimdfnaaGreatDoorA23
import Derived.Test.YtagnkafeimdfnaaGreatDoorTie
import Derived.Test.YtagnkafeimdfnaaGreatDoorCards
import Derived.JoinedCond
import Derived.LaidByText
set_option linter.all false
namespace Go.Proofs.YtagnkafeimdfnaaGreatDoor.derivationAgrees
open Go.ChangeShapes Go.WideShapes Go.ChangeAt Go.RowKit Go.Ab
set_option maxRecDepth 100000
theorem Bc8 :CS 40000000=some true:=by kernel_rfl
theorem law (e:A0)(b:List A9)(g:A0.bulk e<=1048576)(i:XG A9.mu b<=1048576):B8 Tryz.prog 3 [P4.eBE7 e,.sl (Ar.lst P4.eBE3 b) .ro] (.bool true):=by
 have h:=c3 _ e b true (Ay0 (Nat.le_refl _) Bc8 (by omega) (by have:=AB8 (f:=A9.mu) (λa=>by unfold A9.mu;omega) b;omega));rw[P4.eBF1];exact h
theorem own :ownKnob Tryz.prog.godebug=none:=by kernel_rfl
theorem AD0 :laidOutB Tryz.prog=true:=by kernel_rfl
theorem Bb8 (H:Type) (enc:TypeId×Value->H) (W:World) (base:Nat) (args:Array Value) (ds y:List (DataW H)) (b:List MemPlace)
 (a:∀(j:Nat) t v,Tryz.f3.params[j]? =some t->args[j]? =some v->Value.okWide Tryz.prog W .any base t v)
 (N:DataW.Whole enc Tryz.prog Tryz.f3.params.toList Rows.derivationAgreesSpec.vars false W args.toList ds y b) (o:laidMetH Tryz.prog Rows.derivationAgreesRow.laid W) (A:Rows.uptoSmall H (ds++y)=true):
 Calls Tryz.prog 3 args W λe W'=>∃v,e= .returned v/\Rows.derivationAgreesSpec.post enc Tryz.prog Tryz.f3 false true false false W args v W':=by
 have k:=N;obtain⟨p,q,n,s,rfl,u,w⟩:=N;have K:DataW.TrodAll enc Tryz.prog W 0 (λ_=>true) true Tryz.f3.params.toList args.toList ds p:=n
 rw[Tryz.params3]at K a
 obtain⟨c,G,R,f,P,T,r,rfl,rfl,L,E⟩:=trodAll_cons K;obtain⟨d,I,S,m,V,U,rfl,rfl,rfl,O,F⟩:=trodAll_cons E;obtain⟨rfl,rfl,rfl⟩:=trodAll_nil F
 obtain rfl:args= #[c,d]:=by cases args;simp_all
 obtain⟨rfl,rfl⟩:=trodVars_none s;have i:=of_decide_eq_true A
 simp only[List.append_nil,Rows.uptoBulkAll]at i
 have l:∀x∈P++(V++[]),x.block<W.heap.size:=λx M=>by
  have:=k.lt x (by simpa using M)
  simpa using this
 obtain⟨J,z,C⟩:=ZQ (a 0 29 c rfl rfl) L;obtain⟨Q,B,D⟩:=An5 (a 1 30 d rfl rfl) O;refine(Bl2 (Bv5 o) Tryz.call3 (law J Q (by omega) (by omega)) (BD3 z B)).mono λe W' ⟨Y,g⟩=>?_;subst Y;refine⟨_,rfl,_,_,_,[],P++(V++[]),[],k,?_,?_,rfl,g.frame _,λh=>by cases h⟩
 ·exact trodAll_cons_mk (shut_bool u4 _) trodAll_mk0
 exact trodAll_cons_mk (Below.trod AD0 (by kernel_rfl) (of_decide_eq_true (by kernel_rfl)) L g λx M=>l x (by simp[M]))
  (trodAll_cons_mk (Below.trod AD0 (by kernel_rfl) (of_decide_eq_true (by kernel_rfl)) O g λx M=>l x (by simp[M]))
  trodAll_mk0)
def Bd2 :Value:=.agg #[.int .i64 0,.slice none 0 0,.int .i64 0,.int .i64 0,.int .i64 0,.int .i64 0,.int .i64 0,.slice none 0 0,.int .i64 0,.int .i64 0,.int .i64 0,.int .i64 0,.int .i64 0,.string ⟨#[]⟩]
def Bn8 :Value:=.slice none 0 0
def Bw0 {H:Type}:DataW H:=.agg [.lit (.int .i64 0),.nil,.lit (.int .i64 0),.lit (.int .i64 0),.lit (.int .i64 0),.lit (.int .i64 0),.agg [.lit (.int .i64 0),.nil,.lit (.int .i64 0),.lit (.int .i64 0),.lit (.int .i64 0),.agg [.lit (.int .i64 0),.lit (.int .i64 0),.lit (.string [])]]]
def Bv9 {H:Type}:DataW H:=.nil
def tabs :Nat->Array Value
 |0=> #[.int .i64 0,.int .i64 0,.bool true,.bool true,.bool false,.bool false,.int .i64 2,.int .i64 64,.bool false,.bool false,.bool false,.bool false,.int .i64 2,.int .i64 64,.bool false,.bool false,.bool false,.bool false,.int .i64 2,.int .i64 64,.bool false,.bool false,.bool false,.bool false,.int .i64 1,.int .i64 1,.bool false,.bool false,.bool false,.bool false,.int .i64 1,.int .i64 1,.bool true,.bool true,.bool true,.bool false,.int .i64 1,.int .i64 1,.bool false,.bool false,.bool true,.bool true,.int .i64 1,.int .i64 1,.bool false,.bool true,.bool false,.bool false,.int .i64 2,.int .i64 2,.bool false,.bool false,.bool false,.bool false,.int .i64 1,.int .i64 1,.bool true,.bool true,.bool true,.bool false,.int .i64 1,.int .i64 1,.bool false,.bool false,.bool true,.bool true]
 |1=> #[.int .u64 1,.int .u64 10,.int .u64 100,.int .u64 1000,.int .u64 10000,.int .u64 100000,.int .u64 1000000,.int .u64 10000000,.int .u64 100000000,.int .u64 1000000000,.int .u64 10000000000,.int .u64 100000000000,.int .u64 1000000000000,.int .u64 10000000000000,.int .u64 100000000000000,.int .u64 1000000000000000,.int .u64 10000000000000000,.int .u64 100000000000000000,.int .u64 1000000000000000000,.int .u64 10000000000000000000]
 |2=> #[.int .u8 0,.int .u8 1,.int .u8 28,.int .u8 2,.int .u8 29,.int .u8 14,.int .u8 24,.int .u8 3,.int .u8 30,.int .u8 22,.int .u8 20,.int .u8 15,.int .u8 25,.int .u8 17,.int .u8 4,.int .u8 8,.int .u8 31,.int .u8 27,.int .u8 13,.int .u8 23,.int .u8 21,.int .u8 19,.int .u8 16,.int .u8 7,.int .u8 26,.int .u8 12,.int .u8 18,.int .u8 6,.int .u8 11,.int .u8 5,.int .u8 10,.int .u8 9]
 |_=> #[.int .u8 0,.int .u8 1,.int .u8 56,.int .u8 2,.int .u8 57,.int .u8 49,.int .u8 28,.int .u8 3,.int .u8 61,.int .u8 58,.int .u8 42,.int .u8 50,.int .u8 38,.int .u8 29,.int .u8 17,.int .u8 4,.int .u8 62,.int .u8 47,.int .u8 59,.int .u8 36,.int .u8 45,.int .u8 43,.int .u8 51,.int .u8 22,.int .u8 53,.int .u8 39,.int .u8 33,.int .u8 30,.int .u8 24,.int .u8 18,.int .u8 12,.int .u8 5,.int .u8 63,.int .u8 55,.int .u8 48,.int .u8 27,.int .u8 60,.int .u8 41,.int .u8 37,.int .u8 16,.int .u8 46,.int .u8 35,.int .u8 44,.int .u8 21,.int .u8 52,.int .u8 32,.int .u8 23,.int .u8 11,.int .u8 54,.int .u8 26,.int .u8 40,.int .u8 15,.int .u8 34,.int .u8 20,.int .u8 31,.int .u8 10,.int .u8 25,.int .u8 14,.int .u8 19,.int .u8 9,.int .u8 13,.int .u8 8,.int .u8 7,.int .u8 6]
def YV (n:Nat)(h:Array Obj):Array Obj:=h.modify n λ
 | .cells _ t frozen=>.cells (tabs n) t frozen
 |o=>o
noncomputable def Ap8 (a:Os):World:=
 {World.holding Tryz.prog a ⟨#[], #[],[]⟩with heap:=YV 0 (YV 1 (YV 2 (YV 3 (World.holding Tryz.prog a ⟨#[], #[],[]⟩).heap)))}
theorem AZ1 (a:Os):laidMet Tryz.prog Rows.derivationAgreesRow.laid ((Ap8 a).forCall (λ_ _=>0) ⟨#[], #[Bd2,Bn8],[]⟩).memory:=
 laidMet_of_run' 8 (by kernel_rfl) (by kernel_rfl)
theorem BA3 (b:Os){H:Type}(enc:TypeId×Value->H):∃a,DataW.whole enc Tryz.prog ((Ap8 b).forCall (λ_ _=>0) ⟨#[], #[Bd2,Bn8],[]⟩).memory Tryz.f3.params.toList Rows.derivationAgreesSpec.vars false #[Bd2,Bn8].toList 8=some ([Bw0,Bv9],[],a):=
 ⟨[],by kernel_rfl⟩
theorem Au4 (h:Os) (a:h.Started) (H:Type) (enc:TypeId×Value->H) (F:Stop.Interp):
 ReturnsInHanded {} Tryz.checked h 3 .any ((Rows.OpenSpec.upto Rows.derivationAgreesSpec).preRow enc Tryz.prog Tryz.f3 Rows.derivationAgreesUptoRow.domain false Rows.derivationAgreesUptoRow.laid) (((Rows.OpenSpec.upto Rows.derivationAgreesSpec).at F).post enc Tryz.prog Tryz.f3 false true false false):=by
 obtain⟨i,M⟩:=BA3 h enc
 refine returnsInHanded_of_row (C:=Tryz.checked) (s:=Rows.OpenSpec.upto Rows.derivationAgreesSpec) own a (by kernel_rfl) Tryz.func3
  (witness_row_at (enc:=enc) (C:=Tryz.checked) false (Ap8 h) #[Bd2,Bn8] rfl (by kernel_rfl) (by kernel_rfl) (by kernel_rfl)
   (OpenSpec.preRow_of_cond 8 M (by kernel_rfl) (λk t=>by cases t;kernel_rfl) (by kernel_rfl) (AZ1 h))) ?_
 intro W base args ds l b g r _ e _ n _ _;exact Bb8 H enc W base args ds l b g r n (e _ rfl)
theorem saF :Tryz.pinned.checked.prog.funcNamed Rows.derivationAgreesUptoRow.func=some 3:=by kernel_rfl
noncomputable abbrev PP :=Tryz.pinned.checked.prog
abbrev RR :=Rows.derivationAgreesUptoRow
abbrev SS :=(Rows.OpenSpec.upto Rows.derivationAgreesSpec).bare
theorem jf {P:Program}{f:FuncId}{fn:Func}{s:ChangeSpec}{c:OpenClaim}(L:c.wf (OpenSpec.ofChange s)=true)(O:laidOutB P=true)(Z:mapsRowed P=true)(J:fn.params.all (P.readableRec ·)=true)(v:namedTie P c.named s.vars=true)(w:(c.stops==[])=true)(z:(P.stops==[])=true)(A:(c.knobs==[])=true)(B:(P.stopKnobs==[])=true)(C:(c.inPlace==P.inPlace f)=true)(a:(c.unfollowed==P.unfollowed f)=true)(b:(c.recurses==P.recurses f)=true)(e:(c.named==P.varsNamed f)=true)(g:(c.maps==(fn.params.toList++s.plain.varTypes P).any (P.mapsRec ·))=true)(h:(c.ifaces==(fn.params.toList++s.plain.varTypes P).any (P.ifacesRec ·))=true)(i:(c.mapsOut==P.mapsAmong fn.resultTypes.toList)=true)(l:(c.loops==(fn.params.toList++s.plain.varTypes P).any (P.loopsFrom ·))=true)(n:(c.wideKeys==(fn.params.toList++s.plain.varTypes P++fn.resultTypes.toList).any (P.wideKeysFrom ·))=true)(r:s.vars.all (P.varReadable ·)=true)(x:fn.resultTypes.all (λt=>P.readableRec t&&decide (t<P.types.size))=true)(y:(c.ifacesOut==fn.resultTypes.toList.any (P.ifacesRec ·))=true)(H:(c.loopsOut==fn.resultTypes.toList.any (P.loopsFrom ·))=true)(K:(c.plainKeys==P.plainKeys)=true)(N:c.shortTexts.isNone=true)(V:P.stopsHeard=true)(d:P.mayEnter=true)(j:(c.lifted==P.liftsFinal)=true)(m:(P.make==some c.make)=true)(o:(c.kinds==(if c.domain.isEmpty then[]else fn.params.toList.map λt=>match P.underlying t with|some (.int k)=>some k|_=>none))=true)(p:(c.pinned==c.pinnedBy)=true)(q:(c.veiled==(fn.params.toList++s.plain.varTypes P++fn.resultTypes.toList).any (P.veiledRec ·))=true)(u:c.veiledFits P fn.params.toList (fn.params.toList++s.plain.varTypes P++fn.resultTypes.toList)=true):joinedFacts P f fn s c=true:=by
 unfold joinedFacts;simp only[L,O,Z,J,v,w,z,A,B,C,a,b,e,g,h,i,l,n,r,x,y,H,K,N,V,d,j,m,p,q,u,Bool.and_self,Bool.and_true,Bool.true_and];exact o
theorem j0 :RR.wf (OpenSpec.ofChange SS)=true:=by kernel_rfl
theorem j1 :laidOutB PP=true:=by kernel_rfl
theorem j2 :mapsRowed PP=true:=by kernel_rfl
theorem j3 :Tryz.f3.params.all (PP.readableRec ·)=true:=by kernel_rfl
theorem j4 :namedTie PP RR.named SS.vars=true:=by kernel_rfl
theorem j9 :(RR.inPlace==PP.inPlace 3)=true:=by kernel_rfl
theorem j10 :(RR.unfollowed==PP.unfollowed 3)=true:=by kernel_rfl
theorem j11 :(RR.recurses==PP.recurses 3)=true:=by kernel_rfl
theorem j12 :(RR.named==PP.varsNamed 3)=true:=by kernel_rfl
theorem j13 :(RR.maps==(Tryz.f3.params.toList++SS.plain.varTypes PP).any (PP.mapsRec ·))=true:=by kernel_rfl
theorem j14 :(RR.ifaces==(Tryz.f3.params.toList++SS.plain.varTypes PP).any (PP.ifacesRec ·))=true:=by kernel_rfl
theorem j16 :(RR.loops==(Tryz.f3.params.toList++SS.plain.varTypes PP).any (PP.loopsFrom ·))=true:=by kernel_rfl
theorem j17 :(RR.wideKeys==(Tryz.f3.params.toList++SS.plain.varTypes PP++Tryz.f3.resultTypes.toList).any (PP.wideKeysFrom ·))=true:=by kernel_rfl
theorem j22 :(RR.plainKeys==PP.plainKeys)=true:=by kernel_rfl
theorem j24 :PP.stopsHeard=true:=by kernel_rfl
theorem j25 :PP.mayEnter=true:=by kernel_rfl
theorem j26 :(RR.lifted==PP.liftsFinal)=true:=by kernel_rfl
theorem j30 :(RR.veiled==(Tryz.f3.params.toList++SS.plain.varTypes PP++Tryz.f3.resultTypes.toList).any (PP.veiledRec ·))=true:=by kernel_rfl
theorem j31 :RR.veiledFits PP Tryz.f3.params.toList (Tryz.f3.params.toList++SS.plain.varTypes PP++Tryz.f3.resultTypes.toList)=true:=by kernel_rfl
theorem saC :joinedFacts PP 3 Tryz.f3 SS RR=true:=jf j0 j1 j2 j3 j4 (by kernel_rfl) (by kernel_rfl) (by kernel_rfl) (by kernel_rfl) j9 j10 j11 j12 j13 j14 (by kernel_rfl) j16 j17 (by kernel_rfl) (by kernel_rfl) (by kernel_rfl) (by kernel_rfl) j22 (by kernel_rfl) j24 j25 j26 (by kernel_rfl) (by kernel_rfl) (by kernel_rfl) j30 j31
theorem saI :Tryz.f3.isInstance Tryz.pinned.checked.prog Rows.derivationAgreesUptoRow.origin Rows.derivationAgreesUptoRow.targs:=of_decide_eq_true (by kernel_rfl)
theorem saW :Tryz.f3.isWrapper Tryz.pinned.checked.prog Rows.derivationAgreesUptoRow.wrapper Rows.derivationAgreesUptoRow.mainSum:=by unfold Func.isWrapper;first|(rw[if_pos (by decide+kernel)];kernel_rfl)|(rw[if_neg (by decide+kernel)];exact⟨rfl,rfl⟩)
theorem saH (b:Os)(a:b.Started)(H:Type)(enc:TypeId×Value->H)(F:Stop.Interp):ReturnsInHanded Rows.derivationAgreesUptoRow.assume Tryz.pinned.checked b 3 .any (Rows.derivationAgreesUptoRow.pre enc Tryz.pinned.checked.prog Tryz.f3 (Rows.OpenSpec.upto Rows.derivationAgreesSpec)) (((Rows.OpenSpec.upto Rows.derivationAgreesSpec).at F).post enc Tryz.pinned.checked.prog Tryz.f3 Rows.derivationAgreesUptoRow.apart Rows.derivationAgreesUptoRow.fresh Rows.derivationAgreesUptoRow.handsOn Rows.derivationAgreesUptoRow.again):=by rw[OpenClaim.pre_eq_preRow];exact Au4 b a H enc F
theorem uptoSaid :Rows.DerivationAgreesUptoSaid:=
 OpenClaim.holds_of_cond 3 Tryz.f3 rfl rfl rfl rfl rfl rfl rfl ⟨rfl,rfl,rfl,rfl,rfl⟩ rfl rfl rfl rfl rfl saF Tryz.func3 saC saI saW (λb a H enc _ F=>saH b a H enc F)
theorem plain (f:FuncId)(fn:Func)(o:Tryz.pinned.checked.prog.funcNamed "tidegate/tidegatelaw21.DerivationAgrees" =some f)(a:Tryz.pinned.checked.prog.funcs[f]? =some fn):
 false=Tryz.pinned.checked.prog.looks []/\∀(j:Nat) t,fn.params[j]? =some t->Tryz.pinned.checked.prog.wantsStandIn t=false:=by
 obtain rfl:f=3:=Option.some.inj ((show Tryz.prog.funcNamed "tidegate/tidegatelaw21.DerivationAgrees" =some 3 by kernel_rfl).symm.trans o)|>.symm;obtain rfl:fn=Tryz.f3:=(Option.some.inj (Tryz.func3.symm.trans a)).symm;refine⟨by kernel_rfl,λj t b=>?_⟩
 rw[Tryz.params3]at b
 rcases(show t=29\/t=30 by simpa using Array.mem_of_getElem? b)with rfl|rfl
 ·exact(show Tryz.prog.wantsStandIn 29=false by kernel_rfl)
 exact(show Tryz.prog.wantsStandIn 30=false by kernel_rfl)
theorem cW :OpenClaim.wfByText (Rows.OpenSpec.upto Rows.derivationAgreesSpec) RR=true:=by kernel_rfl
theorem cM :PP.mainIs=some (Rows.derivationAgreesUptoCard.stood.harness.1,Rows.derivationAgreesUptoCard.stood.harness.2.toList):=by kernel_rfl
theorem cG :false=RR.goesBy PP:=by kernel_rfl
theorem cardUpto :Rows.DerivationAgreesUptoCardSaid:=
 Claim7.holds_tied_plain_at .later [] _ _ _ _ uptoSaid (λ_ h=>by cases h) cW (λ_ h=>by cases h) derivationAgreesUpto_row_tie rfl ⟨rfl,rfl⟩ cM rfl plain cG
#print axioms cardUpto
end Go.Proofs.YtagnkafeimdfnaaGreatDoor.derivationAgrees
