/- Proved: for all arguments that together hold at most 1048576 values and letters the law SymbolicMatches returns true and its arguments read behind the call as they read before. The package variable tidegate/pattern.shapes holds what the program lays there. -/
import Derived.Test.YtaoapcidgbaagaaGreatDoorM23
import Derived.Test.YtaoapcidgbaagaaGreatDoorTie
import Derived.Test.YtaoapcidgbaagaaGreatDoorCards
import Derived.JoinedCond
import Derived.LaidByText
set_option linter.all false
namespace Go.Proofs.YtaoapcidgbaagaaGreatDoor.symbolicMatches
open Go.ChangeShapes Go.WideShapes Go.ChangeAt Go.RowKit Go.Ab
set_option maxRecDepth 100000
theorem BD8 :BN 40000000=some true:=by kernel_rfl
theorem law (b:List F6)(i:A0)(e:List B0)(k:VX F6.mu b<=1048576)(l:A0.bulk i<=1048576)(n:VX B0.mu e<=1048576):B1 Tryz.prog 3 [.sl (Ar.lst J6.eCm0 b) .ro,J6.eCl1 i,.sl (Ar.lst J6.eCl4 e) .ro] (.bool true):=by
 have h:=c3 _ b i e true (Ah0 BD8 b (by omega) (by have:=AW9 (f:=B0.mu) (λa=>by unfold B0.mu;omega) e;omega));rw[J6.eCl5];exact h
theorem own :ownKnob Tryz.prog.godebug=none:=by kernel_rfl
theorem Ak4 :laidOutB Tryz.prog=true:=by kernel_rfl
theorem BC8 (H:Type) (enc:TypeId×Value->H) (W:World) (base:Nat) (args:Array Value) (ds y:List (DataW H)) (b:List MemPlace)
 (a:∀(j:Nat) t v,Tryz.f3.params[j]? =some t->args[j]? =some v->Value.okWide Tryz.prog W .any base t v)
 (N:DataW.Whole enc Tryz.prog Tryz.f3.params.toList Rows.symbolicMatchesSpec.vars false W args.toList ds y b) (u:laidMetH Tryz.prog Rows.symbolicMatchesRow.laid W) (A:Rows.uptoSmall H (ds++y)=true):
 Calls Tryz.prog 3 args W λe W'=>∃v,e= .returned v/\Rows.symbolicMatchesSpec.post enc Tryz.prog Tryz.f3 false true false false W args v W':=by
 have n:=N;obtain⟨p,q,r,z,rfl,B,C⟩:=N;have K:DataW.TrodAll enc Tryz.prog W 0 (λ_=>true) true Tryz.f3.params.toList args.toList ds p:=r
 rw[Tryz.params3]at K a
 obtain⟨d,U,d0,m,P,q0,w,rfl,rfl,L,Q⟩:=trodAll_cons K;obtain⟨f,X,d1,o,V,q1,rfl,rfl,rfl,O,S⟩:=trodAll_cons Q;obtain⟨g,Y,d2,s,c,q2,rfl,rfl,rfl,Z,T⟩:=trodAll_cons S;obtain⟨rfl,rfl,rfl⟩:=trodAll_nil T
 obtain rfl:args= #[d,f,g]:=by cases args;simp_all
 obtain⟨rfl,rfl⟩:=trodVars_none z;have k:=of_decide_eq_true A
 simp only[List.append_nil,Rows.uptoBulkAll]at k
 have l:∀x∈P++(V++(c++[])),x.block<W.heap.size:=λx M=>by
  have:=n.lt x (by simpa using M)
  simpa using this
 obtain⟨x0,D,G⟩:=Am7 (a 0 22 d rfl rfl) L;obtain⟨x1,E,I⟩:=Am8 (a 1 30 f rfl rfl) O;obtain⟨x2,F,J⟩:=AD9 (a 2 31 g rfl rfl) Z;refine(BN4 (Ca0 u) Tryz.call3 (law x0 x1 x2 (by omega) (by omega) (by omega)) (Cj8 D E F)).mono λe W' ⟨R,i⟩=>?_;subst R;refine⟨_,rfl,_,_,_,[],P++(V++(c++[])),[],n,?_,?_,rfl,i.frame _,λh=>by cases h⟩
 ·exact trodAll_cons_mk (shut_bool u4 _) trodAll_mk0
 exact trodAll_cons_mk (Below.trod Ak4 (by kernel_rfl) (of_decide_eq_true (by kernel_rfl)) L i λx M=>l x (by simp[M]))
  (trodAll_cons_mk (Below.trod Ak4 (by kernel_rfl) (of_decide_eq_true (by kernel_rfl)) O i λx M=>l x (by simp[M]))
  (trodAll_cons_mk (Below.trod Ak4 (by kernel_rfl) (of_decide_eq_true (by kernel_rfl)) Z i λx M=>l x (by simp[M]))
  trodAll_mk0))
def AP8 :Value:=.slice none 0 0
def BR3 :Value:=.agg #[.int .i64 0,.slice none 0 0,.int .i64 0,.int .i64 0,.int .i64 0,.int .i64 0,.int .i64 0,.slice none 0 0,.int .i64 0,.int .i64 0,.int .i64 0,.int .i64 0,.int .i64 0,.string ⟨#[]⟩]
def BR2 :Value:=.slice none 0 0
def Cb2 {H:Type}:DataW H:=.nil
def Cb1 {H:Type}:DataW H:=.agg [.lit (.int .i64 0),.nil,.lit (.int .i64 0),.lit (.int .i64 0),.lit (.int .i64 0),.lit (.int .i64 0),.agg [.lit (.int .i64 0),.nil,.lit (.int .i64 0),.lit (.int .i64 0),.lit (.int .i64 0),.agg [.lit (.int .i64 0),.lit (.int .i64 0),.lit (.string [])]]]
def Cb0 {H:Type}:DataW H:=.nil
def tabs :Nat->Array Value
 |0=> #[.int .i64 0,.int .i64 0,.bool true,.bool true,.bool false,.bool false,.int .i64 2,.int .i64 64,.bool false,.bool false,.bool false,.bool false,.int .i64 2,.int .i64 64,.bool false,.bool false,.bool false,.bool false,.int .i64 2,.int .i64 64,.bool false,.bool false,.bool false,.bool false,.int .i64 1,.int .i64 1,.bool false,.bool false,.bool false,.bool false,.int .i64 1,.int .i64 1,.bool true,.bool true,.bool true,.bool false,.int .i64 1,.int .i64 1,.bool false,.bool false,.bool true,.bool true,.int .i64 1,.int .i64 1,.bool false,.bool true,.bool false,.bool false,.int .i64 2,.int .i64 2,.bool false,.bool false,.bool false,.bool false,.int .i64 1,.int .i64 1,.bool true,.bool true,.bool true,.bool false,.int .i64 1,.int .i64 1,.bool false,.bool false,.bool true,.bool true]
 |1=>(List.map (Value.int .u64) [1,10,100,1000,10000,100000,1000000,10000000,100000000,1000000000,10000000000,100000000000,1000000000000,10000000000000,100000000000000,1000000000000000,10000000000000000,100000000000000000,1000000000000000000,10000000000000000000]).toArray
 |2=>(List.map (Value.int .u8) [0,1,28,2,29,14,24,3,30,22,20,15,25,17,4,8,31,27,13,23,21,19,16,7,26,12,18,6,11,5,10,9]).toArray
 |_=>(List.map (Value.int .u8) [0,1,56,2,57,49,28,3,61,58,42,50,38,29,17,4,62,47,59,36,45,43,51,22,53,39,33,30,24,18,12,5,63,55,48,27,60,41,37,16,46,35,44,21,52,32,23,11,54,26,40,15,34,20,31,10,25,14,19,9,13,8,7,6]).toArray
def Ah9 (n:Nat)(h:Array Obj):Array Obj:=h.modify n λ
 | .cells _ t frozen=>.cells (tabs n) t frozen
 |o=>o
noncomputable def AG7 (a:Os):World:=
 {World.holding Tryz.prog a ⟨#[], #[],[]⟩with heap:=Ah9 0 (Ah9 1 (Ah9 2 (Ah9 3 (World.holding Tryz.prog a ⟨#[], #[],[]⟩).heap)))}
theorem By7 (a:Os):laidMet Tryz.prog Rows.symbolicMatchesRow.laid ((AG7 a).forCall (λ_ _=>0) ⟨#[], #[AP8,BR3,BR2],[]⟩).memory:=
 laidMet_of_run' 8 (by kernel_rfl) (by kernel_rfl)
theorem Cg4 (b:Os){H:Type}(enc:TypeId×Value->H):∃a,DataW.whole enc Tryz.prog ((AG7 b).forCall (λ_ _=>0) ⟨#[], #[AP8,BR3,BR2],[]⟩).memory Tryz.f3.params.toList Rows.symbolicMatchesSpec.vars false #[AP8,BR3,BR2].toList 8=some ([Cb2,Cb1,Cb0],[],a):=
 ⟨[],by kernel_rfl⟩
theorem AL0 (i:Os) (a:i.Started) (H:Type) (enc:TypeId×Value->H) (F:Stop.Interp):
 ReturnsInHanded {} Tryz.checked i 3 .any ((Rows.OpenSpec.upto Rows.symbolicMatchesSpec).preRow enc Tryz.prog Tryz.f3 Rows.symbolicMatchesUptoRow.domain false Rows.symbolicMatchesUptoRow.laid) (((Rows.OpenSpec.upto Rows.symbolicMatchesSpec).at F).post enc Tryz.prog Tryz.f3 false true false false):=by
 obtain⟨l,M⟩:=Cg4 i enc
 refine returnsInHanded_of_row (C:=Tryz.checked) (s:=Rows.OpenSpec.upto Rows.symbolicMatchesSpec) own a (by kernel_rfl) Tryz.func3
  (witness_row_at (enc:=enc) (C:=Tryz.checked) false (AG7 i) #[AP8,BR3,BR2] rfl (by kernel_rfl) (by kernel_rfl) (by kernel_rfl)
   (OpenSpec.preRow_of_cond 8 M (by kernel_rfl) (λk S=>by cases S;kernel_rfl) (by kernel_rfl) (By7 i))) ?_
 intro W base args ds n b h v _ e _ r _ _;exact BC8 H enc W base args ds n b h v r (e _ rfl)
theorem saF :Tryz.pinned.checked.prog.funcNamed Rows.symbolicMatchesUptoRow.func=some 3:=by kernel_rfl
noncomputable abbrev PP :=Tryz.pinned.checked.prog
abbrev RR :=Rows.symbolicMatchesUptoRow
abbrev SS :=(Rows.OpenSpec.upto Rows.symbolicMatchesSpec).bare
theorem jf {P:Program}{f:FuncId}{fn:Func}{s:ChangeSpec}{c:OpenClaim}(L:c.wf (OpenSpec.ofChange s)=true)(O:laidOutB P=true)(Z:mapsRowed P=true)(T:fn.params.all (P.readableRec ·)=true)(q:namedTie P c.named s.vars=true)(u:(c.stops==[])=true)(z:(P.stops==[])=true)(A:(c.knobs==[])=true)(B:(P.stopKnobs==[])=true)(C:(c.inPlace==P.inPlace f)=true)(a:(c.unfollowed==P.unfollowed f)=true)(b:(c.recurses==P.recurses f)=true)(e:(c.named==P.varsNamed f)=true)(h:(c.maps==(fn.params.toList++s.plain.varTypes P).any (P.mapsRec ·))=true)(i:(c.ifaces==(fn.params.toList++s.plain.varTypes P).any (P.ifacesRec ·))=true)(l:(c.mapsOut==P.mapsAmong fn.resultTypes.toList)=true)(n:(c.loops==(fn.params.toList++s.plain.varTypes P).any (P.loopsFrom ·))=true)(r:(c.wideKeys==(fn.params.toList++s.plain.varTypes P++fn.resultTypes.toList).any (P.wideKeysFrom ·))=true)(v:s.vars.all (P.varReadable ·)=true)(w:fn.resultTypes.all (λt=>P.readableRec t&&decide (t<P.types.size))=true)(x:(c.ifacesOut==fn.resultTypes.toList.any (P.ifacesRec ·))=true)(y:(c.loopsOut==fn.resultTypes.toList.any (P.loopsFrom ·))=true)(H:(c.plainKeys==P.plainKeys)=true)(K:c.shortTexts.isNone=true)(N:P.stopsHeard=true)(V:P.mayEnter=true)(d:(c.lifted==P.liftsFinal)=true)(g:(P.make==some c.make)=true)(j:(c.kinds==(if c.domain.isEmpty then[]else fn.params.toList.map λt=>match P.underlying t with|some (.int k)=>some k|_=>none))=true)(m:(c.pinned==c.pinnedBy)=true)(o:(c.veiled==(fn.params.toList++s.plain.varTypes P++fn.resultTypes.toList).any (P.veiledRec ·))=true)(p:c.veiledFits P fn.params.toList (fn.params.toList++s.plain.varTypes P++fn.resultTypes.toList)=true):joinedFacts P f fn s c=true:=by
 unfold joinedFacts;simp only[L,O,Z,T,q,u,z,A,B,C,a,b,e,h,i,l,n,r,v,w,x,y,H,K,N,V,d,g,m,o,p,Bool.and_self,Bool.and_true,Bool.true_and];exact j
theorem j0 :RR.wf (OpenSpec.ofChange SS)=true:=by kernel_rfl
theorem j1 :laidOutB PP=true:=by kernel_rfl
theorem j2 :mapsRowed PP=true:=by kernel_rfl
theorem j3 :Tryz.f3.params.all (PP.readableRec ·)=true:=by kernel_rfl
theorem j4 :namedTie PP RR.named SS.vars=true:=by kernel_rfl
theorem j9 :(RR.inPlace==PP.inPlace 3)=true:=by kernel_rfl
theorem j10 :(RR.unfollowed==PP.unfollowed 3)=true:=by kernel_rfl
theorem j11 :(RR.recurses==PP.recurses 3)=true:=by kernel_rfl
theorem j12 :(RR.named==PP.varsNamed 3)=true:=by kernel_rfl
theorem j13 :(RR.maps==(Tryz.f3.params.toList++SS.plain.varTypes PP).any (PP.mapsRec ·))=true:=by kernel_rfl
theorem j14 :(RR.ifaces==(Tryz.f3.params.toList++SS.plain.varTypes PP).any (PP.ifacesRec ·))=true:=by kernel_rfl
theorem j16 :(RR.loops==(Tryz.f3.params.toList++SS.plain.varTypes PP).any (PP.loopsFrom ·))=true:=by kernel_rfl
theorem j17 :(RR.wideKeys==(Tryz.f3.params.toList++SS.plain.varTypes PP++Tryz.f3.resultTypes.toList).any (PP.wideKeysFrom ·))=true:=by kernel_rfl
theorem j22 :(RR.plainKeys==PP.plainKeys)=true:=by kernel_rfl
theorem j24 :PP.stopsHeard=true:=by kernel_rfl
theorem j25 :PP.mayEnter=true:=by kernel_rfl
theorem j26 :(RR.lifted==PP.liftsFinal)=true:=by kernel_rfl
theorem j30 :(RR.veiled==(Tryz.f3.params.toList++SS.plain.varTypes PP++Tryz.f3.resultTypes.toList).any (PP.veiledRec ·))=true:=by kernel_rfl
theorem j31 :RR.veiledFits PP Tryz.f3.params.toList (Tryz.f3.params.toList++SS.plain.varTypes PP++Tryz.f3.resultTypes.toList)=true:=by kernel_rfl
theorem saC :joinedFacts PP 3 Tryz.f3 SS RR=true:=jf j0 j1 j2 j3 j4 (by kernel_rfl) (by kernel_rfl) (by kernel_rfl) (by kernel_rfl) j9 j10 j11 j12 j13 j14 (by kernel_rfl) j16 j17 (by kernel_rfl) (by kernel_rfl) (by kernel_rfl) (by kernel_rfl) j22 (by kernel_rfl) j24 j25 j26 (by kernel_rfl) (by kernel_rfl) (by kernel_rfl) j30 j31
theorem saI :Tryz.f3.isInstance Tryz.pinned.checked.prog Rows.symbolicMatchesUptoRow.origin Rows.symbolicMatchesUptoRow.targs:=of_decide_eq_true (by kernel_rfl)
theorem saW :Tryz.f3.isWrapper Tryz.pinned.checked.prog Rows.symbolicMatchesUptoRow.wrapper Rows.symbolicMatchesUptoRow.mainSum:=by unfold Func.isWrapper;first|(rw[if_pos (by decide+kernel)];kernel_rfl)|(rw[if_neg (by decide+kernel)];exact⟨rfl,rfl⟩)
theorem saH (b:Os)(a:b.Started)(H:Type)(enc:TypeId×Value->H)(F:Stop.Interp):ReturnsInHanded Rows.symbolicMatchesUptoRow.assume Tryz.pinned.checked b 3 .any (Rows.symbolicMatchesUptoRow.pre enc Tryz.pinned.checked.prog Tryz.f3 (Rows.OpenSpec.upto Rows.symbolicMatchesSpec)) (((Rows.OpenSpec.upto Rows.symbolicMatchesSpec).at F).post enc Tryz.pinned.checked.prog Tryz.f3 Rows.symbolicMatchesUptoRow.apart Rows.symbolicMatchesUptoRow.fresh Rows.symbolicMatchesUptoRow.handsOn Rows.symbolicMatchesUptoRow.again):=by rw[OpenClaim.pre_eq_preRow];exact AL0 b a H enc F
theorem uptoSaid :Rows.SymbolicMatchesUptoSaid:=
 OpenClaim.holds_of_cond 3 Tryz.f3 rfl rfl rfl rfl rfl rfl rfl ⟨rfl,rfl,rfl,rfl,rfl⟩ rfl rfl rfl rfl rfl saF Tryz.func3 saC saI saW (λb a H enc _ F=>saH b a H enc F)
theorem plain (f:FuncId)(fn:Func)(q:Tryz.pinned.checked.prog.funcNamed "tidegate/tidegatelaw28.SymbolicMatches" =some f)(a:Tryz.pinned.checked.prog.funcs[f]? =some fn):
 false=Tryz.pinned.checked.prog.looks []/\∀(j:Nat) t,fn.params[j]? =some t->Tryz.pinned.checked.prog.wantsStandIn t=false:=by
 obtain rfl:f=3:=Option.some.inj ((show Tryz.prog.funcNamed "tidegate/tidegatelaw28.SymbolicMatches" =some 3 by kernel_rfl).symm.trans q)|>.symm;obtain rfl:fn=Tryz.f3:=(Option.some.inj (Tryz.func3.symm.trans a)).symm;refine⟨by kernel_rfl,λj t o=>?_⟩
 rw[Tryz.params3]at o
 rcases(show t=22\/t=30\/t=31 by simpa using Array.mem_of_getElem? o)with rfl|rfl|rfl
 ·exact(show Tryz.prog.wantsStandIn 22=false by kernel_rfl)
 ·exact(show Tryz.prog.wantsStandIn 30=false by kernel_rfl)
 exact(show Tryz.prog.wantsStandIn 31=false by kernel_rfl)
theorem cW :OpenClaim.wfByText (Rows.OpenSpec.upto Rows.symbolicMatchesSpec) RR=true:=by kernel_rfl
theorem cM :PP.mainIs=some (Rows.symbolicMatchesUptoCard.stood.harness.1,Rows.symbolicMatchesUptoCard.stood.harness.2.toList):=by kernel_rfl
theorem cG :false=RR.goesBy PP:=by kernel_rfl
theorem cardUpto :Rows.SymbolicMatchesUptoCardSaid:=
 Claim7.holds_tied_plain_at .later [] _ _ _ _ uptoSaid (λ_ h=>by cases h) cW (λ_ h=>by cases h) symbolicMatchesUpto_row_tie rfl ⟨rfl,rfl⟩ cM rfl plain cG
#print axioms cardUpto
end Go.Proofs.YtaoapcidgbaagaaGreatDoor.symbolicMatches
