/- . -/
import Derived.Test.YtaoapcidgbaagaaGreatDoorM10
import Derived.Shelf.Strconv.Itoa1
import Derived.Shelf.Sort.Plain
import Derived.Shelf.Slices.CompactI
import Derived.Shelf.SlSortCmp.NoneTotal
import Derived.Test.YtaoapcidgbaagaaGreatDoorProg
import Derived.KernelRfl
set_option linter.all false
/- The shelf laid at this program: plain. -/
open List (append_assoc)
open Go.Ab.Ar (cmp lst nt_eq)
namespace Go.Proofs
open Go.Shelf
open Tryz
set_option maxRecDepth 100000
def OE {a b:Func}{x:Option Func}(h:x=some a)(k:a=b:=by kernel_rfl):x=some b:=h.trans (congrArg some k)
def Ua {Q:String->Prop}{T:String->Func}{a:Func}{x:Option Func}(n:String)(h:x=some a)(q:Q n:=by exact of_decide_eq_true (by kernel_rfl))(k:a=T n:=by kernel_rfl):∃n,Q n/\x=some (T n):=⟨n,q,h.trans (congrArg some k)⟩
def Tryz.laysNm283_ren:Ren:=⟨λ|283=>256|n=>n,id,id⟩
def Tryz.laysNm283:Lays.n283 Tryz.prog Tryz.laysNm283_ren:=
⟨(by kernel_rfl), OE func256,underlying3,isAgg3,sizeOf3,zeroValue3,underlying4,isAgg4,sizeOf4,zeroValue4,underlying9,isAgg9,sizeOf9,zeroValue9⟩
def Tryz.laysNm189_ren:Ren:=⟨λ|189=>226|125=>115|257=>248|128=>167|129=>168|294=>267|295=>268|296=>269|297=>270|298=>271|299=>272|216=>273|300=>274|301=>275|328=>289|329=>209|330=>210|331=>290|332=>291|215=>169|343=>312|n=>n,λ|28=>97|46=>196|51=>245|53=>248|183=>268|182=>267|131=>124|218=>307|222=>311|228=>338|229=>241|n=>n,id⟩
def Tryz.laysNm189:Lays.n189 Tryz.prog Tryz.laysNm189_ren:=
⟨(by kernel_rfl), OE func115,OE func167,OE func168,OE func226,OE func169,OE func273,OE func248,OE func267,OE func268,OE func269,OE func270,OE func271,OE func272,OE func274,OE func275,OE func289,OE func209,OE func210,OE func290,OE func291,OE func312,underlying0,isAgg0,sizeOf0,zeroValue0,underlying3,isAgg3,sizeOf3,zeroValue3,underlying4,isAgg4,sizeOf4,zeroValue4,underlying5,isAgg5,sizeOf5,zeroValue5,underlying9,isAgg9,sizeOf9,zeroValue9,underlying97,isAgg97,sizeOf97,zeroValue97,underlying196,isAgg196,sizeOf196,zeroValue196,underlying245,isAgg245,sizeOf245,zeroValue245,underlying248,isAgg248,sizeOf248,zeroValue248,underlying124,isAgg124,sizeOf124,zeroValue124,underlying267,isAgg267,sizeOf267,zeroValue267,underlying268,isAgg268,sizeOf268,zeroValue268,underlying307,isAgg307,sizeOf307,zeroValue307,underlying311,isAgg311,sizeOf311,zeroValue311,underlying338,isAgg338,sizeOf338,zeroValue338,underlying241,isAgg241,sizeOf241,zeroValue241⟩
def Tryz.laysNm220_ren:Ren:=⟨λ|20=>227|n=>n,λ|22=>97|n=>n,id⟩
def Tryz.laysNm220:Lays2.n20 Tryz.prog Tryz.laysNm220_ren:=
⟨(by kernel_rfl), OE func227,underlying0,isAgg0,sizeOf0,zeroValue0,underlying3,isAgg3,sizeOf3,zeroValue3,underlying4,isAgg4,sizeOf4,zeroValue4,underlying97,isAgg97,sizeOf97,zeroValue97,Eq.refl (some (some (Value.int IntKind.i64 0),1,8))⟩
def Tryz.laysSlsf14_279_ren:Ren:=⟨λ|14=>279|20=>301|21=>302|22=>303|23=>304|24=>305|25=>306|26=>307|27=>308|46=>316|47=>209|48=>210|49=>317|50=>318|15=>115|57=>321|28=>167|29=>168|n=>n,λ|24=>153|22=>150|25=>350|46=>268|45=>267|50=>124|66=>307|39=>196|55=>248|70=>311|76=>338|77=>241|53=>245|n=>n,id⟩
def Tryz.laysSlsf14_279:SlLaysF0.n14 Tryz.prog Tryz.laysSlsf14_279_ren:=
⟨(by kernel_rfl), Ua f279.name func279,OE func115,Ua f301.name func301,Ua f302.name func302,Ua f303.name func303,Ua f304.name func304,Ua f305.name func305,Ua f306.name func306,Ua f307.name func307,Ua f308.name func308,OE func167,OE func168,Ua f316.name func316,OE func209,OE func210,Ua f317.name func317,Ua f318.name func318,Ua f321.name func321,underlying0,isAgg0,sizeOf0,zeroValue0,underlying3,isAgg3,sizeOf3,zeroValue3,underlying4,isAgg4,sizeOf4,zeroValue4,underlying5,isAgg5,sizeOf5,zeroValue5,underlying9,isAgg9,sizeOf9,zeroValue9,underlying150,isAgg150,sizeOf150,zeroValue150,underlying350,isAgg350,sizeOf350,zeroValue350,underlying196,isAgg196,sizeOf196,zeroValue196,underlying267,isAgg267,sizeOf267,zeroValue267,underlying268,isAgg268,sizeOf268,zeroValue268,underlying124,isAgg124,sizeOf124,zeroValue124,underlying245,isAgg245,sizeOf245,zeroValue245,underlying248,isAgg248,sizeOf248,zeroValue248,underlying307,isAgg307,sizeOf307,zeroValue307,underlying311,isAgg311,sizeOf311,zeroValue311,underlying338,isAgg338,sizeOf338,zeroValue338,underlying241,isAgg241,sizeOf241,zeroValue241⟩
def Tryz.laysSlsf15_115_ren:Ren:=⟨λ|15=>115|28=>167|29=>168|n=>n,λ|39=>196|53=>245|55=>248|n=>n,id⟩
def Tryz.laysSlsf15_115:SlLaysF0.n15 Tryz.prog Tryz.laysSlsf15_115_ren:=
⟨(by kernel_rfl), OE func115,OE func167,OE func168,underlying3,isAgg3,sizeOf3,zeroValue3,underlying4,isAgg4,sizeOf4,zeroValue4,underlying5,isAgg5,sizeOf5,zeroValue5,underlying9,isAgg9,sizeOf9,zeroValue9,underlying196,isAgg196,sizeOf196,zeroValue196,underlying245,isAgg245,sizeOf245,zeroValue245,underlying248,isAgg248,sizeOf248,zeroValue248⟩
def Tryz.laysSlsf6_71_ren:Ren:=⟨λ|6=>71|15=>115|14=>114|28=>167|29=>168|20=>159|21=>160|22=>161|23=>162|24=>163|25=>164|26=>165|27=>166|46=>208|47=>209|48=>210|49=>211|50=>212|57=>238|n=>n,λ|22=>48|24=>60|25=>160|39=>196|53=>245|55=>248|46=>268|45=>267|50=>124|66=>307|70=>311|76=>338|77=>241|n=>n,id⟩
def Tryz.laysSlsf6_71:SlLaysF0.n6 Tryz.prog Tryz.laysSlsf6_71_ren:=
⟨(by kernel_rfl), Ua f71.name func71,Ua f114.name func114,OE func115,Ua f159.name func159,Ua f160.name func160,Ua f161.name func161,Ua f162.name func162,Ua f163.name func163,Ua f164.name func164,Ua f165.name func165,Ua f166.name func166,OE func167,OE func168,Ua f208.name func208,OE func209,OE func210,Ua f211.name func211,Ua f212.name func212,Ua f238.name func238,underlying0,isAgg0,sizeOf0,zeroValue0,underlying3,isAgg3,sizeOf3,zeroValue3,underlying4,isAgg4,sizeOf4,zeroValue4,underlying5,isAgg5,sizeOf5,zeroValue5,underlying9,isAgg9,sizeOf9,zeroValue9,underlying48,isAgg48,sizeOf48,zeroValue48,underlying160,isAgg160,sizeOf160,zeroValue160,underlying196,isAgg196,sizeOf196,zeroValue196,underlying267,isAgg267,sizeOf267,zeroValue267,underlying268,isAgg268,sizeOf268,zeroValue268,underlying124,isAgg124,sizeOf124,zeroValue124,underlying245,isAgg245,sizeOf245,zeroValue245,underlying248,isAgg248,sizeOf248,zeroValue248,underlying307,isAgg307,sizeOf307,zeroValue307,underlying311,isAgg311,sizeOf311,zeroValue311,underlying338,isAgg338,sizeOf338,zeroValue338,underlying241,isAgg241,sizeOf241,zeroValue241⟩
end Go.Proofs
namespace Go.Proofs
open Go.Shelf Go.RowKit Go.Lib Go.Sort Go.Ab
set_option maxRecDepth 100000
def Tryz.sorts71:An2 Tryz.prog 71 1:=Bd6 Tryz.laysSlsf6_71 Tryz.isAgg60 Tryz.sizeOf60
set_option maxHeartbeats 2000000 in
def Tryz.sorts251:An2 Tryz.prog 251 2 where
 zero p cap fv w:=by
  have f:=λlim W=>AnyF.pdqsortCmpFunc_none Tryz.laysSlsf14_279 p cap lim fv W
  have B:∀W,Calls Tryz.prog 115 #[.int .u64 0] W λe w'=>e= .returned (.int .i64 (Lib.bitLen 0:Nat))/\w'=W:=λW=>by
   have h:=Any.bits_Len (SlLaysF0.n15.bits Tryz.laysSlsf15_115) 0 W (by omega) (by omega);exact h
  change ∀lim W,Calls Tryz.prog 279 _ _ _ at f
  go_enter Tryz.func251,Tryz.ntmps251
  go_wp2_with (first|(go_at_call 115;refine(B _).mono ?_;rintro e w' ⟨rfl,rfl⟩)|(go_at_call 279;refine(f _ _).mono ?_;rintro e w' ⟨rfl,rfl⟩))
  go_end0
  exact⟨rfl,rfl⟩
 pos α _ enc hk h1 cf hO g cb blk off cap d w eg hcmp hH hblk hsz hT:=by
  have b:Lib.bitLen d.size<4611686018427387904:=Nat.lt_of_le_of_lt (Lib.bitLen_le d.size 62 (by omega) (by omega)) (by omega);have f:=AnyQ.pdqsortCmpFunc_all Tryz.laysSlsf14_279 2 Tryz.isAgg153 Tryz.sizeOf153 enc cf g cb hO blk off cap d w eg hcmp ⟨hk,h1,hH,hblk⟩ (d.size+1) 0 d.size (Lib.bitLen d.size) d w (by omega) rfl (SWK.start hH) (Nat.zero_le _) (Nat.le_refl _) hsz b (Or.inl rfl)
  have B:Calls Tryz.prog 115 #[.int .u64 (d.size:Int)] w λe w'=>e= .returned (.int .i64 (Lib.bitLen d.size:Nat))/\w'=w:=by
   have h:=Any.bits_Len (SlLaysF0.n15.bits Tryz.laysSlsf15_115) (d.size:Int) w (by omega) (by omega)
   rwa[Int.toNat_natCast]at h
  have l:IntKind.u64.wrap (d.size:Int)=d.size:=by simp[IntKind.wrap,IntKind.bits,IntKind.signed];omega
  change Calls Tryz.prog 279 _ _ _ at f
  have a:=pdq_sorts (ltOf cf) hO d 0 d.size (Lib.bitLen d.size) true true (Nat.zero_le _) (Nat.le_refl _) (Or.inl rfl);have i:=sorted_unique_holds hO hT d _ a.1 a.2;clear hH hcmp hk h1 a
  generalize pdq (ltOf cf) d 0 d.size (Lib.bitLen d.size) true true=r at f i
  rw[<-i];clear i
  go_enter Tryz.func251,Tryz.ntmps251
  go_wp2_with (first|(go_at_call 115;refine B.mono ?_;rintro e w' ⟨rfl,rfl⟩)|(go_at_call 279;refine f.mono ?_;rintro e w' ⟨rfl,n,k,rfl⟩))
  go_end0
  exact⟨rfl,n,k,rfl⟩
end Go.Proofs
namespace Go.Ab
open Go.RowKit Go.Proofs Go.Proofs.Tryz J6
variable{R:Type}{f:FuncId}{p:Prop}
abbrev vi (n:Int):V:=.int .i64 n
abbrev sr[Ar]{α:Type}(f:α->V)(l:Up α):V:=.sl (lst f l) .ro
abbrev cb (b:Nat)(l:Up V):En:=.blk b (.cells l)
abbrev ob[Ar]{α:Type}(q:OG)(n:Nat)(f:α->V)(l:Up α):En:=.blk q.id (.arr n (q.pre++lst f l++q.rest))
abbrev fi (k:Nat)(n:Int):Nat×Sl:=(k,.v (vi n))
instance globs :O7:=⟨λn=>match n with
 |0=>.eref [vi 0,vi 0,.bool true,.bool true,.bool false,.bool false,vi 2,vi 64,.bool false,.bool false,.bool false,.bool false,vi 2,vi 64,.bool false,.bool false,.bool false,.bool false,vi 2,vi 64,.bool false,.bool false,.bool false,.bool false,vi 1,vi 1,.bool false,.bool false,.bool false,.bool false,vi 1,vi 1,.bool true,.bool true,.bool true,.bool false,vi 1,vi 1,.bool false,.bool false,.bool true,.bool true,vi 1,vi 1,.bool false,.bool true,.bool false,.bool false,vi 2,vi 2,.bool false,.bool false,.bool false,.bool false,vi 1,vi 1,.bool true,.bool true,.bool true,.bool false,vi 1,vi 1,.bool false,.bool false,.bool true,.bool true] 0
 |_=>.bad⟩
variable [Ar][J6]
set_option maxRecDepth 100000
def K9:YV prog TT:=⟨okT,by rfl⟩
def OM:Cf:=⟨[],[],[],[],[],[]⟩
def VY (a:Up Nat):Cf:=⟨a,[],[],[],[],[]⟩
def VZ (a:Up Nat)(b:Up (Nat×Nat)):Cf:=⟨a,b,[],[],[],[]⟩
def F5 (a:Up Nat)(b c:Up (Nat×Nat)):Cf:=⟨a,b,c,[],[],[]⟩
def Jc.e2{l r:Fl}{a b:Nat}{x1 x2:V}(Q:Jc l r)(O:EJ l a=x1:=by rfl)(Z:EJ l b=x2:=by rfl):Jc l ((a,.v x1)::(b,.v x2)::r):=.e O (.e Z Q)
def Jc.e4{l r:Fl}{a b e h:Nat}{x1 x2 x3 x4:V}(Q:Jc l r)(O:EJ l a=x1:=by rfl)(Z:EJ l b=x2:=by rfl)(T:EJ l e=x3:=by rfl)(i:EJ l h=x4:=by rfl):Jc l ((a,.v x1)::(b,.v x2)::(e,.v x3)::(h,.v x4)::r):=.e2 (.e2 Q T i) O Z
def M5{fn:Func}{c:Code}{n:Nat}{rs:Up ResultVar}{args:Up V}{r:V}(i:Cf)(q:prog.funcs[f]? =some fn)(e:∀vals w,(callFunc f vals).run prog w= .ok (.enter f vals) w)(k:fn.ntmps=n)
 (h:∀(E:Hj) (H:A5) (K:V->A5->Prop),E=J1 prog n none->(∀{x L H'},C3 Eq H L H'->DI x r->K x H')->C3 Eq H [] H->run E TT n i c ⟨EA args 0,[]⟩ H (Tj E TT rs K))
 (W:fn.body=some c:=by rfl)(hd:M4 i c=true:=by kernel_rfl)(l:fn.results.toList=rs:=by rfl)(v:Nat.ble args.length n=true:=by rfl):B1 prog f args r:=
 Bnd i K9 q W hd e k l v λE H K Y J=>h E H K Y (λa b=>J _ _ _ a b) (.start D7 rfl)
class Ct (f:FuncId) {S:Type} (m:Option S) (aa:outParam (List V)) (g:outParam (S->V)):Prop where
 c:∀x,m=some x->B1 prog f aa (g x)
def Zv(h:p:=by first|exact DI.refl _|exact M7.refl _|(repeat' first|exact DI.refl _|exact M7.refl _|exact DI.ro _ _|exact DI.lit _ E4|apply DI.tup|apply DI.agg|apply M7.cons)):p:=h
def Zf(h:p:=by repeat' first|exact Jc.z|apply Jc.e rfl|apply Jc.b rfl|refine Jc.v Zv ?_):p:=h
section
variable {nt:Nat}{rd:Option Nat}{E:Hj}(Y:E=J1 prog nt rd)
include Y
theorem Cf7{S:Type}{m:OS S}{F:S->OS R}{r:R}{a aa':Up V}{g:S->V}{H:A5}{k:V->A5->Prop}(h:m.bind F=some r)[i:Ct f m aa' g](b:∀x,F x=some r->k (g x) H)(B:M7 a aa':=by exact Zv):E.call (.func (.func f) [] []) a H k:=C1 Y h i.c B b
theorem BV3{S:Type}{m:OS S}{F:S->OS R}{r:R}{a aa':Up V}{g:S->V}{H:A5}{k:V->Prop}(h:m.bind F=some r)[i:Ct f m aa' g](b:∀x,F x=some r->k (g x))(B:M7 a aa':=by exact Zv):E.pcall H (.func (.func f) [] []) a k:=U8 Y h i.c B b
end
abbrev xi(D:A5){σ:Type}:σ->A5->Prop:=λ_ J=>C3 Eq D [] J
abbrev xe(D:A5)(k:Nat)(f:R->Fl):R->Exit->Fl->A5->Prop:=λx e l J=>e= .exit k/\l=f x/\C3 Eq D [] J
abbrev xm(D:A5)(k:Nat){A B:Type}(f:A->Fl)(g:B->Fl):A⊕B->Exit->Fl->A5->Prop:=λx e l J=>match x with| .inl y=>e= .exit k/\l=f y/\C3 Eq D [] J| .inr y=>e= .ret/\l=g y/\C3 Eq D [] J
abbrev xn (D:A5)(f:Fl)(L:Up En):Exit->Fl->A5->Prop:=λe l J=>e= .normal/\l=f/\C3 Eq D L J
def Zg(h:p:=by repeat' (cbv;first
 |(show E.br _ _ _;apply E3 Y h<;>intro _ h)
 |(show E.call _ _ _ _;first|refine Cf7 Y h λ_ h=>?_|refine C1 Y h (ih _) Zv λ_ h=>?_|refine C1 Y h (ih _ _) Zv λ_ h=>?_|refine C1 Y h (ih _ _ _) Zv λ_ h=>?_|refine C1 Y h (ih _ _ _ _) Zv λ_ h=>?_)
 |(show E.idx _ _ _;first|refine G0 Y eCl5 h λ_ h=>?_|refine G0 Y eCn3 h λ_ h=>?_|refine G0 Y eCn0 h λ_ h=>?_|refine G0 Y eCm8 h λ_ h=>?_|refine G0 Y eCn1 h λ_ h=>?_|refine G0 Y eCo1 h λ_ h=>?_|refine G0 Y eCm7 h λ_ h=>?_|refine G0 Y eCn5 h λ_ h=>?_|refine G0 Y eCp2 h λ_ h=>?_|refine G0 Y eCm1 h λ_ h=>?_|refine G0 Y eCn8 h λ_ h=>?_|refine G0 Y eCo6 h λ_ h=>?_|refine G0 Y eCp5 h λ_ h=>?_|refine G0 Y eCo0 h λ_ h=>?_|refine G0 Y eCp6 h λ_ h=>?_|refine G0 Y eCn4 h λ_ h=>?_|refine G0 Y eCp9 h λ_ h=>?_|refine G0 Y eCp4 h λ_ h=>?_|refine G0 Y eCo8 h λ_ h=>?_|refine G0 Y eCp3 h λ_ h=>?_|refine G0 Y eCp1 h λ_ h=>?_|refine G0 Y eCq4 h λ_ h=>?_|refine G0 Y eCp7 h λ_ h=>?_|refine G0 Y eCo9 h λ_ h=>?_)
 |(show E.ln _ _;apply L6 Y)
 |(show E.load _ _ _;first|apply E0 Y Q 0 rfl|apply E0 Y Q 1 rfl|apply E0 Y Q 2 rfl|apply E0 Y Q 3 rfl|apply E0 Y Q 4 rfl)
 |(show E.store _ _ _ _ _ _;first|refine D6 Y Q 0 rfl rfl λH Q=>?_|refine D6 Y Q 1 rfl rfl λH Q=>?_|refine D6 Y Q 2 rfl rfl λH Q=>?_|refine D6 Y Q 3 rfl rfl λH Q=>?_)
 |(show E.alloc _ _ _;refine G3 Y Q λ_ H Q=>?_)
 |(cases h;first|done|exact J Q Zv|exact⟨_,_,rfl,⟨rfl,rfl,Q⟩,Zf,rfl⟩|exact⟨_,rfl,Zf,rfl,Q⟩|exact⟨_,⟨rfl,rfl,Q⟩,Zf,rfl⟩|exact⟨_,_,rfl,⟨_, ‹_›,rfl,rfl,Q⟩,Zf,rfl⟩|exact⟨_,(),rfl,Zf,rfl,Q⟩|exact⟨_,.inl ⟨rfl,rfl,Q⟩,Zf,rfl⟩|exact⟨_,_,rfl,Zf,rfl, ‹_›,Q⟩|exact⟨_,_,rfl,⟨rfl,rfl,Q.tail⟩,Zf,rfl⟩|exact⟨_,rfl,Zf,rfl,Q.tail⟩|exact⟨_,_,rfl,⟨_, ‹_›,rfl,rfl,Q.tail⟩,Zf,rfl⟩|exact⟨_,⟨_, ‹_›,rfl,rfl,Q⟩,Zf,rfl⟩|exact⟨_,.inr ⟨rfl,rfl,Q⟩,Zf,rfl⟩|exact⟨_,rfl,Q⟩|exact⟨_,_,rfl,Zf,rfl,⟨‹_›,Q⟩⟩)
 |refine BV3 Y h λ_ h=>?_)):p:=h
def Zi(h:p:=by intro _ H o Q h;exact Zg):p:=h
def Zp(h:p:=by rintro e l H ⟨rfl,rfl,Q⟩;exact Zg):p:=h
def Zq(h:p:=by cases ‹_⊕_› <;>(rintro e l H ⟨rfl,rfl,Q⟩;exact Zg)):p:=h
def Ay4:Go.TypeDesc:=Go.TypeDesc.struct #[{name:= "source",type:=3,offset:=0,embedded:=false,tag:= "",pkgPath:= "tidegate/stream",byteOffset:=0},{name:= "seq",type:=3,offset:=1,embedded:=false,tag:= "",pkgPath:= "tidegate/stream",byteOffset:=8}]
def AX1:An3 prog Ay4 eCo2:=Bi1 (g:=λ(x:H6)=>[x.source,x.seq]) (λx=>(eCp0 x).trans rfl) (λ_=>rfl) (λx y h=>by cases x;cases y;cases h;rfl) JO
def c16 (N:Nat):∀n F a r,CD N n F a=some r->B1 prog 16 [(D5 F),vi a] (vi r):=by
 intro n
 induction n with
 |zero=>intro F a r h;cases h
 |succ n ih=>
 intro F a r h
 unfold CD at h
 refine M5 OM func16 call16 ntmps16 ?_;intro E D K Y J Q;cbv;obtain⟨s,X,h⟩:=bind_some h;exact J2 OM Y K9 (λA=>[fi 1 a,(2,.v (.eref (E2 F) 0)),fi 5 A.1,fi 6 A.2]) (xi D) (xe D 0 λx=>[fi 5 x]) JO Zi X Zf Q Zp
def c17 (N:Nat):∀n F r,CE N n F=some r->B1 prog 17 [(D5 F)] (sr eCl1 r):=by
 intro n
 induction n with
 |zero=>intro F r h;cases h
 |succ n ih=>
 intro F r h
 unfold CE at h
 refine M5 OM func17 call17 ntmps17 ?_;intro E D K Y J Q;cbv;replace Q:=Q.tl0 (t:=.full) rfl;obtain⟨V,X,h⟩:=bind_some h;refine S0 OM Y K9 (γ:=G5) (λA g=>[(1,.v (.eref (E2 F) 0)),(3,.v (.sl (lst eCl1 A.1) g)),fi 4 A.2]) (λA g a=>T3 g/\C3 Eq D [.tl g] a) (λx e l a=>∃i:G5,T3 i/\e= .exit 0/\l=[(3,.v (.sl (lst eCl1 x) i))]/\C3 Eq D [.tl i] a) JO ?_ .full X ?_ ?_ ?_
 ·rintro A c H o ⟨b,Q⟩ h;cbv;apply L6 Y;cbv;apply E3 Y h<;>intro _ h
  ·cbv;refine G0 Y eCl5 h λy h=>?_;cbv;refine C1 Y h (ih y) .z λw h=>?_;cbv;refine Br (f:=eCl1) Y AM Sz Q 0 rfl b (l:=A.1) (m:=w) .z .z h λP d H Q k h=>?_;exact Zg
  exact Zg
 ·exact .e rfl (.v (.slt _ (.lstc (.eq (eCl5 F) .z) (.lst0))) (.e rfl (.z)))
 ·exact Zy
 clear X;rintro e l H ⟨j,v,rfl,rfl,Q⟩;exact Zg
def c18 (N:Nat):∀n a b r,BM N n a b=some r->B1 prog 18 [(Bo a),vi b] (vi r):=by
 intro n
 induction n with
 |zero=>intro a b r h;cases h
 |succ n ih=>
 intro a b r h
 unfold BM at h
 refine M5 OM func18 call18 ntmps18 ?_;intro E D K Y J Q;cbv;obtain⟨s,X,h⟩:=bind_some h;exact J2 OM Y K9 (λA=>[fi 1 b,(2,.v (.eref (DE a) 0)),fi 5 A.1,fi 6 A.2]) (xi D) (xe D 0 λx=>[fi 5 x]) JO Zi X Zf Q Zp
@[reducible, instance] def zc18 (N n aC bF):=Ct.mk (c18 N n aC bF)
def c4 (N F r)(h:Ml N F=some r):B1 prog 4 [(D5 F)] (.bool r):=by
 refine M5 OM func4 call4 ntmps4 ?_;intro E D K Y J Q;cbv;refine C1 Y h (c16 N N F 9) .z λe h=>?_;cbv;apply E3 Y h<;>intro _ h
 ·exact Zg
 cbv;refine C1 Y h (c17 N N F) .z λa h=>?_;cbv;obtain⟨i,X,h⟩:=bind_some h;exact zal
def c43 (N:Nat):∀n F r,CF N n F=some r->B1 prog 43 [(D5 F)] (vi r):=by
 intro n
 induction n with
 |zero=>intro F r h;cases h
 |succ n ih=>
 intro F r h
 unfold CF at h
 refine M5 OM func43 call43 ntmps43 ?_;intro E D K Y J Q;cbv;obtain⟨s,X,h⟩:=bind_some h;exact J2 OM Y K9 (λA=>[(1,.v (.eref (E2 F) 0)),fi 3 A.1,fi 4 A.2]) (xi D) (xe D 0 λx=>[fi 3 x]) JO Zi X Zf Q Zp
def c76 (N:Nat):∀n a r,CG N n a=some r->B1 prog 76 [(Bo a)] (vi r):=by
 intro n
 induction n with
 |zero=>intro a r h;cases h
 |succ n ih=>
 intro a r h
 unfold CG at h
 refine M5 OM func76 call76 ntmps76 ?_;intro E D K Y J Q;cbv;obtain⟨s,X,h⟩:=bind_some h;exact J2 OM Y K9 (λA=>[(1,.v (.eref (DE a) 0)),fi 3 A.1,fi 4 A.2]) (xi D) (xe D 0 λx=>[fi 3 x]) JO Zi X Zf Q Zp
@[reducible, instance] def zc76 (N n aC):=Ct.mk (c76 N n aC)
def c44 (N a r)(h:KB N a=some r):B1 prog 44 [(Bo a)] (.bool r):=by
 refine M5 OM func44 call44 ntmps44 ?_;exact T0
@[reducible, instance] def zc44 (N aC):=Ct.mk (c44 N aC)
def c19 (N F r)(h:QA N F=some r):B1 prog 19 [(D5 F)] (.bool r):=by
 refine M5 OM func19 call19 ntmps19 ?_;intro E D K Y J Q
 repeat' (cbv;first|apply E3 Y h<;>intro _ h|refine C1 Y h (c16 _ _ _ _) .z λ_ h=>?_|refine C1 Y h (c43 _ _ _) .z λ_ h=>?_|refine C1 Y h (c17 _ _ _) .z λa h=>?_|(cases h;exact J Q .z))
 cbv;obtain⟨e,X,h⟩:=bind_some h;exact zal
def cf20:=F5 [] [] [(7,4)]
def c20 (N:Nat):∀n F r,BE N n F=some r->B1 prog 20 [(D5 F)] (vi r):=by
 intro n
 induction n with
 |zero=>intro F r h;cases h
 |succ n ih=>
 intro F r h
 unfold BE at h
 refine M5 cf20 func20 call20 ntmps20 ?_;intro E D K Y J Q;cbv;obtain⟨A,X,h⟩:=bind_some h;refine S8 cf20 Y K9 (xn D [(1,.v (.eref (E2 F) 0)),fi 3 A] []) JO ?_ ?_
 ·exact F4
 clear X;rintro e l H ⟨rfl,rfl,Q⟩;cbv;obtain⟨a,X,h⟩:=bind_some h;exact J2 cf20 Y K9 (λs=>[(1,.v (.eref (E2 F) 0)),fi 3 s.1,fi 4 s.2]) (xi D) (xe D 0 λx=>[fi 3 x]) JO Zi X Zf Q Zp
@[reducible, instance] def zc20 (N n aA):=Ct.mk (c20 N n aA)
def c21 (N e a b r)(h:Jy N e a b=some r):B1 prog 21 [vi e,vi a,vi b] (vi r):=by
 refine M5 OM func21 call21 ntmps21 ?_;intro E D K Y J Q;cbv;obtain⟨s,X,h⟩:=bind_some h;exact J2 OM Y K9 (λA=>[fi 0 e,fi 1 a,fi 2 b,fi 7 A.1,fi 8 A.2]) (xi D) (xe D 0 λx=>[fi 7 x]) JO Zi X Zf Q Zp
@[reducible, instance] def zc21 (N bG aM bF):=Ct.mk (c21 N bG aM bF)
def c22 (N:Nat):∀n F r,Du N n F=some r->B1 prog 22 [(D5 F)] (.bool r):=by
 intro n
 induction n with
 |zero=>intro F r h;cases h
 |succ n ih=>
 intro F r h
 unfold Du at h
 refine M5 OM func22 call22 ntmps22 ?_;intro E D K Y J Q;cbv;apply E3 Y h<;>intro _ h
 ·exact Zg
 cbv;obtain⟨s,X,h⟩:=bind_some h;exact J2 OM Y K9 (λA=>[(1,.v (.eref (E2 F) 0)),fi 3 A]) (xi D) (xm D 0 (λ_=>[]) (λ_=>[(2,.b true)])) JO Zi X Zf Q Zq
@[reducible, instance] def zc22 (N n aA):=Ct.mk (c22 N n aA)
def c5 (N F a r)(h:Mk N F a=some r):B1 prog 5 [(D5 F),sr eCl4 a] (.bool r):=by
 refine M5 OM func5 call5 ntmps5 ?_;intro E D K Y J Q;cbv;refine C1 Y h (c19 N F) .z λb h=>?_;cbv;apply L6 Y;cbv;apply E3 Y h<;>intro _ h
 ·exact Zg
 cbv;obtain⟨e,X,h⟩:=bind_some h;exact J2 OM Y K9 (λs=>[(1,.v (sr eCl4 a)),(2,.v (.eref (E2 F) 0)),fi 5 s]) (xi D) (xm D 0 (λ_=>[(1,.v (sr eCl4 a)),(2,.v (.eref (E2 F) 0))]) (λ_=>[(4,.b false)])) JO Zi X Zf Q Zq
def c23 (N:Nat)(a:Up B0)(e:V)(i:B0->OS Bool)(l:∀k q,i k=some q->U9 prog e [(CB k)] (.bool q))(r:Int)(h:AR N a i=some r):B1 prog 23 [sr eCl4 a,e] (vi r):=by
 refine M5 OM func23 call23 ntmps23 ?_;intro E D K Y J Q;cbv;apply L6 Y;cbv;obtain⟨s,X,h⟩:=bind_some h;refine J2 OM Y K9 (λA=>[(0,.v (sr eCl4 a)),(1,.v (e)),fi 7 (Ar.len a),fi 8 A]) (xi D) (xm D 0 (λ_=>[]) (λy=>[fi 4 y])) JO ?_ X Zf Q Zq;intro A H o Q h;cbv;apply E3 Y h<;>intro _ h
 ·cbv;refine G0 Y eCn1 h λn h=>?_;exact zab
 exact Zg
def c6 (N:Nat)(a:Up B0)(e:V)(b:B0->OS Bool)(k:∀i q,b i=some q->U9 prog e [(CB i)] (.bool q))(r:Bool)(h:U5 N a b=some r):B1 prog 6 [sr eCl4 a,e] (.bool r):=by
 refine M5 OM func6 call6 ntmps6 ?_;intro E D K Y J Q;cbv;refine C1 Y h (c23 N a e b k) .z λl h=>?_;exact Zg
def c123 (N a r)(h:Hs N a=some r):B1 prog 123 [.int .u8 a] (.bool r):=by
 refine M5 OM func123 call123 ntmps123 ?_;exact T0
def c77 (N a r)(h:Iz N a=some r):B1 prog 77 [.str a] (.bool r):=by
 refine M5 OM func77 call77 ntmps77 ?_;intro E D K Y J Q
 repeat' (cbv;first|apply E3 Y h<;>intro _ h|refine C1 Y h (c123 _ _) .z λ_ h=>?_|(cases h;exact J Q .z)|refine QF Y h λh=>?_)
 cbv;obtain⟨b,X,h⟩:=bind_some h;refine J2 OM Y K9 (λs=>[(0,.v (.str a)),fi 3 s]) (xi D) (xm D 0 (λ_=>[]) (λ_=>[(2,.b false)])) JO ?_ X Zf Q Zq;intro s H o Q h
 repeat' (cbv;first|apply E3 Y h<;>intro _ h|refine C1 Y h (c123 _ _) .z λ_ h=>?_|(cases h;exact⟨_,_,rfl,⟨rfl,rfl,Q⟩,.b rfl (.z),rfl⟩)|(cases h;exact⟨_,rfl,.e2 .z,rfl,Q⟩)|(cases h;exact⟨_,_,rfl,⟨rfl,rfl,Q⟩,.z,rfl⟩)|refine QF Y h λh=>?_)
@[reducible, instance] def zc77 (N aB):=Ct.mk (c77 N aB)
def c78 (N a b r)(h:Ht N a b=some r):B1 prog 78 [(SB a),.str b] (vi r):=by
 refine M5 OM func78 call78 ntmps78 ?_;intro E D K Y J Q;cbv;obtain⟨s,X,h⟩:=bind_some h;exact J2 OM Y K9 (λA=>[(1,.v (.str b)),(2,.v (.eref (YK a) 0)),fi 5 A]) (xi D) (xm D 0 (λ_=>[]) (λy=>[fi 4 y])) JO Zi X Zf Q Zq
@[reducible, instance] def zc78 (N aB bC):=Ct.mk (c78 N aB bC)
def c45 (N a r)(h:Mo N a=some r):B1 prog 45 [(SB a)] (vi r):=by
 refine M5 OM func45 call45 ntmps45 ?_;intro E D K Y J Q
 repeat' (cbv;first|apply E3 Y h<;>intro _ h|apply L6 Y|refine C1 Y h (c77 _ _) .z λ_ h=>?_|(cases h;exact J Q .z))
 cbv;obtain⟨b,X,h⟩:=bind_some h;exact J2 OM Y K9 (λs=>[(1,.v (.eref (YK a) 0)),fi 3 s]) (xi D) (xm D 0 (λ_=>[]) (λy=>[fi 2 y])) JO Zi X Zf Q Zq
@[reducible, instance] def zc45 (N aB):=Ct.mk (c45 N aB)
def c46 (N a b r)(h:Mn N a b=some r):B1 prog 46 [sr eCm0 a,.str b] (vi r):=by
 refine M5 OM func46 call46 ntmps46 ?_;intro E D K Y J Q;cbv;obtain⟨s,X,h⟩:=bind_some h;exact J2 OM Y K9 (λA=>[(0,.v (sr eCm0 a)),(1,.v (.str b)),fi 5 A]) (xi D) (xm D 0 (λ_=>[]) (λy=>[fi 4 y])) JO Zi X Zf Q Zq
@[reducible, instance] def zc46 (N aH cK):=Ct.mk (c46 N aH cK)
def c24 (N a r)(h:Hu N a=some r):B1 prog 24 [sr eCm0 a] (vi r):=by
 refine M5 OM func24 call24 ntmps24 ?_;intro E D K Y J Q;cbv;apply L6 Y;cbv;apply E3 Y h<;>intro _ h
 ·exact Zg
 cbv;obtain⟨s,X,h⟩:=bind_some h;exact J2 OM Y K9 (λA=>[(0,.v (sr eCm0 a)),fi 3 A]) (xi D) (xm D 0 (λ_=>[]) (λy=>[fi 2 y])) JO Zi X Zf Q Zq
@[reducible, instance] def zc24 (N aH):=Ct.mk (c24 N aH)
def c47 (N a r)(h:Mp N a=some r):B1 prog 47 [(J5 a)] (vi r):=by
 refine M5 OM func47 call47 ntmps47 ?_;exact T0
@[reducible, instance] def zc47 (N aN):=Ct.mk (c47 N aN)
def cf25:=VZ [] [(16,11)]
def c25 (N b a r)(h:Mm N b a=some r):B1 prog 25 [sr eCm0 b,(CB a)] (vi r):=by
 refine M5 cf25 func25 call25 ntmps25 ?_;intro E D K Y J Q
 repeat' (cbv;first|apply E3 Y h<;>intro _ h|apply L6 Y|refine G0 Y eCo1 h λe h=>?_|(cases h;exact J Q .z))
 cbv;obtain⟨i,X,h⟩:=bind_some h;exact J2 cf25 Y K9 (λs=>[(3,.v (.eref (TD a) 0)),(5,.v (sr eCn6 e.Fields)),fi 6 s]) (xi D) (xm D 0 (λ_=>[]) (λy=>[fi 4 y])) JO Zi X Zf Q Zq
@[reducible, instance] def zc25 (N aL aC):=Ct.mk (c25 N aL aC)
def c8 (N b a r)(h:PI N b a=some r):B1 prog 8 [sr eCm0 b,(CB a)] (vi r):=by
 refine M5 OM func8 call8 ntmps8 ?_;exact T0
@[reducible, instance] def zc8 (N aL aC):=Ct.mk (c8 N aL aC)
def c7 (N a b r)(h:Y8 N a b=some r):B1 prog 7 [(CB a),.eref [sr eCm0 b] 0] (.bool r):=by
 refine M5 OM func7 call7 ntmps7 ?_;exact T0
def c128 (N a r)(h:Hq N a=some r):B1 prog 128 [.int .u8 a] (.bool r):=by
 refine M5 OM func128 call128 ntmps128 ?_;exact T0
@[reducible, instance] def zc128 (N aK):=Ct.mk (c128 N aK)
def c129 (N a r)(h:IR N a=some r):B1 prog 129 [.int .u8 a] (.bool r):=by
 refine M5 OM func129 call129 ntmps129 ?_;exact T0
def c91 (N a r) (h:Fb N a=some r):B1 prog 91 [.str a] (.bool r):=by
 refine M5 OM func91 call91 ntmps91 ?_;intro E D K Y J Q
 repeat' (cbv;first|apply E3 Y h<;>intro _ h|refine C1 Y h (c128 _ _) .z λ_ h=>?_|(cases h;exact J Q .z)|refine QF Y h λh=>?_)
 cbv;obtain⟨e,X,h⟩:=bind_some h;refine J2 OM Y K9 (λs=>[(0,.v (.str a)),fi 18 (Ar.slen a),fi 19 s]) (xi D) (xm D 0 (λ_=>[]) (λ_=>[(2,.b false)])) JO ?_ X Zf Q Zq;intro s H o Q h;cbv;apply E3 Y h<;>intro _ h
 ·cbv;refine QF Y h λh=>?_;cbv;refine C1 Y h (c129 N (Ar.sat a s)) .z λb h=>?_;cbv;apply E3 Y h<;>intro _ h
  ·cbv;refine QF Y h λh=>?_;exact Zg
  exact Zg
 exact Zg
@[reducible, instance] def zc91 (N aB):=Ct.mk (c91 N aB)
def c92 (N a r)(h:Dt N a=some r):B1 prog 92 [.str a] (.bool r):=by
 refine M5 OM func92 call92 ntmps92 ?_;exact T0
def c60 (N n r) (h:Hr N n=some r):B1 prog 60 [(SB n)] (vi r):=by
 refine M5 OM func60 call60 ntmps60 ?_;intro E D K Y J Q
 repeat' (cbv;first|apply E3 Y h<;>intro _ h|apply L6 Y|refine C1 Y h (c91 _ _) .z λ_ h=>?_|(cases h;exact J Q .z)|refine ST Y .string V.str V.bool Q λv j H P Q=>?_)
 cbv;obtain⟨s,X,h⟩:=bind_some h;refine S0 OM Y K9 (γ:=Obj) (λw g=>[(3,.v (.map v)),(16,.v (sr eCn6 n.Fields)),fi 17 (Ar.len n.Fields),fi 18 w.1]) (λw g k=>KL .string V.str V.bool g w.2/\C3 Eq D [.blk v (.obj g)] k) (λx e l k=>match(generalizing:=false) x with| .inl y=>∃i:Obj,KL .string V.str V.bool i y/\e= .exit 0/\l=[]/\C3 Eq D [.blk v (.obj i)] k| .inr y=>∃i:Obj,KL .string V.str V.bool i y.2/\e= .ret/\l=[fi 2 y.1]/\C3 Eq D [.blk v (.obj i)] k) JO ?_ j X ?_ ?_ ?_
 ·rintro w q H o ⟨a,Q⟩ h;cbv;apply E3 Y h<;>intro _ h
  ·repeat' (cbv;first|apply E3 Y h<;>intro _ h|refine C1 Y h (c92 _ _) .z λ_ h=>?_|refine G0 Y eCp2 h λ_ h=>?_|(cases h;exact⟨_,_,rfl,⟨q,a,rfl,rfl,Q⟩,.e rfl .z,rfl⟩)|(cases h;exact⟨_,c,rfl,.e4 .z,rfl,b,Q⟩)|refine RK Y (kt:=9) (et:=4) JO JO Nq (false:Bool) JO rfl Q a 0 rfl h λ_ h=>?_|refine KW Y (kt:=9) (et:=4) JO JO Nq FB Q a 0 rfl h λ_ c H b h Q=>?_)
  exact Zg
 ·exact .e4 .z
 ·exact⟨P,Q⟩
 clear X
 rcases s with t|u
 ·rintro e l H ⟨m,d,rfl,rfl,Q⟩;exact Zg
 rintro e l H ⟨p,f,rfl,rfl,Q⟩;exact Zg
def c35 (N k r) (h:Bq N k=some r):B1 prog 35 [sr eCm0 k] (vi r):=by
 refine M5 OM func35 call35 ntmps35 ?_;intro E D K Y J Q;cbv;apply L6 Y;cbv;apply E3 Y h<;>intro _ h
 ·exact Zg
 cbv;refine ST Y .string V.str V.bool Q λn o2 H w Q=>?_;cbv;apply L6 Y;cbv;obtain⟨p,X,h⟩:=bind_some h;refine S0 OM Y K9 (γ:=Obj) (λv g=>[(3,.v (.map n)),(11,.v (sr eCm0 k)),fi 12 (Ar.len k),fi 13 v.1]) (λv g i=>KL .string V.str V.bool g v.2/\C3 Eq D [.blk n (.obj g)] i) (λx e l i=>match(generalizing:=false) x with| .inl y=>∃b:Obj,KL .string V.str V.bool b y/\e= .exit 0/\l=[]/\C3 Eq D [.blk n (.obj b)] i| .inr y=>∃b:Obj,KL .string V.str V.bool b y.2/\e= .ret/\l=[fi 2 y.1]/\C3 Eq D [.blk n (.obj b)] i) JO ?_ o2 X ?_ ?_ ?_
 ·rintro v z H o ⟨a,Q⟩ h;cbv;apply E3 Y h<;>intro _ h
  ·cbv;refine G0 Y eCo1 h λq h=>?_;cbv;refine C1 Y h (c60 N q) .z λA h=>?_;cbv;apply E3 Y h<;>intro _ h
   ·exact Zg
   cbv;refine RK Y (kt:=9) (et:=4) JO JO Nq (false:Bool) JO rfl Q a 0 rfl h λB h=>?_;cbv;apply E3 Y h<;>intro _ h
   ·exact Zg
   cbv;refine KW Y (kt:=9) (et:=4) JO JO Nq FB Q a 0 rfl h λf u H d h Q=>?_;exact Zg
  exact Zg
 ·exact .e4 .z
 ·exact⟨w,Q⟩
 clear X
 rcases p with s|t
 ·rintro e l H ⟨j,P,rfl,rfl,Q⟩;exact Zg
 rintro e l H ⟨m,c,rfl,rfl,Q⟩;exact Zg
@[reducible, instance] def zc35 (N aH):=Ct.mk (c35 N aH)
def c194 (N:Nat):∀n a r,BF N n a=some r->Gj prog 194 (λy=>[(D5 a),y]) (List.map (λ(x:A0)=>[(D5 x)]) r) rbB:=by
 intro n
 induction n with
 |zero=>intro a r h;cases h
 |succ n ih=>
 intro a r h
 unfold BF at h
 obtain⟨⟨w0,z⟩,O,k⟩:=bind_some h;clear h;have k:=J9 k;subst k;have h:=O;clear O;refine M9 OM K9 func194 QX JO call194 ntmps194 QX (λ_=>rfl) ?_;intro y I D V P c tl F E H K Y Q J i
 have Q:C3 (I (List.map (λ(x:A0)=>[(D5 x)]) (w0++[])++tl)) F [] H:=by rw[List.append_nil];exact Q
 cbv;obtain⟨j,h,R⟩:=Q5 h
 rw[R,append_assoc]at Q
 clear R;have Q:C3 (I ([(D5 a)]::(List.map (λ(x:A0)=>[(D5 x)]) (j++[])++tl))) F [] _:=Q;refine Be Y V P c Q .z (λH Q=>?_) (λH Q=>?_)
 ·cbv;apply HC Y (nt_eq _);cbv;apply L6 Y;cbv;obtain⟨A,q,u,X,h,R⟩:=M2 h
  rw[R,append_assoc]at Q
  clear R;refine Dj OM Y K9 (γ:=Unit) (λs g=>[(1,.v (y)),(12,.v (sr eCl1 a.dT)),fi 13 (Ar.len a.dT),fi 14 s]) (λs g w b=>C3 (I (List.map (λ(x:A0)=>[(D5 x)]) w++tl)) F [] b) (λx e l w b=>e= .exit 0/\l=[]/\C3 (I (List.map (λ(x:A0)=>[(D5 x)]) w++tl)) F [] b) (λe l b=>(e= .ret/\l=[(4,.b false)]/\C3 D F [] b)) JO ?_ (w':=q++[]) () X ?_ ?_ ?_ ?_
  ·rintro s _ C G H o Q h
   skip
   cbv;apply E3 Y h<;>intro _ h
   ·cbv;refine G0 Y eCl5 h λt h=>?_;cbv;obtain⟨f,B,h⟩:=bind_some h;obtain⟨p,h,R⟩:=Q5 h
    rw[R,append_assoc]at Q
    clear R
    rw[List.map_append,append_assoc]at Q
    refine Aj6 Y V P c (ih t f B) Q .z (λv H W Q=>?_) (λv H W Q=>?_)
    ·cases W;clear B;cbv;apply HC Y (nt_eq _);cbv;obtain⟨m,rfl⟩:=D0 h
     rw[<-m]at Q
     exact zc4
    exact zar
   cbv;obtain⟨m,rfl⟩:=D0 h
   rw[<-m]at Q
   exact L1
  ·exact .e4 .z
  ·exact Q
  ·rintro e l H ⟨rfl,rfl,Q⟩;cbv;obtain⟨m,_⟩:=D0 h
   rw[<-m]at Q
   exact J _ _ _ Q rfl
  rintro e l H d;obtain⟨rfl,rfl,Q⟩:=d;clear h;cbv;exact i _ _ _ Q rfl
 clear h;cbv;apply HB Y (nt_eq _);cbv;exact i _ _ _ Q rfl
def c193 (N a r) (h:Ec N a=some r):Gj prog 193 (λi=>[i,.eref (E2 a) 0]) (List.map (λ(x:A0)=>[(D5 x)]) r) Zc:=by
 unfold Ec at h
 obtain⟨⟨w0,y⟩,O,e⟩:=bind_some h;clear h;have e:=J9 e;subst e;have h:=O;clear O;refine M9 OM K9 func193 QX JO call193 ntmps193 QX (λ_=>rfl) ?_;intro i I D l k n tl F E H K Y Q J b
 have Q:C3 (I (List.map (λ(x:A0)=>[(D5 x)]) (w0++[])++tl)) F [] H:=by rw[List.append_nil];exact Q
 cbv;obtain⟨w,B,h⟩:=bind_some h;obtain⟨P,h,R⟩:=Q5 h
 rw[R,append_assoc]at Q
 clear R
 rw[List.map_append,append_assoc]at Q
 refine Aj6 Y l k n (c194 N N a w B) Q .z (λv H W Q=>?_) (λv H W Q=>?_)
 ·cases W;clear B;cbv;obtain⟨m,_⟩:=D0 h
  rw[<-m]at Q
  exact Hw
 cases W;clear h B;cbv;exact b _ _ _ Q trivial
def c151 (N F r)(h:BR N F=some r):Bj prog 151 [(D5 F)] (λv=>Fs prog v (r.map λ(x:A0)=>[(D5 x)])):=by
 refine N7 OM K9 func151 QX JO call151 ntmps151 QX QX ?_;intro E H0 K Y J;have Q:C3 Eq H0 [] H0:=.start D7 rfl;cbv;exact J _ _ _ Q (O9 call193 (c193 N F r h))
def c181 (N:Nat):∀n F r,BG N n F=some r->B1 prog 181 [(D5 F)] (.tup [vi r.1,vi r.2]):=by
 intro n
 induction n with
 |zero=>intro F r h;cases h
 |succ n ih=>
 intro F r h
 unfold BG at h
 refine M5 OM func181 call181 ntmps181 ?_;intro E D K Y J Q;cbv;apply L6 Y;cbv;obtain⟨s,X,h⟩:=bind_some h;exact J2 OM Y K9 (λA=>[fi 4 A.1,fi 5 A.2.1,(11,.v (sr eCl1 F.dT)),fi 12 (Ar.len F.dT),fi 13 A.2.2]) (xi D) (xe D 0 λx=>[fi 4 x.1,fi 5 x.2]) JO Zi X Zf Q Zp
def c137 (N:Nat):∀n a r,FI N n a=some r->B1 prog 137 [(Bo a)] (.tup [vi r.1,vi r.2]):=by
 intro n
 induction n with
 |zero=>intro a r h;cases h
 |succ n ih=>
 intro a r h
 unfold FI at h
 refine M5 OM func137 call137 ntmps137 ?_;intro E D K Y J Q;cbv;apply L6 Y;cbv;obtain⟨s,X,h⟩:=bind_some h;exact J2 OM Y K9 (λA=>[fi 4 A.1,fi 5 A.2.1,(11,.v (sr eCl6 a.dT)),fi 12 (Ar.len a.dT),fi 13 A.2.2]) (xi D) (xe D 0 λx=>[fi 4 x.1,fi 5 x.2]) JO Zi X Zf Q Zp
def c138 (N:Nat):∀(n:Nat) (a:A8) (b:V) (e:A8->OS Int) (i:∀l q,e l=some q->U9 prog b [(Bo l)] (vi q)) (r:Int),GK N n a e=some r->B1 prog 138 [(Bo a),b] (vi r):=by
 intro n
 induction n with
 |zero=>intro a b e i r h;cases h
 |succ n ih=>
 intro a b e i r h
 unfold GK at h
 refine M5 OM func138 call138 ntmps138 ?_;intro E D K Y J Q;cbv;refine X3 Y (g:=λk=>vi k) h (λk X=>i a k X) .z λk h=>?_;cbv;apply E3 Y h<;>intro _ h
 ·exact Zg
 cbv;apply L6 Y;cbv;obtain⟨x,X,h⟩:=bind_some h;refine J2 OM Y K9 (λs=>[(1,.v (b)),(16,.v (sr eCl6 a.dT)),fi 17 (Ar.len a.dT),fi 18 s]) (xi D) (xm D 0 (λ_=>[]) (λy=>[fi 4 y])) JO ?_ X Zf Q Zq;intro s H o Q h;cbv;apply E3 Y h<;>intro _ h
 ·cbv;refine G0 Y eCn0 h λv h=>?_;cbv;refine C1 Y h (ih v b e i) .z λw h=>?_;exact Zg
 exact Zg
def c183 (N a r)(h:NZ N a=some r):B1 prog 183 [vi a] (.tup [vi r.1,.bool r.2]):=by
 refine M5 OM func183 call183 ntmps183 ?_;exact T0
def cf184:=F5 [] [] [(5,4)]
def c184 (N a r)(h:QN N a=some r):B1 prog 184 [vi a] (.tup [.bool r.1,.bool r.2]):=by
 refine M5 cf184 func184 call184 ntmps184 ?_;intro E D K Y J Q;cbv;obtain⟨A,X,h⟩:=bind_some h;refine S8 cf184 Y K9 (xn D [fi 4 a,(5,.v (.bool A))] []) JO ?_ ?_
 ·exact F4
 clear X;exact S1
def c170 (N a r)(h:NC N a=some r):B1 prog 170 [(J5 a)] (vi r):=by
 refine M5 OM func170 call170 ntmps170 ?_;exact T0
@[reducible, instance] def zc170 (N aN):=Ct.mk (c170 N aN)
def cf122:=F5 [] [] [(5,5)]
def c122 (N a r)(h:BL N a=some r):B1 prog 122 [(J5 a)] (vi r):=by
 refine M5 cf122 func122 call122 ntmps122 ?_;intro E D K Y J Q;cbv;obtain⟨A,X,h⟩:=bind_some h;refine S8 cf122 Y K9 (xn D [(1,.v (.eref (Av a) 0)),fi 4 a.Kind,(5,.v (.bool A))] []) JO ?_ ?_
 ·exact F4
 clear X;exact S1
@[reducible, instance] def zc122 (N aN):=Ct.mk (c122 N aN)
def c186 (N b a r)(h:Lj N b a=some r):B1 prog 186 [vi b,(J5 a)] (.bool r):=by
 refine M5 OM func186 call186 ntmps186 ?_;exact T0
@[reducible, instance] def zc186 (N aS aN):=Ct.mk (c186 N aS aN)
def c185 (N a r)(h:Lk N a=some r):B1 prog 185 [(Bo a)] (vi r):=by
 refine M5 OM func185 call185 ntmps185 ?_;exact T0
@[reducible, instance] def zc185 (N aC):=Ct.mk (c185 N aC)
def cf139:=F5 [] [] [(73,15)]
def c139 (N a r) (h:KH N a=some r):B1 prog 139 [(Bo a)] (vi r):=by
 unfold KH at h
 refine M5 cf139 func139 call139 ntmps139 ?_;intro E D K Y J Q
 repeat' (cbv;first|refine E3 Y h (λ_ h=>?_) λ_ h=>?_|refine L6 Y ?_|refine C1 Y h (c183 _ _) (.refl _) λ_ h=>?_|refine C1 Y h (c184 _ _) (.refl _) λi h=>?_|(cases h;exact J Q (.refl _)))
 cbv;obtain⟨k,X,h⟩:=bind_some h;refine S8 cf139 Y K9 (λe l b=>match(generalizing:=false) k with| .inl y=>e= .normal/\l=[(1,.v (.eref (DE a) 0)),(5,.v (.bool i.1)),(6,.v (.bool i.2)),(7,.v (.bool (cmp .eql a.Op 4))),(8,.v (.bool (Ar.or (cmp .eql a.Op 4) (cmp .eql a.Op 0))))]/\C3 Eq D [] b| .inr y=>e= .ret/\l=[fi 2 y]/\C3 Eq D [] b) JO ?_ ?_
 ·clear h;have h:=X;clear X;exact Zg
 clear X
 rcases k with n|v
 ·rintro e l H ⟨rfl,rfl,Q⟩;cbv;refine E3 Y h (λ_ h=>?_) λ_ h=>?_
  ·exact Zg
  exact Zg
 exact S1
end Go.Ab
