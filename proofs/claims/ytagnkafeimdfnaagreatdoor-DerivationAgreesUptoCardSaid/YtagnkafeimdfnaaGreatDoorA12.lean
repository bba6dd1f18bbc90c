/- . -/
import Derived.Test.YtagnkafeimdfnaaGreatDoorA11
import Derived.Shelf.Strconv.Itoa1
import Derived.Shelf.Sort.Plain
import Derived.Shelf.Slices.CompactI
import Derived.Shelf.SlSortCmp.NoneTotal
import Derived.Test.YtagnkafeimdfnaaGreatDoorProg
import Derived.KernelRfl
set_option linter.all false
/- The shelf laid at this program: plain. -/
open Go.Ab.Ar (cmp lst)
namespace Go.Proofs
open Go.Shelf
open Tryz
set_option maxRecDepth 100000
def Kz {a b:Func}{x:Option Func}(h:x=some a)(k:a=b:=by kernel_rfl):x=some b:=h.trans (congrArg some k)
def HZ {Q:String->Prop}{T:String->Func}{a:Func}{x:Option Func}(n:String)(h:x=some a)(q:Q n:=by exact of_decide_eq_true (by kernel_rfl))(k:a=T n:=by kernel_rfl):∃n,Q n/\x=some (T n):=⟨n,q,h.trans (congrArg some k)⟩
def Tryz.laysNm283_ren:Ren:=⟨λ|283=>253|n=>n,id,id⟩
def Tryz.laysNm283:Lays.n283 Tryz.prog Tryz.laysNm283_ren:=
⟨(by kernel_rfl), Kz func253,underlying3,isAgg3,sizeOf3,zeroValue3,underlying4,isAgg4,sizeOf4,zeroValue4,underlying9,isAgg9,sizeOf9,zeroValue9⟩
def Tryz.laysNm189_ren:Ren:=⟨λ|189=>242|125=>85|257=>262|128=>119|129=>120|294=>272|295=>273|296=>274|297=>275|298=>276|299=>277|216=>278|300=>279|301=>280|328=>298|329=>156|330=>157|331=>299|332=>300|215=>99|343=>307|n=>n,λ|28=>153|46=>132|51=>177|53=>179|183=>171|182=>170|131=>142|218=>213|222=>217|228=>238|229=>209|n=>n,id⟩
def Tryz.laysNm189:Lays.n189 Tryz.prog Tryz.laysNm189_ren:=
⟨(by kernel_rfl), Kz func85,Kz func119,Kz func120,Kz func242,Kz func99,Kz func278,Kz func262,Kz func272,Kz func273,Kz func274,Kz func275,Kz func276,Kz func277,Kz func279,Kz func280,Kz func298,Kz func156,Kz func157,Kz func299,Kz func300,Kz func307,underlying0,isAgg0,sizeOf0,zeroValue0,underlying3,isAgg3,sizeOf3,zeroValue3,underlying4,isAgg4,sizeOf4,zeroValue4,underlying5,isAgg5,sizeOf5,zeroValue5,underlying9,isAgg9,sizeOf9,zeroValue9,underlying153,isAgg153,sizeOf153,zeroValue153,underlying132,isAgg132,sizeOf132,zeroValue132,underlying177,isAgg177,sizeOf177,zeroValue177,underlying179,isAgg179,sizeOf179,zeroValue179,underlying142,isAgg142,sizeOf142,zeroValue142,underlying170,isAgg170,sizeOf170,zeroValue170,underlying171,isAgg171,sizeOf171,zeroValue171,underlying213,isAgg213,sizeOf213,zeroValue213,underlying217,isAgg217,sizeOf217,zeroValue217,underlying238,isAgg238,sizeOf238,zeroValue238,underlying209,isAgg209,sizeOf209,zeroValue209⟩
def Tryz.laysNm220_ren:Ren:=⟨λ|20=>243|n=>n,λ|22=>153|n=>n,id⟩
def Tryz.laysNm220:Lays2.n20 Tryz.prog Tryz.laysNm220_ren:=
⟨(by kernel_rfl), Kz func243,underlying0,isAgg0,sizeOf0,zeroValue0,underlying3,isAgg3,sizeOf3,zeroValue3,underlying4,isAgg4,sizeOf4,zeroValue4,underlying153,isAgg153,sizeOf153,zeroValue153,Eq.refl (some (some (Value.int IntKind.i64 0),1,8))⟩
def Tryz.laysSlsf6_43_ren:Ren:=⟨λ|6=>43|15=>85|14=>84|28=>119|29=>120|20=>111|21=>112|22=>113|23=>114|24=>115|25=>116|26=>117|27=>118|46=>155|47=>156|48=>157|49=>158|50=>159|57=>183|n=>n,λ|22=>36|24=>46|25=>48|39=>132|53=>177|55=>179|46=>171|45=>170|50=>142|66=>213|70=>217|76=>238|77=>209|n=>n,id⟩
def Tryz.laysSlsf6_43:SlLaysF0.n6 Tryz.prog Tryz.laysSlsf6_43_ren:=
⟨(by kernel_rfl), HZ f43.name func43,HZ f84.name func84,Kz func85,HZ f111.name func111,HZ f112.name func112,HZ f113.name func113,HZ f114.name func114,HZ f115.name func115,HZ f116.name func116,HZ f117.name func117,HZ f118.name func118,Kz func119,Kz func120,HZ f155.name func155,Kz func156,Kz func157,HZ f158.name func158,HZ f159.name func159,HZ f183.name func183,underlying0,isAgg0,sizeOf0,zeroValue0,underlying3,isAgg3,sizeOf3,zeroValue3,underlying4,isAgg4,sizeOf4,zeroValue4,underlying5,isAgg5,sizeOf5,zeroValue5,underlying9,isAgg9,sizeOf9,zeroValue9,underlying36,isAgg36,sizeOf36,zeroValue36,underlying48,isAgg48,sizeOf48,zeroValue48,underlying132,isAgg132,sizeOf132,zeroValue132,underlying170,isAgg170,sizeOf170,zeroValue170,underlying171,isAgg171,sizeOf171,zeroValue171,underlying142,isAgg142,sizeOf142,zeroValue142,underlying177,isAgg177,sizeOf177,zeroValue177,underlying179,isAgg179,sizeOf179,zeroValue179,underlying213,isAgg213,sizeOf213,zeroValue213,underlying217,isAgg217,sizeOf217,zeroValue217,underlying238,isAgg238,sizeOf238,zeroValue238,underlying209,isAgg209,sizeOf209,zeroValue209⟩
def Tryz.laysSlsf6_57_ren:Ren:=⟨λ|6=>57|15=>85|14=>98|28=>119|29=>120|20=>135|21=>136|22=>137|23=>138|24=>139|25=>140|26=>141|27=>142|46=>174|47=>156|48=>157|49=>175|50=>176|57=>211|n=>n,λ|22=>40|24=>51|25=>56|39=>132|53=>177|55=>179|46=>171|45=>170|50=>142|66=>213|70=>217|76=>238|77=>209|n=>n,id⟩
def Tryz.laysSlsf6_57:SlLaysF0.n6 Tryz.prog Tryz.laysSlsf6_57_ren:=
⟨(by kernel_rfl), HZ f57.name func57,HZ f98.name func98,Kz func85,HZ f135.name func135,HZ f136.name func136,HZ f137.name func137,HZ f138.name func138,HZ f139.name func139,HZ f140.name func140,HZ f141.name func141,HZ f142.name func142,Kz func119,Kz func120,HZ f174.name func174,Kz func156,Kz func157,HZ f175.name func175,HZ f176.name func176,HZ f211.name func211,underlying0,isAgg0,sizeOf0,zeroValue0,underlying3,isAgg3,sizeOf3,zeroValue3,underlying4,isAgg4,sizeOf4,zeroValue4,underlying5,isAgg5,sizeOf5,zeroValue5,underlying9,isAgg9,sizeOf9,zeroValue9,underlying40,isAgg40,sizeOf40,zeroValue40,underlying56,isAgg56,sizeOf56,zeroValue56,underlying132,isAgg132,sizeOf132,zeroValue132,underlying170,isAgg170,sizeOf170,zeroValue170,underlying171,isAgg171,sizeOf171,zeroValue171,underlying142,isAgg142,sizeOf142,zeroValue142,underlying177,isAgg177,sizeOf177,zeroValue177,underlying179,isAgg179,sizeOf179,zeroValue179,underlying213,isAgg213,sizeOf213,zeroValue213,underlying217,isAgg217,sizeOf217,zeroValue217,underlying238,isAgg238,sizeOf238,zeroValue238,underlying209,isAgg209,sizeOf209,zeroValue209⟩
def Tryz.laysSlsf6_127_ren:Ren:=⟨λ|6=>127|15=>85|14=>171|28=>119|29=>120|20=>202|21=>203|22=>204|23=>205|24=>206|25=>207|26=>208|27=>209|46=>239|47=>156|48=>157|49=>240|50=>241|57=>261|n=>n,λ|22=>84|24=>114|25=>196|39=>132|53=>177|55=>179|46=>171|45=>170|50=>142|66=>213|70=>217|76=>238|77=>209|n=>n,id⟩
def Tryz.laysSlsf6_127:SlLaysF0.n6 Tryz.prog Tryz.laysSlsf6_127_ren:=
⟨(by kernel_rfl), HZ f127.name func127,HZ f171.name func171,Kz func85,HZ f202.name func202,HZ f203.name func203,HZ f204.name func204,HZ f205.name func205,HZ f206.name func206,HZ f207.name func207,HZ f208.name func208,HZ f209.name func209,Kz func119,Kz func120,HZ f239.name func239,Kz func156,Kz func157,HZ f240.name func240,HZ f241.name func241,HZ f261.name func261,underlying0,isAgg0,sizeOf0,zeroValue0,underlying3,isAgg3,sizeOf3,zeroValue3,underlying4,isAgg4,sizeOf4,zeroValue4,underlying5,isAgg5,sizeOf5,zeroValue5,underlying9,isAgg9,sizeOf9,zeroValue9,underlying84,isAgg84,sizeOf84,zeroValue84,underlying196,isAgg196,sizeOf196,zeroValue196,underlying132,isAgg132,sizeOf132,zeroValue132,underlying170,isAgg170,sizeOf170,zeroValue170,underlying171,isAgg171,sizeOf171,zeroValue171,underlying142,isAgg142,sizeOf142,zeroValue142,underlying177,isAgg177,sizeOf177,zeroValue177,underlying179,isAgg179,sizeOf179,zeroValue179,underlying213,isAgg213,sizeOf213,zeroValue213,underlying217,isAgg217,sizeOf217,zeroValue217,underlying238,isAgg238,sizeOf238,zeroValue238,underlying209,isAgg209,sizeOf209,zeroValue209⟩
def Tryz.laysSlsf14_264_ren:Ren:=⟨λ|14=>264|20=>281|21=>282|22=>283|23=>284|24=>285|25=>286|26=>287|27=>288|46=>301|47=>156|48=>157|49=>302|50=>303|15=>85|57=>308|28=>119|29=>120|n=>n,λ|24=>141|22=>138|25=>287|46=>171|45=>170|50=>142|66=>213|39=>132|55=>179|70=>217|76=>238|77=>209|53=>177|n=>n,id⟩
def Tryz.laysSlsf14_264:SlLaysF0.n14 Tryz.prog Tryz.laysSlsf14_264_ren:=
⟨(by kernel_rfl), HZ f264.name func264,Kz func85,HZ f281.name func281,HZ f282.name func282,HZ f283.name func283,HZ f284.name func284,HZ f285.name func285,HZ f286.name func286,HZ f287.name func287,HZ f288.name func288,Kz func119,Kz func120,HZ f301.name func301,Kz func156,Kz func157,HZ f302.name func302,HZ f303.name func303,HZ f308.name func308,underlying0,isAgg0,sizeOf0,zeroValue0,underlying3,isAgg3,sizeOf3,zeroValue3,underlying4,isAgg4,sizeOf4,zeroValue4,underlying5,isAgg5,sizeOf5,zeroValue5,underlying9,isAgg9,sizeOf9,zeroValue9,underlying138,isAgg138,sizeOf138,zeroValue138,underlying287,isAgg287,sizeOf287,zeroValue287,underlying132,isAgg132,sizeOf132,zeroValue132,underlying170,isAgg170,sizeOf170,zeroValue170,underlying171,isAgg171,sizeOf171,zeroValue171,underlying142,isAgg142,sizeOf142,zeroValue142,underlying177,isAgg177,sizeOf177,zeroValue177,underlying179,isAgg179,sizeOf179,zeroValue179,underlying213,isAgg213,sizeOf213,zeroValue213,underlying217,isAgg217,sizeOf217,zeroValue217,underlying238,isAgg238,sizeOf238,zeroValue238,underlying209,isAgg209,sizeOf209,zeroValue209⟩
def Tryz.laysSlsf15_85_ren:Ren:=⟨λ|15=>85|28=>119|29=>120|n=>n,λ|39=>132|53=>177|55=>179|n=>n,id⟩
def Tryz.laysSlsf15_85:SlLaysF0.n15 Tryz.prog Tryz.laysSlsf15_85_ren:=
⟨(by kernel_rfl), Kz func85,Kz func119,Kz func120,underlying3,isAgg3,sizeOf3,zeroValue3,underlying4,isAgg4,sizeOf4,zeroValue4,underlying5,isAgg5,sizeOf5,zeroValue5,underlying9,isAgg9,sizeOf9,zeroValue9,underlying132,isAgg132,sizeOf132,zeroValue132,underlying177,isAgg177,sizeOf177,zeroValue177,underlying179,isAgg179,sizeOf179,zeroValue179⟩
end Go.Proofs
namespace Go.Proofs
open Go.Shelf Go.RowKit Go.Lib Go.Sort Go.Ab
set_option maxRecDepth 100000
def Tryz.sorts43:WG Tryz.prog 43 5:=Xs Tryz.laysSlsf6_43 Tryz.isAgg46 Tryz.sizeOf46
def Tryz.sorts57:Ay1 Tryz.prog 57 1:=AH8 Tryz.laysSlsf6_57 Tryz.isAgg51 Tryz.sizeOf51
def Tryz.sorts127:WG Tryz.prog 127 2:=Xs Tryz.laysSlsf6_127 Tryz.isAgg114 Tryz.sizeOf114
set_option maxHeartbeats 2000000 in
def Tryz.sorts248:WG Tryz.prog 248 2 where
 zero p cap fv w:=by
  have b:=λlim W=>AnyF.pdqsortCmpFunc_none Tryz.laysSlsf14_264 p cap lim fv W
  have B:∀W,Calls Tryz.prog 85 #[.int .u64 0] W λe w'=>e= .returned (.int .i64 (Lib.bitLen 0:Nat))/\w'=W:=λW=>by
   have h:=Any.bits_Len (SlLaysF0.n15.bits Tryz.laysSlsf15_85) 0 W (by omega) (by omega);exact h
  change ∀lim W,Calls Tryz.prog 264 _ _ _ at b
  go_enter Tryz.func248,Tryz.ntmps248
  go_wp2_with (first|(go_at_call 85;refine(B _).mono ?_;rintro e w' ⟨rfl,rfl⟩)|(go_at_call 264;refine(b _ _).mono ?_;rintro e w' ⟨rfl,rfl⟩))
  go_end0
  exact⟨rfl,rfl⟩
 pos α _ enc hk h1 cf hO g cb blk off cap d w eg hcmp hH hblk hsz hT:=by
  have i:Lib.bitLen d.size<4611686018427387904:=Nat.lt_of_le_of_lt (Lib.bitLen_le d.size 62 (by omega) (by omega)) (by omega);have b:=AnyQ.pdqsortCmpFunc_all Tryz.laysSlsf14_264 2 Tryz.isAgg141 Tryz.sizeOf141 enc cf g cb hO blk off cap d w eg hcmp ⟨hk,h1,hH,hblk⟩ (d.size+1) 0 d.size (Lib.bitLen d.size) d w (by omega) rfl (SWK.start hH) (Nat.zero_le _) (Nat.le_refl _) hsz i (Or.inl rfl)
  have B:Calls Tryz.prog 85 #[.int .u64 (d.size:Int)] w λe w'=>e= .returned (.int .i64 (Lib.bitLen d.size:Nat))/\w'=w:=by
   have h:=Any.bits_Len (SlLaysF0.n15.bits Tryz.laysSlsf15_85) (d.size:Int) w (by omega) (by omega)
   rwa[Int.toNat_natCast]at h
  have wr:IntKind.u64.wrap (d.size:Int)=d.size:=by simp[IntKind.wrap,IntKind.bits,IntKind.signed];omega
  change Calls Tryz.prog 264 _ _ _ at b
  have a:=pdq_sorts (ltOf cf) hO d 0 d.size (Lib.bitLen d.size) true true (Nat.zero_le _) (Nat.le_refl _) (Or.inl rfl);have k:=sorted_unique_holds hO hT d _ a.1 a.2;clear hH hcmp hk h1 a
  generalize pdq (ltOf cf) d 0 d.size (Lib.bitLen d.size) true true=r at b k
  rw[<-k];clear k
  go_enter Tryz.func248,Tryz.ntmps248
  go_wp2_with (first|(go_at_call 85;refine B.mono ?_;rintro e w' ⟨rfl,rfl⟩)|(go_at_call 264;refine b.mono ?_;rintro e w' ⟨rfl,n,l,rfl⟩))
  go_end0
  exact⟨rfl,n,l,rfl⟩
end Go.Proofs
namespace Go.Ab
open Go.RowKit Go.Proofs Go.Proofs.Tryz P4
abbrev vi (n:Int):V:=.int .i64 n
abbrev sr [Ar]{α:Type}(f:α->V)(l:Up α):V:=.sl (lst f l) .ro
abbrev cb (b:Nat)(l:Up V):En:=.blk b (.cells l)
abbrev ob [Ar]{α:Type}(q:OG)(n:Nat)(f:α->V)(l:Up α):En:=.blk q.id (.arr n (q.pre++lst f l++q.rest))
abbrev fi (k:Nat)(n:Int):Nat×Sl:=(k,.v (vi n))
instance globs :P3:=⟨λn=>match n with
 |0=>.eref [vi 0,vi 0,.bool true,.bool true,.bool false,.bool false,vi 2,vi 64,.bool false,.bool false,.bool false,.bool false,vi 2,vi 64,.bool false,.bool false,.bool false,.bool false,vi 2,vi 64,.bool false,.bool false,.bool false,.bool false,vi 1,vi 1,.bool false,.bool false,.bool false,.bool false,vi 1,vi 1,.bool true,.bool true,.bool true,.bool false,vi 1,vi 1,.bool false,.bool false,.bool true,.bool true,vi 1,vi 1,.bool false,.bool true,.bool false,.bool false,vi 2,vi 2,.bool false,.bool false,.bool false,.bool false,vi 1,vi 1,.bool true,.bool true,.bool true,.bool false,vi 1,vi 1,.bool false,.bool false,.bool true,.bool true] 0
 |_=>.bad⟩
variable [Ar][P4]
set_option maxRecDepth 100000
def N0:Yv prog TT:=⟨okT,by rfl⟩
def cf0:Cf:=⟨[],[],[],[],[],[]⟩
def cfA (a:Up Nat):Cf:=⟨a,[],[],[],[],[]⟩
def cfB (a:Up Nat)(b:Up (Nat×Nat)):Cf:=⟨a,b,[],[],[],[]⟩
def cfC (a:Up Nat)(b c:Up (Nat×Nat)):Cf:=⟨a,b,c,[],[],[]⟩
def JU.e2 {l r:Fl}{a b:Nat}{x1 x2:V}(f:JU l r)(O:EQ l a=x1:=by rfl)(Z:EQ l b=x2:=by rfl):JU l ((a,.v x1)::(b,.v x2)::r):=.e O (.e Z f)
def JU.e4 {l r:Fl}{a b e g:Nat}{x1 x2 x3 x4:V}(f:JU l r)(O:EQ l a=x1:=by rfl)(Z:EQ l b=x2:=by rfl)(J:EQ l e=x3:=by rfl)(s:EQ l g=x4:=by rfl):JU l ((a,.v x1)::(b,.v x2)::(e,.v x3)::(g,.v x4)::r):=.e2 (.e2 f J s) O Z
def R4 {f:FuncId}{fn:Func}{c:Code}{n:Nat}{rs:Up ResultVar}{args:Up V}{r:V}(g:Cf)(o:prog.funcs[f]? =some fn)(e:∀vals w,(callFunc f vals).run prog w= .ok (.enter f vals) w)(i:fn.ntmps=n)
 (h:∀(E:Hj) (H:A6) (K:V->A6->Prop),E=J3 prog n none->(∀{x L H'},B9 Eq H L H'->DK x r->K x H')->B9 Eq H [] H->run E TT n g c ⟨FA args 0,[]⟩ H (SI E TT rs K))
 (A:fn.body=some c:=by rfl) (hd:N8 g c=true:=by kernel_rfl) (k:fn.results.toList=rs:=by rfl) (l:Nat.ble args.length n=true:=by rfl):B8 prog f args r:=
 Xh g N0 o A hd e i k l λE H K Y J=>h E H K Y (λa b=>J _ _ _ a b) (.start H8 rfl)
class Ct (f:FuncId) {S:Type} (m:Option S) (aa:outParam (List V)) (g:outParam (S->V)):Prop where
 c:∀x,m=some x->B8 prog f aa (g x)
def Zv {p:Prop}(h:p:=by first|exact DK.refl _|exact M2.refl _|(repeat' first|exact DK.refl _|exact M2.refl _|exact DK.ro _ _|exact DK.lit _ F3|apply DK.tup|apply DK.agg|apply M2.cons)):p:=h
def Zf {p:Prop}(h:p:=by repeat' first|exact JU.z|apply JU.e rfl|apply JU.b rfl|refine JU.v Zv ?_):p:=h
section
variable {nt:Nat}{rd:Option Nat}{E:Hj}(Y:E=J3 prog nt rd)
include Y
theorem Bz7 {R S:Type}{m:OS S}{F:S->OS R}{r:R}{f:FuncId}{a aa':Up V}{g:S->V}{H:A6}{k:V->A6->Prop}(h:m.bind F=some r)[i:Ct f m aa' g](W:∀x,F x=some r->k (g x) H)(B:M2 a aa':=by exact Zv):E.call (.func (.func f) [] []) a H k:=B3 Y h i.c B W
theorem Bs0 {R S:Type}{m:OS S}{F:S->OS R}{r:R}{f:FuncId}{a aa':Up V}{g:S->V}{H:A6}{k:V->Prop}(h:m.bind F=some r)[i:Ct f m aa' g](W:∀x,F x=some r->k (g x))(B:M2 a aa':=by exact Zv):E.pcall H (.func (.func f) [] []) a k:=E3 Y h i.c B W
end
def Zg {p:Prop} (h:p:=by repeat' (cbv;first
 |apply C2 Y h<;>intro _ h
 |refine Bz7 Y h λ_ h=>?_
 |apply K2 Y
 |apply C3 Y Q 0 rfl
 |(cases h;first|done|exact J Q Zv|exact⟨_,_,rfl,⟨rfl,rfl,Q⟩,Zf,rfl⟩|exact⟨_,rfl,Zf,rfl,Q⟩|exact⟨_,⟨rfl,rfl,Q⟩,Zf,rfl⟩|exact⟨_,_,rfl,⟨_, ‹_›,rfl,rfl,Q⟩,Zf,rfl⟩|exact⟨_,(),rfl,Zf,rfl,Q⟩|exact⟨_,.inl ⟨rfl,rfl,Q⟩,Zf,rfl⟩|exact⟨_,_,rfl,Zf,rfl, ‹_›,Q⟩|exact⟨_,_,rfl,⟨rfl,rfl,Q.tail⟩,Zf,rfl⟩|exact⟨_,rfl,Zf,rfl,Q.tail⟩|exact⟨_,_,rfl,⟨_, ‹_›,rfl,rfl,Q.tail⟩,Zf,rfl⟩|exact⟨_,⟨_, ‹_›,rfl,rfl,Q⟩,Zf,rfl⟩|exact⟨_,.inr ⟨rfl,rfl,Q⟩,Zf,rfl⟩|exact⟨_,rfl,Q⟩|exact⟨_,_,rfl,Zf,rfl,⟨‹_›,Q⟩⟩)
 |refine C5 Y Q 0 rfl rfl λH Q=>?_
 |refine G0 Y Q λ_ H Q=>?_
 |refine B3 Y h (ih _) Zv λ_ h=>?_
 |refine B3 Y h (ih _ _) Zv λ_ h=>?_
 |refine B3 Y h (ih _ _ _) Zv λ_ h=>?_
 |refine B3 Y h (ih _ _ _ _) Zv λ_ h=>?_
 |apply C3 Y Q 1 rfl
 |apply C3 Y Q 2 rfl
 |apply C3 Y Q 3 rfl
 |apply C3 Y Q 4 rfl
 |refine C5 Y Q 1 rfl rfl λH Q=>?_
 |refine C5 Y Q 2 rfl rfl λH Q=>?_
 |refine C5 Y Q 3 rfl rfl λH Q=>?_
 |refine Bs0 Y h λ_ h=>?_
 |(show E.idx _ _ _;first|refine E6 Y eBF1 h λ_ h=>?_|refine E6 Y eBF2 h λ_ h=>?_|refine E6 Y eBF3 h λ_ h=>?_|refine E6 Y eBE6 h λ_ h=>?_|refine E6 Y eBF5 h λ_ h=>?_|refine E6 Y eBH0 h λ_ h=>?_|refine E6 Y eBE9 h λ_ h=>?_|refine E6 Y eBG2 h λ_ h=>?_|refine E6 Y eBG1 h λ_ h=>?_|refine E6 Y eBG9 h λ_ h=>?_|refine E6 Y eBF8 h λ_ h=>?_|refine E6 Y eBH3 h λ_ h=>?_|refine E6 Y eBH2 h λ_ h=>?_|refine E6 Y eBH4 h λ_ h=>?_))):p:=h
def Aj1:Go.TypeDesc:=Go.TypeDesc.struct #[{name:= "source",type:=3,offset:=0,embedded:=false,tag:= "",pkgPath:= "tidegate/stream",byteOffset:=0},{name:= "seq",type:=3,offset:=1,embedded:=false,tag:= "",pkgPath:= "tidegate/stream",byteOffset:=8}]
def AB9:Ui prog Aj1 eBG7:=XH (g:=λ(x:J5)=>[x.source,x.seq]) (λx=>(eBH1 x).trans rfl) (λ_=>rfl) (λx y h=>by cases x;cases y;cases h;rfl) za3
def BC0:Go.TypeDesc:=Go.TypeDesc.struct #[{name:= "node",type:=3,offset:=0,embedded:=false,tag:= "",pkgPath:= "tidegate/derivation",byteOffset:=0},{name:= "first",type:=3,offset:=1,embedded:=false,tag:= "",pkgPath:= "tidegate/derivation",byteOffset:=8},{name:= "last",type:=3,offset:=2,embedded:=false,tag:= "",pkgPath:= "tidegate/derivation",byteOffset:=16},{name:= "outer",type:=3,offset:=3,embedded:=false,tag:= "",pkgPath:= "tidegate/derivation",byteOffset:=24}]
def Br0:Ui prog BC0 eBF6:=XH (g:=λ(x:D1)=>[x.node,x.first,x.last,x.outer]) (λx=>(eBH6 x).trans rfl) (λ_=>rfl) (λx y h=>by cases x;cases y;cases h;rfl) za3
def c23 (N:Nat):∀n S r,Cg N n S=some r->B8 prog 23 [(D0 S)] (sr eBE7 r):=by
 intro n
 induction n with
 |zero=>intro S r h;cases h
 |succ n ih=>
 intro S r h
 unfold Cg at h
 refine R4 cf0 func23 call23 ntmps23 ?_;intro E D K Y J Q;cbv;replace Q:=Q.tl0 (t:=.full) rfl;obtain⟨c,X,h⟩:=bind_some h;refine S6 cf0 Y N0 (γ:=J8) (λI g=>[(1,.v (.eref (D5 S) 0)),(3,.v (.sl (lst eBE7 I.1) g)),fi 4 I.2]) (λI g G=>Ed g/\B9 Eq D [.tl g] G) (λx e l G=>∃b:J8,Ed b/\e= .exit 0/\l=[(3,.v (.sl (lst eBE7 x) b))]/\B9 Eq D [.tl b] G) za3 ?_ .full X ?_ ?_ ?_
 ·rintro I d H o ⟨a,Q⟩ h;cbv;apply K2 Y;cbv;apply C2 Y h<;>intro _ h
  ·cbv;refine E6 Y eBF1 h λP h=>?_;cbv;refine B3 Y h (ih P) .z λy h=>?_;cbv;refine GD (f:=eBE7) Y Lk za5 Q 0 rfl a (l:=I.1) (m:=y) .z .z h λV j H Q i h=>?_;exact Zg
  exact Zg
 ·exact .e rfl (.v (.slt _ (.lstc (.eq (eBF1 S) .z) (.lst0))) (.e rfl (.z)))
 ·exact⟨trivial,Q⟩
 clear X;rintro e l H ⟨p,k,rfl,rfl,Q⟩;exact Zg
@[reducible, instance] def zc23 (N n aA):=Ct.mk (f:=23) (c23 N n aA)
def c70 (N:Nat):∀n S a r,CN N n S a=some r->B8 prog 70 [(D0 S),vi a] (vi r):=by
 intro n
 induction n with
 |zero=>intro S a r h;cases h
 |succ n ih=>
 intro S a r h
 unfold CN at h
 refine R4 cf0 func70 call70 ntmps70 ?_;intro E D K Y J Q;cbv;obtain⟨d,X,h⟩:=bind_some h;refine I8 cf0 Y N0 (λI=>[fi 1 a,(2,.v (.eref (D5 S) 0)),fi 5 I.1,fi 6 I.2]) (λI G=>B9 Eq D [] G) (λx e l G=>e= .exit 0/\l=[fi 5 x]/\B9 Eq D [] G) za3 ?_ X ?_ Q ?_
 ·intro I H o Q h;exact Zg
 ·exact .e4 .z
 clear X;rintro e l H ⟨rfl,rfl,Q⟩;exact Zg
@[reducible, instance] def zc70 (N n aA bE):=Ct.mk (f:=70) (c70 N n aA bE)
def c71 (N:Nat):∀n S r,Ch N n S=some r->B8 prog 71 [(D0 S)] (vi r):=by
 intro n
 induction n with
 |zero=>intro S r h;cases h
 |succ n ih=>
 intro S r h
 unfold Ch at h
 refine R4 cf0 func71 call71 ntmps71 ?_;intro E D K Y J Q;cbv;obtain⟨d,X,h⟩:=bind_some h;refine I8 cf0 Y N0 (λI=>[(1,.v (.eref (D5 S) 0)),fi 3 I.1,fi 4 I.2]) (λI G=>B9 Eq D [] G) (λx e l G=>e= .exit 0/\l=[fi 3 x]/\B9 Eq D [] G) za3 ?_ X ?_ Q ?_
 ·intro I H o Q h;exact Zg
 ·exact .e rfl (.e2 .z)
 clear X;rintro e l H ⟨rfl,rfl,Q⟩;exact Zg
@[reducible, instance] def zc71 (N n aA):=Ct.mk (f:=71) (c71 N n aA)
def c143 (N:Nat):∀n a b r,CP N n a b=some r->B8 prog 143 [(Cr a),vi b] (vi r):=by
 intro n
 induction n with
 |zero=>intro a b r h;cases h
 |succ n ih=>
 intro a b r h
 unfold CP at h
 refine R4 cf0 func143 call143 ntmps143 ?_;intro E D K Y J Q;cbv;obtain⟨d,X,h⟩:=bind_some h;refine I8 cf0 Y N0 (λI=>[fi 1 b,(2,.v (.eref (GK a) 0)),fi 5 I.1,fi 6 I.2]) (λI G=>B9 Eq D [] G) (λx e l G=>e= .exit 0/\l=[fi 5 x]/\B9 Eq D [] G) za3 ?_ X ?_ Q ?_
 ·intro I H o Q h;exact Zg
 ·exact .e4 .z
 clear X;rintro e l H ⟨rfl,rfl,Q⟩;exact Zg
@[reducible, instance] def zc143 (N n aF bE):=Ct.mk (f:=143) (c143 N n aF bE)
def c144 (N:Nat):∀n a r,Ci N n a=some r->B8 prog 144 [(Cr a)] (vi r):=by
 intro n
 induction n with
 |zero=>intro a r h;cases h
 |succ n ih=>
 intro a r h
 unfold Ci at h
 refine R4 cf0 func144 call144 ntmps144 ?_;intro E D K Y J Q;cbv;obtain⟨d,X,h⟩:=bind_some h;refine I8 cf0 Y N0 (λI=>[(1,.v (.eref (GK a) 0)),fi 3 I.1,fi 4 I.2]) (λI G=>B9 Eq D [] G) (λx e l G=>e= .exit 0/\l=[fi 3 x]/\B9 Eq D [] G) za3 ?_ X ?_ Q ?_
 ·intro I H o Q h;exact Zg
 ·exact .e rfl (.e2 .z)
 clear X;rintro e l H ⟨rfl,rfl,Q⟩;exact Zg
@[reducible, instance] def zc144 (N n aF):=Ct.mk (f:=144) (c144 N n aF)
def c100 (N a r)(h:JM N a=some r):B8 prog 100 [(Cr a)] (.bool r):=by
 refine R4 cf0 func100 call100 ntmps100 ?_;intro E D K Y J Q;exact Zg
@[reducible, instance] def zc100 (N aF):=Ct.mk (f:=100) (c100 N aF)
def c65 (N S r)(h:OZ N S=some r):B8 prog 65 [(D0 S)] (.bool r):=by
 refine R4 cf0 func65 call65 ntmps65 ?_;intro E D K Y J Q
 repeat' (cbv;first|apply C2 Y h<;>intro _ h|refine B3 Y h (c70 _ _ _ _) .z λ_ h=>?_|refine B3 Y h (c71 _ _ _) .z λ_ h=>?_|refine B3 Y h (c23 _ _ _) .z λb h=>?_|(cases h;exact J Q .z))
 cbv;obtain⟨g,X,h⟩:=bind_some h;refine I8 cf0 Y N0 (λa=>[(3,.v (sr eBE7 b)),fi 4 a]) (λa G=>B9 Eq D [] G) (λx e l G=>match(generalizing:=false) x with| .inl y=>e= .exit 0/\l=[]/\B9 Eq D [] G| .inr y=>e= .ret/\l=[(2,.b false)]/\B9 Eq D [] G) za3 ?_ X ?_ Q ?_
 ·intro a H o Q h;exact Zg
 ·exact .e2 .z
 clear X
 rcases g with i|k
 ·rintro e l H ⟨rfl,rfl,Q⟩;exact Zg
 rintro e l H ⟨rfl,rfl,Q⟩;exact Zg
@[reducible, instance] def zc65 (N aA):=Ct.mk (f:=65) (c65 N aA)
def cf66:=cfC [] [] [(7,4)]
def c66 (N:Nat):∀n S r,Cb N n S=some r->B8 prog 66 [(D0 S)] (vi r):=by
 intro n
 induction n with
 |zero=>intro S r h;cases h
 |succ n ih=>
 intro S r h
 unfold Cb at h
 refine R4 cf66 func66 call66 ntmps66 ?_;intro E D K Y J Q;cbv;obtain⟨I,X,h⟩:=bind_some h;refine Q5 cf66 Y N0 (λe l G=>e= .normal/\l=[(1,.v (.eref (D5 S) 0)),fi 3 I]/\B9 Eq D [] G) za3 ?_ ?_
 ·clear h;have h:=X;exact Zg
 clear X;rintro e l H ⟨rfl,rfl,Q⟩;cbv;obtain⟨a,X,h⟩:=bind_some h;refine I8 cf66 Y N0 (λd=>[(1,.v (.eref (D5 S) 0)),fi 3 d.1,fi 4 d.2]) (λd G=>B9 Eq D [] G) (λx e l G=>e= .exit 0/\l=[fi 3 x]/\B9 Eq D [] G) za3 ?_ X ?_ Q ?_
 ·intro d H o Q h;exact Zg
 ·exact .e rfl (.e2 .z)
 clear X;rintro e l H ⟨rfl,rfl,Q⟩;exact Zg
@[reducible, instance] def zc66 (N n aA):=Ct.mk (f:=66) (c66 N n aA)
def c67 (N g a b r)(h:Ja N g a b=some r):B8 prog 67 [vi g,vi a,vi b] (vi r):=by
 refine R4 cf0 func67 call67 ntmps67 ?_;intro E D K Y J Q;cbv;obtain⟨d,X,h⟩:=bind_some h;refine I8 cf0 Y N0 (λI=>[fi 0 g,fi 1 a,fi 2 b,fi 7 I.1,fi 8 I.2]) (λI G=>B9 Eq D [] G) (λx e l G=>e= .exit 0/\l=[fi 7 x]/\B9 Eq D [] G) za3 ?_ X ?_ Q ?_
 ·intro I H o Q h;exact Zg
 ·exact .e rfl (.e4 .z)
 clear X;rintro e l H ⟨rfl,rfl,Q⟩;exact Zg
@[reducible, instance] def zc67 (N bI aR bE):=Ct.mk (f:=67) (c67 N bI aR bE)
def c68 (N:Nat):∀n S r,Dq N n S=some r->B8 prog 68 [(D0 S)] (.bool r):=by
 intro n
 induction n with
 |zero=>intro S r h;cases h
 |succ n ih=>
 intro S r h
 unfold Dq at h
 refine R4 cf0 func68 call68 ntmps68 ?_;intro E D K Y J Q;cbv;apply C2 Y h<;>intro _ h
 ·exact Zg
 cbv;obtain⟨d,X,h⟩:=bind_some h;refine I8 cf0 Y N0 (λI=>[(1,.v (.eref (D5 S) 0)),fi 3 I]) (λI G=>B9 Eq D [] G) (λx e l G=>match(generalizing:=false) x with| .inl y=>e= .exit 0/\l=[]/\B9 Eq D [] G| .inr y=>e= .ret/\l=[(2,.b true)]/\B9 Eq D [] G) za3 ?_ X ?_ Q ?_
 ·intro I H o Q h;exact Zg
 ·exact .e2 .z
 clear X
 rcases d with a|b
 ·rintro e l H ⟨rfl,rfl,Q⟩;exact Zg
 rintro e l H ⟨rfl,rfl,Q⟩;exact Zg
@[reducible, instance] def zc68 (N n aA):=Ct.mk (f:=68) (c68 N n aA)
def c18 (N S a r) (h:Jb N S a=some r):B8 prog 18 [(D0 S),sr eBE3 a] (.bool r):=by
 unfold Jb at h
 refine R4 cf0 func18 call18 ntmps18 ?_;intro E D K Y J Q;cbv;refine B3 Y h (c65 N S) (.refl _) λk h=>?_;cbv;refine K2 Y ?_;cbv;refine C2 Y h (λ_ h=>?_) λ_ h=>?_
 ·cbv;cases h;exact J Q (.refl _)
 cbv;obtain⟨g,X,h⟩:=bind_some h;refine I8 cf0 Y N0 (λd=>[(1,.v (sr eBE3 a)),(2,.v (.eref (D5 S) 0)),fi 5 d]) (λd G=>B9 Eq D [] G) (λx e l G=>match(generalizing:=false) x with| .inl y=>e= .exit 0/\l=[(1,.v (sr eBE3 a)),(2,.v (.eref (D5 S) 0))]/\B9 Eq D [] G| .inr y=>e= .ret/\l=[(4,.b false)]/\B9 Eq D [] G) za3 ?_ X ?_ Q ?_
 ·intro d H o Q h;clear X;cbv;refine K2 Y ?_;cbv;refine C2 Y h (λ_ h=>?_) λ_ h=>?_
  ·cbv;refine E6 Y eBF2 h λV h=>?_;cbv;refine K2 Y ?_;cbv;refine C2 Y h (λ_ h=>?_) λ_ h=>?_
   ·cbv;cases h;exact⟨_,_,rfl,⟨rfl,rfl,Q⟩,.b rfl (.z),rfl⟩
   cbv;cases h;exact⟨_,rfl,.e rfl (.e2 .z),rfl,Q⟩
  cbv;cases h;exact⟨_,_,rfl,⟨rfl,rfl,Q⟩,.e2 .z,rfl⟩
 ·exact .e rfl (.e2 .z)
 clear X
 rcases g with c|i
 ·rintro e l H ⟨rfl,rfl,Q⟩;cbv;refine B3 Y h (c66 N N S) (.refl _) λb h=>?_;cbv;refine K2 Y ?_;cbv;refine B3 Y h (c67 N (Ar.ar .add .i64 b 1) (Ar.len a) 1500) (.refl _) λn h=>?_;cbv;refine C2 Y h (λ_ h=>?_) λ_ h=>?_
  ·cbv;cases h;exact J Q (.refl _)
  cbv;refine B3 Y h (c68 N N S) (.refl _) λt h=>?_;cbv;refine K2 Y ?_;cbv;refine C2 Y h (λ_ h=>?_) λ_ h=>?_
  ·cbv;refine B3 Y h (c67 N (Ar.len a) b 1500) (.refl _) λP h=>?_;cbv;cases h;exact J Q (.refl _)
  cbv;cases h;exact J Q (.refl _)
 rintro e l H ⟨rfl,rfl,Q⟩;cbv;cases h;exact J Q (.refl _)
@[reducible, instance] def zc18 (N aA aI):=Ct.mk (f:=18) (c18 N aA aI)
def c19 (N:Nat):∀n S r,Fo N n S=some r->B8 prog 19 [(D0 S)] (vi r):=by
 intro n
 induction n with
 |zero=>intro S r h;cases h
 |succ n ih=>
 intro S r h
 unfold Fo at h
 refine R4 cf0 func19 call19 ntmps19 ?_;intro E D K Y J Q;cbv;obtain⟨d,X,h⟩:=bind_some h;refine I8 cf0 Y N0 (λI=>[(1,.v (.eref (D5 S) 0)),fi 3 I.1,fi 4 I.2]) (λI G=>B9 Eq D [] G) (λx e l G=>e= .exit 0/\l=[(1,.v (.eref (D5 S) 0)),fi 3 x]/\B9 Eq D [] G) za3 ?_ X ?_ Q ?_
 ·intro I H o Q h;exact Zg
 ·exact .e rfl (.e2 .z)
 clear X;rintro e l H ⟨rfl,rfl,Q⟩;exact Zg
@[reducible, instance] def zc19 (N n aA):=Ct.mk (f:=19) (c19 N n aA)
def cf20:=cfC [] [] [(7,4)]
def c20 (N:Nat):∀n S r,FJ N n S=some r->B8 prog 20 [(D0 S)] (vi r):=by
 intro n
 induction n with
 |zero=>intro S r h;cases h
 |succ n ih=>
 intro S r h
 unfold FJ at h
 refine R4 cf20 func20 call20 ntmps20 ?_;intro E D K Y J Q;cbv;obtain⟨I,X,h⟩:=bind_some h;refine Q5 cf20 Y N0 (λe l G=>e= .normal/\l=[(1,.v (.eref (D5 S) 0)),fi 3 I]/\B9 Eq D [] G) za3 ?_ ?_
 ·clear h;have h:=X;exact Zg
 clear X;rintro e l H ⟨rfl,rfl,Q⟩;cbv;obtain⟨a,X,h⟩:=bind_some h;refine I8 cf20 Y N0 (λd=>[(1,.v (.eref (D5 S) 0)),fi 3 d.1,fi 4 d.2]) (λd G=>B9 Eq D [] G) (λx e l G=>e= .exit 0/\l=[fi 3 x]/\B9 Eq D [] G) za3 ?_ X ?_ Q ?_
 ·intro d H o Q h;exact Zg
 ·exact .e rfl (.e2 .z)
 clear X;rintro e l H ⟨rfl,rfl,Q⟩;exact Zg
@[reducible, instance] def zc20 (N n aA):=Ct.mk (f:=20) (c20 N n aA)
def c4 (N S b r)(h:Lo N S b=some r):B8 prog 4 [(D0 S),sr eBE3 b] (.bool r):=by
 refine R4 cf0 func4 call4 ntmps4 ?_;intro E D K Y J Q
 repeat' (cbv;first|apply C2 Y h<;>intro _ h|refine B3 Y h (c18 _ _ _) .z λ_ h=>?_|refine B3 Y h (c19 _ _ _) .z λ_ h=>?_|(cases h;exact J Q .z))
 cbv;obtain⟨g,X,h⟩:=bind_some h;refine I8 cf0 Y N0 (λa=>[(1,.v (sr eBE3 b)),(2,.v (.eref (D5 S) 0)),fi 5 a.1,fi 6 a.2]) (λa G=>B9 Eq D [] G) (λx e l G=>e= .exit 0/\l=[fi 5 x]/\B9 Eq D [] G) za3 ?_ X ?_ Q ?_
 ·intro a H o Q h;exact Zg
 ·exact .e4 .z
 clear X;rintro e l H ⟨rfl,rfl,Q⟩;exact Zg
@[reducible, instance] def zc4 (N aA aI):=Ct.mk (f:=4) (c4 N aA aI)
def c69 (N a r)(h:Pb N a=some r):B8 prog 69 [sr eBF4 a] (.bool r):=by
 refine R4 cf0 func69 call69 ntmps69 ?_;intro E D K Y J Q;cbv;obtain⟨d,X,h⟩:=bind_some h;refine I8 cf0 Y N0 (λI=>[(0,.v (sr eBF4 a)),fi 3 I]) (λI G=>B9 Eq D [] G) (λx e l G=>match(generalizing:=false) x with| .inl y=>e= .exit 0/\l=[(0,.v (sr eBF4 a))]/\B9 Eq D [] G| .inr y=>e= .ret/\l=[(2,.b false)]/\B9 Eq D [] G) za3 ?_ X ?_ Q ?_
 ·intro I H o Q h;exact Zg
 ·exact .e2 .z
 clear X
 rcases d with b|g
 ·rintro e l H ⟨rfl,rfl,Q⟩;exact Zg
 rintro e l H ⟨rfl,rfl,Q⟩;exact Zg
@[reducible, instance] def zc69 (N aI):=Ct.mk (f:=69) (c69 N aI)
def c21 (N a r)(h:Sn N a=some r):B8 prog 21 [(DW a)] (.bool r):=by
 refine R4 cf0 func21 call21 ntmps21 ?_;intro E D K Y J Q;exact Zg
@[reducible, instance] def zc21 (N aF):=Ct.mk (f:=21) (c21 N aF)
def c5 (N a r)(h:JC N a=some r):B8 prog 5 [sr eBE3 a] (.bool r):=by
 refine R4 cf0 func5 call5 ntmps5 ?_;intro E D K Y J Q;cbv;obtain⟨d,X,h⟩:=bind_some h;refine I8 cf0 Y N0 (λI=>[(0,.v (sr eBE3 a)),fi 3 I]) (λI G=>B9 Eq D [] G) (λx e l G=>match(generalizing:=false) x with| .inl y=>e= .exit 0/\l=[(0,.v (sr eBE3 a))]/\B9 Eq D [] G| .inr y=>e= .ret/\l=[(2,.b false)]/\B9 Eq D [] G) za3 ?_ X ?_ Q ?_
 ·intro I H o Q h;exact Zg
 ·exact .e2 .z
 clear X
 rcases d with b|g
 ·rintro e l H ⟨rfl,rfl,Q⟩;exact Zg
 rintro e l H ⟨rfl,rfl,Q⟩;exact Zg
@[reducible, instance] def zc5 (N aI):=Ct.mk (f:=5) (c5 N aI)
def c26 (N S r)(h:Es N S=some r):B8 prog 26 [(D0 S)] (.bool r):=by
 refine R4 cf0 func26 call26 ntmps26 ?_;intro E D K Y J Q;exact Zg
@[reducible, instance] def zc26 (N aA):=Ct.mk (f:=26) (c26 N aA)
def c25 (N S r)(h:Dr N S=some r):B8 prog 25 [(D0 S)] (.bool r):=by
 refine R4 cf0 func25 call25 ntmps25 ?_;intro E D K Y J Q;exact Zg
@[reducible, instance] def zc25 (N aA):=Ct.mk (f:=25) (c25 N aA)
def c27 (N S r)(h:CO N S=some r):B8 prog 27 [(D0 S)] (.bool r):=by
 refine R4 cf0 func27 call27 ntmps27 ?_;intro E D K Y J Q;exact Zg
@[reducible, instance] def zc27 (N aA):=Ct.mk (f:=27) (c27 N aA)
def cf101:=cfC [] [] [(11,6)]
def c101 (N S r)(h:Lp N S=some r):B8 prog 101 [(D0 S)] (.bool r):=by
 refine R4 cf101 func101 call101 ntmps101 ?_;intro E D K Y J Q;cbv;apply C2 Y h<;>intro _ h
 ·exact Zg
 cbv;obtain⟨I,X,h⟩:=bind_some h;refine Q5 cf101 Y N0 (λe l G=>e= .normal/\l=[(1,.v (.eref (D5 S) 0)),fi 4 S.Op,(11,.v (.bool I))]/\B9 Eq D [] G) za3 ?_ ?_
 ·clear h;have h:=X;exact Zg
 clear X;rintro e l H ⟨rfl,rfl,Q⟩;exact Zg
@[reducible, instance] def zc101 (N aA):=Ct.mk (f:=101) (c101 N aA)
def c102 (N S r)(h:Gp N S=some r):B8 prog 102 [(D0 S)] (.bool r):=by
 refine R4 cf0 func102 call102 ntmps102 ?_;intro E D K Y J Q;exact Zg
@[reducible, instance] def zc102 (N aA):=Ct.mk (f:=102) (c102 N aA)
def c103 (N b a e r)(h:Er N b a e=some r):B8 prog 103 [.bool b,vi a,vi e] (.bool r):=by
 refine R4 cf0 func103 call103 ntmps103 ?_;intro E D K Y J Q;exact Zg
@[reducible, instance] def zc103 (N bP aR bQ):=Ct.mk (f:=103) (c103 N bP aR bQ)
def cf212:=cfC [] [] [(4,4)]
def c212 (N a r)(h:Lr N a=some r):B8 prog 212 [vi a] (vi r):=by
 refine R4 cf212 func212 call212 ntmps212 ?_;intro E D K Y J Q;cbv;obtain⟨I,X,h⟩:=bind_some h;refine Q5 cf212 Y N0 (λe l G=>e= .normal/\l=[fi 3 a,(4,.v (.bool I))]/\B9 Eq D [] G) za3 ?_ ?_
 ·clear h;have h:=X;exact Zg
 clear X;rintro e l H ⟨rfl,rfl,Q⟩;exact Zg
@[reducible, instance] def zc212 (N aT):=Ct.mk (f:=212) (c212 N aT)
def c213 (N a r)(h:ME N a=some r):B8 prog 213 [vi a] (.tup [.bool r.1,.bool r.2]):=by
 refine R4 cf0 func213 call213 ntmps213 ?_;intro E D K Y J Q;exact Zg
@[reducible, instance] def zc213 (N aT):=Ct.mk (f:=213) (c213 N aT)
def c214 (N a r)(h:Lv N a=some r):B8 prog 214 [(J2 a)] (vi r):=by
 refine R4 cf0 func214 call214 ntmps214 ?_;intro E D K Y J Q;exact Zg
@[reducible, instance] def zc214 (N aN):=Ct.mk (f:=214) (c214 N aN)
def c215 (N b a r)(h:Lt N b a=some r):B8 prog 215 [vi b,(J2 a)] (.bool r):=by
 refine R4 cf0 func215 call215 ntmps215 ?_;intro E D K Y J Q;exact Zg
@[reducible, instance] def zc215 (N bU aN):=Ct.mk (f:=215) (c215 N bU aN)
def cf177:=cfC [] [] [(69,15)]
def c177 (N a r)(h:JZ N a=some r):B8 prog 177 [(Cr a)] (vi r):=by
 refine R4 cf177 func177 call177 ntmps177 ?_;intro E D K Y J Q
 repeat' (cbv;first|apply C2 Y h<;>intro _ h|apply K2 Y|refine B3 Y h (c212 _ _) .z λ_ h=>?_|refine B3 Y h (c213 _ _) .z λv h=>?_|(cases h;exact J Q .z))
 cbv;obtain⟨b,X,h⟩:=bind_some h;refine Q5 cf177 Y N0 (λe l G=>match(generalizing:=false) b with| .inl y=>e= .normal/\l=[(1,.v (.eref (GK a) 0)),(4,.v (.bool v.1)),(5,.v (.bool v.2)),(6,.v (.bool (cmp .eql a.Op 4))),(7,.v (.bool (Ar.or (cmp .eql a.Op 4) (cmp .eql a.Op 0))))]/\B9 Eq D [] G| .inr y=>e= .ret/\l=[fi 2 y]/\B9 Eq D [] G) za3 ?_ ?_
 ·clear h;have h:=X;exact Zg
 clear X
 rcases b with g|i
 ·rintro e l H ⟨rfl,rfl,Q⟩;exact Zg
 rintro e l H ⟨rfl,rfl,Q⟩;exact Zg
@[reducible, instance] def zc177 (N aF):=Ct.mk (f:=177) (c177 N aF)
def c145 (N:Nat):∀n a r,Fp N n a=some r->B8 prog 145 [(Cr a)] (vi r):=by
 intro n
 induction n with
 |zero=>intro a r h;cases h
 |succ n ih=>
 intro a r h
 unfold Fp at h
 refine R4 cf0 func145 call145 ntmps145 ?_;intro E D K Y J Q;cbv;refine B3 Y h (c177 N a) .z λg h=>?_;cbv;apply C2 Y h<;>intro _ h
 ·exact Zg
 cbv;obtain⟨b,X,h⟩:=bind_some h;refine I8 cf0 Y N0 (λd=>[(1,.v (.eref (GK a) 0)),fi 4 d]) (λd G=>B9 Eq D [] G) (λx e l G=>match(generalizing:=false) x with| .inl y=>e= .exit 0/\l=[]/\B9 Eq D [] G| .inr y=>e= .ret/\l=[fi 2 y]/\B9 Eq D [] G) za3 ?_ X ?_ Q ?_
 ·intro d H o Q h;exact Zg
 ·exact .e2 .z
 clear X
 rcases b with i|k
 ·rintro e l H ⟨rfl,rfl,Q⟩;exact Zg
 rintro e l H ⟨rfl,rfl,Q⟩;exact Zg
@[reducible, instance] def zc145 (N n aF):=Ct.mk (f:=145) (c145 N n aF)
def c104 (N a r)(h:Jc N a=some r):B8 prog 104 [(Cr a)] (vi r):=by
 refine R4 cf0 func104 call104 ntmps104 ?_;intro E D K Y J Q;exact Zg
@[reducible, instance] def zc104 (N aF):=Ct.mk (f:=104) (c104 N aF)
def cf105:=cfB [] [(6,10)]
def c105 (N:Nat):∀n p a r,Bf N n p a=some r->B8 prog 105 [(Cr p),(Cr a)] (.bool r):=by
 intro n
 induction n with
 |zero=>intro p a r h;cases h
 |succ n ih=>
 intro p a r h
 unfold Bf at h
 refine R4 cf105 func105 call105 ntmps105 ?_;intro E D K Y J Q;cbv;apply K2 Y;cbv;apply K2 Y;cbv;apply C2 Y h<;>intro _ h
 ·exact Zg
 cbv;obtain⟨d,X,h⟩:=bind_some h;refine I8 cf105 Y N0 (λI=>[(2,.v (.eref (GK p) 0)),(3,.v (.eref (GK a) 0)),fi 5 I]) (λI G=>B9 Eq D [] G) (λx e l G=>match(generalizing:=false) x with| .inl y=>e= .exit 0/\l=[]/\B9 Eq D [] G| .inr y=>e= .ret/\l=[(4,.b false)]/\B9 Eq D [] G) za3 ?_ X ?_ Q ?_
 ·intro I H o Q h;exact Zg
 ·exact .e rfl (.e2 .z)
 clear X
 rcases d with b|g
 ·rintro e l H ⟨rfl,rfl,Q⟩;exact Zg
 rintro e l H ⟨rfl,rfl,Q⟩;exact Zg
@[reducible, instance] def zc105 (N n aB aC):=Ct.mk (f:=105) (c105 N n aB aC)
def cf72:=cfC [] [(5,11),(6,21)] [(51,10)]
def c72 (N S r) (h:Df N S=some r):B8 prog 72 [(D0 S)] (vi r):=by
 unfold Df at h
 refine R4 cf72 func72 call72 ntmps72 ?_;intro E D K Y J Q;cbv;refine C2 Y h (λ_ h=>?_) λ_ h=>?_
 ·cbv;cases h;exact J Q (.refl _)
 cbv;refine B3 Y h (c101 N S) (.refl _) λI h=>?_;cbv;refine C2 Y h (λ_ h=>?_) λ_ h=>?_
 ·cbv;cases h;exact J Q (.refl _)
 cbv;refine E3 Y (g:=λv=>.bool v) h (c25 N S) (.refl _) λv h=>?_;cbv;refine E3 Y (g:=λd=>.bool d) h (c26 N S) (.refl _) λd h=>?_;cbv;refine C2 Y h (λ_ h=>?_) λ_ h=>?_
 ·cbv;refine E3 Y (g:=λV=>.bool V) h (c102 N S) (.refl _) λV h=>?_;cbv;refine E3 Y (g:=λf=>.bool f) h (c103 N v S.Typ 15) (.refl _) λf h=>?_;cbv;refine C2 Y h (λ_ h=>?_) λ_ h=>?_
  ·cbv;cases h;exact J Q (.refl _)
  cbv;refine E3 Y (g:=λj=>.bool j) h (c103 N v S.Var 15) (.refl _) λj h=>?_;cbv;refine C2 Y h (λ_ h=>?_) λ_ h=>?_
  ·cbv;cases h;exact J Q (.refl _)
  cbv;refine E3 Y (g:=λm=>.bool m) h (c103 N true S.dI 63) (.refl _) λm h=>?_;cbv;refine C2 Y h (λ_ h=>?_) λ_ h=>?_
  ·cbv;cases h;exact J Q (.refl _)
  cbv;refine E3 Y (g:=λc=>.bool c) h (c27 N S) (.refl _) λc h=>?_;cbv;refine B3 Y h (c103 N c S.Span 1099511627776) (.refl _) λL h=>?_;cbv;refine C2 Y h (λ_ h=>?_) λ_ h=>?_
  ·cbv;cases h;exact J Q (.refl _)
  cbv;obtain⟨x,X,h⟩:=bind_some h;refine Q5 cf72 Y N0 (λe l G=>match(generalizing:=false) x with| .inl y=>e= .normal/\l=[(1,.v (.eref (D5 S) 0)),(3,.v (.bool v)),(4,.b true),(5,.v (.bool V))]/\B9 Eq D [] G| .inr y=>e= .ret/\l=[fi 2 y]/\B9 Eq D [] G) za3 ?_ ?_
  ·clear h;have h:=X;clear X;cbv;refine C2 Y h (λ_ h=>?_) λ_ h=>?_
   ·cbv;refine B3 Y h (c104 N S.dF) (.refl _) λo h=>?_;cbv;refine C2 Y h (λ_ h=>?_) λ_ h=>?_
    ·cbv;cases h;exact⟨_,⟨rfl,rfl,Q⟩,.e rfl .z,rfl⟩
    cbv;cases h;exact⟨_,⟨rfl,rfl,Q⟩,.e2 (.b rfl (.e rfl (.z))),rfl⟩
   cbv;cases h;exact⟨_,⟨rfl,rfl,Q⟩,.e2 (.b rfl (.e rfl (.z))),rfl⟩
  clear X
  rcases x with A|B
  ·rintro e l H ⟨rfl,rfl,Q⟩;cbv;refine C2 Y h (λ_ h=>?_) λ_ h=>?_
   ·cbv;cases h;exact J Q (.refl _)
   cbv;refine B3 Y h (c27 N S) (.refl _) λp h=>?_;cbv;refine C2 Y h (λ_ h=>?_) λ_ h=>?_
   ·cbv;cases h;exact J Q (.refl _)
   cbv;refine C2 Y h (λ_ h=>?_) λ_ h=>?_
   ·cbv;refine B3 Y h (c105 N N S.dF (⟨0,[],0,0,0,(⟨0,0,⟨#[]⟩⟩:B5)⟩:B6)) (.cons (.refl _) (.cons (.agg (.cons (.refl _) (.cons (.lit _ (F3)) (.refl _)))) (.refl _))) λq h=>?_;cbv;refine C2 Y h (λ_ h=>?_) λ_ h=>?_
    ·cbv;cases h;exact J Q (.refl _)
    cbv;cases h;exact J Q (.refl _)
   cbv;cases h;exact J Q (.refl _)
  rintro e l H ⟨rfl,rfl,Q⟩;cbv;cases h;exact J Q (.refl _)
 cbv;refine E3 Y (g:=λa=>.bool a) h (c27 N S) (.refl _) λa h=>?_;cbv;refine E3 Y (g:=λb=>.bool b) h (c102 N S) (.refl _) λb h=>?_;cbv;refine E3 Y (g:=λk=>.bool k) h (c103 N v S.Typ 15) (.refl _) λk h=>?_;cbv;refine C2 Y h (λ_ h=>?_) λ_ h=>?_
 ·cbv;cases h;exact J Q (.refl _)
 cbv;refine E3 Y (g:=λn=>.bool n) h (c103 N v S.Var 15) (.refl _) λn h=>?_;cbv;refine C2 Y h (λ_ h=>?_) λ_ h=>?_
 ·cbv;cases h;exact J Q (.refl _)
 cbv;refine E3 Y (g:=λt=>.bool t) h (c103 N a S.dI 63) (.refl _) λt h=>?_;cbv;refine C2 Y h (λ_ h=>?_) λ_ h=>?_
 ·cbv;cases h;exact J Q (.refl _)
 cbv;refine E3 Y (g:=λi=>.bool i) h (c27 N S) (.refl _) λi h=>?_;cbv;refine B3 Y h (c103 N i S.Span 1099511627776) (.refl _) λs h=>?_;cbv;refine C2 Y h (λ_ h=>?_) λ_ h=>?_
 ·cbv;cases h;exact J Q (.refl _)
 cbv;obtain⟨P,X,h⟩:=bind_some h;refine Q5 cf72 Y N0 (λe l G=>match(generalizing:=false) P with| .inl y=>e= .normal/\l=[(1,.v (.eref (D5 S) 0)),(3,.v (.bool v)),(4,.v (.bool a)),(5,.v (.bool b))]/\B9 Eq D [] G| .inr y=>e= .ret/\l=[fi 2 y]/\B9 Eq D [] G) za3 ?_ ?_
 ·clear h;have h:=X;clear X;cbv;refine C2 Y h (λ_ h=>?_) λ_ h=>?_
  ·cbv;refine B3 Y h (c104 N S.dF) (.refl _) λu h=>?_;cbv;refine C2 Y h (λ_ h=>?_) λ_ h=>?_
   ·cbv;cases h;exact⟨_,⟨rfl,rfl,Q⟩,.e rfl .z,rfl⟩
   cbv;cases h;exact⟨_,⟨rfl,rfl,Q⟩,.e4 .z,rfl⟩
  cbv;cases h;exact⟨_,⟨rfl,rfl,Q⟩,.e4 .z,rfl⟩
 clear X
 rcases P with C|F
 ·rintro e l H ⟨rfl,rfl,Q⟩;cbv;refine C2 Y h (λ_ h=>?_) λ_ h=>?_
  ·cbv;cases h;exact J Q (.refl _)
  cbv;refine B3 Y h (c27 N S) (.refl _) λw h=>?_;cbv;refine C2 Y h (λ_ h=>?_) λ_ h=>?_
  ·cbv;cases h;exact J Q (.refl _)
  cbv;refine C2 Y h (λ_ h=>?_) λ_ h=>?_
  ·cbv;refine B3 Y h (c105 N N S.dF (⟨0,[],0,0,0,(⟨0,0,⟨#[]⟩⟩:B5)⟩:B6)) (.cons (.refl _) (.cons (.agg (.cons (.refl _) (.cons (.lit _ (F3)) (.refl _)))) (.refl _))) λz h=>?_;cbv;refine C2 Y h (λ_ h=>?_) λ_ h=>?_
   ·cbv;cases h;exact J Q (.refl _)
   cbv;cases h;exact J Q (.refl _)
  cbv;cases h;exact J Q (.refl _)
 rintro e l H ⟨rfl,rfl,Q⟩;cbv;cases h;exact J Q (.refl _)
@[reducible, instance] def zc72 (N aA):=Ct.mk (f:=72) (c72 N aA)
def c22 (N S r)(h:Gq N S=some r):B8 prog 22 [(D0 S)] (vi r):=by
 refine R4 cf0 func22 call22 ntmps22 ?_;intro E D K Y J Q
 repeat' (cbv;first|apply C2 Y h<;>intro _ h|refine B3 Y h (c70 _ _ _ _) .z λ_ h=>?_|refine B3 Y h (c71 _ _ _) .z λ_ h=>?_|refine B3 Y h (c23 _ _ _) .z λb h=>?_|(cases h;exact J Q .z))
 cbv;obtain⟨g,X,h⟩:=bind_some h;refine I8 cf0 Y N0 (λa=>[(3,.v (sr eBE7 b)),fi 4 a]) (λa G=>B9 Eq D [] G) (λx e l G=>match(generalizing:=false) x with| .inl y=>e= .exit 0/\l=[]/\B9 Eq D [] G| .inr y=>e= .ret/\l=[fi 2 y]/\B9 Eq D [] G) za3 ?_ X ?_ Q ?_
 ·intro a H o Q h;exact Zg
 ·exact .e2 .z
 clear X
 rcases g with i|k
 ·rintro e l H ⟨rfl,rfl,Q⟩;exact Zg
 rintro e l H ⟨rfl,rfl,Q⟩;exact Zg
@[reducible, instance] def zc22 (N aA):=Ct.mk (f:=22) (c22 N aA)
def c24 (N a r)(h:JA N a=some r):B8 prog 24 [sr eBE7 a] (.bool r):=by
 refine R4 cf0 func24 call24 ntmps24 ?_;intro E D K Y J Q;cbv;obtain⟨d,X,h⟩:=bind_some h;refine I8 cf0 Y N0 (λI=>[(0,.v (sr eBE7 a)),fi 3 I]) (λI G=>B9 Eq D [] G) (λx e l G=>match(generalizing:=false) x with| .inl y=>e= .exit 0/\l=[]/\B9 Eq D [] G| .inr y=>e= .ret/\l=[(2,.b false)]/\B9 Eq D [] G) za3 ?_ X ?_ Q ?_
 ·intro I H o Q h;exact Zg
 ·exact .e2 .z
 clear X
 rcases d with b|g
 ·rintro e l H ⟨rfl,rfl,Q⟩;exact Zg
 rintro e l H ⟨rfl,rfl,Q⟩;exact Zg
@[reducible, instance] def zc24 (N aI):=Ct.mk (f:=24) (c24 N aI)
def cf6:=cfC [] [] [(28,13)]
def c6 (N S r) (h:Lq N S=some r):B8 prog 6 [(D0 S)] (vi r):=by
 refine R4 cf6 func6 call6 ntmps6 ?_;intro E D K Y J Q
 repeat' (cbv;first|apply C2 Y h<;>intro _ h|refine B3 Y h (c22 _ _) .z λ_ h=>?_|refine B3 Y h (c23 _ _ _) .z λv h=>?_|refine B3 Y h (c24 _ _) .z λ_ h=>?_|(cases h;exact J Q .z))
 cbv;obtain⟨g,X,h⟩:=bind_some h;refine I8 cf6 Y N0 (λa=>[(4,.v (sr eBE7 v)),fi 5 a.1,fi 6 a.2.1,fi 7 a.2.2]) (λa G=>B9 Eq D [] G) (λx e l G=>match(generalizing:=false) x with| .inl y=>e= .exit 0/\l=[]/\B9 Eq D [] G| .inr y=>e= .ret/\l=[fi 2 14]/\B9 Eq D [] G) za3 ?_ X ?_ Q ?_
 ·intro a H o Q h;cbv;apply K2 Y;cbv;apply C2 Y h<;>intro _ h
  ·cbv;refine E6 Y eBF1 h λi h=>?_;cbv;refine B3 Y h (c25 N i) .z λV h=>?_;cbv;obtain⟨b,X,h⟩:=bind_some h;refine Q5 cf6 Y N0 (λe l G=>match(generalizing:=false) b with| .inl y=>e= .normal/\l=[(4,.v (sr eBE7 v)),fi 5 y,fi 6 a.2.1,fi 7 a.2.2]/\B9 Eq D [] G| .inr y=>e= .ret/\l=[fi 2 14]/\B9 Eq D [] G) za3 ?_ ?_
   ·clear h;have h:=X;exact Zg
   clear X
   rcases b with k|n
   ·rintro e l H ⟨rfl,rfl,Q⟩;exact Zg
   rintro e l H ⟨rfl,rfl,Q⟩;exact Zg
  exact Zg
 ·exact .e4 .z
 clear X
 rcases g with t|P
 ·rintro e l H ⟨rfl,rfl,Q⟩;exact Zg
 rintro e l H ⟨rfl,rfl,Q⟩;exact Zg
@[reducible, instance] def zc6 (N aA):=Ct.mk (f:=6) (c6 N aA)
def c28 (N a r)(h:MF N a=some r):B8 prog 28 [(DW a)] (.bool r):=by
 refine R4 cf0 func28 call28 ntmps28 ?_;intro E D K Y J Q;exact Zg
@[reducible, instance] def zc28 (N aF):=Ct.mk (f:=28) (c28 N aF)
def c29 (N p a r)(h:Jd N p a=some r):B8 prog 29 [(Gg p),(Gg a)] (vi r):=by
 refine R4 cf0 func29 call29 ntmps29 ?_;intro E D K Y J Q;exact Zg
@[reducible, instance] def zc29 (N aB aC):=Ct.mk (f:=29) (c29 N aB aC)
def cf30:=cfA [2]
def c30 (N a r)(h:Pa N a=some r):B8 prog 30 [(DW a)] ((Gg r)):=by
 refine R4 cf30 func30 call30 ntmps30 ?_;intro E D K Y J Q;exact Zg
@[reducible, instance] def zc30 (N aF):=Ct.mk (f:=30) (c30 N aF)
end Go.Ab
