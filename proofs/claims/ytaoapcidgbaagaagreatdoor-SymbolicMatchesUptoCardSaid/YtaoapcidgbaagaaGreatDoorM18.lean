/- . -/
import Derived.Test.YtaoapcidgbaagaaGreatDoorM17
import Derived.Deep.Slices
import Derived.Carry
import Derived.Lib.LaidTab
import Derived.Laws.Strings
set_option linter.all false
namespace Go.Ab
open Go.RowKit Go.Proofs Go.Proofs.Tryz J6
variable [Ar][J6]
set_option maxRecDepth 100000
def za2 (N:Nat):∀n,Mf N n/\Ce6 N n/\Ce5 N n/\Ce4 N n/\Ce3 N n/\Ce2 N n/\BS0 N n/\Ce1 N n/\Ce0 N n/\Cd9 N n/\Cd8 N n/\Cd7 N n/\Cd6 N n/\Cd2 N n:=by
 intro n
 induction n with
 |zero=>exact⟨(by intro o F i k r h;unfold G6 at h;cases h),(by intro o F i k r h;unfold W5 at h;cases h),(by intro o F i k r h;unfold W6 at h;cases h),(by intro o F i k r h;unfold W7 at h;cases h),(by intro o F i k r h;unfold V2 at h;cases h),(by intro o F i k r h;unfold M3 at h;cases h),(by intro o F i k B u C D r h;unfold V1 at h;cases h),(by intro i k m p r h;unfold U3 at h;cases h),(by intro q m p s r h;unfold Aw at h;cases h),(by intro q m p s r h;unfold Ax at h;cases h),(by intro q m p s r h;unfold Ae at h;cases h),(by intro i k m p r h;unfold Q2 at h;cases h),(by intro q m p s r h;unfold Ad at h;cases h),(by intro q m p s z A E r h;unfold Ac at h;cases h)⟩
 |succ n ih=>
  obtain⟨a,l,v,w,x,y,b,K,V,c,d,f,g,j⟩:=ih;exact⟨k69 N n l v w x y,k153 N n a b K,k154 N n V,k155 N n c,k156 N n d,k157 N n g,k198 N n j,k199 N n a,k200 N n a,k201 N n a,k203 N n a b f,k204 N n a,k205 N n a,k232 N n a⟩
def c69 (N n a F b i r)(h:G6 N n a F b i=some r):B1 prog 69 [.eref (C9 a) 0,(D5 F),sr eCl0 b,vi i] (sr eCl8 r):=(za2 N n).1 a F b i r h
def c71 {a:P6->P6->OS Int}{g:Nat}{C:Up V}(eg:∀vals w,(callFunc g vals).run prog w= .ok (.enter g vals) w)(d:∀b i r,a b i=some r->B1 prog g ([(ND b),(ND i)]++C) (vi r)){l r:Up P6}(h:Pz a l=some r):
 An6 prog 71 (.func (.func g) [] C) 1 (Ar.lst eCm4 l) (Ar.lst eCm4 r):=VP Go.Proofs.Tryz.sorts71 call71 (va:=λx=>(Bb1 x)) eCo9 (λ_=>rfl) eg d h
def cf116:=VY [8]
def c116 (N:Nat) (a:Up N2) (b:Up N2) (k:V) (l:N2->N2->OS Int) (x:∀v w q,l v w=some q->U9 prog k [(Qw v),(Qw w)] (vi q)) (r:Int) (h:N3 N a b l=some r):B1 prog 116 [sr eCm9 a,sr eCm9 b,k] (vi r):=by
 refine M5 cf116 func116 call116 ntmps116 ?_;intro E D K Y J Q;cbv;apply L6 Y;cbv;obtain⟨s,X,h⟩:=bind_some h;refine J2 cf116 Y K9 (λA=>[(0,.v (sr eCm9 a)),(1,.v (sr eCm9 b)),(2,.v (k)),(11,.v (sr eCm9 a)),fi 12 (Ar.len a),fi 13 A]) (xi D) (xm D 0 (λ_=>[(0,.v (sr eCm9 a)),(1,.v (sr eCm9 b))]) (λy=>[fi 6 y])) JO ?_ X Zf Q Zq;intro A H o Q h;cbv;apply E3 Y h<;>intro _ h
 ·cbv;refine G0 Y eCo8 h λc h=>?_;cbv;refine G3 Y Q λd H Q=>?_;cbv;refine D6 Y Q 0 rfl rfl λH Q=>?_;cbv;apply L6 Y;cbv;apply E3 Y h<;>intro _ h
  ·exact Zg
  cbv;refine G0 Y eCo8 h λx5 h=>?_;cbv;apply E0 Y Q 0 rfl;cbv;refine X3 Y (g:=λi=>vi i) h (λi X=>x c x5 i X) .z λi h=>?_;exact Zg
 exact Zg
def cf119:=VZ [] [(1,14)]
def c119 (N a b r)(h:NU N a b=some r):B1 prog 119 [(Ap2 a),(Ap2 b)] (vi r):=by
 refine M5 cf119 func119 call119 ntmps119 ?_;intro E D K Y J Q
 repeat' (cbv;first|refine C1 Y h (SA _ _ _) .z λ_ h=>?_|refine C1 Y h (c118 _ _) (.cons (.lit _ (G1 (rfl) (G1 (rfl) (G1 (rfl) (E4))))) .z) λ_ h=>?_|refine U8 Y (g:=λi=>vi i) h (SA _ _ _) .z λi h=>?_|refine U8 Y (g:=λk=>vi k) h (SA _ _ _) .z λk h=>?_|(cases h;exact J Q .z))
def cf117:=VZ [] [(1,9)]
def c117 (N a b r)(h:Ej N a b=some r):B1 prog 117 [(Qw a),(Qw b)] (vi r):=by
 refine M5 cf117 func117 call117 ntmps117 ?_;intro E D K Y J Q
 repeat' (cbv;first|refine C1 Y h (SA _ _ _) .z λ_ h=>?_|refine C1 Y h (c118 _ _) (.cons (.lit _ (G1 (rfl) (G1 (rfl) (E4)))) .z) λ_ h=>?_|refine U8 Y (g:=λi=>vi i) h (c119 _ _ _) .z λi h=>?_|(cases h;exact J Q .z))
def c72 (N b i r)(h:Gb N b i=some r):B1 prog 72 [(ND b),(ND i)] (vi r):=by
 refine M5 OM func72 call72 ntmps72 ?_;intro E D K Y J Q;cbv;refine C1 Y (g:=λa=>vi a) h (λa X=>c116 N b.eB i.eB (.func (.func 117) [] []) (λk l=>Ej N k l) (λk l r X=>B1.value (F:=[]) (C:=[]) (c117 N k l r X)) a X) .z λa h=>?_;exact Zg
def cf39:Cf:=⟨[13,6000010],[(19,12)],[],[],[(70,10),(70,68)],[]⟩
def c39 (N F c r) (h:Bc N F c=some r):B1 prog 39 [(D5 F),sr eCl4 c] (.tup [sr eCm4 r.1,vi r.2]):=by
 refine M5 cf39 func39 call39 ntmps39 ?_;intro E D K Y J Q
 repeat' (cbv;first|refine E3 Y h (λd h=>?_) (λd h=>?_)|apply L6 Y|refine C1 Y h (c67 _ _) .z λ_ h=>?_|refine C1 Y h (c68 _ _) .z λ_ h=>?_|refine C1 Y h (c69 _ _ _ _ _ _) (.r (.r (.cons (.lit _ (E4)) .z))) λV h=>?_|(cases h;exact J Q (.tup (.cons (.lit _ (E4)) .z)))|refine SU Y (λd=>by cases d) (λ_=>?_)|refine RH Y (f:=eCm4) Q λT H A Q=>?_)
 cbv;obtain⟨s7,X,h⟩:=bind_some h;refine S0 cf39 Y K9 (γ:=OG) (λi g=>[(1,.v (sr eCl4 c)),(10,.v (.own g.id g.lo g.n)),(36,.v (sr eCl8 V)),fi 37 (Ar.len V),fi 38 i.1]) (λi g y=>Cj g (Ar.len i.2)/\C3 Eq D [ob g 1 eCm4 i.2] y) (λx e l y=>∃w:OG,Cj w (Ar.len x)/\e= .exit 0/\l=[(10,.v (.own w.id w.lo w.n))]/\C3 Eq D [ob w 1 eCm4 x] y) JO ?_ T X ?_ ?_ ?_
 ·rintro i k H o ⟨B,Q⟩ h;cbv;refine E3 Y h (λd h=>?_) (λd h=>?_)
  ·cbv;refine G0 Y eCn5 h λO h=>?_;cbv;refine G3 Y Q λj H Q=>?_;cbv;apply L6 Y;cbv;replace Q:=Q.cast (L':=[cb j [.sl (Ar.lst eCm9 ([])) .nil],ob k 1 eCm4 i.2]) (by simp only[ob,cb,sr,<-E4]<;>rfl);replace Q:=Q.tl0 (t:=.nil) rfl;obtain⟨u,X,h⟩:=bind_some h;refine S0 cf39 Y K9 (γ:=G5) (λb g=>[(1,.v (sr eCl4 c)),(10,.v (.own k.id k.lo k.n)),(13,.v (.ref j 0)),(36,.v (sr eCl8 V)),fi 37 (Ar.len V),fi 38 i.1,(42,.v (sr eCl0 O)),fi 43 (Ar.len O),fi 44 b.1]) (λb g y=>T3 g/\C3 Eq D [.tl g,cb j [.sl (Ar.lst eCm9 b.2.eB) g],ob k 1 eCm4 i.2] y) (λx e l y=>∃w:G5,T3 w/\e= .exit 2/\l=[(1,.v (sr eCl4 c)),(10,.v (.own k.id k.lo k.n)),(13,.v (.ref j 0)),(36,.v (sr eCl8 V)),fi 37 (Ar.len V),fi 38 i.1]/\C3 Eq D [.tl w,cb j [.sl (Ar.lst eCm9 x.eB) w],ob k 1 eCm4 i.2] y) JO ?_ .nil X ?_ ?_ ?_
   ·rintro b U H o ⟨q,Q⟩ h;cbv;refine E3 Y h (λd h=>?_) (λd h=>?_)
    ·repeat' (cbv;first|refine G0 Y eCn8 h λz h=>?_|refine G0 Y eCn1 h λ_ h=>?_|apply E0 Y Q 1 rfl|refine D6 Y Q 1 rfl rfl λH Q=>?_|refine U8 Y (g:=λv=>(Ap2 v)) h (c70 _ _) .z λv h=>?_|(cases h;exact⟨_,L,rfl,.e rfl (.e4 (.e4 .z)),rfl,s,Q⟩)|refine Br (f:=eCm9) Y Aq0 Sz Q 0 rfl q (l:=b.2.eB) (m:=[(⟨z.eF,v⟩:N2)]) .z (.lstc (.eq (eCo8 (⟨z.eF,v⟩:N2)) .z) (.lst0)) h λ_ L H Q s h=>?_)
    exact Zg
   ·exact .e rfl (.e4 (.e4 .z))
   ·exact Zy
   clear X;rintro e l H ⟨Z,M,rfl,rfl,Q⟩;cbv;apply E0 Y Q 1 rfl;cbv;refine Ff (f:=eCm4) Y ZK Sz Q B 2 rfl (m:=[u]) (Dr (f:=eCm4) Y ZK (.lstc (.eq (eCo9 u) (.agg (.cons (.ro _ _) .z))) (.lst0))) h λR I H p Q h=>?_;cbv;cases h;exact⟨_,I,rfl,.e rfl (.e4 .z),rfl,p,Q.tail.tail⟩
  exact Zg
 ·exact FW
 ·exact⟨A,Q⟩
 clear X;rintro e l H ⟨S,a,rfl,rfl,Q⟩;cbv;refine Aw7 Y Q a 0 rfl h (λG X=>c71 (g:=72) (C:=[]) call72 (λy1 y2 r X=>c72 N y1 y2 r X) X) λG H a Q h=>?_;exact zb8
@[reducible, instance] def zc39 (N aA aH):=Ct.mk (c39 N aA aH)
def c11 (N F a r)(h:Bd N F a=some r):B1 prog 11 [(D5 F),sr eCl4 a] (.tup [sr eCm4 r.1,vi r.2]):=by
 refine M5 OM func11 call11 ntmps11 ?_;exact T0
def c121 (N a r)(h:MU N a=some r):B1 prog 121 [(CB a)] (vi r):=by
 refine M5 OM func121 call121 ntmps121 ?_;exact T0
def cf73:=VZ [8] [(15,7)]
def c73 (N b a r)(h:Mz N b a=some r):B1 prog 73 [sr eCm0 b,(CB a)] (vi r):=by
 refine M5 cf73 func73 call73 ntmps73 ?_;intro E D K Y J Q
 repeat' (cbv;first|apply E3 Y h<;>intro _ h|apply L6 Y|refine C1 Y h (c121 _ _) .z λ_ h=>?_|refine G0 Y eCo1 h λk h=>?_|(cases h;exact J Q .z))
 cbv;obtain⟨l,X,h⟩:=bind_some h;exact J2 cf73 Y K9 (λi=>[(6,.v (sr eCn6 k.Fields)),(38,.v (sr eCm3 a.Values)),fi 39 (Ar.len a.Values),fi 40 i]) (xi D) (xm D 0 (λ_=>[]) (λy=>[fi 4 y])) JO Zi X Zf Q Zq
@[reducible, instance] def zc73 (N aL aC):=Ct.mk (c73 N aL aC)
def c40 (N b a r)(h:MA N b a=some r):B1 prog 40 [sr eCm0 b,(CB a)] (vi r):=by
 refine M5 OM func40 call40 ntmps40 ?_;exact T0
@[reducible, instance] def zc40 (N aL aC):=Ct.mk (c40 N aL aC)
def cf12:=VY [4,7]
def c12 (N b a r)(h:W0 N b a=some r):B1 prog 12 [sr eCm0 b,(CB a)] (.tup [(Nc r.1),vi r.2]):=by
 refine M5 cf12 func12 call12 ntmps12 ?_;exact T0
def c13 (N a b r)(h:IY N a b=some r):B1 prog 13 [(AH a),sr eCl9 b] (.bool r):=by
 refine M5 OM func13 call13 ntmps13 ?_;exact T0
def c42 (N:Nat)(a:Up P6)(i:V)(k:P6->OS Bool)(v:∀l q,k l=some q->U9 prog i [(ND l)] (.bool q))(r:Int)(h:AP N a k=some r):B1 prog 42 [sr eCm4 a,i] (vi r):=by
 refine M5 OM func42 call42 ntmps42 ?_;intro E D K Y J Q;cbv;apply L6 Y;cbv;obtain⟨s,X,h⟩:=bind_some h;refine J2 OM Y K9 (λA=>[(0,.v (sr eCm4 a)),(1,.v (i)),fi 7 (Ar.len a),fi 8 A]) (xi D) (xm D 0 (λ_=>[]) (λy=>[fi 4 y])) JO ?_ X Zf Q Zq;intro A H o Q h;cbv;apply E3 Y h<;>intro _ h
 ·cbv;refine G0 Y eCo9 h λw h=>?_;cbv;refine X3 Y (g:=λb=>.bool b) h (λb X=>v w b X) .z λb h=>?_;exact Zg
 exact Zg
def c14 (N:Nat)(a:Up P6)(i:V)(b:P6->OS Bool)(l:∀k q,b k=some q->U9 prog i [(ND k)] (.bool q))(r:Bool)(h:U4 N a b=some r):B1 prog 14 [sr eCm4 a,i] (.bool r):=by
 refine M5 OM func14 call14 ntmps14 ?_;intro E D K Y J Q;cbv;refine C1 Y h (c42 N a i b l) .z λv h=>?_;exact Zg
def c15 (N b a r)(h:Y7 N b a=some r):B1 prog 15 [(ND b),.eref [sr eCl4 a] 0] (.bool r):=by
 refine M5 OM func15 call15 ntmps15 ?_;exact T0
def c3 (N k A a r) (h:Ez N k A a=some r):B1 prog 3 [sr eCm0 k,(D5 A),sr eCl4 a] (.bool r):=by
 refine M5 OM func3 call3 ntmps3 ?_;intro E D K Y J Q
 repeat' (cbv;first|apply E3 Y h<;>intro _ h|apply L6 Y|refine C1 Y h (c9 _) .z λ_ h=>?_|refine C1 Y h (c4 _ _) .z λ_ h=>?_|refine C1 Y h (c5 _ _ _) .z λ_ h=>?_|refine C1 Y (g:=λj=>.bool j) h (λj X=>c6 N a (.func (.func 7) [] [.eref [sr eCm0 k] 0]) (λv=>Y8 N v k) (λv r X=>B1.value (F:=[]) (C:=[.eref [sr eCm0 k] 0]) (c7 N v k r X)) j X) .z λj h=>?_|refine C1 Y h (Nh _ _ _) .z λp h=>?_|refine C1 Y h (c11 _ _ _) .z λq h=>?_|(cases h;exact J Q .z))
 cbv;replace Q:=Q.tl0 (t:=.nil) rfl;obtain⟨s,X,h⟩:=bind_some h;refine S0 OM Y K9 (γ:=G5) (λb g=>[(3,.v (.eref [sr eCm0 k] 0)),(5,.v (.eref [sr eCl4 a] 0)),(7,.v (.eref (I0 p.1) 0)),(9,.v (sr eCm4 q.1)),(11,.v (.sl (Ar.lst eCl9 b.1) g)),(60,.v (sr eCl4 a)),fi 61 (Ar.len a),fi 62 b.2]) (λb g d=>T3 g/\C3 Eq D [.tl g] d) (λx e l d=>match(generalizing:=false) x with| .inl y=>∃w:G5,T3 w/\e= .exit 0/\l=[(5,.v (.eref [sr eCl4 a] 0)),(7,.v (.eref (I0 p.1) 0)),(9,.v (sr eCm4 q.1)),(11,.v (.sl (Ar.lst eCl9 y) w))]/\C3 Eq D [.tl w] d| .inr y=>∃w:G5,T3 w/\e= .ret/\l=[(6,.b false)]/\C3 Eq D [.tl w] d) JO ?_ .nil X ?_ ?_ ?_
 ·rintro b O H o ⟨V,Q⟩ h;cbv;apply E3 Y h<;>intro _ h
  ·cbv;refine G0 Y eCn1 h λu h=>?_;cbv;refine C1 Y h (c12 N k u) .z λc h=>?_;cbv;apply E3 Y h<;>intro _ h
   ·exact Zg
   cbv;refine Br (f:=eCl9) Y Rt Sz Q 0 rfl V (l:=b.1) (m:=[c.1]) .z (.lstc (.eq (eCo6 c.1) .z) (.lst0)) h λL R H Q B h=>?_;exact Zg
  exact Zg
 ·exact zbs
 ·exact Zy
 clear X
 rcases s with z|U
 ·rintro e l H ⟨S,G,rfl,rfl,Q⟩;cbv;refine C1 Y h (c13 N p.1 z) (.r (.cons (.ro _ _) .z)) λM h=>?_;cbv;refine C1 Y (g:=λi=>.bool i) h (λi X=>c14 N q.1 (.func (.func 15) [] [.eref [sr eCl4 a] 0]) (λv=>Y7 N v a) (λv r X=>B1.value (F:=[]) (C:=[.eref [sr eCl4 a] 0]) (c15 N v a r X)) i X) .z λi h=>?_;exact Zg
 rintro e l H ⟨T,I,rfl,rfl,Q⟩;exact Zg
end Go.Ab
namespace Go.Ab
open Go.RowKit Go.ChangeShapes Go.WideShapes
variable [O7]
variable{cs:Up HO}
def g0 (W:Is):Gh:=⟨λ_=>none,λ_=>⟨0,0,0⟩,λ_=>none,λb o=>∃v,W.cell? ⟨b,o,none⟩=some v,0,W.heap.size⟩
def rl0{W:Is}(a:∀n,VR (g0 W) W (.pointer (some ⟨n,0,none⟩)) (O7.gl n)):Rl (g0 W) (λ_=>none) W:=
 ⟨λid b h=>(by cases h),λid i b h=>(by simp[Gh.at]at h),λb o h=>h,λid _=>⟨rfl,rfl,rfl⟩,C6 _,a⟩
def IN (g:Gh)(w:Is)(cs:Up HO)(xs:Up V):Prop:=
 cs.length=xs.length/\∀i,i<xs.length->(cs.getD i undef).oneCell'=true/\VR g w (cs.getD i undef) (xs.getD i .bad)
def IN.nil (g:Gh)(w:Is):IN g w [] []:=⟨rfl,λi U=>by simp at U⟩
theorem IN.one{g:Gh}{w:Is}{v:HO}{x:V}(O:v.oneCell'=true)(h:VR g w v x):IN g w [v] [x]:=by
 simp_all[IN]
def IN.append{g:Gh}{w:Is}{ds:Up HO}{xs ys:Up V}(h:IN g w cs xs)(k:IN g w ds ys):IN g w (cs++ds) (xs++ys):=by
 grind[IN]
def IN.join{g:Gh}{w:Is}{xs ys:Up V}{a n m:Nat}(h:IN g w ((cs.drop a).take n) xs)(k:IN g w ((cs.drop (a+n)).take m) ys):IN g w ((cs.drop a).take (n+m)) (xs++ys):=by
 have:=h.append k
 rwa[show(cs.drop (a+n))=(cs.drop a).drop n by rw[Jh],<-List.take_add]at this
def IN.agg {g:Gh} {w:Is} {cs:SI HO} {xs:Up V} (h:IN g w cs.toList xs):VR g w (.agg cs) (.agg xs):=by
 refine .agg (by simpa using h.1) (λi U=>?_) λi U=>?_
 ·have:=(h.2 i U).1
  simp_all
 have:=(h.2 i U).2
 simp_all
section
variable {H α:Type}{enc:TypeId×Value->H}{P:Program}{W:World}{base:Nat}{spare:Nat->Bool}{held:Bool}{t e:TypeId}{n:Nat}
def Opens (enc:Do×HO->H)(P:If)(W:Is)(base:Nat)(spare:Nat->Bool)(held:Bool)(t:Do)(f:α->V)(R:α->DataW H->Prop)(n:Nat):Prop:=
 ∀cs x,DataW.trod enc P W base spare held n t cs=some x->∃a,IN (g0 W) W cs (f a).cells/\R a x.1
def Uk{k:IntKind}(o:P.underlying t=some (.int k)):Opens enc P W base spare held t (V.int k) (λa d=>d= .lit (.int k a)) n:=by
 intro cs x h;obtain⟨a,rfl,rfl,_⟩:=DataW.trod_int o h;exact⟨a,.one rfl (.int _ _),rfl⟩
def NL (o:P.underlying t=some .bool):Opens enc P W base spare held t V.bool (λa d=>d= .lit (.bool a)) n:=by
 intro cs x h;obtain⟨a,rfl,rfl⟩:=DataW.trod_bool o h;exact⟨a,.one rfl (.bool _),rfl⟩
def Bh4 (o:P.underlying t=some .string):Opens enc P W base spare held t V.str (λa d=>d= .lit (.string a.data.toList)/\a.size<=maxLen) n:=by
 intro cs x h;obtain⟨a,rfl,rfl,B⟩:=DataW.trod_string o h;exact⟨a,.one rfl (.str _),rfl,B⟩
def RL (R:α->DataW H->Prop)(l:Up α)(ds:Up (DataW H)):Prop:=l.length=ds.length/\∀(i:Nat) a d,l[i]? =some a->ds[i]? =some d->R a d
def RS (R:α->DataW H->Prop)(l:Up α)(d:DataW H):Prop:=l.length<=maxLen/\((d= .nil/\l=[])\/∃a b,d= .slice a b/\RL R l a)
def Hf{f:α->V}{R:α->DataW H->Prop}(J:P.underlying t=some (.slice e))(C:0<P.cellsOf e)(he:Opens enc P W base spare held e f R n):
 Opens enc P W base spare held t (λl:Up α=>.sl (l.map f) .ro) (RS R) (n+1):=by
 intro cs x h
 rcases DataW.trod_slice J h with⟨rfl,rfl⟩|⟨a,len,cap,k,rest,M,E,rfl,rfl,X,B,hm,N,D,I,G⟩
 ·exact⟨[],.one rfl (.sl0 rfl),BK _,.inl ⟨rfl,rfl⟩⟩
 have m:M=n:=AY
 subst m
 rcases OX len with L|L
 ·subst L;have:k=[]:=List.length_eq_zero_iff.1 N;subst this;exact⟨[],.one rfl (.sle (.inl rfl)),BK _,.inr ⟨_,_,rfl,rfl,λi a d U=>by simp at U⟩⟩
 have one:∀i,i<len->∃cs' y b,W.cells? base (a.add (i*P.cellsOf e)) (P.cellsOf e)=some cs'/\k[i]? =some y/\IN (g0 W) W cs' (f b).cells/\R b y.1:=by
  grind[Option.bind_eq_some_iff,Opens]
 have⟨_,_,q,_⟩:=one 0 L
 haveI:Inhabited α:=⟨q⟩
 have⟨A,c⟩:=Deep.choose_lt (α:=α) (p:=λi b=>∃cs' y,W.cells? base (a.add (i*P.cellsOf e)) (P.cellsOf e)=some cs'/\k[i]? =some y/\IN (g0 W) W cs' (f b).cells/\R b y.1)
  (λi U=>let⟨cs',y,b,O,Z,T,u⟩:=one i U;⟨b,cs',y,O,Z,T,u⟩)
 have w:a.spot=none:=by
  have⟨cs',y,O,_,_,_⟩:=c 0 L;have⟨_,K,r⟩:=OR O;have Z:=r 0 C
  have e0:(a.add (0*P.cellsOf e)).add 0=a:=by simp[Addr.add]
  rw[e0]at Z
  have T:cs'[0]? =some (cs'[0]' AY):=Pw
  rw[T]at Z
  unfold World.cell? at Z
  split at Z
  ·simp_all
  cases Z
 have⟨b,o,s⟩:=a
 simp only at w
 subst w
 let l:=(List.range len).map A
 have g:l.length=len:=by simp[l]
 have F:∀i,i<len->(l.map f).getD i .bad=f (A i):=λi U=>Pw
 have cell:∀i j,i<len->j<P.cellsOf e->∃v,W.cell? ⟨b,o+i*P.cellsOf e+j,none⟩=some v/\v.oneCell'=true/\VR (g0 W) W v ((f (A i)).cells.getD j .bad):=by
  intro i j U z;have⟨cs',y,O,_,Q,_⟩:=c i U;have⟨_,K,r⟩:=OR O;have Z:=r j z
  rw[Bz,Bz]at Z
  have T:cs'[j]? =some (cs'.getD j undef):=TQ
  rw[T]at Z
  have:=Q.2 j (by rw[<-Q.1,K];exact z)
  simp_all
 refine⟨l,.one rfl ?_,AY,.inr ⟨_,_,rfl,TQ,λi S d U hd=>?_⟩⟩
 ·have Y:∀i,i<len->((l.map f).getD i .bad).cells.length=P.cellsOf e:=λi U=>by
   have⟨cs',y,O,_,Q,_⟩:=c i U;have⟨_,K,_⟩:=OR O;rw[F i U,<-Q.1,K]
  refine .sl (sz:=P.cellsOf e) (λi j=>(W.cell? ⟨b,o+i*P.cellsOf e+j,none⟩).getD undef) (by simp[g]) B Y (λi j U z=>?_) (λi j U z=>?_) (λi j U z=>?_) (λi j U z=>?_) trivial
  ·grind[g0]
  ·grind
  ·grind
  grind
 grind
def AM8{fs:SI Field}{xs:Up (DataW H×Up MemPlace)}{n:Nat}(B:xs.length=fs.size)
 (q:∀(i:Nat) (f:Field),fs[i]? =some f->DataW.trod enc P W base spare held n f.type ((cs.drop f.offset).take (P.cellsOf f.type))=xs[i]?)(i:Nat){f:Field}(h:fs[i]? =some f):
 ∃y,xs[i]? =some y/\DataW.trod enc P W base spare held n f.type ((cs.drop f.offset).take (P.cellsOf f.type))=some y:=by
 have U:i<fs.size:=by
  grind
 have O:xs[i]? =some (xs[i]' AY):=Pw
 grind
end
end Go.Ab
namespace Go.Ab
variable{R S α σ:Type}
noncomputable instance arInst :Ar where
 cmp:=JG
 cmp_eq:=λ_ _ _=>rfl
 ar:=arI
 ar_eq:=λ_ _ _ _=>rfl
 sh:=shI
 sh_eq:=λ_ _ _ _=>rfl
 neg:=λk n=>k.wrap (0-n)
 neg_eq:=λ_ _=>rfl
 wr:=λk n=>k.wrap n
 wr_eq:=λ_ _=>rfl
 scmp:=Cb5
 scmp_eq:=λ_ _ _=>rfl
 cat:=λa b=>a++b
 cat_eq:=λ_ _=>rfl
 slen:=λs=>s.size
 slen_eq:=λ_=>rfl
 sat:=λs i=>match s[i.toNat]? with|some b=>(b.toNat:Int)|none=>0
 sat_eq:=λ_ _=>rfl
 beq:=λa b=>a==b
 beq_eq:=λ_ _=>rfl
 nt:=λa=> !a
 nt_eq:=λ_=>rfl
 an:=λa b=>a&&b
 an_eq:=λ_ _=>rfl
 or:=λa b=>a||b
 or_eq:=λ_ _=>rfl
 pk:=λc a b=>if c then a else b
 pk_eq:=λ_ _ _=>rfl
 mx:=λa b=>if a<b then b else a
 mx_eq:=λ_ _=>rfl
 mn:=λa b=>if b<a then b else a
 mn_eq:=λ_ _=>rfl
 ofs:=λa b=>a+b
 ofs_eq:=λ_ _=>rfl
 ofN:=λn=>n
 ofN_eq:=λ_=>rfl
 len:=λl=>l.length
 len_eq:=λ_=>rfl
 lst:=λf l=>l.map f
 lst_eq:=λ_ _=>rfl
theorem B8 (a b:Int):Ar.cmp .lss a b=decide (a<b):=rfl
theorem Gv (a b:Int):Ar.cmp .leq a b=decide (a<=b):=rfl
theorem N5 (a b:Int):Ar.cmp .gtr a b=decide (b<a):=rfl
theorem O0 (a b:Int):Ar.cmp .geq a b=decide (b<=a):=rfl
theorem D8 (a b:Int):Ar.cmp .eql a b=decide (a=b):=rfl
theorem H7 (a b:Int):Ar.cmp .neq a b= !decide (a=b):=rfl
theorem S4 (a:Bool):Ar.nt a= !a:=rfl
theorem Q4 (a b:Bool):Ar.an a b=(a&&b):=rfl
theorem Q8 (a b:Bool):Ar.or a b=(a||b):=rfl
theorem A9(l:Up α):Ar.len l=(l.length:Int):=rfl
theorem MP (a b:Int):Ar.mx a b=if a<b then b else a:=rfl
def PB (s:Uf):Ar.slen s=(s.size:Int):=rfl
def Bt{n:Int}(L: -9223372036854775808<=n)(O:n<9223372036854775808):IntKind.wrap .i64 n=n:=by
 have e:IntKind.wrap .i64 n=(if n % 18446744073709551616>=9223372036854775808 then n % 18446744073709551616-18446744073709551616 else n % 18446744073709551616):=by
  exact zb7
 rw[e]
 split<;>omega
theorem E6{a b:Int}(L: -9223372036854775808<=a+b)(O:a+b<9223372036854775808):Ar.ar .add .i64 a b=a+b:=Bt L O
def Ax3(l:Up α)(B:l.length<1000000000000)(step:S->OS (S⊕R))(mk:σ->Int->S)(body:σ->α->OS (σ⊕R))(fin:σ->R)
 (a:∀s (i:Nat) x,l[i]? =some x->step (mk s i)=(body s x).bind λo=>match o with| .inl h=>some (.inl (mk h (i+1)))| .inr r=>some (.inr r))
 (v:∀s,step (mk s l.length)=some (.inr (fin s))):
 ∀(k:Nat) (i:Nat) (s:σ) (N:Nat),i+k=l.length->k<N->loopN step N (mk s i)=(E8 body (l.drop i) s).bind λo=>match o with| .inl s=>some (fin s)| .inr r=>some r:=by
 intro k
 induction k with
 |zero=>
  intro i s N U g;obtain⟨N,rfl⟩:∃M,N=M+1:=⟨N-1,AY⟩;have e:l.drop i=[]:=DU AY
  have w:((i:Nat):Int)=l.length:=AY
  rw[e,w]
  grind[loopN,E8]
 | succ k ih=>
  intro i s N U g;obtain⟨N,rfl⟩:∃M,N=M+1:=⟨N-1,AY⟩
  have b:i<l.length:=AY
  have y:l[i]? =some l[i]:=by simp[b]
  have e:l.drop i=l[i]::l.drop (i+1):=P1 b;rw[e];simp only[loopN,a s i _ y,E8]
  cases K:body s l[i]with
  |none=>rfl
  | some o=>
   cases o with
   |inl h=>
    simp only[A4];have:=ih (i+1) h N AY AY;rw[show((i:Int)+1)=((i+1:Nat):Int) by omega];exact this
   |inr r=>rfl
theorem F3{l:Up α}{i:Nat}:C4 l (i:Int)=l[i]? :=by simp[C4]
def Ak0{β:Type}(l:Up α)(step:S->OS (Up β×(S⊕R)))(mk:σ->Int->S)(body:σ->α->OS (Up β×(σ⊕R)))(fin:σ->R)
 (a:∀s (i:Nat) x,l[i]? =some x->step (mk s i)=(body s x).bind λo=>match o with|(w,.inl h)=>some (w,.inl (mk h (i+1)))|(w,.inr r)=>some (w,.inr r))
 (v:∀s,step (mk s l.length)=some ([],.inr (fin s))):
 ∀(k:Nat) (i:Nat) (s:σ) (N:Nat),i+k=l.length->k<N->R7 step N (mk s i)=(Ca body (l.drop i) s).bind λo=>match o with|(w,.inl s)=>some (w,fin s)|(w,.inr r)=>some (w,r):=by
 intro k
 induction k with
 |zero=>
  intro i s N U g;obtain⟨N,rfl⟩:∃M,N=M+1:=⟨N-1,AY⟩;have e:l.drop i=[]:=DU AY
  have y:((i:Nat):Int)=l.length:=AY
  rw[e,y]
  grind[R7,Ca]
 | succ k ih=>
  intro i s N U g;obtain⟨N,rfl⟩:∃M,N=M+1:=⟨N-1,AY⟩
  have b:i<l.length:=AY
  have K:l[i]? =some l[i]:=by simp[b]
  have e:l.drop i=l[i]::l.drop (i+1):=P1 b;rw[e];simp only[R7,a s i _ K,Ca]
  cases V:body s l[i]with
  |none=>rfl
  | some o=>
   have⟨w,o⟩:=o
   cases o with
   |inl h=>
    simp only[A4];have:=ih (i+1) h N AY AY;rw[show((i:Int)+1)=((i+1:Nat):Int) by omega,this]
    grind
   |inr r=>rfl
def R6(l:Up α)(B:l.length<1000000000000){step:S->OS (S⊕R)}(mk:σ->Int->S)(body:σ->α->OS (σ⊕R))(fin:σ->R)(s:σ){N:Nat}(g:l.length<N)
 (a:∀s (i:Nat) x,l[i]? =some x->(i:Int)<l.length->step (mk s i)=(body s x).bind λo=>match o with| .inl k=>some (.inl (mk k (i+1)))| .inr r=>some (.inr r))
 (b:∀s,step (mk s l.length)=some (.inr (fin s))):loopN step N (mk s 0)=(E8 body l s).bind λo=>match o with| .inl s=>some (fin s)| .inr r=>some r:=by
 have:=Ax3 l B step mk body fin (λs i x h=>a s i x h (by
  grind)) b l.length 0 s N AY g
 simp_all
def XT{β:Type}(l:Up α){step:S->OS (Up β×(S⊕R))}(mk:σ->Int->S)(body:σ->α->OS (Up β×(σ⊕R)))(fin:σ->R)(s:σ){N:Nat}(g:l.length<N)
 (a:∀s (i:Nat) x,l[i]? =some x->(i:Int)<l.length->step (mk s i)=(body s x).bind λo=>match o with|(w,.inl k)=>some (w,.inl (mk k (i+1)))|(w,.inr r)=>some (w,.inr r))
 (b:∀s,step (mk s l.length)=some ([],.inr (fin s))):R7 step N (mk s 0)=(Ca body l s).bind λo=>match o with|(w,.inl s)=>some (w,fin s)|(w,.inr r)=>some (w,r):=by
 have:=Ak0 l step mk body fin (λs i x h=>a s i x h (by
  grind)) b l.length 0 s N AY g
 simp_all
def Dv {α σ R:Type} {step:σ->α->OS (σ⊕R)} (I:Up α->σ->Prop) (G:∀x r s,I (x::r) s->∃a,step s x=some (.inl a)/\I r a):∀{l:Up α} {s:σ},I l s->∃a,E8 step l s=some (.inl a)/\I [] a
 |[],s,h=>⟨s,rfl,h⟩
 |x::l,s,h=>by
  have⟨a,O,Z⟩:=G x l s h;have⟨i,T,b⟩:=Dv I G Z
  simp_all[E8]
def Xz {α β σ R:Type} {step:σ->α->OS (Up β×(σ⊕R))} (I:Up α->Up β->σ->Prop) (G:∀x r w s,I (x::r) w s->∃w' a,step s x=some (w',.inl a)/\I r (w++w') a):
 ∀{l:Up α} {w:Up β} {s:σ},I l w s->∃w' a,Ca step l s=some (w',.inl a)/\I [] (w++w') a
 |[],w,s,h=>⟨[],s,rfl,Pw⟩
 |x::l,w,s,h=>by
  have⟨k,A,O,Z⟩:=G x l w s h;have⟨v,i,T,b⟩:=Xz I G Z
  grind[Ca]
def Ef {α:Type}(f:α->Int):Up α->Int
 |[]=>0
 |x::l=>if f x=0 then Ef f l else f x
def II {α:Type} {f:α->Int}:∀{l:Up α},Ef f l=0<->∀x∈l,f x=0
 |[]=>by simp[Ef]
 |x::l=>by
  unfold Ef
  split
  ·rename_i h;rw[II];simp[h]
  simp_all
def VT {α:Type} {f:α->Int}:∀{l m:Up α},Ef f (l++m)=if Ef f l=0 then Ef f m else Ef f l
 |[],m=>by simp[Ef]
 |x::l,m=>by
  simp only[CW,Ef]
  split
  ·rw[VT]
  omega
def ZY {α:Type} {F:α->OS Int} {f:α->Int}:∀{l:Up α},(∀x∈l,F x=some (f x))->
 E8 (λ(_:Unit) x=>(F x).bind λr=>if Ar.cmp .neq r 0=true then some (Sum.inr r)else some (.inl ())) l ()=some (if Ef f l=0 then .inl ()else .inr (Ef f l))
 |[],_=>rfl
 |x::l,h=>by
  have O:=ZY (l:=l) λy I=>h y (by simp[I]);unfold E8;simp only[h x OC,A4,H7,Ef]
  by_cases Y:f x=0
  ·simp_all[H7]
  simp[Y]
noncomputable def Mi(F:α->OS Int)(_:Unit)(a:α):OS (Unit⊕(Unit⊕Int)):=(F a).bind λr=>if Ar.cmp .neq r 0=true then some (.inr (.inr r))else some (.inl ())
def IT {α:Type} {F:α->OS Int} {f:α->Int}:∀{l:Up α},(∀x∈l,F x=some (f x))->E8 (Mi F) l ()=some (if Ef f l=0 then .inl ()else .inr (.inr (Ef f l)))
 |[],_=>rfl
 |x::l,h=>by
  have O:=IT (l:=l) λy I=>h y (by simp[I]);unfold E8 Mi;simp only[h x OC,A4,H7,Ef]
  by_cases Y:f x=0
  ·simp only[Y,H8,W3,D4,B6,B4];exact O
  simp[Y]
end Go.Ab
namespace Go.Ab
open Go.RowKit Go.ChangeShapes Go.WideShapes
variable [O7]
section
variable {H α:Type}{enc:TypeId×Value->H}{P:Program}{W:World}{base:Nat}{spare:Nat->Bool}{held:Bool}{t e:TypeId}{n:Nat}
def ZT {cs:Up HO} {sz:Nat} {f:α->V}:∀(l:Up α) (o:Nat),(∀(i:Nat) a,l[i]? =some a->IN (g0 W) W ((cs.drop (o+i*sz)).take sz) (f a).cells)->IN (g0 W) W ((cs.drop o).take (l.length*sz)) (l.flatMap λa=>(f a).cells)
 |[],o,_=>by simp;exact .nil _ _
 | a::l,o,h=>by
  have L:=h 0 a rfl
  rw[Nat.zero_mul,Cw]at L
  have O:=ZT l (o+sz) λi b U=>by
   have:=h (i+1) b Pw
   rwa[show o+(i+1)*sz=o+sz+i*sz by rw[F9];omega]at this
  have:=L.join O;rw[K8,DT,show(l.length+1)*sz=sz+l.length*sz by rw[F9];omega];exact this
def Av3 {f:α->V} {R:α->DataW H->Prop} {m:Nat} (o:P.underlying t=some (.array m e)) (K:P.cellsOf t=m*P.cellsOf e) (p:0<m) (N:∀n,Opens enc P W base spare held e f R n) {cs:Up HO} {x:DataW H×Up MemPlace}
 (h:DataW.trod enc P W base spare held n t cs=some x):∃l:Up α,IN (g0 W) W cs (l.flatMap λa=>(f a).cells)/\∃ds,x.1= .agg ds/\RL R l ds:=by
 cases n with
 |zero=>simp[DataW.trod]at h
 | succ n=>
  simp only[DataW.trod,o]at h
  split at h
  ·rename_i B;obtain⟨xs,k,rfl⟩:=Option.map_eq_some_iff.1 h
   have r:xs.length=m:=by simpa using mapM_some_length k
   have one:∀i,i<m->∃b,IN (g0 W) W ((cs.drop (i*P.cellsOf e)).take (P.cellsOf e)) (f b).cells/\∀y,xs[i]? =some y->R b y.1:=by
    intro i U;have O:=mapM_some_get k i i (by simp[U])
    have Z:xs[i]? =some (xs[i]' AY):=Pw
    rw[Z]at O
    have⟨b,Q,C⟩:=N n _ _ O
    grind
   have⟨v,_⟩:=one 0 p
   haveI:Inhabited α:=⟨v⟩
   have⟨A,c⟩:=Deep.choose_lt one
   have w:∀(i:Nat) a,((List.range m).map A)[i]? =some a->i<m/\a=A i:=λi a U=>by
    grind
   refine⟨(List.range m).map A,?_,_,rfl,by simp[r],λi a d U hd=>?_⟩
   ·have:=ZT (cs:=cs) (sz:=P.cellsOf e) (f:=f) (W:=W) ((List.range m).map A) 0 (λi a U=>by
     grind)
    grind
   grind
  cases h
def Az1 {g:Nat} {cs:SI HO} {xs:Up V} {a:String} (b:P.globalNamed a=some g) (h:W.var? P a=some cs) (Q:IN (g0 W) W cs.toList xs):VR (g0 W) W (.pointer (some ⟨g,0,none⟩)) (.eref xs 0):=by
 have cell:∀j,j<xs.length->W.cell? ⟨g,0+j,none⟩=some (cs.toList.getD j undef):=λj z=>by
  have O:=World.var?_cell b h j
  have Z:j<cs.size:=by have:=Q.1;simp_all
  rw[P0,O]
  simp_all
 exact .eref (g:=g0 W) (o:=0) (off:=0) (λj=>cs.toList.getD j undef) (λj z=>(⟨_,cell j z⟩:∃v,W.cell? ⟨g,0+j,none⟩=some v)) (λj z=>cell j z) (λj z=>(Q.2 j z).1) λj z=>(Q.2 j z).2
end
section
variable {H:Type}{enc:TypeId×Value->H}{P:Program}{W:World}{base:Nat}{spare:Nat->Bool}{held:Bool}{t e:TypeId}{n:Nat}
end
end Go.Ab
namespace Go.Ab
structure FU where
 Var:Int
 At:Int
mutual
def A8.bulk:A8->Nat
 |⟨_,args,_,_,_,v⟩=>A8.bulks args+v.Text.size+9
def A8.bulks:Up A8->Nat
 |[]=>1
 |a::r=>A8.bulk a+A8.bulks r
end
mutual
def A0.bulk:A0->Nat
 |⟨_,args,_,_,_,_,c⟩=>A0.bulks args+A8.bulk c+6
def A0.bulks:Up A0->Nat
 |[]=>1
 |a::r=>A0.bulk a+A0.bulks r
end
mutual
def A8.pre:A8->Up A8
 |⟨h,args,var,field,a,b⟩=>⟨h,args,var,field,a,b⟩::A8.pres args
def A8.pres:Up A8->Up A8
 |[]=>[]
 |a::r=>A8.pre a++A8.pres r
end
mutual
def A8.dep:A8->Nat
 |⟨_,args,_,_,_,_⟩=>A8.deps args+1
def A8.deps:Up A8->Nat
 |[]=>0
 |a::r=>max (A8.dep a) (A8.deps r)
end
mutual
def A0.pre:A0->Up A0
 |⟨b,args,a,var,scope,span,c⟩=>⟨b,args,a,var,scope,span,c⟩::A0.pres args
def A0.pres:Up A0->Up A0
 |[]=>[]
 |a::r=>A0.pre a++A0.pres r
end
mutual
def A0.dep:A0->Nat
 |⟨_,args,_,_,_,_,_⟩=>A0.deps args+1
def A0.deps:Up A0->Nat
 |[]=>0
 |a::r=>max (A0.dep a) (A0.deps r)
end
theorem A8.pre_eq (x:A8):x.pre=x::A8.pres x.dT:=by cases x;simp[A8.pre]
theorem A0.pre_eq (x:A0):x.pre=x::A0.pres x.dT:=by cases x;grind[A0.pre]
theorem A8.dep_eq (x:A8):x.dep=A8.deps x.dT+1:=by cases x;simp[A8.dep]
theorem A0.dep_eq (x:A0):x.dep=A0.deps x.dT+1:=by cases x;grind[A0.dep]
theorem A8.bulk_eq (x:A8):x.bulk=A8.bulks x.dT+x.Value.Text.size+9:=by cases x;simp[A8.bulk]
theorem A0.bulk_eq (x:A0):x.bulk=A0.bulks x.dT+x.dU.bulk+6:=by cases x;grind[A0.bulk]
def WB:∀(l:Up A8),(∀a∈l,A8.bulk a<=A8.bulks l)/\l.length<=A8.bulks l
 |[]=>⟨λa h=>by simp at h,TQ⟩
 |b::l=>by
  have h:=WB l;have i:=A8.bulk_eq b
  grind[A8.bulks]
def WA:∀(l:Up A0),(∀a∈l,A0.bulk a<=A0.bulks l)/\l.length<=A0.bulks l
 |[]=>⟨λa h=>by simp at h,TQ⟩
 |b::l=>by
  have h:=WA l;have i:=A0.bulk_eq b
  grind[A0.bulks]
mutual
def AJ7:∀x:A8,x.pre.length<=x.bulk
 |⟨h,args,var,field,a,b⟩=>by
  have:=Mq args
  grind[A8.pre,A8.bulk]
def Mq:∀l:Up A8,(A8.pres l).length<=A8.bulks l
 |[]=>by simp[A8.pres]
 |a::l=>by
  have O:=AJ7 a;have Z:=Mq l
  grind[A8.pres,A8.bulks]
end
mutual
def KU:∀x:A0,x.pre.length<=x.bulk
 |⟨b,args,a,var,scope,span,c⟩=>by
  have:=Jz args
  grind[A0.pre,A0.bulk]
def Jz:∀l:Up A0,(A0.pres l).length<=A0.bulks l
 |[]=>by grind[A0.pres]
 |a::l=>by
  have O:=KU a;have Z:=Jz l
  grind[A0.pres,A0.bulks]
end
mutual
def YB:∀x:A8,x.dep<=x.bulk
 |⟨h,args,var,field,a,b⟩=>by
  have:=MD args
  grind[A8.dep,A8.bulk]
def MD:∀l:Up A8,A8.deps l<=A8.bulks l
 |[]=>by simp[A8.deps]
 |a::l=>by
  have O:=YB a;have Z:=MD l
  grind[A8.deps,A8.bulks]
end
mutual
def AO3:∀x:A0,x.dep<=x.bulk
 |⟨b,args,a,var,scope,span,c⟩=>by
  have:=MC args
  grind[A0.dep,A0.bulk]
def MC:∀l:Up A0,A0.deps l<=A0.bulks l
 |[]=>by grind[A0.deps]
 |a::l=>by
  have O:=AO3 a;have Z:=MC l
  grind[A0.deps,A0.bulks]
end
def Cut (lim:Int)(cnt:Nat)(r:Int):Prop:=1<=r/\r<=cnt/\(r=cnt\/lim<r)
section
variable {α:Type}
def PN {lim:Int} {f:α->OS Int} {cnt:α->Nat} {B:Nat} (i:B<=1000000000000):∀(l:Up α) (s:Int),0<=s->s+(l.map cnt).sum<=B->(∀a∈l,∃r,f a=some r/\Cut lim (cnt a) r)->
 ∃o,E8 (λ(s:Int) x=>if s<=lim then(f x).bind λr=>some (.inl (Ar.ar .add .i64 s r))else some (.inr s)) l s=some o/\
  ∃v,v=(match o with| .inl s=>s| .inr s=>s)/\s<=v/\v<=s+(l.map cnt).sum/\(v=s+(l.map cnt).sum\/lim<v)
 |[],s,L,_,_=>⟨.inl s,rfl,s,rfl,T9 _,OC,.inl OC⟩
 | a::l,s,L,h,q=>by
  simp only[D2,LH]at h ⊢
  unfold E8
  by_cases G:s<=lim
  ·have⟨r,O,Z,T,k⟩:=q a OC;simp only[A2 G,O,A4];have e:Ar.ar .add .i64 s r=s+r:=E6 AY AY;rw[e];have⟨o,w,v,y,K,N,V⟩:=PN i l (s+r) AY AY λb h=>q b (by simp[h])
   grind
  simp only[A1 G]
  grind
end
def Ru:∀l:Up A0,(l.map λa=>a.pre.length).sum=(A0.pres l).length
 |[]=>rfl
 |a::l=>by simp[A0.pres,Ru l]
def Rv:∀l:Up A8,(l.map λa=>a.pre.length).sum=(A8.pres l).length
 |[]=>rfl
 |a::l=>by simp[A8.pres,Rv l]
def Ap6 {N:Nat} (g:TB N) (lim:Int):∀(n:Nat) (x:A0),x.bulk<=n->x.bulk<=16777216->∃r,CD N n x lim=some r/\Cut lim x.pre.length r:=by
 intro n
 induction n with
 |zero=>grind[A0.bulk_eq]
 | succ n ih=>
  intro x M V;have l:=A0.bulk_eq x;have b:=WA x.dT;have h:=Jz x.dT;unfold CD;rw[R6 x.dT AY (mk:=λ(s:Int) i=>(s,i)) (body:=λ(s:Int) a=>if s<=lim then(CD N n a lim).bind λr=>some (.inl (Ar.ar .add .i64 s r))else some (.inr s)) (fin:=λs=>s) (s:=1) AY ?_ ?_]
  ·have⟨o,w,v,c,d,y,K⟩:=PN (lim:=lim) (f:=λa=>CD N n a lim) (cnt:=λa=>a.pre.length) (B:=40000000) AY x.dT 1 AY (by rw[Ru];omega) λa u=>ih a (by have:=b.1 a u;omega) (by have:=b.1 a u;omega)
   rw[Ru]at y K
   have k:x.pre.length=(A0.pres x.dT).length+1:=by rw[A0.pre_eq];rfl
   simp only[w,A4];refine⟨v,?_,AY,AY,?_⟩
   ·cases o<;>simp_all
   omega
  ·intro s i a u U;have e:Ar.ar .add .i64 (i:Int) 1=i+1:=E6 AY AY;simp only[B8,Gv,Q4,A9,U,H8,LG,F3,u,A4,e,B3]
   grind
  grind[B8,Q4,A9]
end Go.Ab
namespace Go.Ab
variable{N:Nat}{R S α:Type}{a:Int}{x:A0}
def Fh{a:A0}(h:a∈x.dT):a.bulk<x.bulk:=by
 have O:=(WA x.dT).1 a h;have Z:=A0.bulk_eq x;omega
def Ag{x a:A8}(h:a∈x.dT):a.bulk<x.bulk:=by
 have O:=(WB x.dT).1 a h;have Z:=A8.bulk_eq x;omega
def Nu (x:A0):x.dT.length<=x.bulk:=by
 have O:=(WA x.dT).2;have Z:=A0.bulk_eq x;omega
def NV (x:A8):x.dT.length<=x.bulk:=by
 have O:=(WB x.dT).2;have Z:=A8.bulk_eq x;omega
theorem Lo (x:A0):0<x.bulk:=by have:=A0.bulk_eq x;omega
theorem Fp (x:A8):0<x.bulk:=by have:=A8.bulk_eq x;omega
def BC5(g:TB N):∀(n:Nat) (x:A0),x.bulk<=n->x.bulk<=16777216->CF N n x=some (x.dep:Int):=by
 intro n
 induction n with
 |zero=>grind[Lo]
 | succ n ih=>
  intro x M k;have B:=Nu x;unfold CF;rw[R6 x.dT AY (mk:=λ(s:Int) i=>(s,i)) (body:=λ(s:Int) a=>(CF N n a).bind λr=>some (.inl (Ar.mx s r))) (fin:=λs=>s) (s:=0) AY ?_ ?_]
  ·have⟨K,w,y⟩:=Dv (R:=Int) (step:=λ(s:Int) a=>(CF N n a).bind λr=>some (.inl (Ar.mx s r))) (λr s=>(∀a∈r,a∈x.dT)/\0<=s/\max s (A0.deps r:Int)=(A0.deps x.dT:Int)) (λa r s ⟨O,Z,T⟩=>by
    have p:=Fh (O a OC);refine⟨_,by rw[ih a AY AY];rfl,λb k=>O b (by simp[k]),?_,?_⟩
    ·rw[MP];split<;>omega
    grind[MP,A0.deps]) (l:=x.dT) (s:=0) ⟨λa h=>h,T9 _,AY⟩
   simp only[w,A4]
   have e:K=(A0.deps x.dT:Int):=by have:=y.2.2;grind[A0.deps]
   have hd:=MC x.dT;have v:=A0.bulk_eq x;rw[e,E6 AY AY,A0.dep_eq];rfl
  ·intro s i a u U;have e:Ar.ar .add .i64 (i:Int) 1=i+1:=E6 AY AY;simp only[B8,A9,U,H8,B4,F3,u,A4,e];cases CF N n a<;>rfl
  grind[B8,A9]
theorem T6{l m:Up α}(h:l.length+m.length<=1073741824):K2 l m=some (l++m):=by simp[K2,h]
def Av6(g:TB N):∀(n:Nat) (x:A0),x.bulk<=n->x.bulk<=16777216->CE N n x=some x.pre:=by
 intro n
 induction n with
 |zero=>grind[Lo]
 | succ n ih=>
  intro x M v;have B:=Nu x;unfold CE;rw[R6 x.dT AY (mk:=λ(s:List A0) i=>(s,i)) (body:=λ(s:List A0) a=>(CE N n a).bind λr=>(K2 s r).bind λl=>some (.inl l)) (fin:=λs=>s) (s:=[x]) AY ?_ ?_]
  ·have f:=KU x;have b:=A0.pre_eq x
   have⟨K,w,y⟩:=Dv (R:=Up A0) (step:=λ(s:Up A0) a=>(CE N n a).bind λr=>(K2 s r).bind λl=>some (.inl l)) (λr s=>(∀a∈r,a∈x.dT)/\s++A0.pres r=x.pre) (λa r s ⟨O,Z⟩=>by
    have p:=Fh (O a OC);have k:=J8 List.length Z
    grind[A0.pres,T6]) (l:=x.dT) (s:=[x]) ⟨λa h=>h,by rw[b];rfl⟩
   grind[A0.pres]
  ·intro s i a u U;have e:Ar.ar .add .i64 (i:Int) 1=i+1:=E6 AY AY;simp only[B8,A9,U,H8,B4,F3,u,A4,e]
   grind
  grind[B8,A9]
def BH9(g:TB N):∀(n:Nat) (x:A0),x.bulk<=n->x.bulk<=16777216->BG N n x=some ((x.pre.length:Int),(x.dep:Int)):=by
 intro n
 induction n with
 |zero=>grind[Lo]
 | succ n ih=>
  intro x M y;have B:=Nu x;unfold BG;rw[R6 x.dT AY (mk:=λ(s:Int×Int) i=>(s.1,s.2,i)) (body:=λ(s:Int×Int) a=>(BG N n a).bind λr=>some (.inl (Ar.ar .add .i64 s.1 r.1,Ar.mx s.2 r.2))) (fin:=λs=>s) (s:=(1,0)) AY ?_ ?_]
  ·have f:=Jz x.dT;have hd:=MC x.dT;have b:=A0.bulk_eq x
   have⟨V,k,K⟩:=Dv (R:=Int×Int) (step:=λ(s:Int×Int) a=>(BG N n a).bind λr=>some (.inl (Ar.ar .add .i64 s.1 r.1,Ar.mx s.2 r.2))) (λr s=>(∀a∈r,a∈x.dT)/\0<=s.2/\0<=s.1/\s.1+(A0.pres r).length=(A0.pres x.dT).length+1/\max s.2 (A0.deps r:Int)=(A0.deps x.dT:Int)) (λa r s ⟨O,Z,T,v,w⟩=>by
    have p:=Fh (O a OC)
    grind[A0.pres,A0.deps,MP,E6]) (l:=x.dT) (s:=(1,0)) ⟨λa h=>h,OC,OC,AY,AY⟩
   simp only[k,A4]
   grind[A0.pres,A0.deps,A0.pre_eq,E6,A0.dep_eq]
  ·intro s i a u U;have e:Ar.ar .add .i64 (i:Int) 1=i+1:=E6 AY AY;simp only[B8,A9,U,H8,B4,F3,u,A4,e];cases BG N n a<;>rfl
  grind[B8,A9]
def BG9(g:TB N):∀(n:Nat) (x:A0),x.bulk<=n->x.bulk<=16777216->BF N n x=some x.pre:=by
 intro n
 induction n with
 |zero=>grind[Lo]
 | succ n ih=>
  intro x M k;have B:=Nu x;unfold BF;rw[XT x.dT (mk:=λ(_:Unit) i=>i) (body:=λ(_:Unit) a=>(BF N n a).bind λl=>some (l,.inl ())) (fin:=λ_=>()) (s:=()) AY ?_ ?_]
  ·have⟨w,K,v,y⟩:=Xz (R:=Unit) (step:=λ(_:Unit) a=>(BF N n a).bind λl=>some (l,.inl ())) (λr w s=>(∀a∈r,a∈x.dT)/\w++A0.pres r=A0.pres x.dT) (λa r w s ⟨O,Z⟩=>by
    have p:=Fh (O a OC);refine⟨a.pre,(),by rw[ih a AY AY];rfl,λb k=>O b (by simp[k]),?_⟩
    rw[<-Z];grind[A0.pres]) (l:=x.dT) (w:=[]) (s:=()) ⟨λa h=>h,OC⟩
   have e:w=A0.pres x.dT:=by have:=y.2;grind[A0.pres]
   rw[v,e,A0.pre_eq];simp[I1]
  ·intro s i a u U;have e:Ar.ar .add .i64 (i:Int) 1=i+1:=E6 AY AY;simp only[B8,A9,U,H8,B4,F3,u,A4,e];cases BF N n a<;>simp[I1]
  grind[B8,A9]
def AB7(g:TB N)(lim:Int):∀(n:Nat) (x:A8),x.bulk<=n->x.bulk<=16777216->∃r,BM N n x lim=some r/\Cut lim x.pre.length r:=by
 intro n
 induction n with
 |zero=>grind[Fp]
 | succ n ih=>
  intro x M V;have l:=A8.bulk_eq x;have b:=WB x.dT;have h:=Mq x.dT;unfold BM;rw[R6 x.dT AY (mk:=λ(s:Int) i=>(s,i)) (body:=λ(s:Int) a=>if s<=lim then(BM N n a lim).bind λr=>some (.inl (Ar.ar .add .i64 s r))else some (.inr s)) (fin:=λs=>s) (s:=1) AY ?_ ?_]
  ·have⟨o,w,v,c,d,y,K⟩:=PN (lim:=lim) (f:=λa=>BM N n a lim) (cnt:=λa=>a.pre.length) (B:=40000000) AY x.dT 1 AY (by rw[Rv];omega) λa u=>ih a (by have:=b.1 a u;omega) (by have:=b.1 a u;omega)
   rw[Rv]at y K
   have k:x.pre.length=(A8.pres x.dT).length+1:=by rw[A8.pre_eq];rfl
   simp only[w,A4];refine⟨v,?_,AY,AY,?_⟩
   ·cases o<;>simp_all
   omega
  ·intro s i a u U;have e:Ar.ar .add .i64 (i:Int) 1=i+1:=E6 AY AY;simp only[B8,Gv,Q4,A9,U,H8,LG,F3,u,A4,e,B3]
   grind
  grind[B8,Q4,A9]
def AO2(g:TB N):∀(n:Nat) (x:A8),x.bulk<=n->x.bulk<=16777216->CG N n x=some (x.dep:Int):=by
 intro n
 induction n with
 |zero=>grind[Fp]
 | succ n ih=>
  intro x M k;have B:=NV x;unfold CG;rw[R6 x.dT AY (mk:=λ(s:Int) i=>(s,i)) (body:=λ(s:Int) a=>(CG N n a).bind λr=>some (.inl (Ar.mx s r))) (fin:=λs=>s) (s:=0) AY ?_ ?_]
  ·have⟨K,w,y⟩:=Dv (R:=Int) (step:=λ(s:Int) a=>(CG N n a).bind λr=>some (.inl (Ar.mx s r))) (λr s=>(∀a∈r,a∈x.dT)/\0<=s/\max s (A8.deps r:Int)=(A8.deps x.dT:Int)) (λa r s ⟨O,Z,T⟩=>by
    have p:=Ag (O a OC);refine⟨_,by rw[ih a AY AY];rfl,λb k=>O b (by simp[k]),?_,?_⟩
    ·rw[MP];split<;>omega
    grind[MP,A8.deps]) (l:=x.dT) (s:=0) ⟨λa h=>h,T9 _,AY⟩
   simp only[w,A4]
   have e:K=(A8.deps x.dT:Int):=by have:=y.2.2;grind[A8.deps]
   have hd:=MD x.dT;have v:=A8.bulk_eq x;rw[e,E6 AY AY,A8.dep_eq];rfl
  ·intro s i a u U;have e:Ar.ar .add .i64 (i:Int) 1=i+1:=E6 AY AY;simp only[B8,A9,U,H8,B4,F3,u,A4,e];cases CG N n a<;>rfl
  grind[B8,A9]
def Be2(g:TB N):∀(n:Nat) (x:A8),x.bulk<=n->x.bulk<=16777216->FI N n x=some ((x.pre.length:Int),(x.dep:Int)):=by
 intro n
 induction n with
 |zero=>grind[Fp]
 | succ n ih=>
  intro x M y;have B:=NV x;unfold FI;rw[R6 x.dT AY (mk:=λ(s:Int×Int) i=>(s.1,s.2,i)) (body:=λ(s:Int×Int) a=>(FI N n a).bind λr=>some (.inl (Ar.ar .add .i64 s.1 r.1,Ar.mx s.2 r.2))) (fin:=λs=>s) (s:=(1,0)) AY ?_ ?_]
  ·have f:=Mq x.dT;have hd:=MD x.dT;have b:=A8.bulk_eq x
   have⟨V,k,K⟩:=Dv (R:=Int×Int) (step:=λ(s:Int×Int) a=>(FI N n a).bind λr=>some (.inl (Ar.ar .add .i64 s.1 r.1,Ar.mx s.2 r.2))) (λr s=>(∀a∈r,a∈x.dT)/\0<=s.2/\0<=s.1/\s.1+(A8.pres r).length=(A8.pres x.dT).length+1/\max s.2 (A8.deps r:Int)=(A8.deps x.dT:Int)) (λa r s ⟨O,Z,T,v,w⟩=>by
    have p:=Ag (O a OC)
    grind[A8.pres,A8.deps,MP,E6]) (l:=x.dT) (s:=(1,0)) ⟨λa h=>h,OC,OC,AY,AY⟩
   simp only[k,A4]
   grind[A8.pres,A8.deps,A8.pre_eq,E6,A8.dep_eq]
  ·intro s i a u U;have e:Ar.ar .add .i64 (i:Int) 1=i+1:=E6 AY AY;simp only[B8,A9,U,H8,B4,F3,u,A4,e];cases FI N n a<;>rfl
  grind[B8,A9]
def AD4 {f:A8->Int}:∀l:Up A8,Ef (λa=>Ef f a.pre) l=Ef f (A8.pres l)
 |[]=>rfl
 |a::l=>by rw[A8.pres,VT,Ef,AD4 l]
theorem SF {a y:A8} (I:y∈a.pre):∀l:Up A8,a∈l->y∈A8.pres l
 |[],h=>by simp at h
 |b::l,h=>by
  rcases List.mem_cons.1 h with rfl|h
  ·grind[A8.pres]
  simp[A8.pres,SF I l h]
def Bp6(g:TB N){F:A8->OS Int}{f:A8->Int}:∀(n:Nat) (x:A8),x.bulk<=n->x.bulk<=16777216->(∀y∈x.pre,F y=some (f y))->GK N n x F=some (Ef f x.pre):=by
 intro n
 induction n with
 |zero=>grind[Fp]
 | succ n ih=>
  intro x M k h;have B:=NV x;have b:=A8.pre_eq x;unfold GK;rw[h x (by rw[b];simp)];simp only[A4,H7];rw[b,Ef]
  by_cases Y:f x=0
  ·simp only[Y,H8,W3,D4,B6,B4];rw[R6 x.dT AY (mk:=λ(_:Unit) i=>i) (body:=Mi λa=>GK N n a F) (fin:=λ_=>.inl ()) (s:=()) AY ?_ ?_]
   ·rw[IT (f:=λa=>Ef f a.pre) λa u=>ih a (by have:=Ag u;omega) (by have:=Ag u;omega) λy I=>h y (by rw[b];grind[SF]),AD4]
    grind
   ·intro s i a u U;have e:Ar.ar .add .i64 (i:Int) 1=i+1:=E6 AY AY;simp only[B8,A9,U,H8,B4,F3,u,A4,e,Mi,H7]
    grind
   grind[B8,A9]
  simp[Y]
theorem WM{a b:Uf}:a.toList=b.toList<->a=b:=by
 rw[ByteArray.toList_eq,ByteArray.toList_eq]
 constructor
 ·intro h;have⟨⟨a⟩⟩:=a
  simp_all
 simp_all
theorem Xi (a b:Uf):Ar.scmp .neq a b= !decide (a=b):=by
 show(!(a.toList==b.toList))=_
 grind[WM]
def Hp (a b:Uf):Ar.scmp .eql a b=decide (a=b):=by
 show(a.toList==b.toList)=_
 grind[WM]
def Cb6 (N:Nat)(a:Int):NZ N a=some (if a<0\/12<a then(0,false)else if a<5 then(0,true)else if a=12 then(1,true)else(2,true)):=by
 unfold NZ;simp only[B8,N5,D8,Q8,L7,B3]
 grind
def Cg0 (N:Nat)(a:Int):QN N a=some (decide (a=1\/a=2\/a=3\/a=4),decide (a=1\/a=4)):=by
 unfold QN;simp only[D8,B3]
 grind
def R5 (v:B2):Int:=
 if v.Kind=0\/v.Kind=1 then
  if v.Text≠⟨#[]⟩then 3
  else if v.Kind=0/\(v.Num< -1099511627776\/1099511627776<v.Num)\/v.Kind=1/\v.Num≠0/\v.Num≠1 then 2 else 0
 else if v.Kind=2 then(if v.Num≠0 then 3 else if 64<(v.Text.size:Int)then 13 else 0)else 1
def Pu (N:Nat) (v:B2):BL N v=some (R5 v):=by
 have⟨k,n,t⟩:=v;unfold BL NC R5;simp only[D8,H7,B8,N5,Q4,Q8,Xi,PB]
 by_cases L:k=0
 ·subst L
  by_cases o:t=⟨#[]⟩
  ·subst o
   by_cases O:n< -1099511627776\/1099511627776<n
   ·simp[O]
   simp[O];decide
  simp[o]
 by_cases O:k=1
 ·subst O
  by_cases o:t=⟨#[]⟩
  ·subst o
   by_cases Z:n=0
   ·simp[Z];decide
   by_cases T:n=1
   ·simp[T];decide
   simp_all
  simp[o]
 grind
def Bd0 (N:Nat)(v:B2):Mp N v=some (R5 v):=by
 have⟨k,n,t⟩:=v;unfold Mp R5;simp only[D8,H7,B8,N5,Q4,Q8,Xi,PB]
 grind
def Aq1 (N:Nat)(k:Int)(v:B2):Lj N k v=some (decide (v.Kind=0\/k=4\/k=5)):=by
 grind[Lj,D8,Q8]
def AS0 (a:Int):Bool:=decide (a=1\/a=2\/a=3\/a=4)
def AS1 (a:Int):Bool:=decide (a=1\/a=4)
noncomputable def Ov (x:A8):Bool:=Ar.or (Ar.an (AS0 x.Op) (Ar.or (Ar.cmp .lss x.Var 0) (Ar.cmp .geq x.Var 16))) (Ar.an (AS1 x.Op) (Ar.or (Ar.cmp .lss x.Field 0) (Ar.cmp .geq x.Field 8)))
noncomputable def Ab9 (x:A8):Bool:=Ar.an (Ar.cmp .eql x.Op 4) (Ar.or (Ar.cmp .lss x.Kind 1) (Ar.cmp .gtr x.Kind 5))
noncomputable def AR1 (v:B2):Bool:=Ar.an (Ar.cmp .eql v.Kind 0) (Ar.an (Ar.cmp .eql v.Num 0) (Ar.an (Ar.scmp .eql v.Text (⟨#[]⟩)) true))
noncomputable def WS (x:A8):Bool:=Ar.or (Ar.nt (decide (x.Value.Kind=0\/x.Kind=4\/x.Kind=5))) (Ar.an (Ar.cmp .eql x.Kind 1) (Ar.nt (AR1 x.Value)))
noncomputable def Ac0 (x:A8):Bool:=Ar.or (Ar.or (Ar.or (Ar.an (Ar.nt (AS0 x.Op)) (Ar.cmp .neq x.Var 0)) (Ar.an (Ar.nt (AS1 x.Op)) (Ar.cmp .neq x.Field 0))) (Ar.an (Ar.nt (Ar.cmp .eql x.Op 4)) (Ar.cmp .neq x.Kind 0))) (Ar.an (Ar.nt (Ar.or (Ar.cmp .eql x.Op 4) (Ar.cmp .eql x.Op 0))) (Ar.nt (AR1 x.Value)))
noncomputable def BJ (x:A8):Int:=
 if x.Op<0\/12<x.Op then 1
 else if(x.dT.length:Int)≠(if x.Op<5 then 0 else if x.Op=12 then 1 else 2)then 15
 else if Ov x=true then 2
 else if Ab9 x=true then 1
 else if(x.Op=4\/x.Op=0)/\R5 x.Value≠0 then R5 x.Value
 else if x.Op=4/\WS x=true then 9
 else if Ac0 x=true then 3 else 0
def Bv2 (N:Nat) (x:A8):KH N x=some (BJ x):=by
 unfold KH BJ;rw[Cb6,Cg0];simp only[A4]
 by_cases L:x.Op<0\/12<x.Op
 ·rw[A2 L,A2 L];rfl
 rw[A1 L,A1 L]
 have u:(if x.Op<5 then((0:Int),true)else if x.Op=12 then(1,true)else(2,true))=((if x.Op<5 then 0 else if x.Op=12 then 1 else 2),true):=by
  grind
 rw[u];rw[A1 (by simp[S4])]
 by_cases O:(x.dT.length:Int)≠(if x.Op<5 then 0 else if x.Op=12 then 1 else 2)
 ·rw[A2 O,A2 (by grind[H7,A9])]
 rw[A1 O,A1 (by grind[H7,A9])]
 change (if Ov x=true then some 2 else _)=_
 by_cases Z:Ov x=true
 ·rw[A2 Z,A2 Z]
 rw[A1 Z,A1 Z]
 change (if Ab9 x=true then some 1 else _)=_
 by_cases T:Ab9 x=true
 ·rw[A2 T,A2 T]
 rw[A1 T,A1 T];unfold Lk;rw[Pu]
 have e4:(Ar.or (Ar.cmp .eql x.Op 4) (Ar.cmp .eql x.Op 0)=true)<->(x.Op=4\/x.Op=0):=by grind[D8,Q8]
 have v:(Ar.cmp .eql x.Op 4=true)<->x.Op=4:=by simp[D8]
 by_cases b:x.Op=4\/x.Op=0
 ·rw[A2 (e4.2 b)];simp only[A4]
  by_cases i:R5 x.Value=0
  ·have l:¬(Ar.cmp .neq (R5 x.Value) 0=true):=by simp[H7,i]
   have r:¬((x.Op=4\/x.Op=0)/\R5 x.Value≠0):=λh=>h.2 i;rw[A1 l,A1 r]
   by_cases a:x.Op=4
   ·rw[A2 (v.2 a),Aq1];simp only[A4]
    change (((if WS x=true then some 9 else some 0):OS Int).bind _).bind _=_
    by_cases k:WS x=true
    ·rw[A2 k,A2 (show x.Op=4/\WS x=true from⟨a,k⟩)];rfl
    rw[A1 k,A1 (show¬(x.Op=4/\WS x=true)from λh=>k h.2)]
    change (if Ac0 x=true then some 3 else some 0)=_
    grind
   rw[A1 (show¬(Ar.cmp .eql x.Op 4=true)from λh=>a (v.1 h)),A1 (show¬(x.Op=4/\WS x=true)from λh=>a h.1)]
   change (if Ac0 x=true then some 3 else some 0)=_
   grind
  have l:Ar.cmp .neq (R5 x.Value) 0=true:=by simp[H7,i]
  rw[A2 l,A2 (show(x.Op=4\/x.Op=0)/\R5 x.Value≠0 from⟨b,i⟩)]
  simp_all
 rw[A1 (show¬(Ar.or (Ar.cmp .eql x.Op 4) (Ar.cmp .eql x.Op 0)=true)from λh=>b (e4.1 h)),A1 (show¬((x.Op=4\/x.Op=0)/\R5 x.Value≠0)from λh=>b h.1)];have a:¬x.Op=4:=λe=>b (.inl e);rw[A1 (show¬(x.Op=4/\WS x=true)from λh=>a h.1)]
 change (if Ac0 x=true then some 3 else some 0)=_
 grind
def HF{b:Int}(h:b<a):Ar.cmp .gtr a b=true:=by rw[N5];simp_all
def Ek{b:Int}(h:¬b<a):¬(Ar.cmp .gtr a b=true):=by rw[N5];grind
theorem As{b:Int}(h:a≠b):Ar.cmp .neq a b=true:=by rw[H7];grind
def T4{b:Int}(h:a=b):¬(Ar.cmp .neq a b=true):=by rw[H7];grind
noncomputable def V0 (x:A8):Int:=if 64<x.pre.length then 5 else if 12<x.dep then 12 else Ef BJ x.pre
def QS(g:TB N){x:A8}(a:x.bulk<=16777216):IE N x=some (V0 x):=by
 unfold IE V0;rw[Be2 g N x AY a];simp only[A4]
 by_cases O:64<x.pre.length
 ·rw[A2 O,A2 (HF AY)]
 rw[A1 O,A1 (Ek AY)]
 by_cases Z:12<x.dep
 ·rw[A2 Z,A2 (HF AY)]
 rw[A1 Z,A1 (Ek AY),Bp6 g N x AY a λy _=>Bv2 N y];rfl
noncomputable def Yg (a b:A8):Bool:=Ar.or (Ar.or (Ar.or (Ar.or (Ar.or (Ar.cmp .neq a.Op b.Op) (Ar.cmp .neq a.Var b.Var)) (Ar.cmp .neq a.Field b.Field)) (Ar.cmp .neq a.Kind b.Kind)) (Ar.nt (Ar.an (Ar.cmp .eql a.Value.Kind b.Value.Kind) (Ar.an (Ar.cmp .eql a.Value.Num b.Value.Num) (Ar.an (Ar.scmp .eql a.Value.Text b.Value.Text) true))))) (Ar.cmp .neq (Ar.len a.dT) (Ar.len b.dT))
def Ud(g:TB N)(x:A8):∃b,Bg N N x (⟨0,[],0,0,0,(⟨0,0,⟨#[]⟩⟩:B2)⟩:A8)=some b:=by
 obtain⟨M,rfl⟩:∃M,N=M+1:=⟨N-1,AY⟩;rw[Bg];generalize Y:(⟨0,[],0,0,0,(⟨0,0,⟨#[]⟩⟩:B2)⟩:A8)=z
 change ∃b,(if Yg x z=true then some false else _)=some b
 by_cases h:Yg x z=true
 ·rw[A2 h];simp_all
 rw[A1 h]
 have a:x.dT.length=0:=by
  grind[Yg,Q8,H7,A9]
 have:x.dT=[]:=List.length_eq_zero_iff.1 a
 simp_all[loopN,B8,A9]
def Lz (u:Bool)(n m:Int):Bool:=u&&(decide (n<0)||decide (m<n))
def Kp (u:Bool)(n:Int):Bool:=u||decide (n=0)
def Qv (N:Nat)(u:Bool)(n m:Int):Cd N u n m=some (!Lz u n m):=by
 grind[Cd,Q8,Q4,S4,O0,Gv,Lz]
def Bd1 (N:Nat)(u:Bool)(n:Int):X8 N u n=some (Kp u n):=rfl
noncomputable def XE (s:V4)(x:A0)(sz:Bool):Int:=
 if Lz s.eE x.Typ 15=true then 2
 else if Lz s.eE x.Var 15=true then 2
 else if Lz s.scope x.dZ 63=true then 2
 else if Lz s.span x.Span 1099511627776=true then 2
 else if s.cond=true/\V0 x.dU≠0 then V0 x.dU
 else if(s.cond||sz)=true/\Kp s.eE x.Typ=true/\Kp s.eE x.Var=true/\Kp s.scope x.dZ=true/\Kp s.span x.Span=true then 0 else 3
structure WE (N:Nat) (x:A0) (s:V4) (ng:Bool):Prop where
 tab:C4 O3 x.Op=some s
 sco:s.scope=(ng||s.span)
def SJ (N:Nat) (x:A0) (L:0<=x.Op) (O:x.Op<=10) (B:x.dT.length<=64):∃s ng,WE N x s ng:=by
 have⟨a,args,b,var,scope,span,c⟩:=x
 simp only at L O B
 have h:a=0\/a=1\/a=2\/a=3\/a=4\/a=5\/a=6\/a=7\/a=8\/a=9\/a=10:=AY
 rcases h with h|h|h|h|h|h|h|h|h|h|h
 all_goals
  subst h
  first
  |exact⟨_,true,rfl,rfl⟩
  |exact⟨_,false,rfl,rfl⟩
def Cg8(L:0<=x.Op)(O:x.Op<=10):¬(Ar.or (Ar.cmp .lss x.Op 0) (Ar.cmp .geq x.Op 11)=true):=by
 simp only[Q8,B8,O0,L7,B3];omega
def Bu5(h:¬(0<=x.Op/\x.Op<=10)):Ar.or (Ar.cmp .lss x.Op 0) (Ar.cmp .geq x.Op 11)=true/\Ar.or (Ar.cmp .lss x.Op 0) (Ar.cmp .gtr x.Op 10)=true:=by
 simp only[Q8,B8,O0,N5,L7,B3];omega
def KK(g:TB N)(a:x.dU.bulk<=16777216)(L:0<=x.Op)(O:x.Op<=10){s:V4}{b:Bool}(G:WE N x s b){sz:Bool}
 (Y:Bg N N x.dU (⟨0,[],0,0,0,(⟨0,0,⟨#[]⟩⟩:B2)⟩:A8)=some sz):
 Z1 N x=some (if s.eJ<=x.dT.length/\(x.dT.length:Int)<=s.most then XE s x sz else 15):=by
 unfold Z1;rw[A1 (Cg8 L O),G.tab];simp only[A4]
 by_cases u:s.eJ<=x.dT.length/\(x.dT.length:Int)<=s.most
 ·rw [A2 u,A1 (by simp_all[Q8,B8,N5,A9])];rw[Qv,Qv,Qv,Qv,QS g a,Y];simp only[Bd1,A4];unfold XE;generalize Lz s.eE x.Typ 15=b1;generalize Lz s.eE x.Var 15=b2;generalize Lz s.scope x.dZ 63=b3;generalize Lz s.span x.Span 1099511627776=b4;generalize Kp s.eE x.Typ=c1;generalize Kp s.eE x.Var=c2;generalize Kp s.scope x.dZ=c3;generalize Kp s.span x.Span=c4;generalize V0 x.dU=ec
  cases b1 with
  |true=>rfl
  | false =>
   cases b2 with
   |true=>rfl
   | false =>
    cases b3 with
    |true=>rfl
    | false=>
     cases b4 with
     |true=>rfl
     | false=>
      cases s.cond with
      | false=>
       cases sz with
       |false=>rfl
       | true=>
        cases c1 with
        |false=>rfl
        | true=>
         cases c2 with
         |false=>rfl
         | true=>
          cases c3 with
          |false=>rfl
          |true=>
           cases c4<;>rfl
      | true=>
       by_cases R:ec=0
       ·subst R
        cases c1 with
        |false=>cases sz<;>rfl
        | true=>
         cases c2 with
         |false=>cases sz<;>rfl
         | true=>
          cases c3 with
          |false=>cases sz<;>rfl
          |true=>
           cases c4<;>cases sz<;>rfl
       grind[S4,As]
 rw[A1 u,A2 (by simp only[Q8,B8,N5,A9,L7,B3];omega)]
mutual
def IW:∀(x y:A0),y∈x.pre->y.bulk<=x.bulk/\y.pre.length<=x.pre.length
 |⟨b,args,a,var,scope,span,c⟩,y,h=>by
  rw[A0.pre]at h
  rcases List.mem_cons.1 h with rfl|h
  ·omega
  have:=XO args y h
  grind[A0.bulk,A0.pre]
def XO:∀(l:Up A0) (y:A0),y∈A0.pres l->y.bulk<=A0.bulks l/\y.pre.length<=(A0.pres l).length
 |[],y,h=>by grind[A0.pres]
 | a::l,y,h=>by
  rw[A0.pres]at h
  rcases List.mem_append.1 h with h|h
  ·have:=IW a y h
   grind[A0.bulks,A0.pres]
  have:=XO l y h
  grind[A0.bulks,A0.pres]
end
def Af2:∀l:Up A0,l.length<=(A0.pres l).length
 |[]=>C6 _
 |a::l=>by
  have:=Af2 l
  grind[A0.pres,A0.pre_eq]
def DG (x:A0):x.dT.length<x.pre.length:=by
 rw[A0.pre_eq];have:=Af2 x.dT;grind
noncomputable def Gn (N:Nat)(y:A0):Int:=(Z1 N y).getD 0
def ID(g:TB N){y:A0}(a:y.bulk<=16777216)(B:y.dT.length<=64):Z1 N y=some (Gn N y):=by
 have d:y.dU.bulk<=16777216:=by have:=A0.bulk_eq y;omega
 have key:∃r,Z1 N y=some r:=by
  by_cases h:0<=y.Op/\y.Op<=10
  ·have⟨s,b,G⟩:=SJ N y h.1 h.2 B;have⟨sz,Y⟩:=Ud g y.dU;exact⟨_,KK g d h.1 h.2 G Y⟩
  simp_all[Bu5,Z1]
 grind[Gn]
noncomputable def Q7 (N:Nat)(x:A0):Int:=if 64<x.pre.length then 5 else if 12<x.dep then 12 else Ef (Gn N) x.pre
def PO(g:TB N)(a:x.bulk<=16777216):BR N x=some x.pre:=by
 unfold BR Ec;rw[BG9 g N x AY a];simp[I1]
def Wm(g:TB N)(a:x.bulk<=16777216):N8 N x=some (Q7 N x):=by
 unfold N8 Q7;rw[BH9 g N x AY a];simp only[A4]
 by_cases O:64<x.pre.length
 ·rw[A2 O,A2 (HF AY)]
 rw[A1 O,A1 (Ek AY)]
 by_cases Z:12<x.dep
 ·rw[A2 Z,A2 (HF AY)]
 rw[A1 Z,A1 (Ek AY),PO g a];simp only[A4];rw[ZY (f:=Gn N) λy I=>(ID g (by have:=IW x y I;omega) (by have:=IW x y I;have:=DG y;omega))]
 grind
def Good (N:Nat)(x:A0):Prop:=∀y∈x.pre,Gn N y=0
theorem NF {a y:A0} (I:y∈a.pre):∀l:Up A0,a∈l->y∈A0.pres l
 |[],h=>by simp at h
 |b::l,h=>by
  rcases List.mem_cons.1 h with rfl|h
  ·grind[A0.pres]
  simp[A0.pres,NF I l h]
def Good.arg{a:A0}(h:Good N x)(u:a∈x.dT):Good N a:=λy I=>h y (by
 rw[A0.pre_eq];grind[NF])
def W1{a:A0}(u:a∈x.dT):a.pre.length<x.pre.length:=by
 have:=(XO x.dT a (NF (by rw[A0.pre_eq];simp) _ u)).2;rw[A0.pre_eq x];grind
def AP8(g:TB N){y:A0}(b:y.bulk<=16777216)(B:y.dT.length<=64)(h:Gn N y=0)(X:y.Op=1\/y.Op=7\/y.Op=8\/y.Op=9\/y.Op=10):∃a r,y.dT=a::r:=by
 have d:y.dU.bulk<=16777216:=by have:=A0.bulk_eq y;omega
 have⟨s,i,G⟩:=SJ N y AY AY B;have⟨sz,Y⟩:=Ud g y.dU;have O:=KK g d AY AY G Y
 rw[(ID g b B),h]at O
 have Z:s.eJ<=y.dT.length:=by
  have O:=CU O;omega
 have T:1<=s.eJ:=by
  have o:=G.tab
  rcases X with h|h|h|h|h<;>rw[h]at o<;>cases o<;>decide
 match R:y.dT,Z with
 |[],Z=>grind
 |a::r,_=>simp_all
def HT{b:Int}(h:a=b):Ar.cmp .eql a b=true:=by rw[D8];simp_all
def FJ{b:Int}(h:¬a=b):Ar.cmp .eql a b=false:=by rw[D8];simp_all
def Ag6 {α:Type} {F:α->OS Bool}:∀(l:Up α),(∀a∈l,∃b,F a=some b)->∃o,E8 (λ(_:Unit) a=>(F a).bind λr=>if Ar.nt r=true then some (Sum.inr (Sum.inr (α:=Unit) ()))else some (.inl ())) l ()=some o
 |[],_=>⟨_,rfl⟩
 |a::l,h=>by
  have⟨b,i⟩:=h a OC;unfold E8;rw[i]
  cases b with
  |false=>exact⟨_,rfl⟩
  |true=>exact Ag6 l λa u=>h a (by simp[u])
def Ns {S R:Type} {step:S->OS (S⊕R)} (I:Nat->S->Prop) (Q:R->Prop):∀(k i:Nat) (s:S) (N:Nat),k<N->I i s->
 (∀j s,i<=j->j<i+k->I j s->∃o,step s=some o/\(match o with| .inl l=>I (j+1) l| .inr r=>Q r))->
 (∀s,I (i+k) s->∃r,step s=some (.inr r)/\Q r)->∃r,loopN step N s=some r/\Q r
 |0,i,s,N,g,L,_,v=>by
  obtain⟨N,rfl⟩:∃M,N=M+1:=⟨N-1,AY⟩
  grind[loopN]
 | k+1,i,s,N,g,L,G,v=>by
  obtain⟨N,rfl⟩:∃M,N=M+1:=⟨N-1,AY⟩;have⟨o,O,Z⟩:=G i s (C6 _) AY L
  cases o with
  |inl l=>
   have⟨r,T,w⟩:=Ns I Q k (i+1) l N AY Z (λj s a b c=>G j s AY AY c) (λs h=>v s (by rw[show i+(k+1)=i+1+k by omega];exact h))
   simp_all[loopN]
  |inr r=>simp_all[loopN]
def Bx5{step:S->OS (S⊕R)}(st:Nat->S)(k:Nat)(r:R)(g:k<N)(G:∀j,j<k->step (st j)=some (.inl (st (j+1))))(b:step (st k)=some (.inr r)):loopN step N (st 0)=some r:=by
 have⟨a,O,Z⟩:=Ns (step:=step) (λi s=>s=st i) (λa=>a=r) k 0 (st 0) N g rfl (λj s _ h Z=>TQ) (λs h=>TQ);rw[O,Z]
def Ab1 {β S R:Type} {step:S->OS (Up β×(S⊕R))} (st:Nat->S) (f:Nat->Up β) (w:Up β) (r:R):∀(k i:Nat) {N:Nat},k<N->(∀j,i<=j->j<i+k->step (st j)=some (f j,.inl (st (j+1))))->step (st (i+k))=some (w,.inr r)->
 R7 step N (st i)=some ((List.range' i k).flatMap f++w,r)
 |0,i,N,g,_,h=>by
  obtain⟨N,rfl⟩:∃M,N=M+1:=⟨N-1,AY⟩
  simp_all[R7]
 |k+1,i,N,g,G,h=>by
  obtain⟨N,rfl⟩:∃M,N=M+1:=⟨N-1,AY⟩;have:=Ab1 st f w r k (i+1) (N:=N) AY (λj a b=>G j AY AY) (by rw[show i+1+k=i+(k+1) by omega];exact h)
  simp_all[R7,Ip]
def IA {α β:Type} {R:Type} {step:Unit->α->OS (Up β×(Unit⊕R))} (f:α->Up β):∀{l:Up α},(∀x∈l,step () x=some (f x,.inl ()))->Ca step l ()=some (l.flatMap f,.inl ())
 |[],_=>rfl
 |x::l,h=>by
  have:=IA f (l:=l) λy I=>h y (by simp[I])
  simp_all[Ca]
noncomputable instance :DecidableEq A8:=Classical.typeDecidableEq _
noncomputable instance :DecidableEq A0:=Classical.typeDecidableEq _
noncomputable instance :DecidableEq C5:=Classical.typeDecidableEq _
noncomputable instance :DecidableEq Cq:=Classical.typeDecidableEq _
noncomputable instance :DecidableEq A7:=Classical.typeDecidableEq _
theorem Cm{i:Nat}(h:i<1000000000000):Ar.ar .add .i64 (i:Int) 1=((i+1:Nat):Int):=by rw[E6 AY AY];omega
def Wz[DecidableEq α](l m:Up α)(B:l.length=m.length)(G:l.length<1000000000000)(f:α->α->OS Bool)(q:∀x∈l,∀y∈m,f x y=some (decide (x=y)))(g:l.length<N):
 loopN (λ(i:Int)=>if Ar.cmp .lss i (Ar.len l)=true then(C4 l i).bind λx=>(C4 m i).bind λy=>(f x y).bind λr=>if Ar.nt r=true then some (Sum.inr (Sum.inr (α:=Unit) ()))else some (.inl (Ar.ar .add .i64 i 1))else some (.inr (.inl ()))) N 0=some (if l=m then .inl ()else .inr ()):=by
 have⟨r,O,Z⟩:=Ns (step:=λ(i:Int)=>if Ar.cmp .lss i (Ar.len l)=true then(C4 l i).bind λx=>(C4 m i).bind λy=>(f x y).bind λr=>if Ar.nt r=true then some (Sum.inr (Sum.inr (α:=Unit) ()))else some (.inl (Ar.ar .add .i64 i 1))else some (.inr (.inl ())))
  (λj s=>s=(j:Int)/\l.take j=m.take j) (λr=>r=if l=m then .inl ()else .inr ()) l.length 0 0 N g ⟨rfl,OC⟩
  (λj s _ z ⟨e,o⟩=>by
   subst e
   simp only[P0]at z
   have a:j<m.length:=AY
   have b:l[j]? =some l[j]:=by simp[z]
   have e2:m[j]? =some m[j]:=by simp[a]
   simp only[B8,A9,show((j:Int)<(l.length:Int)) by omega,H8,B4,F3,b,e2,A4,q _ (I9 z) _ (I9 a)]
   by_cases h:l[j]=m[j]
   ·simp only[h,H8,S4,W3,D4,B6]
    grind[Cm,List.take_add_one]
   simp only[h,LF,S4,CS,B4]
   grind)
  (λs ⟨e,o⟩=>by
   subst e
   simp only[P0]at o ⊢
   refine⟨.inl (),by grind[B8,A9],?_⟩
   rw[OO,B,OO]at o
   rw[A2 o])
 rw[O,Z]
def Az3{a b:A8}:a=b<->(a.Op=b.Op/\a.Var=b.Var/\a.Field=b.Field/\a.Kind=b.Kind/\a.Value=b.Value)/\a.dT=b.dT:=by
 cases a;cases b;grind
def Bj6{a b:B2}:a=b<->a.Kind=b.Kind/\a.Num=b.Num/\a.Text=b.Text:=by cases a;cases b;simp
def JA{a b:A0}:a=b<->(a.Op=b.Op/\a.Typ=b.Typ/\a.Var=b.Var/\a.dZ=b.dZ/\a.Span=b.Span)/\a.dU=b.dU/\a.dT=b.dT:=by
 cases a;cases b;grind
def Ac6 (a b:A8):Yg a b=true<->¬((a.Op=b.Op/\a.Var=b.Var/\a.Field=b.Field/\a.Kind=b.Kind/\a.Value=b.Value)/\a.dT.length=b.dT.length):=by
 simp only[Yg,Q8,Q4,S4,H7,D8,Hp,A9,Bj6,L7,P9,O2,Ph,Je,Classical.not_and_iff_not_or_not]
 grind
theorem ZR(g:TB N):∀(n:Nat) (a b:A8),a.bulk<=n->a.bulk<=16777216->Bg N n a b=some (decide (a=b)):=by
 intro n
 induction n with
 |zero=>grind[Fp]
 | succ n ih=>
  intro a b M i;have B:=NV a;unfold Bg
  change (if Yg a b=true then some false else _)=_
  by_cases h:Yg a b=true
  ·rw[A2 h]
   rw[Ac6]at h
   rw[CT]
   grind
  rw[A1 h]
  rw[Ac6,OU]at h
  rw[Wz a.dT b.dT h.2 AY _ (λx M y I=>ih x y (by have:=Ag M;omega) (by have:=Ag M;omega)) AY];simp only[A4]
  by_cases R:a.dT=b.dT
  ·rw[A2 R,I8 (Az3.2 ⟨h.1,R⟩)]
  simp_all[Az3]
theorem BT4(g:TB N):∀(n:Nat) (a b:A0),a.bulk<=n->a.bulk<=16777216->CK N n a b=some (decide (a=b)):=by
 intro n
 induction n with
 |zero=>grind[Lo]
 | succ n ih=>
  intro a b M k;have B:=Nu a;have d:=A0.bulk_eq a;unfold CK
  by_cases h:a.Op=b.Op/\a.Typ=b.Typ/\a.Var=b.Var/\a.dZ=b.dZ/\a.Span=b.Span
  ·rw[A1 (by grind[Q8,H7]),ZR g N a.dU b.dU AY AY];simp only[A4]
   by_cases c:a.dU=b.dU
   ·rw[A1 (by simp[S4,c])];unfold O4
    by_cases i:a.dT.length=b.dT.length
    ·rw[A1 (by grind[H7,A9]),Wz a.dT b.dT i AY _ (λx M y I=>ih x y (by have:=Fh M;omega) (by have:=Fh M;omega)) AY];simp only[A4]
     by_cases R:a.dT=b.dT
     ·rw[A2 R,I8 (JA.2 ⟨h,c,R⟩)];rfl
     simp_all[JA]
    rw[A2 (by grind[H7,A9]),CT λe=>i (by rw[(JA.1 e).2.2])];rfl
   simp_all[S4,JA]
  rw[A2,CT λe=>h (JA.1 e).1];simp only[Q8,H7,L7,P9,O2];omega
structure BG0 (y:A0):Prop where
 op:0<=y.Op/\y.Op<=10
 ev:y.Op=0->y.dT=[]
 two:1<=y.Op->y.Op<=3->2<=y.dT.length
 one:4<=y.Op->y.Op≠8->∃a,y.dT=[a]
 more:y.Op=8->∃a b,y.dT=[a,b]
def By3{l:Up α}(h:l.length=1):∃a,l=[a]:=List.length_eq_one_iff.1 h
def By2{l:Up α}(h:l.length=2):∃a b,l=[a,b]:=by
 match l,h with
 |[a,b],_=>simp_all
def AD8(g:TB N){y:A0}(b:y.bulk<=16777216)(B:y.dT.length<=64)(h:Gn N y=0):BG0 y:=by
 have d:y.dU.bulk<=16777216:=by have:=A0.bulk_eq y;omega
 by_cases a:0<=y.Op/\y.Op<=10
 ·have⟨s,i,G⟩:=SJ N y a.1 a.2 B;have⟨sz,Y⟩:=Ud g y.dU;have O:=KK g d a.1 a.2 G Y
  rw[(ID g b B),h]at O
  have Z:s.eJ<=y.dT.length/\(y.dT.length:Int)<=s.most:=by
   have O:=CU O;omega
  have o:=G.tab;refine⟨a,λX=>?_,λu b=>?_,λu b=>?_,λX=>?_⟩
  ·rw[X]at o;cases o
   simp only at Z
   exact GC AY
  ·have X:y.Op=1\/y.Op=2\/y.Op=3:=AY
   rcases X with X|X|X<;>rw[X]at o<;>cases o<;>simp only at Z<;>omega
  ·have X:y.Op=4\/y.Op=5\/y.Op=6\/y.Op=7\/y.Op=9\/y.Op=10:=AY
   apply By3
   rcases X with X|X|X|X|X|X<;>rw[X]at o<;>cases o<;>simp only at Z<;>omega
  apply By2
  rw[X]at o;cases o;grind
 simp_all[Bu5,Gn,Z1]
def Uu{β:Type}{step:S->OS (Up β×(S⊕R))}(st:Nat->S)(f:Nat->Up β)(w:Up β)(r:R)(k:Nat){s0:S}(L:s0=st 0)(g:k<N)(G:∀j,j<k->step (st j)=some (f j,.inl (st (j+1))))(a:step (st k)=some (w,.inr r)):
 R7 step N s0=some ((List.range k).flatMap f++w,r):=by
 rw[L,Ab1 st f w r k 0 g (λj _ h=>G j AY) (by rw[P0];exact a),Ju]
def Bx6{step:S->OS (S⊕R)}(st:Nat->S)(k:Nat)(r:R){s0:S}(L:s0=st 0)(g:k<N)(G:∀j,j<k->step (st j)=some (.inl (st (j+1))))(a:step (st k)=some (.inr r)):loopN step N s0=some r:=by
 rw[L];exact Bx5 st k r g G a
abbrev Pr:=C5×A7
def zE:A8:=⟨0,[],0,0,0,⟨0,0,⟨#[]⟩⟩⟩
def zP:A0:=⟨0,[],0,0,0,0,zE⟩
def nd (a:Int)(args:Up A0):A0:=⟨a,args,0,0,0,0,zE⟩
def AB2:A7:=⟨true,zP⟩
def DP (a:Int)(l:Up A0):A0:=match l with|[x]=>x|l=>nd a l
def Ax5 (N:Nat)(a:Int)(l:Up A0):Cu N a l=some (DP a l):=by
 unfold Cu
 match l with
 |[]=>rfl
 |[x]=>rfl
 |x::y::l=>rw[A1 (by simp only[D8,A9,K8,B3];omega)];rfl
def HX (r:A7)(more:Up A0):A7:=
 match(if r.done=true then more else r.p::more)with
 |[]=>AB2
 |l=>⟨false,DP 1 l⟩
theorem BQ4 (N:Nat) (r:A7) (more:Up A0) (h:more.length<=1000000):CP N r more=some (HX r more):=by
 unfold CP S6 V7 HX;rw[T6 Ts];simp only[A4,K3,S4,Ax5]
 cases Q:r.done with
 |true=>
  simp only[W3,D4,B6,A4,B4]
  cases more with
  |nil=>rfl
  |cons x l=>rw[A1 (by simp only[D8,A9,K8,B3];omega)]
 | false=>
  have e:Tb more 0 [r.p]=some (r.p::more):=by
   grind[Tb]
  simp only[CS,B4,e,A4,D4,B6];rw[A1 (by simp only[D8,A9,K8,B3];omega)]
def Mv (args:Up A0)(i:Nat)(r:A7):A7:=
 ⟨false,DP 3 (if r.done=true then args.take i++args.drop (i+1)else args.set i r.p)⟩
def BN8 (N:Nat) (args:Up A0) (i:Nat) (r:A7) (U:i<args.length) (h:args.length<=1000000):EF N args (i:Int) r=some (Mv args i r):=by
 unfold EF S6 V9 Mv;rw[T6 Ts];simp only[A4,K3,Ax5]
 cases Q:r.done with
 | true=>
  have e:Tw args (i:Int) (Ar.ar .add .i64 (i:Int) 1)=some (args.take i++args.drop (i+1)):=by
   rw[Cm AY]
   grind[Tw]
  simp_all
 | false=>
  have e:Ex args (i:Int) (λ_=>r.p)=some (args.set i r.p):=by
   grind[Ex,F3]
  have e2:OB args (i:Int)=true:=by simp_all[OB]
  simp_all[IS]
def WF (e:C5)(k:Nat):Prop:=e.eL.length<=k/\e.eN.length<=k/\e.eI.length<=k/\e.eO.length<=k/\e.eM.length<=k
def Sf(g:3<=N)(l m:Up α)(h:l.length+m.length<=1000000000)(grow:Up α->Int->OS (Up α))(K:∀n,0<=n->n<=1073741824->grow [] n=some []):
 ((loopN (λ(A:Int×Int)=>(if Ar.cmp .lss A.2 (Ar.len [l,m])=true then(C4 [l,m] A.2).bind λk=>if Ar.cmp .lss (Ar.ar .add .i64 A.1 (Ar.len k)) 0=true then none else some (.inl (Ar.ar .add .i64 A.1 (Ar.len k),Ar.ar .add .i64 A.2 1))else some (.inr A.1):OS ((Int×Int)⊕Int))) N (0,0)).bind λs=>
  (grow [] s).bind λV=>(loopN (λ(a:Int×Up α)=>(if Ar.cmp .lss a.1 (Ar.len [l,m])=true then(C4 [l,m] a.1).bind λj=>(K2 a.2 j).bind λb=>some (.inl (Ar.ar .add .i64 a.1 1,b))else some (.inr a.2):OS ((Int×Up α)⊕Up α))) N (0,V)).bind λf=>some f)=some (l++m):=by
 have w:Ar.ar .add .i64 0 (l.length:Int)=l.length:=by rw[E6 AY AY];omega
 have e2:Ar.ar .add .i64 (l.length:Int) (m.length:Int)=l.length+m.length:=by rw[E6 AY AY]
 have y:Ar.ar .add .i64 0 1=1:=by rw[E6 AY AY];rfl
 have e4:Ar.ar .add .i64 1 1=2:=by rw[E6 AY AY];rfl
 obtain⟨N,rfl⟩:∃M,N=M+3:=⟨N-3,AY⟩;have i0:C4 [l,m] 0=some l:=rfl;have i1:C4 [l,m] 1=some m:=rfl;have r:Ar.cmp .lss 0 (Ar.len [l,m])=true:=rfl;have i:Ar.cmp .lss 1 (Ar.len [l,m])=true:=rfl;have v:Ar.cmp .lss 2 (Ar.len [l,m])=false:=rfl
 have c:Ar.cmp .lss (l.length:Int) 0=false:=by rw[B8];simp_all
 have d:Ar.cmp .lss ((l.length:Int)+m.length) 0=false:=by rw[B8];grind
 have B:∀x:Up α,Ar.len x=(x.length:Int):=λx=>rfl;simp only[loopN,r,B4,i0,A4,B l,w,c,D4,B6,y,i,i1,B m,e2,d,e4,v];rw[K _ AY AY];simp only[A4];rw[T6 Ts];simp only[A4,i,B4,i1,K3];rw[T6 AY]
 simp_all
def Yh(n:Int)(L:0<=n)(O:n<=1073741824):Tg ([]:Up α) n=some []:=by simp_all[Tg]
def BQ6(g:3<=N)(l m:Up A8)(h:l.length+m.length<=1000000000):AJ N [l,m]=some (l++m):=Sf g l m h _ λn a b=>Yh n a b
def Al8(g:3<=N)(l m:Up Int)(h:l.length+m.length<=1000000000):Z9 N [l,m]=some (l++m):=Sf g l m h _ λn a b=>Yh n a b
def BQ5(g:3<=N)(l m:Up Cq)(h:l.length+m.length<=1000000000):BZ N [l,m]=some (l++m):=Sf g l m h _ λn a b=>Yh n a b
def Ar9 (p:A0) (x:C5) (done opens:Bool):C5:=
 {x with
  eL:=if opens=true then p.dZ::x.eL else x.eL
  eM:=if p.Op=5\/p.Op=9 then p.dZ::x.eM else x.eM
  eO:=if p.Op=5\/p.Op=9 then x.eO else⟨p.dZ,p.Span⟩::x.eO
  eN:=if done=true then x.eN++[p.dZ]else x.eN}
def AT9(g:3<=N)(p:A0)(x:C5)(done opens:Bool)(h:WF x 1000):Ah N p x done opens=some (Ar9 p x done opens):=by
 have⟨O,Z,T,a,b⟩:=h;unfold Ah Ar9;simp only[Q8,D8,<-Bool.decide_or,B3];cases opens<;>cases done<;>by_cases h:p.Op=5\/p.Op=9
 all_goals
  simp only[h,B4,D4,B6,A4]
  try rw[Al8 AY [p.dZ] x.eL Ts]
  try simp only[A4]
  try rw[Al8 AY [p.dZ] x.eM Ts]
  try rw[BQ5 AY [⟨p.dZ,p.Span⟩] x.eO Ts]
  try simp only[A4]
  try rw[Al8 AY x.eN [p.dZ] Ts]
  rfl
def OA (a:A0)(y:Pr):Up Pr:=
 if y.2.done=true then[y,(y.1,⟨false,a⟩)]else match a.dT with|b::_=>[(y.1,⟨false,nd 8 [y.2.p,b]⟩)]|[]=>[]
def Ot (x:A0)(y:Pr):C5:=
 if x.Op=7 then(if y.2.done=true then{y.1 with eI:=y.1.eI++[x.dU]}else y.1)
 else Ar9 x y.1 y.2.done (if x.Op=5\/x.Op=9 then decide (x.Op=5)else decide (x.Op=6))
def Ay5 (x:A0):Int:=if x.Op=7 then 7 else if x.Op=5\/x.Op=9 then 9 else 10
def Bj1 (x:A0)(r:A7):A7:=if r.done=true then r else{r with p:={x with Op:=Ay5 x,dT:=[r.p]}}
def Zh (x:A0)(y:Pr):Pr:=(Ot x y,Bj1 x y.2)
def comb (x:A0)(a:Up (Up Pr)):Up Pr:=
 if x.Op=0 then[(⟨0,0,x.Var,x.Typ,x.dU,[],[],[],[],[]⟩,AB2)]
 else if x.Op=1 then(a.headD []).map λy=>(y.1,HX y.2 (x.dT.drop 1))
 else if x.Op=2 then(List.range x.dT.length).flatMap λi=>a.getD i []
 else if x.Op=3 then(List.range x.dT.length).flatMap λi=>(a.getD i []).map λy=>(y.1,Mv x.dT i y.2)
 else if x.Op=4 then(a.headD []).flatMap (OA x)
 else if x.Op=8 then(a.headD []).flatMap (OA (nd 4 (x.dT.drop 1)))
 else(a.headD []).map (Zh x)
mutual
def raw:A0->Up Pr
 |⟨b,args,a,var,scope,span,c⟩=>comb ⟨b,args,a,var,scope,span,c⟩ (BJ2 args)
def BJ2:Up A0->Up (Up Pr)
 |[]=>[]
 |a::l=>raw a::BJ2 l
end
theorem At0:∀l:Up A0,BJ2 l=l.map raw
 |[]=>rfl
 |a::l=>by simp[BJ2,At0 l]
def Ea (x:A0):raw x=comb x (x.dT.map raw):=by cases x;grind[raw,At0]
def WF.mono{e:C5}{k m:Nat}(h:WF e k)(p:k<=m):WF e m:=by grind[WF]
def BO6{y:Pr}{k:Nat}(h:WF y.1 k):WF (Ot x y) (k+1):=by
 grind[Ot,WF,Ar9]
theorem AU5{a:A0}{y z:Pr}(h:z∈OA a y):z.1=y.1:=by
 grind[OA]
def Gt{a:A0}(h:a∈x.dT):a.dep<x.dep:=by
 rw[A0.dep_eq x]
 have key:∀l:Up A0,a∈l->a.dep<=A0.deps l:=λl=>by
  induction l with
  |nil=>simp_all
  |cons b l ih=>
   grind[A0.deps]
 have:=key _ h;omega
def HI{l:Up A0}{i:Nat}{y:Pr}(h:y∈(l.map raw).getD i []):∃a∈l,y∈raw a:=by
 grind
theorem De{l:Up A0}{y:Pr}(h:y∈(l.map raw).headD []):∃a∈l,y∈raw a:=by
 cases l with
 |nil=>simp at h
 |cons a l=>simp_all
def AJ1:∀(d:Nat) (x:A0),x.dep<=d->∀y∈raw x,WF y.1 d:=by
 intro d
 induction d with
 |zero=>grind[A0.dep_eq]
 | succ d ih=>
  intro x hd y I
  rw[Ea]at I
  have b:∀a∈x.dT,∀y∈raw a,WF y.1 d:=λa u=>ih a (by have:=Gt u;omega)
  unfold comb at I
  split at I
  ·rw[List.mem_singleton.1 I];simp[WF]
  split at I
  ·grind[De,WF]
  split at I
  ·grind[WF]
  split at I
  ·grind[WF]
  split at I
  ·have⟨z,Y,I⟩:=List.mem_flatMap.1 I
   grind[De,AU5,WF]
  split at I
  ·have⟨z,Y,I⟩:=List.mem_flatMap.1 I
   grind[De,AU5,WF]
  obtain⟨z,Y,rfl⟩:=List.mem_map.1 I;have⟨a,u,Y⟩:=De Y;exact BO6 (b a u z Y)
def AH5{l:Up α}(h:1<=l.length):Dc l (some 1) none none=some (l.drop 1):=by
 unfold Dc;rw[A2 Ts]
 grind[List.take_of_length_le]
end Go.Ab
