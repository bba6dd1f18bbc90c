/- . -/
import Derived.Test.YtaoapcidgbaagaaGreatDoorM16
set_option linter.all false
open Go.Ab.Ar (ar lst nt_eq)
namespace Go.Ab
open Go.RowKit Go.Proofs Go.Proofs.Tryz J6
variable [Ar][J6]
set_option maxRecDepth 100000
def c237 (N b l n r)(h:DZ N b l n=some r):Ok prog 237 [.int .u64 l,vi n] 1 (lst (V.int .u8) b) (lst (V.int .u8) r):=by
 intro H0 e a i;refine Ew (T:=TT) (F:=upd H0 e.id none) OM K9 func237 QX JO call237 ntmps237 QX QX ?_;intro E K Y J g;have Q:C3 Eq (upd H0 e.id none) [ob e 1 (V.int .u8) b] H0:=C3.startO i;have a:Cj e (Ar.len b):=Wq a
 repeat' (cbv;first|apply E3 Y h<;>intro _ h|refine C1 Y h (c256 _ _) .z λ_ h=>?_|(cases h;exact J v _ _ (BH Y k) (Q))|(cases h;done)|refine BM0 Y Sz Q a 0 rfl h λ_ v H k Q h=>?_)
def c207 (N b e i r)(h:FO N b e i=some r):Ok prog 207 [vi e,vi i] 1 (lst (V.int .u8) b) (lst (V.int .u8) r):=by
 intro H0 k a l;refine Ew (T:=TT) (F:=upd H0 k.id none) OM K9 func207 QX JO call207 ntmps207 QX QX ?_;intro E K Y J g;have Q:C3 Eq (upd H0 k.id none) [ob k 1 (V.int .u8) b] H0:=C3.startO l;have a:Cj k (Ar.len b):=Wq a;cbv;apply E3 Y h<;>intro _ h
 ·cbv;refine Ff (f:=(V.int .u8)) Y (λ_=>rfl) Sz Q a 0 rfl (m:=[45]) (Dr (f:=(V.int .u8)) Y (λ_=>rfl) (.lstc .z (.lst0))) h λx j H n Q h=>?_;cbv;refine HA Y (f:=(V.int .u8)) Q n 0 rfl h (c237 N x (Ar.neg .u64 (Ar.wr .u64 e)) i) .z λc y H v Q h=>?_;cbv;cases h;exact J y _ _ (BH Y v) (Q)
 cbv;refine HA Y (f:=(V.int .u8)) Q a 0 rfl h (c237 N b (Ar.wr .u64 e) i) .z λd P H w Q h=>?_;cbv;cases h;exact J P _ _ (BH Y w) (Q)
def c158 (N b i k r)(h:P4 N b i k=some r):Ok prog 158 [vi i,vi k] 1 (lst (V.int .u8) b) (lst (V.int .u8) r):=by
 intro H0 e a l;refine Ew (T:=TT) (F:=upd H0 e.id none) OM K9 func158 QX JO call158 ntmps158 QX QX ?_;intro E K Y J g;have Q:C3 Eq (upd H0 e.id none) [ob e 1 (V.int .u8) b] H0:=C3.startO l;have a:Cj e (Ar.len b):=Wq a;cbv;refine HA Y (f:=(V.int .u8)) Q a 0 rfl h (c207 N b i k) .z λw v H n Q h=>?_;cbv;cases h;exact J v _ _ (BH Y n) (Q)
def cf113:Cf:=⟨[6000003],[(3000006,0),(3000006,3),(3000006,4),(3000006,8)],[],[2000006],[],[]⟩
set_option maxHeartbeats 2000000 in
def c113 (N w r) (h:Aa N w=some r):B1 prog 113 [sr eCl0 w] (.str r):=by
 refine M5 cf113 func113 call113 ntmps113 ?_;intro E D K Y J Q;cbv;refine RH Y (f:=(V.int .u8)) Q λM H u Q=>?_;cbv;apply L6 Y;cbv;obtain⟨U,X,h⟩:=bind_some h;refine S0 cf113 Y K9 (γ:=OG) (λs g=>[(3,.v (.own g.id g.lo g.n)),(6,.v (sr eCl0 w)),fi 7 (Ar.len w),fi 8 s.1]) (λs g y=>Cj g (Ar.len s.2)/\C3 Eq D [ob g 1 (V.int .u8) s.2] y) (λx e l y=>∃a:OG,Cj a (Ar.len x)/\e= .exit 0/\l=[(3,.v (.own a.id a.lo a.n))]/\C3 Eq D [ob a 1 (V.int .u8) x] y) JO ?_ M X ?_ ?_ ?_
 ·rintro s S H o ⟨z,Q⟩ h;cbv;apply E3 Y h<;>intro _ h
  ·cbv;refine G0 Y eCn8 h λx5 h=>?_;cbv;refine HA Y (f:=(V.int .u8)) Q z 0 rfl h (c158 N s.2 x5.eF 10) .z λR T H B Q h=>?_;cbv;obtain⟨L,X,h⟩:=bind_some h;refine S8 cf113 Y K9 (λe l y=>∃a:OG,Cj a (Ar.len L)/\e= .normal/\l=[(3,.v (.own a.id a.lo a.n)),(6,.v (sr eCl0 w)),fi 7 (Ar.len w),fi 8 s.1]/\C3 Eq D [ob a 1 (V.int .u8) L] y) JO ?_ ?_
   ·clear h;have h:=X;cbv;obtain⟨q,P,h⟩:=bind_some h;obtain⟨j,b,h⟩:=bind_some h;obtain⟨p,i,h⟩:=bind_some h
    repeat' first|refine And.intro ?_ ?_|(refine Ff (f:=(V.int .u8)) Y (λ_=>rfl) Sz Q B 0 rfl (m:=[64]) (Dr (f:=(V.int .u8)) Y (λ_=>rfl) (.lstc .z (.lst0))) (Kf P) λq O H d Q c=>?_;obtain rfl:=J9 c;cbv)|(refine HA Y (f:=(V.int .u8)) Q d 0 rfl (Kf b) (c158 N q x5.at_ 10) .z λj C H k Q c=>?_;obtain rfl:=J9 c;cbv)|(refine Ff (f:=(V.int .u8)) Y (λ_=>rfl) Sz Q k 0 rfl (m:=[32]) (Dr (f:=(V.int .u8)) Y (λ_=>rfl) (.lstc .z (.lst0))) (Kf i) λp t H n Q c=>?_;obtain rfl:=J9 c;cbv)|(have h:=J9 h;subst h;exact⟨_,⟨t,n,rfl,rfl,Q⟩,.e4 .z,rfl⟩)
   clear X;rintro e l H ⟨F,A,rfl,rfl,Q⟩;exact Zg
  exact Zg
 ·exact .e4 .z
 ·exact⟨u,Q⟩
 clear X;rintro e l H ⟨G,v,rfl,rfl,Q⟩;cbv;refine BY2 (e:=5) Y JO JO JO Q v 0 rfl h λI h=>?_;exact Zg
def cf292:=VY [2]
def c292 (N a r)(h:Bf N a=some r):B1 prog 292 [vi a] ((J5 r)):=by
 refine M5 cf292 func292 call292 ntmps292 ?_;exact T0
def cf293:=VY [5]
def c293 (N:Nat)(b:Int)(e:Int)(k:V)(i:Int->OS B2)(n:∀l q,i l=some q->U9 prog k [vi l] ((J5 q)))(r:B2)(h:HQ N b e i=some r):B1 prog 293 [vi b,vi e,.eref [k] 0] ((J5 r)):=by
 refine M5 cf293 func293 call293 ntmps293 ?_;intro E D K Y J Q;cbv;refine G3 Y Q λv H Q=>?_;cbv;refine X3 Y (g:=λa=>(J5 a)) h (λa X=>n (ar .add .i64 b e) a X) .z λa h=>?_;exact Zg
def cf294:=VY [5]
def c294 (N:Nat)(b:Int)(e:Int)(k:V)(i:Int->OS B2)(n:∀l q,i l=some q->U9 prog k [vi l] ((J5 q)))(r:B2)(h:HP N b e i=some r):B1 prog 294 [vi b,vi e,.eref [k] 0] ((J5 r)):=by
 refine M5 cf294 func294 call294 ntmps294 ?_;intro E D K Y J Q;cbv;refine G3 Y Q λv H Q=>?_;cbv;refine X3 Y (g:=λa=>(J5 a)) h (λa X=>n (ar .sub .i64 b e) a X) .z λa h=>?_;exact Zg
def cf278:=VY [2,3]
def c278 (N a r)(h:Rs N a=some r):B1 prog 278 [.bool a] ((J5 r)):=by
 refine M5 cf278 func278 call278 ntmps278 ?_;exact T0
@[reducible, instance] def zc278 (N aF):=Ct.mk (c278 N aF)
def cf250:=VY [2]
def c250 (N a r)(h:Ev N a=some r):B1 prog 250 [.bool a] ((J5 r)):=by
 refine M5 cf250 func250 call250 ntmps250 ?_;exact T0
@[reducible, instance] def zc250 (N aF):=Ct.mk (c250 N aF)
def cf295:=VY [4]
def c295 (N a b r)(h:HN N a b=some r):B1 prog 295 [vi a,vi b] ((J5 r)):=by
 refine M5 cf295 func295 call295 ntmps295 ?_;exact T0
@[reducible, instance] def zc295 (N aD aF):=Ct.mk (c295 N aD aF)
def cf296:=VY [4]
def c296 (N a b r)(h:HM N a b=some r):B1 prog 296 [vi a,vi b] ((J5 r)):=by
 refine M5 cf296 func296 call296 ntmps296 ?_;exact T0
@[reducible, instance] def zc296 (N aD aF):=Ct.mk (c296 N aD aF)
def cf297:=VY [4]
def c297 (N a b r)(h:HL N a b=some r):B1 prog 297 [vi a,vi b] ((J5 r)):=by
 refine M5 cf297 func297 call297 ntmps297 ?_;exact T0
@[reducible, instance] def zc297 (N aD aF):=Ct.mk (c297 N aD aF)
def cf298:=VY [4]
def c298 (N a b r)(h:HK N a b=some r):B1 prog 298 [vi a,vi b] ((J5 r)):=by
 refine M5 cf298 func298 call298 ntmps298 ?_;exact T0
@[reducible, instance] def zc298 (N aD aF):=Ct.mk (c298 N aD aF)
def cf299:=VY [4]
def c299 (N a b r)(h:HJ N a b=some r):B1 prog 299 [vi a,vi b] ((J5 r)):=by
 refine M5 cf299 func299 call299 ntmps299 ?_;exact T0
@[reducible, instance] def zc299 (N aD aG):=Ct.mk (c299 N aD aG)
def c276 (N r)(h:cfA N=some r):AQ8 prog 276 [] BA8 BA7:=by
 refine AP6 (T:=TT) OM K9 func276 QX JO call276 ntmps276 QX QX ?_;intro E H0 K Y J;have Q:C3 Eq H0 [] H0:=.start D7 rfl
 repeat' (cbv;first|exact J _ _ 0 _ rfl Q|refine Ch4 Y Q λ_ H Q=>?_|refine BY3 Y (kt:=3) (et:=392) JO JO Q 0 rfl rfl λH Q=>?_)
def c313 (N a b r)(h:Az N a b=some r):B1 prog 313 [(Fy a),vi b] (sr eCl4 r):=by
 refine M5 OM func313 call313 ntmps313 ?_;exact T0
def cf315:=VY [4]
def c315 (N a b r)(h:Fi N a b=some r):B1 prog 315 [(CB a),vi b] (.tup [(J5 r.1),vi r.2]):=by
 refine M5 cf315 func315 call315 ntmps315 ?_;exact T0
def c322 (N a r)(h:El N a=some r):B1 prog 322 [vi a] (.bool r):=by
 refine M5 OM func322 call322 ntmps322 ?_;exact T0
@[reducible, instance] def zc322 (N aS):=Ct.mk (c322 N aS)
def c329 (N b a r)(h:Cv N b a=some r):B1 prog 329 [vi b,(J5 a)] (.bool r):=by
 refine M5 OM func329 call329 ntmps329 ?_;exact T0
@[reducible, instance] def zc329 (N aS aN):=Ct.mk (c329 N aS aN)
def c323 (N b a r)(h:Ao N b a=some r):B1 prog 323 [vi b,(J5 a)] (vi r):=by
 refine M5 OM func323 call323 ntmps323 ?_;exact T0
@[reducible, instance] def zc323 (N aS aN):=Ct.mk (c323 N aS aN)
def cf324:=VY [3,6]
def c324 (N:Nat)(y:I6)(b:Up B2)(w:V)(P:I6->B2->OS I6)(f:∀c d q,P c d=some q->U9 prog w [(T7 c),(J5 d)] ((T7 q)))(r:I6)(h:S9 N y b P=some r):B1 prog 324 [(T7 y),sr eCm3 b,w] ((T7 r)):=by
 refine M5 cf324 func324 call324 ntmps324 ?_;intro E D K Y J Q;cbv;refine G3 Y Q λi H Q=>?_;cbv;refine G3 Y Q λk H Q=>?_;cbv;apply L6 Y;cbv;obtain⟨j,X,h⟩:=bind_some h;refine J2 cf324 Y K9 (λa=>[(2,.v (w)),(3,.v (.ref i 0)),(6,.v (.ref k 0)),(9,.v (sr eCm3 b)),fi 10 (Ar.len b),fi 11 a.1]) (λ(a:Int×I6) v=>C3 Eq D [cb k [vi 0,vi 0,vi 0,vi 0,.str (⟨#[]⟩)],cb i (MZ a.2)] v) (λx e l v=>e= .exit 0/\l=[(3,.v (.ref i 0)),(6,.v (.ref k 0))]/\C3 Eq D [cb k [vi 0,vi 0,vi 0,vi 0,.str (⟨#[]⟩)],cb i (MZ x)] v) JO ?_ X Zf Q Zp;intro a H o Q h;cbv;apply E3 Y h<;>intro _ h
 ·cbv;refine G0 Y eCn3 h λx5 h=>?_;cbv;apply E0 Y Q 1 rfl;cbv;refine X3 Y (g:=λn=>(T7 n)) h (λn X=>f a.2 x5 n X) .z λn h=>?_;exact Zg
 exact Zg
def cf332:=VY [0]
def c332 (N r)(h:xeq N=some r):B1 prog 332 [] ((J5 r)):=by
 refine M5 cf332 func332 call332 ntmps332 ?_;exact T0
@[reducible, instance] def zc332 (N):=Ct.mk (c332 N)
def cf333:=VY [2]
def c333 (N b a r)(h:zap N b a=some r):B1 prog 333 [.eref (Av b) 0,.eref (Av a) 0] ((J5 r)):=by
 refine M5 cf333 func333 call333 ntmps333 ?_;exact T0
def cf334:=VY [2]
def c334 (N b a r)(h:zbv N b a=some r):B1 prog 334 [.eref (Av b) 0,.eref (Av a) 0] ((J5 r)):=by
 refine M5 cf334 func334 call334 ntmps334 ?_;exact T0
def cf335:=VY [2]
def c335 (N b a r)(h:Eff N b a=some r):B1 prog 335 [.eref (Av b) 0,.eref (Av a) 0] ((J5 r)):=by
 refine M5 cf335 func335 call335 ntmps335 ?_;exact T0
def cf336:=VY [1]
def c336 (N a r)(h:evC N a=some r):B1 prog 336 [.eref (Av a) 0] ((J5 r)):=by
 refine M5 cf336 func336 call336 ntmps336 ?_;exact T0
def cf337:=VY [1]
def c337 (N a r)(h:geC N a=some r):B1 prog 337 [.eref (Av a) 0] ((J5 r)):=by
 refine M5 cf337 func337 call337 ntmps337 ?_;exact T0
def cf330:=VY [6]
def c330 (N v a b r)(h:EH N v a b=some r):B1 prog 330 [vi v,(J5 a),(J5 b)] ((J5 r)):=by
 refine M5 cf330 func330 call330 ntmps330 ?_;intro E D K Y J Q
 repeat' (cbv;first|apply E3 Y h<;>intro _ h|refine C1 Y h (c332 _) .z λ_ h=>?_|refine X3 Y (g:=λe=>(J5 e)) h (λe X=>B1.value (F:=[]) (C:=[.eref (Av a) 0,.eref (Av b) 0]) (c333 N a b e X)) .z λe h=>?_|refine X3 Y (g:=λi=>(J5 i)) h (λi X=>B1.value (F:=[]) (C:=[.eref (Av a) 0,.eref (Av b) 0]) (c334 N a b i X)) .z λi h=>?_|refine X3 Y (g:=λk=>(J5 k)) h (λk X=>B1.value (F:=[]) (C:=[.eref (Av a) 0,.eref (Av b) 0]) (c335 N a b k X)) .z λk h=>?_|refine X3 Y (g:=λl=>(J5 l)) h (λl X=>B1.value (F:=[]) (C:=[.eref (Av a) 0]) (c336 N a l X)) .z λl h=>?_|refine X3 Y (g:=λn=>(J5 n)) h (λn X=>B1.value (F:=[]) (C:=[.eref (Av b) 0]) (c337 N b n X)) .z λn h=>?_|apply E0 Y Q 0 rfl|refine D6 Y Q 0 rfl rfl λH Q=>?_|refine G3 Y Q λ_ H Q=>?_|(cases h;exact J Q .z)|(cases h;done)|refine BM3 Y [0,1,2,3,4,5] QX ?_)
@[reducible, instance] def zc330 (N aS aD aF):=Ct.mk (c330 N aS aD aF)
def cf326:=VZ [4] [(5,14)]
def c326 (N a b r)(h:IK N a b=some r):B1 prog 326 [(T7 a),(T7 b)] ((T7 r)):=by
 refine M5 cf326 func326 call326 ntmps326 ?_;exact T0
@[reducible, instance] def zc326 (N aD aF):=Ct.mk (c326 N aD aF)
def cf327:=VY [4]
def c327 (N b a r)(h:FN N b a=some r):B1 prog 327 [vi b,(J5 a)] ((J5 r)):=by
 refine M5 cf327 func327 call327 ntmps327 ?_;exact T0
@[reducible, instance] def zc327 (N aS aN):=Ct.mk (c327 N aS aN)
def cf325:=VZ [5] [(1,6)]
def c325 (N a e b r)(h:Aj N a e b=some r):B1 prog 325 [(T7 a),(J5 e),.eref [vi b] 0] ((T7 r)):=by
 refine M5 cf325 func325 call325 ntmps325 ?_;exact T0
def c331 (N a r)(h:Gw N a=some r):B1 prog 331 [(T7 a)] (vi r):=by
 refine M5 OM func331 call331 ntmps331 ?_;exact T0
@[reducible, instance] def zc331 (N aD):=Ct.mk (c331 N aD)
def cf328:=VY [4]
def c328 (N a b r)(h:IL N a b=some r):B1 prog 328 [(T7 a),(J5 b)] (.tup [(J5 r.1),vi r.2]):=by
 refine M5 cf328 func328 call328 ntmps328 ?_;exact T0
@[reducible, instance] def zc328 (N aD bM):=Ct.mk (c328 N aD bM)
def cf320:=VY [6]
def c320 (N a b n r)(h:Kz N a b n=some r):B1 prog 320 [vi a,sr eCm3 b,(J5 n)] (.tup [(J5 r.1),vi r.2]):=by
 refine M5 cf320 func320 call320 ntmps320 ?_;intro E D K Y J Q
 repeat' (cbv;first|apply E3 Y h<;>intro _ h|apply L6 Y|refine C1 Y h (c322 _ _) .z λ_ h=>?_|apply E0 Y Q 0 rfl|refine D6 Y Q 0 rfl rfl λH Q=>?_|refine G3 Y Q λi H Q=>?_|(cases h;exact J Q .z))
 cbv;obtain⟨c,X,h⟩:=bind_some h;refine J2 cf320 Y K9 (λV=>[(1,.v (sr eCm3 b)),(3,.v (.eref [vi a] 0)),(5,.v (.eref (Av n) 0)),(6,.v (.ref i 0)),(22,.v (sr eCm3 b)),fi 23 (Ar.len b),fi 24 V]) (λV k=>C3 Eq D [cb i [vi 0,vi 0,.str (⟨#[]⟩)]] k) (λx e l k=>match(generalizing:=false) x with| .inl y=>e= .exit 1/\l=[(1,.v (sr eCm3 b)),(3,.v (.eref [vi a] 0)),(5,.v (.eref (Av n) 0)),(6,.v (.ref i 0))]/\C3 Eq D [cb i [vi 0,vi 0,.str (⟨#[]⟩)]] k| .inr y=>e= .ret/\l=[(6,.v (.ref i 0)),fi 7 y]/\C3 Eq D [cb i [vi 0,vi 0,.str (⟨#[]⟩)]] k) JO Zi X Zf Q ?_;clear X
 rcases c with f|d
 ·rintro e l H ⟨rfl,rfl,Q⟩;cbv;refine C1 Y (g:=λv=>(T7 v)) h (λv X=>c324 N (⟨a,0,(⟨0,0,⟨#[]⟩⟩:B2)⟩:I6) b (.func (.func 325) [] [.eref [vi a] 0]) (λw P=>Aj N w P a) (λw P r X=>B1.value (F:=[]) (C:=[.eref [vi a] 0]) (c325 N w P a r X)) v X) .z λv h=>?_;exact Zg
 exact S1
@[reducible, instance] def zc320 (N aS aH bM):=Ct.mk (c320 N aS aH bM)
def cf314:=VY [4]
def c314 (N v a r) (h:CN N v a=some r):B1 prog 314 [(Fy v),(Bo a)] (.tup [(J5 r.1),vi r.2]):=by
 refine M5 cf314 func314 call314 ntmps314 ?_;intro E D K Y J Q;cbv;refine G3 Y Q λb H Q=>?_;cbv;refine C1 Y h (c313 N v a.Var) .z λc h=>?_;cbv;apply L6 Y;cbv;replace Q:=Q.tl0 (t:=.nil) rfl;obtain⟨p,X,h⟩:=bind_some h;refine S0 cf314 Y K9 (γ:=G5) (λk g=>[(3,.v (.eref (DE a) 0)),(4,.v (.ref b 0)),(6,.v (.sl (lst eCm3 k.1) g)),(14,.v (sr eCl4 c)),fi 15 (Ar.len c),fi 16 k.2]) (λk g n=>T3 g/\C3 Eq D [.tl g,cb b [vi 0,vi 0,.str (⟨#[]⟩)]] n) (λx e l n=>match(generalizing:=false) x with| .inl y=>∃i:G5,T3 i/\e= .exit 0/\l=[(3,.v (.eref (DE a) 0)),(4,.v (.ref b 0)),(6,.v (.sl (lst eCm3 y) i))]/\C3 Eq D [.tl i,cb b [vi 0,vi 0,.str (⟨#[]⟩)]] n| .inr y=>∃i:G5,T3 i/\e= .ret/\l=[(4,.v (.ref b 0)),fi 5 y]/\C3 Eq D [.tl i,cb b [vi 0,vi 0,.str (⟨#[]⟩)]] n) JO ?_ .nil X ?_ ?_ ?_
 ·rintro k C H o ⟨w,Q⟩ h;cbv;apply E3 Y h<;>intro _ h
  ·cbv;refine G0 Y eCn1 h λu h=>?_;cbv;refine C1 Y h (c315 N u a.Field) .z λd h=>?_;cbv;apply E3 Y h<;>intro _ h
   ·exact Zg
   cbv;refine Br (f:=eCm3) Y ZJ Sz Q 0 rfl w (l:=k.1) (m:=[d.1]) .z (.lstc (.eq (eCn3 d.1) .z) (.lst0)) h λB F H Q j h=>?_;exact Zg
  exact Zg
 ·exact zbq
 ·exact Zy
 clear X
 rcases p with z|A
 ·rintro e l H ⟨q,P,rfl,rfl,Q⟩;exact Zg
 rintro e l H ⟨s,V,rfl,rfl,Q⟩;exact Zg
@[reducible, instance] def zc314 (N aI aC):=Ct.mk (c314 N aI aC)
def cf300:=F5 [4,7] [] [(38,12),(63,19)]
def c300 (N k b r) (h:Dk N k b=some r):B1 prog 300 [(Fy k),(Bo b)] (.tup [(J5 r.1),vi r.2]):=by
 refine M5 cf300 func300 call300 ntmps300 ?_;intro E D K Y J Q;cbv;refine G3 Y Q λa H Q=>?_
 repeat' (cbv;first|apply E3 Y h<;>intro _ h|apply L6 Y|refine C1 Y h (c313 _ _ _) .z λ_ h=>?_|refine C1 Y h (c314 _ _ _) .z λ_ h=>?_|apply E0 Y Q 0 rfl|refine D6 Y Q 0 rfl rfl λH Q=>?_|refine G3 Y Q λi H Q=>?_|(cases h;exact J Q .z))
 cbv;obtain⟨v,X,h⟩:=bind_some h;refine S8 cf300 Y K9 (λe l n=>match(generalizing:=false) v with| .inl y=>e= .normal/\l=[(3,.v (.eref (DE b) 0)),(4,.v (.ref a 0)),(7,.v (.ref i 0))]/\C3 Eq D [cb i (TD y),cb a [vi 0,vi 0,.str (⟨#[]⟩)]] n| .inr y=>e= .ret/\l=[(4,.v (.ref a 0)),fi 5 10]/\C3 Eq D [cb i (TD k.event),cb a [vi 0,vi 0,.str (⟨#[]⟩)]] n) JO ?_ ?_
 ·exact F4
 clear X
 rcases v with w|V
 ·rintro e l H ⟨rfl,rfl,Q⟩;cbv;apply E3 Y h<;>intro _ h
  ·exact Zg
  cbv;apply E0 Y Q 0 rfl;cbv;refine C1 Y h (c315 N w b.Field) .z λx h=>?_;cbv;obtain⟨P,X,h⟩:=bind_some h;refine S8 cf300 Y K9 (xn D [(4,.v (.ref a 0)),(8,.v (.eref (Av x.1) 0)),fi 9 P] [cb i (TD w),cb a [vi 0,vi 0,.str (⟨#[]⟩)]]) JO ?_ ?_
  ·exact F4
  clear X;exact S1
 exact S1
@[reducible, instance] def zc300 (N aI aC):=Ct.mk (c300 N aI aC)
def cf277:=VZ [4,3000042,8000042,9000042] [(11,8),(17,6),(18,16)]
def c277 (N:Nat):∀n c a r,R0 N n c a=some r->B1 prog 277 [(Fy c),(Bo a)] (.tup [(J5 r.1),vi r.2]):=by
 intro n
 induction n with
 |zero=>intro c a r h;cases h
 |succ n ih=>
 intro c a r h
 unfold R0 at h
 refine M5 cf277 func277 call277 ntmps277 ?_;intro E D K Y J Q;cbv;refine G3 Y Q λd H Q=>?_;cbv;apply L6 Y;cbv;apply E3 Y h<;>intro _ h
 ·exact Zg
 cbv;apply L6 Y;cbv;replace Q:=Q.tl0 (t:=.nil) rfl;replace Q:=Q.tl0 (t:=.nil) rfl;obtain⟨s6,X,h⟩:=bind_some h;refine S0 cf277 Y K9 (γ:=G5×G5) (λw g=>[(2,.v (.eref (IH c) 0)),(3,.v (.eref (DE a) 0)),(4,.v (.ref d 0)),(6,.v (.sl (lst eCm3 w.1) g.2)),(7,.v (.sl (lst (V.int .i64) w.2.1) g.1)),(23,.v (sr eCl6 a.dT)),fi 24 (Ar.len a.dT),fi 25 w.2.2]) (λw g u=>T3 g.1/\T3 g.2/\C3 Eq D [.tl g.1,.tl g.2,cb d [vi 0,vi 0,.str (⟨#[]⟩)]] u) (λx e l u=>match(generalizing:=false) x with| .inl y=>∃j:G5,T3 j/\∃p:G5,T3 p/\e= .exit 0/\l=[(2,.v (.eref (IH c) 0)),(3,.v (.eref (DE a) 0)),(4,.v (.ref d 0)),(6,.v (.sl (lst eCm3 y.1) p)),(7,.v (.sl (lst (V.int .i64) y.2) j))]/\C3 Eq D [.tl j,.tl p,cb d [vi 0,vi 0,.str (⟨#[]⟩)]] u| .inr y=>∃j:G5,T3 j/\∃p:G5,T3 p/\e= .ret/\l=[(4,.v (.ref d 0)),fi 5 y]/\C3 Eq D [.tl j,.tl p,cb d [vi 0,vi 0,.str (⟨#[]⟩)]] u) JO ?_ (⟨.nil,.nil⟩) X ?_ ?_ ?_
 ·rintro w ⟨Z,t5⟩ H o ⟨k,v,Q⟩ h
  repeat' (cbv;first|apply E3 Y h<;>intro _ h|refine C1 Y h (ih _ _) .z λA h=>?_|refine G0 Y eCn0 h λ_ h=>?_|refine D6 Y Q 2 rfl rfl λH Q=>?_|(cases h;exact⟨_,_,rfl,⟨Z,k,t5,v,rfl,rfl,Q⟩,.e2 .z,rfl⟩)|(cases h;exact⟨_,⟨G,B⟩,rfl,.e4 (.e4 .z),rfl,s,q,Q⟩)|(cases h;exact⟨_,_,rfl,⟨Z,k,t5,v,rfl,rfl,Q⟩,.e rfl (.e4 .z),rfl⟩)|refine AV7 Y Q 1 rfl v λH Q=>?_|apply FQ Y trivial|refine Bw5 (f:=eCm3) Y ZJ Sz (l:=w.1) (m:=[A.1]) .z (.lstc (.eq (eCn3 A.1) .z) (.lst0)) h λ_ h=>?_|refine AW0 Y Q 1 rfl λB H Q q=>?_|refine Br (f:=(V.int .i64)) Y (λ_=>rfl) Sz Q 0 rfl k (l:=w.2.1) (m:=[A.1.Kind]) .z (.lstc .z (.lst0)) h λ_ G H Q s h=>?_)
 ·exact .e rfl (.e2 (.v (.slt _ (.lst0)) (.v (.slt _ (.lst0)) (.e rfl (.e rfl (.e rfl (.z)))))))
 ·exact⟨trivial,trivial,Q⟩
 clear X
 rcases s6 with R|af
 ·rintro e l H ⟨ab,S,ac,T,rfl,rfl,Q⟩;cbv;refine C1 Y h (c141 N a.Op R.2) (.r (.cons (.ro _ _) .z)) λaa h=>?_;cbv;apply E3 Y h<;>intro _ h
  ·exact Zg
  cbv;apply E3 Y h<;>intro _ h
  ·exact Zg
  cbv;refine BY5 Y (kt:=3) (et:=392) (z:=.nilf) JO JO JO rfl ?_;cbv;apply E3 Y h<;>intro _ h
  ·cbv;refine G0 Y eCn3 h λI h=>?_;cbv;apply L6 Y;cbv;refine G0 Y eCn3 h λL h=>?_;cbv;refine X3 Y (g:=λb=>(J5 b)) h (λb X=>B1.value (F:=[]) (C:=[.eref [.func (.func 292) [] []] 0]) (c293 N I.Num L.Num (.func (.func 292) [] []) (λP=>Bf N P) (λP r X=>B1.value (F:=[]) (C:=[]) (c292 N P r X)) b X)) .z λb h=>?_;exact Zg
  cbv;apply E3 Y h<;>intro _ h
  ·cbv;refine G0 Y eCn3 h λM h=>?_;cbv;apply L6 Y;cbv;refine G0 Y eCn3 h λO h=>?_;cbv;refine X3 Y (g:=λi=>(J5 i)) h (λi X=>B1.value (F:=[]) (C:=[.eref [.func (.func 292) [] []] 0]) (c294 N M.Num O.Num (.func (.func 292) [] []) (λP=>Bf N P) (λP r X=>B1.value (F:=[]) (C:=[]) (c292 N P r X)) i X)) .z λi h=>?_;exact Zg
  exact Zg
 rintro e l H ⟨ad,U,ae,W,rfl,rfl,Q⟩;exact Zg
def cf249:Cf:=⟨[8],[(3000004,0),(3000004,1),(3000004,2),(3000004,4),(3000004,5),(3000004,7),(3000004,8),(3000004,10)],[],[2000004],[],[]⟩
def c249 (N i n k v r)(h:QP N i n k v=some r):B1 prog 249 [(Bo i),(Bp7 n),vi k,(CB v)] (.tup [(J5 r.1),vi r.2]):=by
 refine M5 cf249 func249 call249 ntmps249 ?_;intro E D K Y J Q;cbv;refine G3 Y Q λw H Q=>?_;cbv;refine C1 Y h (c98 N i) .z λV h=>?_;cbv;apply E3 Y h<;>intro _ h
 ·exact Zg
 cbv;obtain⟨y,X,h⟩:=bind_some h;refine S8 cf249 Y K9 (xn D [(8,.v (.ref w 0)),fi 9 y.1] [cb w (Av y.2)]) JO ?_ ?_
 ·clear h;have h:=X;cbv;obtain⟨a,b,h⟩:=bind_some h;refine Bw4 Y (c276 N () rfl) .z Q λx H Q=>?_;cbv;refine AW7 Y (g:=λa=>.tup [(J5 a.1),vi a.2]) (Kf b) (c277 N N (⟨n,k,v,()⟩:Ap) i) (λ_=>.tup2 (.agg rfl) (.int _ _)) (.agg (.le .z (.le .z (.le .z (.le .z (.le .z (.le .z (.le .z (.fm (Q.get 0 rfl) (.nil))))))))) (.le .z (.nil))) λa P=>?_;obtain rfl:=J9 P;cbv;refine D6 Y Q 1 rfl rfl λH Q=>?_;cbv;cases h;exact⟨_,⟨rfl,rfl,Q.tail⟩,.e2 .z,rfl⟩
 clear X;exact S1
@[reducible, instance] def zc249 (N aC bS aV bT):=Ct.mk (c249 N aC bS aV bT)
def cf229:=VZ [] [(2,5)]
def c229 (N a e b i r)(h:Ll N a e b i=some r):B1 prog 229 [(Bo a),(Bp7 e),vi b,(CB i)] (.bool r):=by
 refine M5 cf229 func229 call229 ntmps229 ?_;exact T0
@[reducible, instance] def zc229 (N aC bS aV bT):=Ct.mk (c229 N aC bS aV bT)
def cf230:Cf:=⟨[6,7,3000041,8000041,9000041],[(6,20)],[],[],[(44,1000007)],[]⟩
def c230 (N F A G r) (h:Bu N F A G=some r):B1 prog 230 [.eref (C9 F) 0,sr eCl0 A,vi G] ((Bp7 r)):=by
 refine M5 cf230 func230 call230 ntmps230 ?_;intro E D K Y J Q;cbv;refine G3 Y Q λy H Q=>?_;cbv;refine Ch2 Y (f:=eCl4) Sz Q 1 h λl3 j H I h Q=>?_;have Q:C3 Eq D (.blk j.q.id (.arr 1 (j.q.pre++lst (Ke eCl4) j.row++j.q.rest))::cb y [.sl [] .nil]::(QT j++[])) H:=Q;cbv;refine G3 Y Q λV H Q=>?_;cbv;refine D6 Y Q 0 rfl rfl λH Q=>?_;cbv;apply L6 Y;cbv;obtain⟨U,X,h⟩:=bind_some h;refine S0 cf230 Y K9 (γ:=Rw B0) (λB g=>[(0,.v (.eref (C9 F) 0)),fi 2 G,(6,.v (.ref y 0)),(7,.v (.ref V 0)),(12,.v (sr eCl0 A)),fi 13 (Ar.len A),fi 14 B.1]) (λB g C=>IM g B.2/\C3 Eq D (cb V [.own g.q.id g.q.lo g.q.n]:: .blk g.q.id (.arr 1 (g.q.pre++lst (Ke eCl4) g.row++g.q.rest))::cb y [.sl [] .nil]::(QT g++[])) C) (λx e l C=>∃v:Rw B0,IM v x/\e= .exit 0/\l=[(6,.v (.ref y 0)),(7,.v (.ref V 0))]/\C3 Eq D (cb V [.own v.q.id v.q.lo v.q.n]:: .blk v.q.id (.arr 1 (v.q.pre++lst (Ke eCl4) v.row++v.q.rest))::cb y [.sl [] .nil]::(QT v++[])) C) JO ?_ j X ?_ ?_ ?_
 ·rintro B n H o ⟨b,Q⟩ h;cbv;apply E3 Y h<;>intro _ h
  ·cbv;refine G0 Y eCn8 h λR h=>?_;cbv;apply E3 Y h<;>intro _ h
   ·cbv;obtain⟨Z,u,h⟩:=bind_some h
    obtain⟨a,W,P,p⟩:=b.at u
    obtain⟨S,Q,q⟩:=Q.rtake (w:=n) (T1:=[]) (T2:=[]) 3 rfl P;refine AV7 Y Q 0 rfl p λH Q=>?_
    repeat' (cbv;apply E0 Y Q 1 rfl)
    cbv;refine AM9 Y (f:=Ke eCl4) Q b.ok 2 rfl a ?_;cbv;refine BP5 Y (f:=Ke eCl4) (λ_=>rfl) Q b.ok 2 rfl a.1 P ?_;cbv;refine G0 Y eCn1 h λz h=>?_;cbv;apply FQ Y trivial;cbv;refine Bw5 (f:=eCl4) Y Bd3 Sz (l:=Z) (m:=[z]) .z (.lstc (.eq (eCn1 z) .z) (.lst0)) h λi h=>?_;cbv;refine AW0 Y Q 0 rfl λk H Q d=>?_;cbv;refine AM9 Y (f:=Ke eCl4) Q b.ok 2 rfl a ?_;cbv;refine AA1 Y (f:=Ke eCl4) (tz:=1) (x':=(i,k)) (λ_=>⟨.sl (lst eCl4 i) k,.refl _,rfl,rfl,rfl⟩) Sz Q b.ok 2 rfl a λH Q=>?_;cbv;obtain⟨L,T,h⟩:=bind_some h;obtain⟨M,c,s,Q⟩:∃w0:Rw B0,w0.q=n.q/\IM w0 L/\C3 Eq D (cb V [.own w0.q.id w0.q.lo w0.q.n]:: .blk w0.q.id (.arr 1 (w0.q.pre++lst (Ke eCl4) w0.row++w0.q.rest))::cb y [.sl [] .nil]::(QT w0++[])) H:=⟨(⟨n.q,n.row.set (R.eF).toNat (i,k)⟩:Rw B0),rfl,by rw[Bq1 T];exact b.put _ d,(by have e:=q (i,k) H [cb V [.own n.q.id n.q.lo n.q.n],.blk n.q.id (.arr 1 (n.q.pre++lst (Ke eCl4) (n.row.set (R.eF).toNat (i,k))++n.q.rest)),cb y [.sl [] .nil]] Q;simp only[CW,K3,F2]at e ⊢;exact e)⟩
    try rw[<-c]
    cases h;exact⟨_,M,rfl,.e rfl (.e2 (.e4 .z)),rfl,s,Q⟩
   exact Zg
  exact Zg
 ·exact zbr
 ·exact⟨I,Q⟩
 clear X;rintro e l H ⟨O,t,rfl,rfl,Q⟩;cbv;refine Bv6 Y (e:=eCo7) eCq4 Q t 0 1 rfl rfl rfl Sz λH Q=>?_;have Q:C3 Eq D [cb V [sr eCo7 U],cb y [.sl [] .nil]] H:=Q.rdrop (w:=O) (T1:=[]) (T2:=[]) 2 rfl;exact Zg
@[reducible, instance] def zc230 (N aK aB cO):=Ct.mk (c230 N aK aB cO)
def cf196:=VZ [] [(1,13)]
def c196 (N b k a e i r)(h:S7 N b k a e i=some r):B1 prog 196 [.eref (C9 b) 0,(Bo k),sr eCl0 a,vi e,vi i] (.bool r):=by
 refine M5 cf196 func196 call196 ntmps196 ?_;exact T0
@[reducible, instance] def zc196 (N aK bW aB aV bD):=Ct.mk (c196 N aK bW aB aV bD)
def cf195:=VZ [] [(3,28)]
def c195 (N P i b k r) (h:Bb N P i b k=some r):Gj prog 195 (λy=>[y,.eref [vi P] 0,.eref [.eref (C9 i) 0] 0,.eref (E2 b) 0,.eref [sr eCl0 k] 0]) (List.map (λ(x:(Up A3))=>[sr eCl0 x]) r) Zc:=by
 unfold Bb at h
 obtain⟨⟨w0,u⟩,O,v⟩:=bind_some h;clear h;have v:=J9 v;subst v;have h:=O;clear O;refine M9 cf195 K9 func195 QX JO call195 ntmps195 QX (λ_=>rfl) ?_;intro y I D d c j tl F E H K Y Q J n
 have Q:C3 (I (List.map (λ(x:(Up A3))=>[sr eCl0 x]) (w0++[])++tl)) F [] H:=by rw[F2];exact Q
 cbv;obtain⟨z,p,t,X,h,R⟩:=M2 h
 rw[R,E1]at Q
 clear R;refine Dj cf195 Y K9 (γ:=Unit) (λA g=>[(0,.v (y)),(2,.v (.eref [.eref (C9 i) 0] 0)),(3,.v (.eref (E2 b) 0)),(4,.v (.eref [sr eCl0 k] 0)),fi 6 A]) (λA g w a=>C3 (I (List.map (λ(x:(Up A3))=>[sr eCl0 x]) w++tl)) F [] a) (λx e l w a=>e= .exit 0/\l=[]/\C3 (I (List.map (λ(x:(Up A3))=>[sr eCl0 x]) w++tl)) F [] a) (λe l a=>(e= .ret/\l=[]/\C3 D F [] a)) JO ?_ (w':=p++[]) () X ?_ ?_ ?_ ?_
 ·rintro A _ B q H o Q h
  skip
  repeat' (cbv;first|apply E3 Y h<;>intro _ h|apply L6 Y|refine G0 Y eCn1 h λ_ h=>?_|refine U8 Y (g:=λV=>.bool V) h (c196 _ _ _ _ _ _) .z λV h=>?_)
  ·cbv;obtain⟨s,h,R⟩:=Q5 h
   rw[R,E1]at Q
   clear R;have Q:C3 (I ([sr eCl0 ([(⟨b.Var,A⟩:A3)])]::(List.map (λ(x:(Up A3))=>[sr eCl0 x]) (s++q)++tl))) F [] _:=Q;refine Be Y d c j Q (.cons (.lit _ (G1 ((eCn8 (⟨b.Var,A⟩:A3)).symm) (E4))) .z) (λH Q=>?_) (λH Q=>?_)
   ·cbv;apply HC Y (nt_eq _);cbv;obtain⟨m,rfl⟩:=D0 h
    rw[<-m]at Q
    exact zah
   exact Ly
  ·cbv;obtain⟨m,rfl⟩:=D0 h
   rw[<-m]at Q
   exact zah
  ·cbv;obtain⟨m,rfl⟩:=D0 h
   rw[<-m]at Q
   exact zah
  cbv;obtain⟨m,rfl⟩:=D0 h
  rw[<-m]at Q
  exact L1
 ·exact FW
 ·exact Q
 ·rintro e l H ⟨rfl,rfl,Q⟩;cbv;obtain⟨m,_⟩:=D0 h
  rw[<-m]at Q
  exact Hw
 rintro e l H f;obtain⟨rfl,rfl,Q⟩:=f;clear h;cbv;exact n _ _ _ Q trivial
def c152 (N a F b e r)(h:X5 N a F b e=some r):Bj prog 152 [.eref (C9 a) 0,(D5 F),sr eCl0 b,vi e] (λv=>Fs prog v (r.map λ(x:(Up A3))=>[sr eCl0 x])):=by
 refine N7 OM K9 func152 QX JO call152 ntmps152 QX QX ?_;intro E H0 K Y J;have Q:C3 Eq H0 [] H0:=.start D7 rfl;cbv;exact J _ _ _ Q (O9 call195 (c195 N e a F b r h))
def c231 (N b r) (h:L9 N b=some r):Gj prog 231 (λn=>[n,.eref [sr eCl8 b] 0]) (List.map (λ(x:(Up A3))=>[sr eCl0 x]) r) Zc:=by
 unfold L9 at h
 obtain⟨⟨w0,q⟩,O,k⟩:=bind_some h;clear h;have k:=J9 k;subst k;have h:=O;clear O;refine M9 OM K9 func231 QX JO call231 ntmps231 QX (λ_=>rfl) ?_;intro n I D y v V tl F E H K Y Q J i
 have Q:C3 (I (List.map (λ(x:(Up A3))=>[sr eCl0 x]) (w0++[])++tl)) F [] H:=by rw[F2];exact Q
 cbv;apply L6 Y;cbv;obtain⟨s,c,p,X,h,R⟩:=M2 h
 rw[R,E1]at Q
 clear R;refine Dj OM Y K9 (γ:=Unit) (λA g=>[(0,.v (n)),(5,.v (sr eCl8 b)),fi 6 (Ar.len b),fi 7 A]) (λA g w a=>C3 (I (List.map (λ(x:(Up A3))=>[sr eCl0 x]) w++tl)) F [] a) (λx e l w a=>e= .exit 0/\l=[]/\C3 (I (List.map (λ(x:(Up A3))=>[sr eCl0 x]) w++tl)) F [] a) (λe l a=>(e= .ret/\l=[]/\C3 D F [] a)) JO ?_ (w':=c++[]) () X ?_ ?_ ?_ ?_
 ·rintro A _ t d H o Q h
  skip
  cbv;apply E3 Y h<;>intro _ h
  ·cbv;refine G0 Y eCn5 h λj h=>?_;cbv;obtain⟨f,h,R⟩:=Q5 h
   rw[R,E1]at Q
   clear R;have Q:C3 (I ([sr eCl0 j]::(List.map (λ(x:(Up A3))=>[sr eCl0 x]) (f++d)++tl))) F [] _:=Q;refine Be Y y v V Q .z (λH Q=>?_) (λH Q=>?_)
   ·cbv;apply HC Y (nt_eq _);cbv;obtain⟨m,rfl⟩:=D0 h
    rw[<-m]at Q
    exact zc4
   exact Ly
  cbv;obtain⟨m,rfl⟩:=D0 h
  rw[<-m]at Q
  exact L1
 ·exact .e4 .z
 ·exact Q
 ·rintro e l H ⟨rfl,rfl,Q⟩;cbv;obtain⟨m,_⟩:=D0 h
  rw[<-m]at Q
  exact Hw
 exact zb6
def c197 (N a r)(h:BC N a=some r):Bj prog 197 [sr eCl8 a] (λv=>Fs prog v (r.map λ(x:(Up A3))=>[sr eCl0 x])):=by
 refine N7 OM K9 func197 QX JO call197 ntmps197 QX QX ?_;intro E H0 K Y J;have Q:C3 Eq H0 [] H0:=.start D7 rfl;cbv;exact J _ _ _ Q (O9 call231 (c231 N a r h))
def c251 {a:A3->A3->OS Int}{g:Nat}{C:Up V}(eg:∀vals w,(callFunc g vals).run prog w= .ok (.enter g vals) w)(d:∀b e r,a b e=some r->B1 prog g ([(X1 b),(X1 e)]++C) (vi r)){l r:Up A3}(h:Pz a l=some r):
 An6 prog 251 (.func (.func g) [] C) 2 (lst eCl0 l) (lst eCl0 r):=VP Go.Proofs.Tryz.sorts251 call251 (va:=λx=>(ty2 x)) eCn8 (λ_=>rfl) eg d h
def c252 (N a b r)(h:Iy N a b=some r):B1 prog 252 [(X1 a),(X1 b)] (vi r):=by
 refine M5 OM func252 call252 ntmps252 ?_;exact T0
def Sw (N b e r)(h:X7 N b e=some r):B1 prog 233 [sr eCl0 b,sr eCl0 e] (sr eCl0 r):=by
 refine Ch (T:=TT) OM K9 func233 QX JO call233 ntmps233 QX QX ?_;intro E H0 K Y J l;have Q:C3 Eq H0 [] H0:=.start D7 rfl
 repeat' (cbv;first|apply L6 Y|refine Aw7 Y Q a 0 rfl h (λx X=>c251 (g:=252) (C:=[]) call252 (λv w r X=>c252 N v w r X) X) λ_ H a Q h=>?_|(cases h;exact l n _ _ 0 _ _ Q rfl (BH Y a) .z)|refine XL Y (f:=eCl0) Sz (z0:=((⟨0,0⟩:A3):A3)) ((.eq (eCn8 _) .z)) Q h λ_ _ H i h Q=>?_|refine Ff (f:=eCl0) Y Dg Sz Q i 0 rfl (m:=b) (Dr (f:=eCl0) Y Dg .z) h λ_ _ H k Q h=>?_|refine Ff (f:=eCl0) Y Dg Sz Q k 0 rfl (m:=e) (Dr (f:=eCl0) Y Dg .z) h λ_ n H a Q h=>?_)
@[reducible, instance] def zc233 (N aD aF):=Ct.mk (Sw N aD aF)
def c234 (N a r)(h:Y3 N a=some r):B1 prog 234 [sr eCl0 a] (vi r):=by
 refine M5 OM func234 call234 ntmps234 ?_;exact T0
@[reducible, instance] def zc234 (N aB):=Ct.mk (c234 N aB)
def c280 (N:Nat)(a:Up A3)(e:V)(i:A3->OS Bool)(l:∀k q,i k=some q->U9 prog e [(X1 k)] (.bool q))(r:Int)(h:BY N a i=some r):B1 prog 280 [sr eCl0 a,e] (vi r):=by
 refine M5 OM func280 call280 ntmps280 ?_;intro E D K Y J Q;cbv;apply L6 Y;cbv;obtain⟨s,X,h⟩:=bind_some h;refine J2 OM Y K9 (λA=>[(0,.v (sr eCl0 a)),(1,.v (e)),fi 7 (Ar.len a),fi 8 A]) (xi D) (xm D 0 (λ_=>[]) (λy=>[fi 4 y])) JO ?_ X Zf Q Zq;intro A H o Q h;cbv;apply E3 Y h<;>intro _ h
 ·cbv;refine G0 Y eCn8 h λn h=>?_;exact zab
 exact Zg
def c253 (N:Nat)(a:Up A3)(e:V)(b:A3->OS Bool)(k:∀i q,b i=some q->U9 prog e [(X1 i)] (.bool q))(r:Bool)(h:S5 N a b=some r):B1 prog 253 [sr eCl0 a,e] (.bool r):=by
 refine M5 OM func253 call253 ntmps253 ?_;intro E D K Y J Q;cbv;refine C1 Y h (c280 N a e b k) .z λl h=>?_;exact Zg
def c255 (N b a r)(h:Dh N b a=some r):B1 prog 255 [(X1 b),.eref [vi a] 0] (.bool r):=by
 refine M5 OM func255 call255 ntmps255 ?_;exact T0
def c236 (N e a r)(h:CC N e a=some r):B1 prog 236 [sr eCl0 e,vi a] (.bool r):=by
 refine M5 OM func236 call236 ntmps236 ?_;intro E D K Y J Q;cbv;refine C1 Y (g:=λb=>.bool b) h (λb X=>c253 N e (.func (.func 255) [] [.eref [vi a] 0]) (λi=>Dh N i a) (λi r X=>B1.value (F:=[]) (C:=[.eref [vi a] 0]) (c255 N i a r X)) b X) .z λb h=>?_;exact Zg
@[reducible, instance] def zc236 (N aB bD):=Ct.mk (c236 N aB bD)
def c254 (N b a r)(h:EC N b a=some r):B1 prog 254 [(X1 b),.eref [sr eCl0 a] 0] (.bool r):=by
 refine M5 OM func254 call254 ntmps254 ?_;exact T0
def c235 (N e a r)(h:Gl N e a=some r):B1 prog 235 [sr eCl0 e,sr eCl0 a] (.bool r):=by
 refine M5 OM func235 call235 ntmps235 ?_;intro E D K Y J Q;cbv;refine C1 Y (g:=λb=>.bool b) h (λb X=>c253 N e (.func (.func 254) [] [.eref [sr eCl0 a] 0]) (λi=>EC N i a) (λi r X=>B1.value (F:=[]) (C:=[.eref [sr eCl0 a] 0]) (c254 N i a r X)) b X) .z λb h=>?_;exact Zg
def cf202:=VZ [] [(6,11)]
def c202 (N:Nat):∀n k b r,Bp N n k b=some r->Gj prog 202 (λp=>[sr eCn9 k,sr eCl0 b,p]) (List.map (λ(x:(Up A3))=>[sr eCl0 x]) r) rbB:=by
 intro n
 induction n with
 |zero=>intro k b r h;cases h
 |succ n ih=>
 intro k b r h
 unfold Bp at h
 obtain⟨⟨w0,M⟩,O,V⟩:=bind_some h;clear h;have V:=J9 V;subst V;have h:=O;clear O;refine M9 cf202 K9 func202 QX JO call202 ntmps202 QX (λ_=>rfl) ?_;intro p I D s q t tl F E H K Y Q J y
 have Q:C3 (I (List.map (λ(x:(Up A3))=>[sr eCl0 x]) (w0++[])++tl)) F [] H:=by rw[F2];exact Q
 repeat' (cbv;first|apply E3 Y h<;>intro _ h|apply L6 Y|refine G0 Y eCp7 h λu h=>?_)
 ·cbv;obtain⟨A,h,R⟩:=Q5 h
  rw[R,E1]at Q
  clear R;have Q:C3 (I ([sr eCl0 b]::(List.map (λ(x:(Up A3))=>[sr eCl0 x]) (A++[])++tl))) F [] _:=Q;refine Be Y s q t Q .z (λH Q=>?_) (λH Q=>?_)
  ·cbv;obtain⟨m,_⟩:=D0 h
   rw[<-m]at Q
   exact J _ _ _ Q rfl
  clear h;cbv;exact y _ _ _ Q rfl
 cbv;obtain⟨S,G,L,X,h,R⟩:=M2 h
 rw[R,E1]at Q
 clear R;refine Dj cf202 Y K9 (γ:=Unit) (λj g=>[(0,.v (sr eCn9 k)),(1,.v (sr eCl0 b)),(2,.v (p)),(17,.v (sr eCl8 u)),fi 18 (Ar.len u),fi 19 j]) (λj g w i=>C3 (I (List.map (λ(x:(Up A3))=>[sr eCl0 x]) w++tl)) F [] i) (λx e l w i=>e= .exit 0/\l=[]/\C3 (I (List.map (λ(x:(Up A3))=>[sr eCl0 x]) w++tl)) F [] i) (λe l i=>(e= .ret/\l=[(6,.b false)]/\C3 D F [] i)) JO ?_ (w':=G++[]) () X ?_ ?_ ?_ ?_
 ·rintro j _ T U H o Q h
  skip
  repeat' (cbv;first|apply E3 Y h<;>intro _ h|refine G0 Y eCn5 h λ_ h=>?_|refine U8 Y (g:=λP=>.bool P) h (c235 _ _ _) .z λP h=>?_|refine U8 Y (g:=λa=>sr eCl0 a) h (Sw _ _ _) .z λa h=>?_|refine Aj4 Y (f:=eCn9) Tst h λc _ h=>?_)
  ·cbv;obtain⟨d,B,h⟩:=bind_some h;obtain⟨C,h,R⟩:=Q5 h
   rw[R,E1]at Q
   clear R
   rw[P8,E1]at Q
   refine Aj6 Y s q t (ih c a d B) Q (.cons (.ro _ _) .z) (λv H W Q=>?_) (λv H W Q=>?_)
   ·cases W;clear B;cbv;apply HC Y (nt_eq _);cbv;obtain⟨m,rfl⟩:=D0 h
    rw[<-m]at Q
    exact⟨_,(),rfl,.e2 (.e4 .z),rfl,Q⟩
   exact zar
  ·cbv;obtain⟨m,rfl⟩:=D0 h
   rw[<-m]at Q
   exact⟨_,(),rfl,.e2 (.e4 .z),rfl,Q⟩
  cbv;obtain⟨m,rfl⟩:=D0 h
  rw[<-m]at Q
  exact L1
 ·exact .e2 (.e4 .z)
 ·exact Q
 ·rintro e l H ⟨rfl,rfl,Q⟩;cbv;obtain⟨m,_⟩:=D0 h
  rw[<-m]at Q
  exact J _ _ _ Q rfl
 rintro e l H z;obtain⟨rfl,rfl,Q⟩:=z;clear h;cbv;exact y _ _ _ Q rfl
def cf206:=VZ [] [(3,23),(5,13),(10,25)]
def c206 (N b F e a r)(h:Cl N b F e a=some r):B1 prog 206 [.eref (C9 b) 0,(D5 F),sr eCl0 e,sr eCl0 a] (.bool r):=by
 refine M5 cf206 func206 call206 ntmps206 ?_;intro E D K Y J Q;cbv;apply E3 Y h<;>intro _ h
 ·exact Zg
 cbv;apply E3 Y h<;>intro _ h
 ·exact Zg
 cbv;refine C1 Y h (Sw N e a) .z λk h=>?_;cbv;refine G0 Y eCn8 h λn h=>?_;cbv;obtain⟨l,X,h⟩:=bind_some h;exact J2 cf206 Y K9 (λi=>[(0,.v (.eref (C9 b) 0)),(3,.v (sr eCl0 a)),(5,.v (.eref (E2 F) 0)),(9,.v (sr eCl0 k)),fi 10 i]) (xi D) (xm D 1 (λ_=>[]) (λ_=>[(8,.b false)])) JO Zi X Zf Q Zq
def cf69:=F5 [8,9] [(3,3)] [(39,12)]
def Mf (N n:Nat):Prop:=∀(a:C2) (F:A0) (b:Up A3) (e:Int) (r:(Up (Up A3))),G6 N n a F b e=some r->B1 prog 69 [.eref (C9 a) 0,(D5 F),sr eCl0 b,vi e] (sr eCl8 r)
def cf153:Cf:=⟨[9],[(2,7),(5,8)],[],[],[(400000005,9)],[]⟩
def Ce6 (N n:Nat):Prop:=∀(a:C2) (F:A0) (b:Up A3) (e:Int) (r:(Up (Up A3))),W5 N n a F b e=some r->Bj prog 153 [.eref (C9 a) 0,(D5 F),sr eCl0 b,vi e] (λv=>Fs prog v (r.map λ(x:(Up A3))=>[sr eCl0 x]))
def Ce5 (N n:Nat):Prop:=∀(a:C2) (F:A0) (b:Up A3) (e:Int) (r:(Up (Up A3))),W6 N n a F b e=some r->Bj prog 154 [.eref (C9 a) 0,(D5 F),sr eCl0 b,vi e] (λv=>Fs prog v (r.map λ(x:(Up A3))=>[sr eCl0 x]))
def Ce4 (N n:Nat):Prop:=∀(a:C2) (F:A0) (b:Up A3) (e:Int) (r:(Up (Up A3))),W7 N n a F b e=some r->Bj prog 155 [.eref (C9 a) 0,(D5 F),sr eCl0 b,vi e] (λv=>Fs prog v (r.map λ(x:(Up A3))=>[sr eCl0 x]))
def Ce3 (N n:Nat):Prop:=∀(a:C2) (F:A0) (b:Up A3) (e:Int) (r:(Up (Up A3))),V2 N n a F b e=some r->Bj prog 156 [.eref (C9 a) 0,(D5 F),sr eCl0 b,vi e] (λv=>Fs prog v (r.map λ(x:(Up A3))=>[sr eCl0 x]))
def Ce2 (N n:Nat):Prop:=∀(a:C2) (F:A0) (b:Up A3) (e:Int) (r:(Up (Up A3))),M3 N n a F b e=some r->Bj prog 157 [.eref (C9 a) 0,(D5 F),sr eCl0 b,vi e] (λv=>Fs prog v (r.map λ(x:(Up A3))=>[sr eCl0 x]))
def cf198:=VY [1000009]
def BS0 (N n:Nat):Prop:=∀(b:C2) (F:A0) (e:Up A3) (h:Int) (a:V) (i:(Up A3)->Int->OS (Up (Up A3))) (w:∀k l q,i k l=some q->U9 prog a [sr eCl0 k,vi l] (sr eCl8 q)) (y:OneV a) (r:(Up (Up A3))),V1 N n b F e h i=some r->Bj prog 198 [.eref (C9 b) 0,(D5 F),sr eCl0 e,vi h,a] (λv=>Fs prog v (r.map λ(x:(Up A3))=>[sr eCl0 x]))
def Ce1 (N n:Nat):Prop:=∀(b:Up A3) (e:Int) (a:C2) (h:A0) (r:(Up (Up A3))),U3 N n b e a h=some r->B1 prog 199 [sr eCl0 b,vi e,.eref [.eref (C9 a) 0] 0,.eref (E2 h) 0] (sr eCl8 r)
def Ce0 (N n:Nat):Prop:=∀(a:A0) (b:C2) (e:Up A3) (h:Int) (r:(Up (Up A3))),Aw N n a b e h=some r->Gj prog 200 (λi=>[i,.eref (E2 a) 0,.eref [.eref (C9 b) 0] 0,.eref [sr eCl0 e] 0,.eref [vi h] 0]) (List.map (λ(x:(Up A3))=>[sr eCl0 x]) r) Zc
def Cd9 (N n:Nat):Prop:=∀(a:A0) (b:C2) (e:Up A3) (h:Int) (r:(Up (Up A3))),Ax N n a b e h=some r->Gj prog 201 (λi=>[i,.eref (E2 a) 0,.eref [.eref (C9 b) 0] 0,.eref [sr eCl0 e] 0,.eref [vi h] 0]) (List.map (λ(x:(Up A3))=>[sr eCl0 x]) r) Zc
def cf203:=VZ [1000005] [(1,10),(6,8)]
def Cd8 (N n:Nat):Prop:=∀(a:C2) (b:A0) (e:Up A3) (h:Int) (r:(Up (Up A3))),Ae N n a b e h=some r->Gj prog 203 (λi=>[i,.eref [.eref (C9 a) 0] 0,.eref (E2 b) 0,.eref [sr eCl0 e] 0,.eref [vi h] 0]) (List.map (λ(x:(Up A3))=>[sr eCl0 x]) r) Zc
def Cd7 (N n:Nat):Prop:=∀(b:Up A3) (e:Int) (a:C2) (h:A0) (r:(Up (Up A3))),Q2 N n b e a h=some r->B1 prog 204 [sr eCl0 b,vi e,.eref [.eref (C9 a) 0] 0,.eref (E2 h) 0] (sr eCl8 r)
def cf205:=VZ [] [(0,10)]
def Cd6 (N n:Nat):Prop:=∀(a:C2) (b:A0) (e:Up A3) (h:Int) (r:(Up (Up A3))),Ad N n a b e h=some r->Gj prog 205 (λi=>[i,.eref [.eref (C9 a) 0] 0,.eref (E2 b) 0,.eref [sr eCl0 e] 0,.eref [vi h] 0]) (List.map (λ(x:(Up A3))=>[sr eCl0 x]) r) Zc
def cf232:=VZ [] [(3,10)]
def Cd2 (N n:Nat):Prop:=∀(a:C2) (b:A0) (e:Up A3) (h:Int) (i:V) (k:(Up A3)->Int->OS (Up (Up A3))) (y:∀l v q,k l v=some q->U9 prog i [sr eCl0 l,vi v] (sr eCl8 q)) (r:(Up (Up A3))),Ac N n a b e h k=some r->Gj prog 232 (λw=>[w,.eref [.eref (C9 a) 0] 0,.eref (E2 b) 0,.eref [sr eCl0 e] 0,.eref [vi h] 0,.eref [i] 0]) (List.map (λ(x:(Up A3))=>[sr eCl0 x]) r) Zc
def k69 (N n:Nat) (I:Ce6 N n) (L:Ce5 N n) (M:Ce4 N n) (O:Ce3 N n) (c:Ce2 N n):Mf N (n+1):=by
 intro aK aA aO aP r h
 unfold G6 at h
 refine M5 cf69 func69 call69 ntmps69 ?_;intro E D K Y J Q;cbv;refine G3 Y Q λp H Q=>?_;cbv;refine G3 Y Q λu H Q=>?_;cbv;refine ST Y .string V.str V.bool Q λB o4 H aa Q=>?_;cbv;refine U8 Y (g:=λr5=>.agg [.func (.func 152) [] [],.func (.func 153) [] [],.func (.func 154) [] [],.func (.func 155) [] [],.func (.func 156) [] [],.func (.func 157) [] [],.func (.func 157) [] [],.func (.func 157) [] []]) h (c112 N) .z λr5 h=>?_;cbv;refine BM2 Y (Good:=λv6 (f7:C2->A0->(Up A3)->Int->OS (Up (Up A3)))=>∀b k v y q,f7 b k v y=some q->AQ6 prog v6 [.eref (C9 b) 0,(D5 k),sr eCl0 v,vi y] (λw=>Fs prog w (q.map λ(x:(Up A3))=>[sr eCl0 x]))) (xs:=[.func (.func 152) [] [],.func (.func 153) [] [],.func (.func 154) [] [],.func (.func 155) [] [],.func (.func 156) [] [],.func (.func 157) [] [],.func (.func 157) [] [],.func (.func 157) [] []]) (.cons (λb k v y r X=>Bj.value (F:=[]) (C:=[]) (c152 N b k v y r X)) (.cons (λb k v y r X=>Bj.value (F:=[]) (C:=[]) (I b k v y r X)) (.cons (λb k v y r X=>Bj.value (F:=[]) (C:=[]) (L b k v y r X)) (.cons (λb k v y r X=>Bj.value (F:=[]) (C:=[]) (M b k v y r X)) (.cons (λb k v y r X=>Bj.value (F:=[]) (C:=[]) (O b k v y r X)) (.cons (λb k v y r X=>Bj.value (F:=[]) (C:=[]) (c b k v y r X)) (.cons (λb k v y r X=>Bj.value (F:=[]) (C:=[]) (c b k v y r X)) (.cons (λb k v y r X=>Bj.value (F:=[]) (C:=[]) (c b k v y r X)) (.nil))))))))) h λv6 f7 ab h=>?_;cbv;refine Bw2 Y h (λr8 X=>ab aK aA aO aP r8 X) .z λr8 v9 ac h=>?_;cbv;replace Q:=Q.tl0 (t:=.nil) rfl;obtain⟨an,X,h⟩:=bind_some h;replace Q:=Q.cast (L':=[.tl .nil,.blk B (.obj o4),cb u [.sl (lst eCl8 ([])) .nil],cb p [.sl [] .nil]]) (by simp only[ob,cb,sr,<-E4]<;>rfl);refine FA cf69 Y K9 (ι:=Unit) (enc:=λ(x:(Up A3))=>[sr eCl0 x]) (λ(a:(Up (Uf×Bool))×(Up (Up A3))) F H=>∃g:G5×Obj,(T3 g.1/\KL .string V.str V.bool g.2 a.1)/\C3 Eq F [.tl g.1,.blk B (.obj g.2),cb u [.sl (lst eCl8 a.2) g.1],cb p [.sl [] .nil]] H) (λ(r:((Up (Uf×Bool))×(Up (Up A3)))) e F H=>∃g:G5×Obj,(e= .ret/\T3 g.1/\KL .string V.str V.bool g.2 r.1)/\C3 Eq F [.tl g.1,.blk B (.obj g.2),cb u [.sl (lst eCl8 r.2) g.1],cb p [.sl [] .nil]] H) (λi a j=>[(4,.v (.eref [.eref (C9 aK) 0] 0)),(8,.v (.ref p 0)),(9,.v (.ref u 0)),(10,.v (.eref [.map B] 0)),(12,.v (sr eCl0 j))]) (λi a j F H=>∃g:G5×Obj,(T3 g.1/\KL .string V.str V.bool g.2 a.1)/\C3 Eq F [.tl g.1,.blk B (.obj g.2),cb u [.sl (lst eCl8 a.2) g.1],cb p [.sl [] .nil]] H) (λ_=>G7.ex λ_=>C3.stable D7 _) (λ_ _=>G7.ex λ_=>C3.stable D7 _) (λ_ _ _=>G7.ex λ_=>C3.stable D7 _) ac X (⟨⟨.nil,o4⟩,⟨trivial,aa⟩,Q⟩) Sz (λ_=>rfl) JO JO ?_ ?_ ?_ ?_
 ·rintro E ad j a U H Y ⟨⟨T,S⟩,⟨d,P⟩,Q⟩;clear X h;cbv;exact⟨(),⟨⟨T,S⟩,⟨d,P⟩,Q⟩,.e rfl (.e4 .z),rfl⟩
 ·rintro E ad _ j a U H o Y hF h ⟨⟨T,S⟩,⟨d,P⟩,Q⟩
  repeat' (cbv;first|apply E3 Y h<;>intro _ h|apply L6 Y|refine C1 Y h (c113 _ _) .z λ_ h=>?_|apply E0 Y Q 2 rfl|refine D6 Y Q 2 rfl rfl λH Q=>?_|(cases h;exact⟨_,rfl,⟨⟨T,S⟩,⟨d,P⟩,Q⟩⟩)|refine RK Y (kt:=9) (et:=4) JO JO Nq (false:Bool) JO rfl Q P 1 rfl h λ_ h=>?_|refine KW Y (kt:=9) (et:=4) JO JO Nq FB Q P 1 rfl h λ_ R H z h Q=>?_|refine Br (f:=eCl8) Y za7 Sz Q 0 rfl d (l:=a.2) (m:=[j]) .z (.lstc (.eq (eCn5 j) .z) (.lst0)) h λae s H Q A h=>?_)
  cbv;obtain⟨ao,X,h⟩:=bind_some h;refine S8 cf69 Y K9 (λe l H1=>e= .normal/\l=[(4,.v (.eref [.eref (C9 aK) 0] 0)),(8,.v (.ref p 0))]/\C3 Eq U [.tl s,.blk B (.obj R),cb u [.sl (lst eCl8 ae) s],cb p [.sl [] .nil]] H1) JO ?_ ?_
  ·exact F4
  clear X;rintro e l H ⟨rfl,rfl,Q⟩;cbv;apply E3 Y h<;>intro _ h
  ·cbv;refine D6 Y Q 3 rfl rfl λH Q=>?_;cbv;cases h;exact⟨_,rfl,rfl,⟨⟨s,R⟩,⟨rfl,⟨A,z⟩⟩,Q⟩⟩
  cbv;cases h;exact⟨_,rfl,⟨⟨s,R⟩,⟨A,z⟩,Q⟩⟩
 ·rintro G ah H rfl hd ⟨⟨W,af⟩,⟨al,aj⟩,Q⟩;have Q:C3 Eq D [.tl W,.blk B (.obj af),cb u [.sl (lst eCl8 ah.2) W],cb p [.sl [] .nil],.blk G DB] H:=C3.dblk hd Q;clear hd;cbv;apply E0 Y Q 2 rfl;cbv;refine D6 Y Q 3 rfl rfl λH Q=>?_;cbv;refine Ei Y Q 4 rfl λH Q=>?_;exact Zg
 rintro G ai e H rfl hd hX
 rcases hX with⟨⟨Z,ag⟩,⟨rfl,am,ak⟩,Q⟩
 have Q:C3 Eq D [.tl Z,.blk B (.obj ag),cb u [.sl (lst eCl8 ai.2) Z],cb p [.sl [] .nil],.blk G DB] H:=C3.dblk hd Q;clear hd;cbv;refine Ei Y Q 4 rfl λH Q=>?_;exact Zg
def k153 (N n:Nat)(l:Mf N n)(b:BS0 N n)(e:Ce1 N n):Ce6 N (n+1):=by
 intro i a P V r h
 unfold W5 at h
 refine N7 cf153 K9 func153 QX JO call153 ntmps153 QX QX ?_;intro E H0 K Y J;have Q:C3 Eq H0 [] H0:=.start D7 rfl;cbv;apply L6 Y;cbv;apply E3 Y h<;>intro _ h
 ·cbv;refine G0 Y eCl5 h λg h=>?_;cbv;refine C1 Y h (l i g P V) .z λc h=>?_;cbv;refine Au Y h (c197 N c) .z λm o w h=>?_;cbv;cases h;exact J _ _ _ Q w
 repeat' (cbv;first|refine Au Y h (λd X=>b i j P V (.func (.func 199) [] [.eref [.eref (C9 i) 0] 0,.eref [vi a.Op,sr eCl1 v,vi a.Typ,vi a.Var,vi a.dZ,vi a.Span,vi a.dU.Op,sr eCl6 a.dU.dT,vi a.dU.Var,vi a.dU.Field,vi a.dU.Kind,vi a.dU.Value.Kind,vi a.dU.Value.Num,.str a.dU.Value.Text] 0]) (λx y=>U3 N n x y i ({a with dT:=v})) (λx y r X=>B1.value (F:=[]) (C:=[.eref [.eref (C9 i) 0] 0,.eref [vi a.Op,sr eCl1 v,vi a.Typ,vi a.Var,vi a.dZ,vi a.Span,vi a.dU.Op,sr eCl6 a.dU.dT,vi a.dU.Var,vi a.dU.Field,vi a.dU.Kind,vi a.dU.Value.Kind,vi a.dU.Value.Num,.str a.dU.Value.Text] 0]) (e x y i ({a with dT:=v}) r X)) ⟨rfl,rfl⟩ d X) .z λ_ _ k h=>?_|refine G0 Y eCl5 h λj h=>?_|refine D6 Y Q 0 rfl rfl λH Q=>?_|refine G3 Y Q λ_ H Q=>?_|(cases h;exact J _ _ _ Q k)|refine Aj4 Y (f:=eCl1) AM h λv _ h=>?_|refine BY4 Y Q 0 rfl (.r (.cons (.ro _ _) .z)) λH Q=>?_)
def k154 (N n:Nat)(a:Ce0 N n):Ce5 N (n+1):=by
 intro b F e i r h
 unfold W6 at h
 refine N7 OM K9 func154 QX JO call154 ntmps154 QX QX ?_;intro E H0 K Y J;have Q:C3 Eq H0 [] H0:=.start D7 rfl;cbv;exact J _ _ _ Q (O9 call200 (a F b e i r h))
def k155 (N n:Nat)(a:Cd9 N n):Ce4 N (n+1):=by
 intro b F e i r h
 unfold W7 at h
 refine N7 OM K9 func155 QX JO call155 ntmps155 QX QX ?_;intro E H0 K Y J;have Q:C3 Eq H0 [] H0:=.start D7 rfl;cbv;exact J _ _ _ Q (O9 call201 (a F b e i r h))
def k156 (N n:Nat)(a:Cd8 N n):Ce3 N (n+1):=by
 intro b F e i r h
 unfold V2 at h
 refine N7 OM K9 func156 QX JO call156 ntmps156 QX QX ?_;intro E H0 K Y J;have Q:C3 Eq H0 [] H0:=.start D7 rfl;cbv;exact J _ _ _ Q (O9 call203 (a b F e i r h))
def k157 (N n:Nat)(a:Cd6 N n):Ce2 N (n+1):=by
 intro b F e i r h
 unfold M3 at h
 refine N7 OM K9 func157 QX JO call157 ntmps157 QX QX ?_;intro E H0 K Y J;have Q:C3 Eq H0 [] H0:=.start D7 rfl;cbv;exact J _ _ _ Q (O9 call205 (a b F e i r h))
def k198 (N n:Nat)(a:Cd2 N n):BS0 N (n+1):=by
 intro b F e i l k v w r h
 unfold V1 at h
 refine N7 cf198 K9 func198 QX JO call198 ntmps198 QX QX ?_;intro E H0 K Y J;have Q:C3 Eq H0 [] H0:=.start D7 rfl;cbv;apply FQ Y w;cbv;exact J _ _ _ Q (O9 call232 (a b F e i l k v r h))
def k199 (N n:Nat)(a:Mf N n):Ce1 N (n+1):=by
 intro e i b k r h
 unfold U3 at h
 refine M5 OM func199 call199 ntmps199 ?_;exact zbc
def k200 (N n:Nat) (i:Mf N n):Ce0 N (n+1):=by
 intro b k v y r h
 unfold Aw at h
 obtain⟨⟨w0,W⟩,O,c⟩:=bind_some h;clear h;have c:=J9 c;subst c;have h:=O;clear O;refine M9 OM K9 func200 QX JO call200 ntmps200 QX (λ_=>rfl) ?_;intro s I D z u B tl F E H K Y Q J P
 have Q:C3 (I (List.map (λ(x:(Up A3))=>[sr eCl0 x]) (w0++[])++tl)) F [] H:=by rw[F2];exact Q
 cbv;apply L6 Y;cbv;obtain⟨Z,M,U,X,h,R⟩:=M2 h
 rw[R,E1]at Q
 clear R;refine Dj OM Y K9 (γ:=Unit) (λA g=>[(0,.v (s)),(2,.v (.eref [.eref (C9 k) 0] 0)),(3,.v (.eref [sr eCl0 v] 0)),(4,.v (.eref [vi y] 0)),(11,.v (sr eCl1 b.dT)),fi 12 (Ar.len b.dT),fi 13 A]) (λA g w a=>C3 (I (List.map (λ(x:(Up A3))=>[sr eCl0 x]) w++tl)) F [] a) (λx e l w a=>e= .exit 0/\l=[]/\C3 (I (List.map (λ(x:(Up A3))=>[sr eCl0 x]) w++tl)) F [] a) (λe l a=>(e= .ret/\l=[]/\C3 D F [] a)) JO ?_ (w':=M++[]) () X ?_ ?_ ?_ ?_
 ·rintro A _ w4 S H o Q h
  skip
  cbv;apply E3 Y h<;>intro _ h
  ·cbv;refine G0 Y eCl5 h λT h=>?_;cbv;refine C1 Y h (i k T v y) .z λt h=>?_;cbv;apply L6 Y;cbv;obtain⟨G,f,C,X,h,R⟩:=M2 h
   rw[R,E1]at Q
   clear R;refine Dj OM Y K9 (γ:=Unit) (λd g=>[(0,.v (s)),(2,.v (.eref [.eref (C9 k) 0] 0)),(3,.v (.eref [sr eCl0 v] 0)),(4,.v (.eref [vi y] 0)),(11,.v (sr eCl1 b.dT)),fi 12 (Ar.len b.dT),fi 13 A,(21,.v (sr eCl8 t)),fi 22 (Ar.len t),fi 23 d]) (λd g w a=>C3 (I (List.map (λ(x:(Up A3))=>[sr eCl0 x]) w++tl)) F [] a) (λx e l w a=>e= .exit 2/\l=[(0,.v (s)),(2,.v (.eref [.eref (C9 k) 0] 0)),(3,.v (.eref [sr eCl0 v] 0)),(4,.v (.eref [vi y] 0)),(11,.v (sr eCl1 b.dT)),fi 12 (Ar.len b.dT),fi 13 A]/\C3 (I (List.map (λ(x:(Up A3))=>[sr eCl0 x]) w++tl)) F [] a) (λe l a=>(e= .ret/\l=[]/\C3 D F [] a)) JO ?_ (w':=f++S) () X ?_ ?_ ?_ ?_
   ·rintro d _ L j H o Q h
    skip
    cbv;apply E3 Y h<;>intro _ h
    ·cbv;refine G0 Y eCn5 h λq h=>?_;cbv;obtain⟨p,h,R⟩:=Q5 h
     rw[R,E1]at Q
     clear R;have Q:C3 (I ([sr eCl0 q]::(List.map (λ(x:(Up A3))=>[sr eCl0 x]) (p++j)++tl))) F [] _:=Q;refine Be Y z u B Q .z (λH Q=>?_) (λH Q=>?_)
     ·cbv;apply HC Y (nt_eq _);cbv;obtain⟨m,rfl⟩:=D0 h
      rw[<-m]at Q
      exact⟨_,(),rfl,.e2 (.e4 (.e4 .z)),rfl,Q⟩
     exact Ly
    cbv;obtain⟨m,rfl⟩:=D0 h
    rw[<-m]at Q
    exact zbg
   ·exact .e2 (.e4 (.e4 .z))
   ·exact Q
   ·rintro e l H ⟨rfl,rfl,Q⟩;cbv;obtain⟨m,rfl⟩:=D0 h
    rw[<-m]at Q
    exact zav
   rintro e l H V;obtain⟨rfl,rfl,Q⟩:=V;exact zca
  cbv;obtain⟨m,rfl⟩:=D0 h
  rw[<-m]at Q
  exact L1
 ·exact zbr
 ·exact Q
 ·rintro e l H ⟨rfl,rfl,Q⟩;cbv;obtain⟨m,_⟩:=D0 h
  rw[<-m]at Q
  exact Hw
 rintro e l H V;obtain⟨rfl,rfl,Q⟩:=V;clear h;cbv;exact P _ _ _ Q trivial
def k201 (N n:Nat) (k:Mf N n):Cd9 N (n+1):=by
 intro q P s u r h
 unfold Ax at h
 obtain⟨⟨w0,u0⟩,O,c⟩:=bind_some h;clear h;have c:=J9 c;subst c;have h:=O;clear O;refine M9 OM K9 func201 QX JO call201 ntmps201 QX (λ_=>rfl) ?_;intro G I D M L T tl F E H K Y Q J V
 have Q:C3 (I (List.map (λ(x:(Up A3))=>[sr eCl0 x]) (w0++[])++tl)) F [] H:=by rw[F2];exact Q
 cbv;apply L6 Y;cbv;replace Q:=Q.tl0 (t:=.nil) rfl;obtain⟨w3,w4,Z,X,h,R⟩:=M2 h
 rw[R,E1]at Q
 clear R;refine Dj OM Y K9 (γ:=G5) (λA g=>[(0,.v (G)),(2,.v (.eref [.eref (C9 P) 0] 0)),(3,.v (.eref [sr eCl0 s] 0)),(4,.v (.eref [vi u] 0)),(6,.v (.sl (lst eCn9 A.1) g)),(10,.v (sr eCl1 q.dT)),fi 11 (Ar.len q.dT),fi 12 A.2]) (λA g w y=>T3 g/\C3 (I (List.map (λ(x:(Up A3))=>[sr eCl0 x]) w++tl)) F [.tl g] y) (λx e l w y=>∃p:G5,T3 p/\e= .exit 0/\l=[(0,.v (G)),(2,.v (.eref [.eref (C9 P) 0] 0)),(6,.v (.sl (lst eCn9 x) p))]/\C3 (I (List.map (λ(x:(Up A3))=>[sr eCl0 x]) w++tl)) F [.tl p] y) (λe l y=>False) JO ?_ (w':=w4++[]) .nil X ?_ ?_ ?_ ?_
 ·rintro A t2 w5 w6 H o ⟨i,Q⟩ h
  skip
  cbv;apply E3 Y h<;>intro _ h
  ·cbv;refine G0 Y eCl5 h λx8 h=>?_;cbv;refine C1 Y h (k P x8 s u) .z λC h=>?_;cbv;refine Br (f:=eCn9) Y Tst Sz Q 0 rfl i (l:=A.1) (m:=[C]) .z (.lstc (.eq (eCp7 C) .z) (.lst0)) h λU j H Q b h=>?_;cbv;obtain⟨a,rfl⟩:=D0 h
   rw[<-a]at Q
   exact⟨_,j,rfl,.e4 (.e4 .z),rfl,⟨b,Q⟩⟩
  cbv;obtain⟨a,rfl⟩:=D0 h
  rw[<-a]at Q
  exact .inl ⟨_,_,rfl,⟨t2,i,rfl,rfl,Q⟩,.e rfl (.e2 .z),rfl⟩
 ·exact zbs
 ·exact Zy
 ·rintro e l H ⟨aa,z,rfl,rfl,Q⟩;cbv;apply E3 Y h<;>intro _ h
  ·cbv;obtain⟨d,B,h⟩:=bind_some h;obtain⟨ab,h,R⟩:=Q5 h
   rw[R,E1]at Q
   clear R
   rw[P8,E1]at Q
   refine Aj6 Y M L T (c202 N N Z ([]) d B) Q (.cons (.ro _ _) (.cons (.lit _ (E4)) .z)) (λv H W Q=>?_) (λv H W Q=>?_)
   ·cases W;clear B;cbv;obtain⟨a,_⟩:=D0 h
    rw[<-a]at Q
    exact Hw
   cases W;clear h B;cbv;exact V _ _ _ Q trivial
  cbv;obtain⟨a,_⟩:=D0 h
  rw[<-a]at Q
  exact Hw
 rintro e l H S;exact S.elim
def k203 (N n:Nat) (s:Mf N n) (P:BS0 N n) (V:Cd7 N n):Cd8 N (n+1):=by
 intro k f z A r h
 unfold Ae at h
 obtain⟨⟨w0,u0⟩,O,S⟩:=bind_some h;clear h;have S:=J9 S;subst S;have h:=O;clear O;refine M9 cf203 K9 func203 QX JO call203 ntmps203 QX (λ_=>rfl) ?_;intro yv I D B M T tl F E H K Y Q J p
 have Q:C3 (I (List.map (λ(x:(Up A3))=>[sr eCl0 x]) (w0++[])++tl)) F [] H:=by rw[F2];exact Q
 cbv;apply FQ Y T.1;cbv;refine G0 Y eCl5 h λx1 h=>?_;cbv;refine U8 Y (g:=λL=>sr eCl8 L) h (s k x1 z A) .z λL h=>?_;cbv;apply L6 Y;cbv;obtain⟨w4,w5,s8,X,h,a⟩:=M2 h
 rw[a,E1]at Q
 clear a;refine Dj cf203 Y K9 (γ:=Unit) (λW g=>[(1,.v (.eref [.eref (C9 k) 0] 0)),(2,.v (.eref (E2 f) 0)),(3,.v (.eref [sr eCl0 z] 0)),(4,.v (.eref [vi A] 0)),(5,.v (.eref [yv] 0)),(16,.v (sr eCl8 L)),fi 17 (Ar.len L),fi 18 W]) (λW g w d=>C3 (I (List.map (λ(x:(Up A3))=>[sr eCl0 x]) w++tl)) F [] d) (λx e l w d=>match(generalizing:=false) x with| .inl y=>e= .exit 0/\l=[(1,.v (.eref [.eref (C9 k) 0] 0)),(2,.v (.eref (E2 f) 0)),(3,.v (.eref [sr eCl0 z] 0)),(4,.v (.eref [vi A] 0)),(5,.v (.eref [yv] 0))]/\C3 (I (List.map (λ(x:(Up A3))=>[sr eCl0 x]) w++tl)) F [] d| .inr y=>e= .ret/\l=[]/\C3 (I (List.map (λ(x:(Up A3))=>[sr eCl0 x]) w++tl)) F [] d) (λe l d=>(e= .ret/\l=[]/\C3 D F [] d)) JO ?_ (w':=w5++[]) () X ?_ ?_ ?_ ?_
 ·rintro W _ w6 w7 H o Q h
  skip
  repeat' (cbv;first|apply E3 Y h<;>intro _ h|refine G0 Y eCn5 h λx9 h=>?_)
  ·cbv;obtain⟨m,rfl⟩:=D0 h
   rw[<-m]at Q
   exact L1
  ·cbv;obtain⟨Z,h,a⟩:=Q5 h
   rw[a,E1]at Q
   clear a;have Q:C3 (I ([sr eCl0 x9]::(List.map (λ(x:(Up A3))=>[sr eCl0 x]) (Z++w7)++tl))) F [] _:=Q;refine Be Y B M T Q .z (λH Q=>?_) (λH Q=>?_)
   ·cbv;apply HC Y (nt_eq _);cbv;obtain⟨m,rfl⟩:=D0 h
    rw[<-m]at Q
    exact⟨_,(),rfl,.e4 (.e4 .z),rfl,Q⟩
   exact Ly
  cbv;obtain⟨m,rfl⟩:=D0 h
  rw[<-m]at Q
  exact .inl ⟨_,_,rfl,⟨rfl,rfl,Q⟩,.e rfl (.e4 .z),rfl⟩
 ·exact .e4 (.e4 .z)
 ·exact Q
 ·rintro e l H G
  rcases s8 with ah|ai
  ·obtain⟨rfl,rfl,Q⟩:=G;cbv;refine G0 Y eCl5 h λac h=>?_;cbv;refine Au Y h (λt X=>P k ac z A (.func (.func 204) [] [.eref [.eref (C9 k) 0] 0,.eref (E2 f) 0]) (λy1 y2=>Q2 N n y1 y2 k f) (λy1 y2 r X=>B1.value (F:=[]) (C:=[.eref [.eref (C9 k) 0] 0,.eref (E2 f) 0]) (V y1 y2 k f r X)) ⟨rfl,rfl⟩ t X) .z λt ae q h=>?_;cbv;obtain⟨af,u,ad,X,h,a⟩:=M2 h
   rw[a,E1]at Q
   clear a;refine SR cf203 Y K9 (ι:=Unit) (σ:=Unit) (R:=Unit) (enc:=λ(x:(Up A3))=>[sr eCl0 x]) (λ_ w c H=>C3 (I (List.map (λ(x:(Up A3))=>[sr eCl0 x]) w++tl)) c [] H) (λ_ e w c H=>False) (λe c H=>e= .ret/\C3 D c [] H) (λi _ b=>[(5,.v (.eref [yv] 0)),(8,.v (sr eCl0 b))]) (λi _ b w c H=>C3 (I (List.map (λ(x:(Up A3))=>[sr eCl0 x]) w++tl)) c [] H) (λ_ _=>C3.stable (B _) _) (λ_ _ _=>⟨λh=>h.elim,λ_ _ h=>h.elim⟩) (λ_=>G7.con (C3.stable M _)) (λ_ _ _ _=>C3.stable (B _) _) q X (w':=u++[]) Q Sz (λ_=>rfl) JO JO ?_ ?_ ?_ ?_ ?_
   ·rintro E U b _ w j H Y Q;exact zb9
   ·rintro E U _ b _ ag aa j H o Y hF h Q;cbv;obtain⟨ab,h,a⟩:=Q5 h
    rw[a,E1]at Q
    clear a;have Q:C3 (I ([sr eCl0 b]::(List.map (λ(x:(Up A3))=>[sr eCl0 x]) (ab++aa)++tl))) j [] _:=Q;refine Be Y B M T Q .z (λH Q=>?_) (λH Q=>?_)
    ·cbv;apply HC Y (nt_eq _);cbv;obtain⟨m,rfl⟩:=D0 h
     rw[<-m]at Q
     exact⟨_,rfl,Q⟩
    clear h;cbv;apply HB Y (nt_eq _);cbv
    first|exact .inr ⟨rfl,rfl,Q⟩|exact .inr (Q)
   ·rintro v _ H rfl hd Q;have Q:C3 (I (List.map (λ(x:(Up A3))=>[sr eCl0 x]) (u++[])++tl)) F [.blk v DB] H:=C3.dblk hd Q;clear hd X;cbv;refine Ei Y Q 0 rfl λH Q=>?_;cbv;obtain⟨m,_⟩:=D0 h
    rw[<-m]at Q
    exact Hw
   ·exact zbz
   rintro v e H hd ⟨rfl,Q⟩;have Q:C3 D F [.blk v DB] H:=C3.dblk hd Q;clear hd X h;cbv;refine Ei Y Q 0 rfl λH Q=>?_;cbv;exact p _ _ _ Q trivial
  obtain⟨rfl,rfl,Q⟩:=G;cbv;obtain⟨m,_⟩:=D0 h
  rw[<-m]at Q
  exact Hw
 rintro e l H G;obtain⟨rfl,rfl,Q⟩:=G;clear h;cbv;exact p _ _ _ Q trivial
def k204 (N n:Nat)(a:Mf N n):Cd7 N (n+1):=by
 intro e i b k r h
 unfold Q2 at h
 refine M5 OM func204 call204 ntmps204 ?_;exact zbc
def k205 (N n:Nat) (b:Mf N n):Cd6 N (n+1):=by
 intro V d c f r h
 unfold Ad at h
 obtain⟨⟨w0,G⟩,O,v⟩:=bind_some h;clear h;have v:=J9 v;subst v;have h:=O;clear O;refine M9 cf205 K9 func205 QX JO call205 ntmps205 QX (λ_=>rfl) ?_;intro B I D p j s tl F E H K Y Q J k
 have Q:C3 (I (List.map (λ(x:(Up A3))=>[sr eCl0 x]) (w0++[])++tl)) F [] H:=by rw[F2];exact Q
 cbv;refine G0 Y eCl5 h λz h=>?_;cbv;refine U8 Y (g:=λi=>sr eCl8 i) h (b V z c f) .z λi h=>?_;cbv;apply L6 Y;cbv;obtain⟨L,t,C,X,h,R⟩:=M2 h
 rw[R,E1]at Q
 clear R;refine Dj cf205 Y K9 (γ:=Unit) (λy g=>[(0,.v (B)),(1,.v (.eref [.eref (C9 V) 0] 0)),(2,.v (.eref (E2 d) 0)),(3,.v (.eref [sr eCl0 c] 0)),(15,.v (sr eCl8 i)),fi 16 (Ar.len i),fi 17 y]) (λy g w a=>C3 (I (List.map (λ(x:(Up A3))=>[sr eCl0 x]) w++tl)) F [] a) (λx e l w a=>e= .exit 0/\l=[]/\C3 (I (List.map (λ(x:(Up A3))=>[sr eCl0 x]) w++tl)) F [] a) (λe l a=>(e= .ret/\l=[]/\C3 D F [] a)) JO ?_ (w':=t++[]) () X ?_ ?_ ?_ ?_
 ·rintro y _ M u H o Q h
  skip
  repeat' (cbv;first|apply E3 Y h<;>intro _ h|refine C1 Y h (c206 _ _ _ _ _) .z λ_ h=>?_|refine G0 Y eCn5 h λA h=>?_)
  ·cbv;obtain⟨P,h,R⟩:=Q5 h
   rw[R,E1]at Q
   clear R;have Q:C3 (I ([sr eCl0 A]::(List.map (λ(x:(Up A3))=>[sr eCl0 x]) (P++u)++tl))) F [] _:=Q;refine Be Y p j s Q .z (λH Q=>?_) (λH Q=>?_)
   ·cbv;apply HC Y (nt_eq _);cbv;obtain⟨m,rfl⟩:=D0 h
    rw[<-m]at Q
    exact zav
   exact Ly
  ·cbv;obtain⟨m,rfl⟩:=D0 h
   rw[<-m]at Q
   exact zav
  cbv;obtain⟨m,rfl⟩:=D0 h
  rw[<-m]at Q
  exact L1
 ·exact zbr
 ·exact Q
 ·rintro e l H ⟨rfl,rfl,Q⟩;cbv;obtain⟨m,_⟩:=D0 h
  rw[<-m]at Q
  exact Hw
 rintro e l H q;obtain⟨rfl,rfl,Q⟩:=q;clear h;cbv;exact k _ _ _ Q trivial
def k232 (N n:Nat) (V:Mf N n):Cd2 N (n+1):=by
 intro c G d L f cU M r h
 unfold Ac at h
 obtain⟨⟨w0,u0⟩,O,p⟩:=bind_some h;clear h;have p:=J9 p;subst p;have h:=O;clear O;refine M9 cf232 K9 func232 QX JO call232 ntmps232 QX (λ_=>rfl) ?_;intro C I D T S U tl F E H K Y Q J j
 have Q:C3 (I (List.map (λ(x:(Up A3))=>[sr eCl0 x]) (w0++[])++tl)) F [] H:=by rw[F2];exact Q
 cbv;refine C1 Y h (V c G d L) .z λP h=>?_;cbv;apply L6 Y;cbv;obtain⟨w3,w4,W,X,h,R⟩:=M2 h
 rw[R,E1]at Q
 clear R;refine Dj cf232 Y K9 (γ:=Unit) (λs g=>[(0,.v (C)),(1,.v (.eref [.eref (C9 c) 0] 0)),(3,.v (.eref [sr eCl0 d] 0)),(5,.v (.eref [f] 0)),(15,.v (sr eCl8 P)),fi 16 (Ar.len P),fi 17 s]) (λs g w a=>C3 (I (List.map (λ(x:(Up A3))=>[sr eCl0 x]) w++tl)) F [] a) (λx e l w a=>match(generalizing:=false) x with| .inl y=>e= .exit 0/\l=[]/\C3 (I (List.map (λ(x:(Up A3))=>[sr eCl0 x]) w++tl)) F [] a| .inr y=>e= .ret/\l=[]/\C3 (I (List.map (λ(x:(Up A3))=>[sr eCl0 x]) w++tl)) F [] a) (λe l a=>(e= .ret/\l=[]/\C3 D F [] a)) JO ?_ (w':=w4++[]) () X ?_ ?_ ?_ ?_
 ·rintro s _ w5 w6 H o Q h
  skip
  repeat' (cbv;first|apply E3 Y h<;>intro _ h|apply L6 Y|refine G0 Y eCn5 h λx8 h=>?_|refine U8 Y (g:=λt=>sr eCl0 t) h (Sw _ _ _) .z λt h=>?_|refine U8 Y (g:=λk=>vi k) h (c234 _ _) .z λk h=>?_|refine Bv7 Y (g:=λb=>sr eCl8 b) h (λb X=>M t (ar .add .i64 k 1) b X) .z λb h=>?_)
  ·cbv;obtain⟨Z,z,u,X,h,R⟩:=M2 h
   rw[R,E1]at Q
   clear R;refine Dj cf232 Y K9 (γ:=Unit) (λv g=>[(0,.v (C)),(1,.v (.eref [.eref (C9 c) 0] 0)),(3,.v (.eref [sr eCl0 d] 0)),(5,.v (.eref [f] 0)),(8,.v (sr eCl0 x8)),(15,.v (sr eCl8 P)),fi 16 (Ar.len P),fi 17 s,(28,.v (sr eCl8 b)),fi 29 (Ar.len b),fi 30 v]) (λv g w a=>C3 (I (List.map (λ(x:(Up A3))=>[sr eCl0 x]) w++tl)) F [] a) (λx e l w a=>match(generalizing:=false) x with| .inl y=>e= .exit 2/\l=[(0,.v (C)),(1,.v (.eref [.eref (C9 c) 0] 0)),(3,.v (.eref [sr eCl0 d] 0)),(5,.v (.eref [f] 0)),(15,.v (sr eCl8 P)),fi 16 (Ar.len P),fi 17 s]/\C3 (I (List.map (λ(x:(Up A3))=>[sr eCl0 x]) w++tl)) F [] a| .inr y=>e= .ret/\l=[]/\C3 (I (List.map (λ(x:(Up A3))=>[sr eCl0 x]) w++tl)) F [] a) (λe l a=>(e= .ret/\l=[]/\C3 D F [] a)) JO ?_ (w':=z++w6) () X ?_ ?_ ?_ ?_
   ·rintro v _ aa A H o Q h
    skip
    repeat' (cbv;first|apply E3 Y h<;>intro _ h|refine C1 Y h (Sw _ _ _) .z λq h=>?_|refine G0 Y eCn5 h λ_ h=>?_)
    ·cbv;obtain⟨m,rfl⟩:=D0 h
     rw[<-m]at Q
     exact L1
    ·cbv;obtain⟨B,h,R⟩:=Q5 h
     rw[R,E1]at Q
     clear R;have Q:C3 (I ([sr eCl0 q]::(List.map (λ(x:(Up A3))=>[sr eCl0 x]) (B++A)++tl))) F [] _:=Q;refine Be Y T S U Q .z (λH Q=>?_) (λH Q=>?_)
     ·cbv;apply HC Y (nt_eq _);cbv;obtain⟨m,rfl⟩:=D0 h
      rw[<-m]at Q
      exact⟨_,(),rfl,.e rfl (.e2 (.e4 (.e4 .z))),rfl,Q⟩
     exact Ly
    cbv;obtain⟨m,rfl⟩:=D0 h
    rw[<-m]at Q
    exact zbg
   ·exact .e rfl (.e2 (.e4 (.e4 .z)))
   ·exact Q
   ·rintro e l H i
    rcases u with ab|ac
    ·obtain⟨rfl,rfl,Q⟩:=i;cbv;obtain⟨m,rfl⟩:=D0 h
     rw[<-m]at Q
     exact zav
    obtain⟨rfl,rfl,Q⟩:=i;cbv;obtain⟨m,rfl⟩:=D0 h
    rw[<-m]at Q
    exact L1
   rintro e l H i;obtain⟨rfl,rfl,Q⟩:=i;exact zca
  cbv;obtain⟨m,rfl⟩:=D0 h
  rw[<-m]at Q
  exact L1
 ·exact zbr
 ·exact Q
 ·rintro e l H i
  rcases W with ad|ae
  ·obtain⟨rfl,rfl,Q⟩:=i;cbv;obtain⟨m,_⟩:=D0 h
   rw[<-m]at Q
   exact Hw
  obtain⟨rfl,rfl,Q⟩:=i;cbv;obtain⟨m,_⟩:=D0 h
  rw[<-m]at Q
  exact Hw
 rintro e l H i;obtain⟨rfl,rfl,Q⟩:=i;clear h;cbv;exact j _ _ _ Q trivial
end Go.Ab
