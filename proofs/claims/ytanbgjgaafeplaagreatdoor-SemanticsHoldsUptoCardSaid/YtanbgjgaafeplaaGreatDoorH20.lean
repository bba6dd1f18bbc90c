/- GTIn GTIn9 GTPr -/
import Derived.Test.YtanbgjgaafeplaaGreatDoorH19
import Derived.Test.YtanbgjgaafeplaaGreatDoorRows
import Derived.WalkKit
import Derived.ProofKit
import Derived.OpenShut
import Derived.Deep.DeepHandedRow
import Derived.Carry
import Derived.Test.YtanbgjgaafeplaaGreatDoorTie
set_option linter.all false
open Go.Ab.Ar (lst lst_eq)
namespace Go.Ab
open Go.RowKit Go.ChangeShapes Go.WideShapes Go.ChangeAt Go.Proofs Go.Proofs.YtanbgjgaafeplaaGreatDoor
set_option maxRecDepth 100000
mutual
def Yo :B1→V
 |⟨op,args,var,field,kind,val⟩=>.agg [.int .i64 op,.sl (RD args) .ro,.int .i64 var,.int .i64 field,.int .i64 kind,.int .i64 val.Kind,.int .i64 val.Num,.str val.Text]
def RD :List B1→List V
 |[]=>[]
 |a::r=>Yo a::RD r
end
theorem Ol :∀l:List B1,RD l=l.map Yo
 |[]=>by simp[RD]
 |a::r=>by simp[RD,Ol r]
mutual
def Aa2 :A1→V
 |⟨op,args,typ,var,scope,span,c⟩=>.agg [.int .i64 op,.sl (RC args) .ro,.int .i64 typ,.int .i64 var,.int .i64 scope,.int .i64 span,.int .i64 c.Op,.sl (c.cP.map Yo) .ro,.int .i64 c.Var,.int .i64 c.Field,.int .i64 c.Kind,.int .i64 c.Value.Kind,.int .i64 c.Value.Num,.str c.Value.Text]
def RC :List A1→List V
 |[]=>[]
 |a::r=>Aa2 a::RC r
end
theorem Oi :∀l:List A1,RC l=l.map Aa2
 |[]=>by simp[RC]
 |a::r=>by simp[RC,Oi r]
noncomputable def Oj (x:A5):V:=.agg [.int .i64 x.Kind,.int .i64 x.Num,.str x.Text]
noncomputable def Ok (x:A8):V:=.agg [.int .i64 x.Source,.int .i64 x.Seq,.int .i64 x.Typ,.int .i64 x.Time,.sl (lst Oj x.Values) .ro]
noncomputable def Le (x:D1):V:=.agg [.int .i64 x.Var,.int .i64 x.Ref.Time,.int .i64 x.Ref.Source,.int .i64 x.Ref.Seq]
noncomputable def Wf (x:D0):V:=.agg [.sl (lst Le x.cQ) .ro]
noncomputable def Wg (x:PJ):V:=.agg [.int .i64 x.cT,.int .i64 x.Span]
noncomputable def DA (x:A0):V:=.agg [.int .i64 x.cU,.int .i64 x.at_]
noncomputable def Cn (x:A2):V:=.agg [.int .i64 x.Var,.int .i64 x.At]
noncomputable def JQ (x:J6):V:=.agg [.int .i64 x.cV,.int .i64 x.most,.bool x.cS,.bool x.cond,.bool x.scope,.bool x.span]
noncomputable def Ig (x:D4):V:=.agg [.int .i64 x.source,.int .i64 x.seq]
noncomputable def Tr (x:List A8):V:=.sl (lst Ok x) .ro
noncomputable def Dm (x:List A0):V:=.sl (lst DA x) .ro
noncomputable def GJ (x:List (List A0)):V:=.sl (lst Dm x) .ro
noncomputable def FN (x:List A2):V:=.sl (lst Cn x) .ro
noncomputable instance encsInst :H7 where
 eAp9:=Oj
 eAp5:=fun _=>rfl
 eAq3:=Yo
 eAq4:=fun⟨_,_,_,_,_,_⟩=>by simp only[Yo,Ol];rfl
 eAp4:=Aa2
 eAp3:=fun⟨_,_,_,_,_,_,_⟩=>by simp only[Aa2,Oi];rfl
 eAp0:=Ok
 eAp7:=fun _=>rfl
 eAq1:=Le
 eAq5:=fun _=>rfl
 eAp6:=Wf
 eAq6:=fun _=>rfl
 eAr6:=Wg
 eAr8:=fun _=>rfl
 eAo9:=DA
 eAq7:=fun _=>rfl
 eAp1:=Cn
 eAq0:=fun _=>rfl
 eAr5:=JQ
 eAr7:=fun _=>rfl
 eAr1:=Ig
 eAr2:=fun _=>rfl
 eAr0:=Tr
 eAr3:=fun _=>rfl
 eAq9:=GJ
 eAr4:=fun _=>rfl
 eAp8:=Dm
 eAq8:=fun _=>rfl
 eAp2:=FN
 eAq2:=fun _=>rfl
def Nn {α:Type}(f:α→Nat):List α→Nat
 |[]=>1
 |a::l=>f a+Nn f l
theorem Uk {α:Type}{f:α→Nat}(hf:∀a,1≤f a):∀l:List α,l.length+1≤Nn f l
 |[]=>by simp[Nn]
 |b::l=>by have:=hf b;have:=Uk hf l;simp only[Nn,List.length_cons];omega
section
variable [J2]{H:Type}{enc:TypeId×Value→H}{W:World}{base:Nat}{spare:Nat→Bool}{held:Bool}
abbrev bk (d:DataW H):Nat:=Rows.uptoBulk d
noncomputable def Lr (P:Program)(t:TypeId):Array Field:=match P.underlying t with|some (.struct fs)=>fs|_=> #[]
theorem F5 {P:Program} {t ty off sz:Nat} {xs:List (DataW H×List MemPlace)} {cs:List Value} {n:Nat} (hl:xs.length=(Lr P t).size)
 (hf:∀(i:Nat) (f:Field),(Lr P t)[i]? =some f→DataW.trod enc P W base spare held n f.type ((cs.drop f.offset).take (P.cellsOf f.type))=xs[i]?) (i:Nat)
 (h:((Lr P t)[i]?.map fun f=>(f.type,f.offset,P.cellsOf f.type))=some (ty,off,sz)):∃y,xs[i]? =some y∧DataW.trod enc P W base spare held n ty ((cs.drop off).take sz)=some y:=by
 cases hi:(Lr P t)[i]? with
 |none=>rw[hi]at h;cases h
 |some f=>
  rw[hi]at h
  simp only[Option.map_some,Option.some.injEq,Prod.mk.injEq]at h
  obtain⟨rfl,rfl,rfl⟩:=h;exact Tl hl hf i hi
theorem Opens.down {α:Type}{P:Program}{t:TypeId}{f:α→V}{R:α→DataW H→Prop}{n:Nat}(h:Opens enc P W base spare held t f R (n+1)):Opens enc P W base spare held t f R n:=fun cs x hx=>h cs x (DataW.trod_le (Nat.le_succ n) hx)
theorem Opens.imp {α:Type}{P:Program}{t:TypeId}{f:α→V}{R R':α→DataW H→Prop}{n:Nat}(h:Opens enc P W base spare held t f R n)(hi:∀a d,R a d→R' a d):Opens enc P W base spare held t f R' n:=fun cs x hx=>by
 obtain⟨a,r,q⟩:=h cs x hx;exact⟨a,r,hi _ _ q⟩
theorem Opens.congr {α:Type}{P:Program}{t:TypeId}{f g:α→V}{R:α→DataW H→Prop}{n:Nat}(h:Opens enc P W base spare held t f R n)(hg:∀x,f x=g x):Opens enc P W base spare held t g R n:=fun cs x hx=>by
 obtain⟨a,r,q⟩:=h cs x hx;exact⟨a,by rw[←hg];exact r,q⟩
theorem Ac6 {α:Type} {f:α→Nat}:∀(l:List α) (ds:List (DataW H)),RL (fun a d=>f a≤bk d) l ds→Nn f l≤Rows.uptoBulkAll ds+1
 |[],ds,h=>by simp[Nn]
 |a::l,[],h=>by have:=h.1;simp at this
 |a::l,d::ds,h=>by
  have h1:f a≤bk d:=h.2 0 a d rfl rfl;have h2:=Ac6 l ds ⟨by simpa using h.1,fun i a d hi hd=>h.2 (i+1) a d (by simpa using hi) (by simpa using hd)⟩;simp only[Nn,Rows.uptoBulkAll];have h3:bk d=Rows.uptoBulk d:=rfl;omega
theorem QA {α:Type}{f:α→Nat}{l:List α}{d:DataW H}(h:RS (fun a d=>f a≤bk d) l d):Nn f l≤bk d:=by
 obtain⟨_,h⟩:=h
 rcases h with⟨rfl,rfl⟩|⟨es,sp,rfl,h⟩
 ·simp[bk,Rows.uptoBulk,Nn]
 have:=Ac6 l es h;simp only[bk,Rows.uptoBulk];omega
theorem RM :∀l:List B1,B1.bulks l=Nn B1.bulk l
 |[]=>by simp[B1.bulks,Nn]
 |a::l=>by simp[B1.bulks,Nn,RM l]
theorem Yu {l:List B1}{d:DataW H}(h:RS (fun a d=>B1.bulk a≤bk d) l d):B1.bulks l≤bk d:=by rw[RM];exact QA h
theorem Ou :∀l:List A1,A1.bulks l=Nn A1.bulk l
 |[]=>by simp[A1.bulks,Nn]
 |a::l=>by simp[A1.bulks,Nn,Ou l]
theorem RN {l:List A1}{d:DataW H}(h:RS (fun a d=>A1.bulk a≤bk d) l d):A1.bulks l≤bk d:=by rw[Ou];exact QA h
theorem Ah5 {β:Type}{xs:List β}{a:β}(hl:xs.length=1)(h0:xs[0]? =some a):xs=[a]:=by
 match xs,hl with
 |[x],_=>simp at h0;rw[h0]
theorem Ah4 {β:Type}{xs:List β}{a b:β}(hl:xs.length=2)(h0:xs[0]? =some a)(h1:xs[1]? =some b):xs=[a,b]:=by
 match xs,hl with
 |[x0,x1],_=>simp at h0 h1;rw[h0,h1]
theorem XN {β:Type}{xs:List β}{a b c:β}(hl:xs.length=3)(h0:xs[0]? =some a)(h1:xs[1]? =some b)(h2:xs[2]? =some c):xs=[a,b,c]:=by
 match xs,hl with
 |[x0,x1,x2],_=>simp at h0 h1 h2;rw[h0,h1,h2]
theorem Ah3 {β:Type}{xs:List β}{a b c d e:β}(hl:xs.length=5)(h0:xs[0]? =some a)(h1:xs[1]? =some b)(h2:xs[2]? =some c)(h3:xs[3]? =some d)(h4:xs[4]? =some e):xs=[a,b,c,d,e]:=by
 match xs,hl with
 |[x0,x1,x2,x3,x4],_=>simp at h0 h1 h2 h3 h4;rw[h0,h1,h2,h3,h4]
theorem Ah2 {β:Type}{xs:List β}{a b c d e f:β}(hl:xs.length=6)(h0:xs[0]? =some a)(h1:xs[1]? =some b)(h2:xs[2]? =some c)(h3:xs[3]? =some d)(h4:xs[4]? =some e)(h5:xs[5]? =some f):xs=[a,b,c,d,e,f]:=by
 match xs,hl with
 |[x0,x1,x2,x3,x4,x5],_=>simp at h0 h1 h2 h3 h4 h5;rw[h0,h1,h2,h3,h4,h5]
theorem Ah1 {β:Type}{xs:List β}{a b c d e f g:β}(hl:xs.length=7)(h0:xs[0]? =some a)(h1:xs[1]? =some b)(h2:xs[2]? =some c)(h3:xs[3]? =some d)(h4:xs[4]? =some e)(h5:xs[5]? =some f)(h6:xs[6]? =some g):xs=[a,b,c,d,e,f,g]:=by
 match xs,hl with
 |[x0,x1,x2,x3,x4,x5,x6],_=>simp at h0 h1 h2 h3 h4 h5 h6;rw[h0,h1,h2,h3,h4,h5,h6]
theorem u27 :Tryz.prog.underlying 27=some (.struct (Lr Tryz.prog 27)):=by kernel_rfl
theorem u23 :Tryz.prog.underlying 23=some (.slice 27):=by kernel_rfl
theorem u3 :Tryz.prog.underlying 3=some (.int .i64):=by kernel_rfl
theorem Ag (n:Nat):Opens enc Tryz.prog W base spare held 3 (V.int .i64) (fun a d=>(fun _:Int=>1) a≤bk d) n:=(Kr u3).imp fun a d h=>by subst h;simp[bk,Rows.uptoBulk]
theorem u25 :Tryz.prog.underlying 25=some (.struct (Lr Tryz.prog 25)):=by kernel_rfl
theorem u9 :Tryz.prog.underlying 9=some .string:=by kernel_rfl
theorem Ag1 (n:Nat):Opens enc Tryz.prog W base spare held 9 V.str (fun a d=>(fun s:ByteArray=>s.size+1) a≤bk d) n:=(VE u9).imp fun a d h=>by obtain⟨rfl,_⟩:=h;simp[bk,Rows.uptoBulk]
def A5.mu (x:A5):Nat:=(fun _:Int=>1) x.Kind+(fun _:Int=>1) x.Num+(fun s:ByteArray=>s.size+1) x.Text+1
theorem Ue (n:Nat):Opens enc Tryz.prog W base spare held 25 H7.eAp9 (fun(a:A5) d=>A5.mu a≤bk d) n:=by
 intro cs x h;obtain⟨xs,m,hm,rfl,hcl,hl,hf⟩:=DataW.trod_struct u25 h;subst hm;obtain⟨y0,k0,t0⟩:=F5 hl hf 0 (ty:=3) (off:=0) (sz:=1) (by kernel_rfl);obtain⟨y1,k1,t1⟩:=F5 hl hf 1 (ty:=3) (off:=1) (sz:=1) (by kernel_rfl);obtain⟨y2,k2,t2⟩:=F5 hl hf 2 (ty:=9) (off:=2) (sz:=1) (by kernel_rfl);have hxs:=XN (hl.trans (by kernel_rfl)) k0 k1 k2;obtain⟨a0,r0,q0⟩:=Ag _ _ _ t0;obtain⟨a1,r1,q1⟩:=Ag _ _ _ t1;obtain⟨a2,r2,q2⟩:=Ag1 _ _ _ t2;refine⟨⟨a0,a1,a2⟩,?_,?_⟩
 ·have hc3:cs.length=3:=hcl.trans (by kernel_rfl);have:=(r0.join r1).join r2;rw[H7.eAp5]
  simp only[lst_eq]at this ⊢
  simpa[List.take_of_length_le,hc3,V.cells]using this
 simp only[bk]at q0 q1 q2
 rw[hxs];simp only[List.map_cons,List.map_nil,bk,Rows.uptoBulk,Rows.uptoBulkAll,A5.mu];omega
theorem ZA :∀n:Nat,Opens enc Tryz.prog W base spare held 27 H7.eAq3 (fun(a:B1) d=>B1.bulk a≤bk d) n:=by
 intro n
 induction n with
 |zero=>intro cs x h;simp[DataW.trod]at h
 |succ n ih=>
 intro cs x h;obtain⟨xs,m,hm,rfl,hcl,hl,hf⟩:=DataW.trod_struct u27 h;cases hm;obtain⟨y0,k0,t0⟩:=F5 hl hf 0 (ty:=3) (off:=0) (sz:=1) (by kernel_rfl);obtain⟨y1,k1,t1⟩:=F5 hl hf 1 (ty:=23) (off:=1) (sz:=1) (by kernel_rfl);obtain⟨y2,k2,t2⟩:=F5 hl hf 2 (ty:=3) (off:=2) (sz:=1) (by kernel_rfl);obtain⟨y3,k3,t3⟩:=F5 hl hf 3 (ty:=3) (off:=3) (sz:=1) (by kernel_rfl);obtain⟨y4,k4,t4⟩:=F5 hl hf 4 (ty:=3) (off:=4) (sz:=1) (by kernel_rfl);obtain⟨y5,k5,t5⟩:=F5 hl hf 5 (ty:=25) (off:=5) (sz:=3) (by kernel_rfl);have hxs:=Ah2 (hl.trans (by kernel_rfl)) k0 k1 k2 k3 k4 k5;obtain⟨a0,r0,q0⟩:=Ag _ _ _ t0
 obtain⟨a1,r1,q1⟩:∃a:List B1,Dq (g0 W) W ((cs.drop 1).take 1) (V.sl (a.map H7.eAq3) .ro).cells∧B1.bulks a≤bk y1.1:=by
  cases n with
  |zero=>simp[DataW.trod]at t1
  |succ n=>
   obtain⟨a,r,q⟩:=Dj u23 (show 0<Tryz.prog.cellsOf 27 by rw[show Tryz.prog.cellsOf 27=8 by kernel_rfl];decide) ih.down _ _ t1;exact⟨a,r,Yu q⟩
 obtain⟨a2,r2,q2⟩:=Ag _ _ _ t2;obtain⟨a3,r3,q3⟩:=Ag _ _ _ t3;obtain⟨a4,r4,q4⟩:=Ag _ _ _ t4;obtain⟨a5,r5,q5⟩:=Ue _ _ _ t5;refine⟨⟨a0,a1,a2,a3,a4,a5⟩,?_,?_⟩
 ·have hc3:cs.length=8:=hcl.trans (by kernel_rfl)
  rw[H7.eAp5]at r5
  have:=((((r0.join r1).join r2).join r3).join r4).join r5;rw[H7.eAq4]
  simp only[lst_eq]at this ⊢
  simpa[List.take_of_length_le,hc3,V.cells]using this
 simp only[bk]at q0 q1 q2 q3 q4 q5
 rw[hxs]
 simp only[List.map_cons,List.map_nil,bk,Rows.uptoBulk,Rows.uptoBulkAll,B1.bulk,A5.mu]at *
 omega
theorem u29 :Tryz.prog.underlying 29=some (.struct (Lr Tryz.prog 29)):=by kernel_rfl
theorem u22 :Tryz.prog.underlying 22=some (.slice 29):=by kernel_rfl
theorem Zz :∀n:Nat,Opens enc Tryz.prog W base spare held 29 H7.eAp4 (fun(a:A1) d=>A1.bulk a≤bk d) n:=by
 intro n
 induction n with
 |zero=>intro cs x h;simp[DataW.trod]at h
 |succ n ih=>
 intro cs x h;obtain⟨xs,m,hm,rfl,hcl,hl,hf⟩:=DataW.trod_struct u29 h;cases hm;obtain⟨y0,k0,t0⟩:=F5 hl hf 0 (ty:=3) (off:=0) (sz:=1) (by kernel_rfl);obtain⟨y1,k1,t1⟩:=F5 hl hf 1 (ty:=22) (off:=1) (sz:=1) (by kernel_rfl);obtain⟨y2,k2,t2⟩:=F5 hl hf 2 (ty:=3) (off:=2) (sz:=1) (by kernel_rfl);obtain⟨y3,k3,t3⟩:=F5 hl hf 3 (ty:=3) (off:=3) (sz:=1) (by kernel_rfl);obtain⟨y4,k4,t4⟩:=F5 hl hf 4 (ty:=3) (off:=4) (sz:=1) (by kernel_rfl);obtain⟨y5,k5,t5⟩:=F5 hl hf 5 (ty:=3) (off:=5) (sz:=1) (by kernel_rfl);obtain⟨y6,k6,t6⟩:=F5 hl hf 6 (ty:=27) (off:=6) (sz:=8) (by kernel_rfl);have hxs:=Ah1 (hl.trans (by kernel_rfl)) k0 k1 k2 k3 k4 k5 k6;obtain⟨a0,r0,q0⟩:=Ag _ _ _ t0
 obtain⟨a1,r1,q1⟩:∃a:List A1,Dq (g0 W) W ((cs.drop 1).take 1) (V.sl (a.map H7.eAp4) .ro).cells∧A1.bulks a≤bk y1.1:=by
  cases n with
  |zero=>simp[DataW.trod]at t1
  |succ n=>
   obtain⟨a,r,q⟩:=Dj u22 (show 0<Tryz.prog.cellsOf 29 by rw[show Tryz.prog.cellsOf 29=14 by kernel_rfl];decide) ih.down _ _ t1;exact⟨a,r,RN q⟩
 obtain⟨a2,r2,q2⟩:=Ag _ _ _ t2;obtain⟨a3,r3,q3⟩:=Ag _ _ _ t3;obtain⟨a4,r4,q4⟩:=Ag _ _ _ t4;obtain⟨a5,r5,q5⟩:=Ag _ _ _ t5;obtain⟨a6,r6,q6⟩:=ZA _ _ _ t6;refine⟨⟨a0,a1,a2,a3,a4,a5,a6⟩,?_,?_⟩
 ·have hc3:cs.length=14:=hcl.trans (by kernel_rfl)
  rw[H7.eAq4]at r6
  have:=(((((r0.join r1).join r2).join r3).join r4).join r5).join r6;rw[H7.eAp3]
  simp only[lst_eq]at this ⊢
  simpa[List.take_of_length_le,hc3,V.cells]using this
 simp only[bk]at q0 q1 q2 q3 q4 q5 q6
 rw[hxs]
 simp only[List.map_cons,List.map_nil,bk,Rows.uptoBulk,Rows.uptoBulkAll,A1.bulk,A5.mu]at *
 omega
theorem u62 :Tryz.prog.underlying 62=some (.struct (Lr Tryz.prog 62)):=by kernel_rfl
theorem u60 :Tryz.prog.underlying 60=some (.slice 25):=by kernel_rfl
theorem Zt (n:Nat):Opens enc Tryz.prog W base spare held 60 (fun l:List A5=>.sl (lst H7.eAp9 l) .ro) (fun a d=>(Nn A5.mu) a≤bk d) n:=
 Opens.down (((Dj u60 (show 0<Tryz.prog.cellsOf 25 by rw[show Tryz.prog.cellsOf 25=3 by kernel_rfl];decide) (Ue n)).imp fun a d h=>QA h).congr fun x=>by rw[lst_eq])
def A8.mu (x:A8):Nat:=(fun _:Int=>1) x.Source+(fun _:Int=>1) x.Seq+(fun _:Int=>1) x.Typ+(fun _:Int=>1) x.Time+(Nn A5.mu) x.Values+1
theorem Zs (n:Nat):Opens enc Tryz.prog W base spare held 62 H7.eAp0 (fun(a:A8) d=>A8.mu a≤bk d) n:=by
 intro cs x h;obtain⟨xs,m,hm,rfl,hcl,hl,hf⟩:=DataW.trod_struct u62 h;subst hm;obtain⟨y0,k0,t0⟩:=F5 hl hf 0 (ty:=3) (off:=0) (sz:=1) (by kernel_rfl);obtain⟨y1,k1,t1⟩:=F5 hl hf 1 (ty:=3) (off:=1) (sz:=1) (by kernel_rfl);obtain⟨y2,k2,t2⟩:=F5 hl hf 2 (ty:=3) (off:=2) (sz:=1) (by kernel_rfl);obtain⟨y3,k3,t3⟩:=F5 hl hf 3 (ty:=3) (off:=3) (sz:=1) (by kernel_rfl);obtain⟨y4,k4,t4⟩:=F5 hl hf 4 (ty:=60) (off:=4) (sz:=1) (by kernel_rfl);have hxs:=Ah3 (hl.trans (by kernel_rfl)) k0 k1 k2 k3 k4;obtain⟨a0,r0,q0⟩:=Ag _ _ _ t0;obtain⟨a1,r1,q1⟩:=Ag _ _ _ t1;obtain⟨a2,r2,q2⟩:=Ag _ _ _ t2;obtain⟨a3,r3,q3⟩:=Ag _ _ _ t3;obtain⟨a4,r4,q4⟩:=Zt _ _ _ t4;refine⟨⟨a0,a1,a2,a3,a4⟩,?_,?_⟩
 ·have hc3:cs.length=5:=hcl.trans (by kernel_rfl);have:=(((r0.join r1).join r2).join r3).join r4;rw[H7.eAp7]
  simp only[lst_eq]at this ⊢
  simpa[List.take_of_length_le,hc3,V.cells]using this
 simp only[bk]at q0 q1 q2 q3 q4
 rw[hxs];simp only[List.map_cons,List.map_nil,bk,Rows.uptoBulk,Rows.uptoBulkAll,A8.mu];omega
theorem u30 :Tryz.prog.underlying 30=some (.slice 62):=by kernel_rfl
theorem Zy (n:Nat):Opens enc Tryz.prog W base spare held 30 (fun l:List A8=>.sl (lst H7.eAp0 l) .ro) (fun a d=>(Nn A8.mu) a≤bk d) n:=
 Opens.down (((Dj u30 (show 0<Tryz.prog.cellsOf 62 by rw[show Tryz.prog.cellsOf 62=5 by kernel_rfl];decide) (Zs n)).imp fun a d h=>QA h).congr fun x=>by rw[lst_eq])
theorem PE {v:Value}{d:DataW H}{p:List MemPlace}(hv:Value.okWide Tryz.prog W .any base 29 v)(h:DataW.Trod enc Tryz.prog W 0 (fun _=>true) true 29 v d p):∃x:A1,VR (g0 W) W v (H7.eAp4 x)∧A1.bulk x≤Rows.uptoBulk d:=by
 obtain⟨fuel,ht⟩:=h;obtain⟨cs,rfl,hcs⟩:=okWide_struct u29 hv;obtain⟨x,hr,hb⟩:=Zz fuel _ _ ht;have hr':Dq (g0 W) W cs.toList (H7.eAp4 x).cells:=hr;refine⟨x,?_,hb⟩;have:=hr'.agg
 rw[H7.eAp3]at this ⊢
 exact this
theorem RP {v:Value}{d:DataW H}{p:List MemPlace}(hv:Value.okWide Tryz.prog W .any base 30 v)(h:DataW.Trod enc Tryz.prog W 0 (fun _=>true) true 30 v d p):∃x:List A8,VR (g0 W) W v (.sl (lst H7.eAp0 x) .ro)∧(Nn A8.mu) x≤Rows.uptoBulk d:=by
 obtain⟨fuel,ht⟩:=h;obtain⟨a,len,cap,rfl⟩:=okWide_slice u30 hv;obtain⟨x,hr,hb⟩:=Zy fuel _ _ ht;exact⟨x,(hr.2 0 (by simp[V.cells])).2,hb⟩
theorem u4 :Tryz.prog.underlying 4=some .bool:=by kernel_rfl
theorem ZP {f:FuncId}{vals:Array Value}{args:List V}(hg:∀n,VR (g0 W) W (.pointer (some ⟨n,0,none⟩)) (J2.gl n))(hcall:∀vals w,(callFunc f vals).run Tryz.prog w= .ok (.enter f vals) w)(law:B4 Tryz.prog f args (.bool true))(hA:Args (g0 W) W vals args):
 Calls Tryz.prog f vals W fun e W'=>e= .returned (.bool true)∧Below W.heap.size W W':=by
 have hc:=law (fun _=>none) (g0 W) W vals (rl0 hg) hA
 rw[hcall]at hc
 refine(callsIn_wide.1 hc).mono fun e W' ⟨v,he,g',y,H',hs,hR,hvy,hy,_⟩=>?_;subst hy;cases hvy;exact⟨he,hs.low⟩
theorem Ao5 {v0 v1 v2:Value}{x0 x1 x2:V}(h0:VR (g0 W) W v0 x0)(h1:VR (g0 W) W v1 x1)(h2:VR (g0 W) W v2 x2):Args (g0 W) W #[v0,v1,v2] [x0,x1,x2]:=⟨rfl,fun i hi=>by
 match i,hi with
 |0,_=>exact h0
 |1,_=>exact h1
 |2,_=>exact h2⟩
end
end Go.Ab
namespace Go.Ab
open Go.RowKit Go.ChangeShapes Go.WideShapes Go.ChangeAt Go.Proofs Go.Proofs.YtanbgjgaafeplaaGreatDoor
set_option maxRecDepth 100000
noncomputable def UC (x:Ds):V:=.agg [.int .i64 x.Time,.int .i64 x.Source,.int .i64 x.Seq]
theorem MV (x:Ds):UC x= .agg [.int .i64 x.Time,.int .i64 x.Source,.int .i64 x.Seq]:=rfl
section
variable [J2]{H:Type}{enc:TypeId×Value→H}{W:World}{base:Nat}{spare:Nat→Bool}{held:Bool}
theorem u48 :Tryz.prog.underlying 48=some (.struct (Lr Tryz.prog 48)):=by kernel_rfl
theorem u46 :Tryz.prog.underlying 46=some (.slice 52):=by kernel_rfl
theorem u52 :Tryz.prog.underlying 52=some (.struct (Lr Tryz.prog 52)):=by kernel_rfl
theorem u50 :Tryz.prog.underlying 50=some (.struct (Lr Tryz.prog 50)):=by kernel_rfl
def Ds.mu (x:Ds):Nat:=(fun _:Int=>1) x.Time+(fun _:Int=>1) x.Source+(fun _:Int=>1) x.Seq+1
theorem Zv (n:Nat):Opens enc Tryz.prog W base spare held 50 UC (fun(a:Ds) d=>Ds.mu a≤bk d) n:=by
 intro cs x h;obtain⟨xs,m,hm,rfl,hcl,hl,hf⟩:=DataW.trod_struct u50 h;subst hm;obtain⟨y0,k0,t0⟩:=F5 hl hf 0 (ty:=3) (off:=0) (sz:=1) (by kernel_rfl);obtain⟨y1,k1,t1⟩:=F5 hl hf 1 (ty:=3) (off:=1) (sz:=1) (by kernel_rfl);obtain⟨y2,k2,t2⟩:=F5 hl hf 2 (ty:=3) (off:=2) (sz:=1) (by kernel_rfl);have hxs:=XN (hl.trans (by kernel_rfl)) k0 k1 k2;obtain⟨a0,r0,q0⟩:=Ag _ _ _ t0;obtain⟨a1,r1,q1⟩:=Ag _ _ _ t1;obtain⟨a2,r2,q2⟩:=Ag _ _ _ t2;refine⟨⟨a0,a1,a2⟩,?_,?_⟩
 ·have hc3:cs.length=3:=hcl.trans (by kernel_rfl);have:=(r0.join r1).join r2;rw[MV]
  simp only[lst_eq]at this ⊢
  simpa[List.take_of_length_le,hc3,V.cells]using this
 simp only[bk]at q0 q1 q2
 rw[hxs];simp only[List.map_cons,List.map_nil,bk,Rows.uptoBulk,Rows.uptoBulkAll,Ds.mu];omega
def D1.mu (x:D1):Nat:=(fun _:Int=>1) x.Var+Ds.mu x.Ref+1
theorem Zu (n:Nat):Opens enc Tryz.prog W base spare held 52 H7.eAq1 (fun(a:D1) d=>D1.mu a≤bk d) n:=by
 intro cs x h;obtain⟨xs,m,hm,rfl,hcl,hl,hf⟩:=DataW.trod_struct u52 h;subst hm;obtain⟨y0,k0,t0⟩:=F5 hl hf 0 (ty:=3) (off:=0) (sz:=1) (by kernel_rfl);obtain⟨y1,k1,t1⟩:=F5 hl hf 1 (ty:=50) (off:=1) (sz:=3) (by kernel_rfl);have hxs:=Ah4 (hl.trans (by kernel_rfl)) k0 k1;obtain⟨a0,r0,q0⟩:=Ag _ _ _ t0;obtain⟨a1,r1,q1⟩:=Zv _ _ _ t1;refine⟨⟨a0,a1⟩,?_,?_⟩
 ·have hc3:cs.length=4:=hcl.trans (by kernel_rfl)
  rw[MV]at r1
  have:=r0.join r1;rw[H7.eAq5]
  simp only[lst_eq]at this ⊢
  simpa[List.take_of_length_le,hc3,V.cells]using this
 simp only[bk]at q0 q1
 rw[hxs];simp only[List.map_cons,List.map_nil,bk,Rows.uptoBulk,Rows.uptoBulkAll,D1.mu];omega
theorem Zx (n:Nat):Opens enc Tryz.prog W base spare held 46 (fun l:List D1=>.sl (lst H7.eAq1 l) .ro) (fun a d=>(Nn D1.mu) a≤bk d) n:=
 Opens.down (((Dj u46 (show 0<Tryz.prog.cellsOf 52 by rw[show Tryz.prog.cellsOf 52=4 by kernel_rfl];decide) (Zu n)).imp fun a d h=>QA h).congr fun x=>by rw[lst_eq])
def D0.mu (x:D0):Nat:=(Nn D1.mu) x.cQ+1
theorem Zw (n:Nat):Opens enc Tryz.prog W base spare held 48 H7.eAp6 (fun(a:D0) d=>D0.mu a≤bk d) n:=by
 intro cs x h;obtain⟨xs,m,hm,rfl,hcl,hl,hf⟩:=DataW.trod_struct u48 h;subst hm;obtain⟨y0,k0,t0⟩:=F5 hl hf 0 (ty:=46) (off:=0) (sz:=1) (by kernel_rfl);have hxs:=Ah5 (hl.trans (by kernel_rfl)) k0;obtain⟨a0,r0,q0⟩:=Zx _ _ _ t0;refine⟨⟨a0⟩,?_,?_⟩
 ·have hc3:cs.length=1:=hcl.trans (by kernel_rfl);have:=r0;rw[H7.eAq6]
  simp only[lst_eq]at this ⊢
  simpa[List.take_of_length_le,hc3,V.cells]using this
 simp only[bk]at q0
 rw[hxs];simp only[List.map_cons,List.map_nil,bk,Rows.uptoBulk,Rows.uptoBulkAll,D0.mu];omega
theorem TB {v:Value}{d:DataW H}{p:List MemPlace}(hv:Value.okWide Tryz.prog W .any base 48 v)(h:DataW.Trod enc Tryz.prog W 0 (fun _=>true) true 48 v d p):∃x:D0,VR (g0 W) W v (H7.eAp6 x)∧D0.mu x≤Rows.uptoBulk d:=by
 obtain⟨fuel,ht⟩:=h;obtain⟨cs,rfl,hcs⟩:=okWide_struct u48 hv;obtain⟨x,hr,hb⟩:=Zw fuel _ _ ht;have hr':Dq (g0 W) W cs.toList (H7.eAp6 x).cells:=hr;refine⟨x,?_,hb⟩;have:=hr'.agg
 rw[H7.eAq6]at this ⊢
 exact this
end
end Go.Ab
namespace Go.Ab
open Go.RowKit Go.ChangeShapes Go.WideShapes Go.ChangeAt Go.Proofs Go.Proofs.YtanbgjgaafeplaaGreatDoor
set_option maxRecDepth 100000
section
variable {H:Type}{enc:TypeId×Value→H}{W:World}{base:Nat}{spare:Nat→Bool}{held:Bool}
theorem u196 :Tryz.prog.underlying 196=some (.array G3.length 195):=by kernel_rfl
theorem u195 :Tryz.prog.underlying 195=some (.struct (Lr Tryz.prog 195)):=by kernel_rfl
theorem SR (n:Nat):Opens enc Tryz.prog W base spare held 195 H7.eAr5 (fun(a:J6) d=>d= .agg [.lit (.int .i64 a.cV),.lit (.int .i64 a.most),.lit (.bool a.cS),.lit (.bool a.cond),.lit (.bool a.scope),.lit (.bool a.span)]) n:=by
 intro cs x h;obtain⟨xs,m,rfl,rfl,hcl,hl,hf⟩:=DataW.trod_struct u195 h;obtain⟨y0,k0,t0⟩:=F5 hl hf 0 (ty:=3) (off:=0) (sz:=1) (by kernel_rfl);obtain⟨y1,k1,t1⟩:=F5 hl hf 1 (ty:=3) (off:=1) (sz:=1) (by kernel_rfl);obtain⟨y2,k2,t2⟩:=F5 hl hf 2 (ty:=4) (off:=2) (sz:=1) (by kernel_rfl);obtain⟨y3,k3,t3⟩:=F5 hl hf 3 (ty:=4) (off:=3) (sz:=1) (by kernel_rfl);obtain⟨y4,k4,t4⟩:=F5 hl hf 4 (ty:=4) (off:=4) (sz:=1) (by kernel_rfl);obtain⟨y5,k5,t5⟩:=F5 hl hf 5 (ty:=4) (off:=5) (sz:=1) (by kernel_rfl)
 have hxs:xs=[y0,y1,y2,y3,y4,y5]:=match xs,hl.trans (show _=6 by kernel_rfl),k0,k1,k2,k3,k4,k5 with|[_,_,_,_,_,_],_,rfl,rfl,rfl,rfl,rfl,rfl=>rfl
 obtain⟨a0,r0,q0⟩:=Kr u3 _ _ t0;obtain⟨a1,r1,q1⟩:=Kr u3 _ _ t1;obtain⟨a2,r2,q2⟩:=Gc u4 _ _ t2;obtain⟨a3,r3,q3⟩:=Gc u4 _ _ t3;obtain⟨a4,r4,q4⟩:=Gc u4 _ _ t4;obtain⟨a5,r5,q5⟩:=Gc u4 _ _ t5;refine⟨⟨a0,a1,a2,a3,a4,a5⟩,?_,?_⟩
 ·have hc3:cs.length=6:=hcl.trans (by kernel_rfl);have:=((((r0.join r1).join r2).join r3).join r4).join r5;rw[H7.eAr7]
  simpa[List.take_of_length_le,hc3,V.cells]using this
 rw[hxs];simp only[List.map_cons,List.map_nil,q0,q1,q2,q3,q4,q5]
theorem NK :∀(l k:List J6),(RL (H:=H) (fun(a:J6) d=>d= .agg [.lit (.int .i64 a.cV),.lit (.int .i64 a.most),.lit (.bool a.cS),.lit (.bool a.cond),.lit (.bool a.scope),.lit (.bool a.span)]) l
 (k.map fun a=>.agg [.lit (.int .i64 a.cV),.lit (.int .i64 a.most),.lit (.bool a.cS),.lit (.bool a.cond),.lit (.bool a.scope),.lit (.bool a.span)]))→l=k
 |[],[],_=>rfl
 |[],_::_,h=>by have:=h.1;simp at this
 |_::_,[],h=>by have:=h.1;simp at this
 |a::l,b::k,h=>by
  have h0:=h.2 0 a _ rfl rfl;have h1:=NK l k ⟨by simpa using h.1,fun i a d hi hd=>h.2 (i+1) a d (by simpa using hi) (by simpa using hd)⟩;subst h1;obtain⟨a0,a1,a2,a3,a4,a5⟩:=a;obtain⟨b0,b1,b2,b3,b4,b5⟩:=b
  simp at h0
  simp[h0]
theorem Ro (h:laidMetH Tryz.prog Rows.semanticsMatchesRow.laid W):VR (g0 W) W (.pointer (some ⟨0,0,none⟩)) (J2.gl 0):=by
 have h':laidMet Tryz.prog Rows.semanticsMatchesRow.laid W:=h;obtain⟨ps,⟨_,_,_,_,_,q1,_,_,_,_,L1,_⟩,_⟩:=h';obtain⟨_,_,_,_,_,q2,_,_,_,_,L2,_⟩:=L1;obtain⟨_,_,_,_,_,q3,_,_,_,_,L3,_⟩:=L2;obtain⟨g',t',cs,fuel,p,q,hg',ht',hvar,hd,_,_⟩:=L3;obtain rfl:g'=0:=Option.some.inj (hg'.symm.trans (by kernel_rfl));obtain rfl:t'=196:=Option.some.inj (ht'.symm.trans (by kernel_rfl));obtain⟨l,hr,ds,hds,hl⟩:=QY u196 (by kernel_rfl) (by decide) (fun n=>SR n) hd
 have e:ds=G3.map fun a=>.agg [.lit (.int .i64 a.cV),.lit (.int .i64 a.most),.lit (.bool a.cS),.lit (.bool a.cond),.lit (.bool a.scope),.lit (.bool a.span)]:=by
  have e2:(Rows.laid_tidegate_pattern_shapes:DataW Unit)= .agg ds:=hds;have e3:(Rows.laid_tidegate_pattern_shapes:DataW Unit)= .agg (G3.map fun a=>.agg [.lit (.int .i64 a.cV),.lit (.int .i64 a.most),.lit (.bool a.cS),.lit (.bool a.cond),.lit (.bool a.scope),.lit (.bool a.span)]):=rfl
  rw[e3]at e2
  exact(DataW.agg.inj e2).symm
 subst e;obtain rfl:=NK _ _ hl;exact Rt hg' hvar hr
theorem Ah7 (h:laidMetH Tryz.prog Rows.semanticsMatchesRow.laid W):∀n,VR (g0 W) W (.pointer (some ⟨n,0,none⟩)) (J2.gl n)
 |0=>Ro h
 |_+1=>.bad _
end
end Go.Ab
