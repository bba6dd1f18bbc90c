/- GHIn GHPr -/
import Derived.Test.YtmfdlklcmoklhaaGreatDoorB19
import Derived.Test.YtmfdlklcmoklhaaGreatDoorRows
import Derived.WalkKit
import Derived.ProofKit
import Derived.OpenShut
import Derived.Deep.DeepHandedRow
import Derived.Carry
import Derived.Test.YtmfdlklcmoklhaaGreatDoorTie
set_option linter.all false
open Go.Ab.Ar (lst lst_eq)
namespace Go.Ab
open Go.RowKit Go.ChangeShapes Go.WideShapes Go.ChangeAt Go.Proofs Go.Proofs.YtmfdlklcmoklhaaGreatDoor
set_option maxRecDepth 100000
mutual
def TL :B0→V
 |⟨op,args,var,field,kind,val⟩=>.agg [.int .i64 op,.sl (Yk args) .ro,.int .i64 var,.int .i64 field,.int .i64 kind,.int .i64 val.Kind,.int .i64 val.Num,.str val.Text]
def Yk :List B0→List V
 |[]=>[]
 |a::r=>TL a::Yk r
end
theorem UI :∀l:List B0,Yk l=l.map TL
 |[]=>by simp[Yk]
 |a::r=>by simp[Yk,UI r]
mutual
def AE9 :A0→V
 |⟨op,args,typ,var,scope,span,c⟩=>.agg [.int .i64 op,.sl (Yj args) .ro,.int .i64 typ,.int .i64 var,.int .i64 scope,.int .i64 span,.int .i64 c.Op,.sl (c.dD.map TL) .ro,.int .i64 c.Var,.int .i64 c.Field,.int .i64 c.Kind,.int .i64 c.Value.Kind,.int .i64 c.Value.Num,.str c.Value.Text]
def Yj :List A0→List V
 |[]=>[]
 |a::r=>AE9 a::Yj r
end
theorem UH :∀l:List A0,Yj l=l.map AE9
 |[]=>by simp[Yj]
 |a::r=>by simp[Yj,UH r]
noncomputable def PX (x:A7):V:=.agg [.int .i64 x.Kind,.int .i64 x.Num,.str x.Text]
noncomputable def PZ (x:B3):V:=.agg [.int .i64 x.Source,.int .i64 x.Seq,.int .i64 x.Typ,.int .i64 x.Time,.sl (lst PX x.Values) .ro]
noncomputable def AO4 (x:Kb):V:=.agg [.int .i64 x.Time,.int .i64 x.Source,.int .i64 x.Seq]
noncomputable def QS (x:G7):V:=.agg [.int .i64 x.Var,.int .i64 x.Ref.Time,.int .i64 x.Ref.Source,.int .i64 x.Ref.Seq]
noncomputable def As0 (x:G6):V:=.agg [.sl (lst QS x.dF) .ro]
noncomputable def PY (x:As):V:=.agg [.int .i64 x.dG,.int .i64 x.Span]
noncomputable def AF0 (x:D7):V:=.agg [.int .i64 x.dQ,.int .i64 x.To,.int .i64 x.Var,.int .i64 x.Typ,.int .i64 x.dE.Op,.sl (lst TL x.dE.dD) .ro,.int .i64 x.dE.Var,.int .i64 x.dE.Field,.int .i64 x.dE.Kind,.int .i64 x.dE.Value.Kind,.int .i64 x.dE.Value.Num,.str x.dE.Value.Text,.sl (lst (V.int .i64) x.dM) .ro,.sl (lst (V.int .i64) x.dJ) .ro,.sl (lst TL x.dH) .ro,.sl (lst PY x.dN) .ro,.sl (lst (V.int .i64) x.dL) .ro]
noncomputable def Ob (x:List B3):V:=.sl (lst PZ x) .ro
noncomputable def AO5 (x:Cl):V:=.agg [.sl (lst Ob x.dO) .ro]
noncomputable def As1 (x:Iv):V:=.agg [.int .i64 x.dG,.int .i64 x.Typ,.int .i64 x.Var,.int .i64 x.dE.Op,.sl (lst TL x.dE.dD) .ro,.int .i64 x.dE.Var,.int .i64 x.dE.Field,.int .i64 x.dE.Kind,.int .i64 x.dE.Value.Kind,.int .i64 x.dE.Value.Num,.str x.dE.Value.Text]
noncomputable def Pa (x:P3):V:=.agg [.int .i64 x.dK,.int .i64 x.most,.bool x.typed,.bool x.cond,.bool x.scope,.bool x.span]
noncomputable def MW (x:B7):V:=.agg [.sl (lst PZ x.dP) .ro,.bool x.full]
noncomputable def Hp (x:A3):V:=.agg [.int .i64 x.dI,.int .i64 x.at_]
noncomputable def MX (x:A6):V:=.agg [.bool x.done,.int .i64 x.p.Op,.sl (lst AE9 x.p.dD) .ro,.int .i64 x.p.Typ,.int .i64 x.p.Var,.int .i64 x.p.dG,.int .i64 x.p.Span,.int .i64 x.p.dE.Op,.sl (lst TL x.p.dE.dD) .ro,.int .i64 x.p.dE.Var,.int .i64 x.p.dE.Field,.int .i64 x.p.dE.Kind,.int .i64 x.p.dE.Value.Kind,.int .i64 x.p.dE.Value.Num,.str x.p.dE.Value.Text]
noncomputable def MV (x:G0):V:=.agg [.int .i64 x.source,.int .i64 x.seq]
noncomputable def Rd (x:C6):V:=.agg [.int .i64 x.Kind,.int .i64 x.Count,.int .i64 x.Value.Kind,.int .i64 x.Value.Num,.str x.Value.Text]
noncomputable def Oc (x:S6):V:=.agg [.sl (lst Ob x.env.dO) .ro,.int .i64 x.own,.int .i64 x.event.Source,.int .i64 x.event.Seq,.int .i64 x.event.Typ,.int .i64 x.event.Time,.sl (lst PX x.event.Values) .ro,.fmap VW VV]
noncomputable def Ar9 (x:List B0):V:=.sl (lst TL x) .ro
noncomputable def Bc6 (x:List Int):V:=.sl (lst (V.int .i64) x) .ro
noncomputable def Aa6 (x:List As):V:=.sl (lst PY x) .ro
noncomputable def He (x:List A3):V:=.sl (lst Hp x) .ro
noncomputable def KQ (x:List (List A3)):V:=.sl (lst He x) .ro
noncomputable instance encsInst :L9 where
 eBe8:=PX
 eBe3:=fun _=>rfl
 eBe5:=TL
 eBf0:=fun⟨_,_,_,_,_,_⟩=>by simp only[TL,UI];rfl
 eBe0:=AE9
 eBe1:=fun⟨_,_,_,_,_,_,_⟩=>by simp only[AE9,UH];rfl
 eBe2:=PZ
 eBe6:=fun _=>rfl
 eBh4:=AO4
 eBi1:=fun _=>rfl
 eBf1:=QS
 eBf9:=fun _=>rfl
 eBe4:=As0
 eBf4:=fun _=>rfl
 eBe9:=PY
 eBg6:=fun _=>rfl
 eBf2:=AF0
 eBf3:=fun _=>rfl
 eBh5:=AO5
 eBi2:=fun _=>rfl
 eBf7:=As1
 eBh1:=fun _=>rfl
 eBh3:=Pa
 eBi0:=fun _=>rfl
 eBh6:=MW
 eBi3:=fun _=>rfl
 eBd9:=Hp
 eBf5:=fun _=>rfl
 eBh7:=MX
 eBi4:=fun _=>rfl
 eBg2:=MV
 eBg7:=fun _=>rfl
 eBh8:=Rd
 eBi5:=fun _=>rfl
 eBh9:=Oc
 eBi6:=fun _=>rfl
 eBg3:=Ar9
 eBg8:=fun _=>rfl
 eBf8:=Ob
 eBg9:=fun _=>rfl
 eLI:=Bc6
 eBg1:=fun _=>rfl
 eBg5:=Aa6
 eBh0:=fun _=>rfl
 eBg0:=KQ
 eBh2:=fun _=>rfl
 eBe7:=He
 eBf6:=fun _=>rfl
def muL {α:Type}(f:α→Nat):List α→Nat
 |[]=>1
 |a::l=>f a+muL f l
section
variable [M9]{H:Type}{enc:TypeId×Value→H}{W:World}{base:Nat}{spare:Nat→Bool}{held:Bool}
abbrev bk (d:DataW H):Nat:=Rows.uptoBulk d
noncomputable def VT (P:Program)(t:TypeId):Array Field:=match P.underlying t with|some (.struct fs)=>fs|_=> #[]
theorem O2 {P:Program} {t ty off sz:Nat} {xs:List (DataW H×List MemPlace)} {cs:List Value} {n:Nat} (hl:xs.length=(VT P t).size)
 (hf:∀(i:Nat) (f:Field),(VT P t)[i]? =some f→DataW.trod enc P W base spare held n f.type ((cs.drop f.offset).take (P.cellsOf f.type))=xs[i]?) (i:Nat)
 (h:((VT P t)[i]?.map fun f=>(f.type,f.offset,P.cellsOf f.type))=some (ty,off,sz)):∃y,xs[i]? =some y∧DataW.trod enc P W base spare held n ty ((cs.drop off).take sz)=some y:=by
 cases hi:(VT P t)[i]? with
 |none=>rw[hi]at h;cases h
 |some f=>
  rw[hi]at h
  simp only[I7,E6,IE]at h
  obtain⟨rfl,rfl,rfl⟩:=h;exact Aa0 hl hf i hi
theorem Opens.down {α:Type}{P:Program}{t:TypeId}{f:α→V}{R:α→DataW H→Prop}{n:Nat}(h:Opens enc P W base spare held t f R (n+1)):Opens enc P W base spare held t f R n:=fun cs x hx=>h cs x (DataW.trod_le (Nat.le_succ n) hx)
theorem Opens.imp {α:Type}{P:Program}{t:TypeId}{f:α→V}{R R':α→DataW H→Prop}{n:Nat}(h:Opens enc P W base spare held t f R n)(hi:∀a d,R a d→R' a d):Opens enc P W base spare held t f R' n:=fun cs x hx=>by
 obtain⟨a,r,q⟩:=h cs x hx;exact⟨a,r,hi _ _ q⟩
theorem Opens.congr {α:Type}{P:Program}{t:TypeId}{f g:α→V}{R:α→DataW H→Prop}{n:Nat}(h:Opens enc P W base spare held t f R n)(hg:∀x,f x=g x):Opens enc P W base spare held t g R n:=fun cs x hx=>by
 obtain⟨a,r,q⟩:=h cs x hx;exact⟨a,by rw[←hg];exact r,q⟩
theorem AR1 {α:Type} {f:α→Nat}:∀(l:List α) (ds:List (DataW H)),RL (fun a d=>f a≤bk d) l ds→muL f l≤Rows.uptoBulkAll ds+1
 |[],ds,h=>by simp[muL]
 |a::l,[],h=>by have:=h.1;simp at this
 |a::l,d::ds,h=>by
  have h1:f a≤bk d:=h.2 0 a d rfl rfl;have h2:=AR1 l ds ⟨by simpa using h.1,fun i a d hi hd=>h.2 (i+1) a d (by simpa using hi) (by simpa using hd)⟩;simp only[muL,Rows.uptoBulkAll];have h3:bk d=Rows.uptoBulk d:=rfl;omega
theorem Ax3 {α:Type}{f:α→Nat}{l:List α}{d:DataW H}(h:RS (fun a d=>f a≤bk d) l d):muL f l≤bk d:=by
 obtain⟨_,h⟩:=h
 rcases h with⟨rfl,rfl⟩|⟨es,sp,rfl,h⟩
 ·simp[bk,Rows.uptoBulk,muL]
 have:=AR1 l es h;simp only[bk,Rows.uptoBulk];omega
theorem Yx :∀l:List B0,B0.bulks l=muL B0.bulk l
 |[]=>by simp[B0.bulks,muL]
 |a::l=>by simp[B0.bulks,muL,Yx l]
theorem AF5 {l:List B0}{d:DataW H}(h:RS (fun a d=>B0.bulk a≤bk d) l d):B0.bulks l≤bk d:=by rw[Yx];exact Ax3 h
theorem US :∀l:List A0,A0.bulks l=muL A0.bulk l
 |[]=>by simp[A0.bulks,muL]
 |a::l=>by simp[A0.bulks,muL,US l]
theorem Yy {l:List A0}{d:DataW H}(h:RS (fun a d=>A0.bulk a≤bk d) l d):A0.bulks l≤bk d:=by rw[US];exact Ax3 h
theorem AV9 {β:Type}{xs:List β}{a b c:β}(hl:xs.length=3)(h0:xs[0]? =some a)(h1:xs[1]? =some b)(h2:xs[2]? =some c):xs=[a,b,c]:=by
 match xs,hl with
 |[x0,x1,x2],_=>simp at h0 h1 h2;rw[h0,h1,h2]
theorem AV8 {β:Type}{xs:List β}{a b c d e:β}(hl:xs.length=5)(h0:xs[0]? =some a)(h1:xs[1]? =some b)(h2:xs[2]? =some c)(h3:xs[3]? =some d)(h4:xs[4]? =some e):xs=[a,b,c,d,e]:=by
 match xs,hl with
 |[x0,x1,x2,x3,x4],_=>simp at h0 h1 h2 h3 h4;rw[h0,h1,h2,h3,h4]
theorem AV7 {β:Type}{xs:List β}{a b c d e f:β}(hl:xs.length=6)(h0:xs[0]? =some a)(h1:xs[1]? =some b)(h2:xs[2]? =some c)(h3:xs[3]? =some d)(h4:xs[4]? =some e)(h5:xs[5]? =some f):xs=[a,b,c,d,e,f]:=by
 match xs,hl with
 |[x0,x1,x2,x3,x4,x5],_=>simp at h0 h1 h2 h3 h4 h5;rw[h0,h1,h2,h3,h4,h5]
theorem AV6 {β:Type}{xs:List β}{a b c d e f g:β}(hl:xs.length=7)(h0:xs[0]? =some a)(h1:xs[1]? =some b)(h2:xs[2]? =some c)(h3:xs[3]? =some d)(h4:xs[4]? =some e)(h5:xs[5]? =some f)(h6:xs[6]? =some g):xs=[a,b,c,d,e,f,g]:=by
 match xs,hl with
 |[x0,x1,x2,x3,x4,x5,x6],_=>simp at h0 h1 h2 h3 h4 h5 h6;rw[h0,h1,h2,h3,h4,h5,h6]
theorem u27 :Tryz.prog.underlying 27=some (.struct (VT Tryz.prog 27)):=by kernel_rfl
theorem u23 :Tryz.prog.underlying 23=some (.slice 27):=by kernel_rfl
theorem u3 :Tryz.prog.underlying 3=some (.int .i64):=by kernel_rfl
theorem EF (n:Nat):Opens enc Tryz.prog W base spare held 3 (V.int .i64) (fun a d=>(fun _:Int=>1) a≤bk d) n:=(PI u3).imp fun a d h=>by subst h;simp[bk,Rows.uptoBulk]
theorem u25 :Tryz.prog.underlying 25=some (.struct (VT Tryz.prog 25)):=by kernel_rfl
theorem u9 :Tryz.prog.underlying 9=some .string:=by kernel_rfl
theorem AU5 (n:Nat):Opens enc Tryz.prog W base spare held 9 V.str (fun a d=>(fun s:ByteArray=>s.size+1) a≤bk d) n:=(Ao3 u9).imp fun a d h=>by obtain⟨rfl,_⟩:=h;simp[bk,Rows.uptoBulk]
def A7.mu (x:A7):Nat:=(fun _:Int=>1) x.Kind+(fun _:Int=>1) x.Num+(fun s:ByteArray=>s.size+1) x.Text+1
theorem Af3 (n:Nat):Opens enc Tryz.prog W base spare held 25 L9.eBe8 (fun(a:A7) d=>A7.mu a≤bk d) n:=by
 intro cs x h;obtain⟨xs,m,hm,rfl,hcl,hl,hf⟩:=GL u25 h;subst hm;obtain⟨y0,k0,t0⟩:=O2 hl hf 0 (ty:=3) (off:=0) (sz:=1) (by kernel_rfl);obtain⟨y1,k1,t1⟩:=O2 hl hf 1 (ty:=3) (off:=1) (sz:=1) (by kernel_rfl);obtain⟨y2,k2,t2⟩:=O2 hl hf 2 (ty:=9) (off:=2) (sz:=1) (by kernel_rfl);have hxs:=AV9 (hl.trans (by kernel_rfl)) k0 k1 k2;obtain⟨a0,r0,q0⟩:=EF _ _ _ t0;obtain⟨a1,r1,q1⟩:=EF _ _ _ t1;obtain⟨a2,r2,q2⟩:=AU5 _ _ _ t2;refine⟨⟨a0,a1,a2⟩,?_,?_⟩
 ·have hc3:cs.length=3:=hcl.trans (by kernel_rfl);have:=(r0.join r1).join r2;rw[L9.eBe3]
  simp only[lst_eq]at this ⊢
  simpa[T8,hc3,V.cells]using this
 simp only[bk]at q0 q1 q2
 rw[hxs];simp only[D8,H7,bk,Rows.uptoBulk,Rows.uptoBulkAll,A7.mu];omega
theorem AL7 :∀n:Nat,Opens enc Tryz.prog W base spare held 27 L9.eBe5 (fun(a:B0) d=>B0.bulk a≤bk d) n:=by
 intro n
 induction n with
 |zero=>intro cs x h;simp[DataW.trod]at h
 |succ n ih=>
 intro cs x h;obtain⟨xs,m,hm,rfl,hcl,hl,hf⟩:=GL u27 h;cases hm;obtain⟨y0,k0,t0⟩:=O2 hl hf 0 (ty:=3) (off:=0) (sz:=1) (by kernel_rfl);obtain⟨y1,k1,t1⟩:=O2 hl hf 1 (ty:=23) (off:=1) (sz:=1) (by kernel_rfl);obtain⟨y2,k2,t2⟩:=O2 hl hf 2 (ty:=3) (off:=2) (sz:=1) (by kernel_rfl);obtain⟨y3,k3,t3⟩:=O2 hl hf 3 (ty:=3) (off:=3) (sz:=1) (by kernel_rfl);obtain⟨y4,k4,t4⟩:=O2 hl hf 4 (ty:=3) (off:=4) (sz:=1) (by kernel_rfl);obtain⟨y5,k5,t5⟩:=O2 hl hf 5 (ty:=25) (off:=5) (sz:=3) (by kernel_rfl);have hxs:=AV7 (hl.trans (by kernel_rfl)) k0 k1 k2 k3 k4 k5;obtain⟨a0,r0,q0⟩:=EF _ _ _ t0
 obtain⟨a1,r1,q1⟩:∃a:List B0,FP (g0 W) W ((cs.drop 1).take 1) (V.sl (a.map L9.eBe5) .ro).cells∧B0.bulks a≤bk y1.1:=by
  cases n with
  |zero=>simp[DataW.trod]at t1
  |succ n=>
   obtain⟨a,r,q⟩:=LW u23 (show 0<Tryz.prog.cellsOf 27 by rw[show Tryz.prog.cellsOf 27=8 by kernel_rfl];decide) ih.down _ _ t1;exact⟨a,r,AF5 q⟩
 obtain⟨a2,r2,q2⟩:=EF _ _ _ t2;obtain⟨a3,r3,q3⟩:=EF _ _ _ t3;obtain⟨a4,r4,q4⟩:=EF _ _ _ t4;obtain⟨a5,r5,q5⟩:=Af3 _ _ _ t5;refine⟨⟨a0,a1,a2,a3,a4,a5⟩,?_,?_⟩
 ·have hc3:cs.length=8:=hcl.trans (by kernel_rfl)
  rw[L9.eBe3]at r5
  have:=((((r0.join r1).join r2).join r3).join r4).join r5;rw[L9.eBf0]
  simp only[lst_eq]at this ⊢
  simpa[T8,hc3,V.cells]using this
 simp only[bk]at q0 q1 q2 q3 q4 q5
 rw[hxs]
 simp only[D8,H7,bk,Rows.uptoBulk,Rows.uptoBulkAll,B0.bulk,A7.mu]at *
 omega
theorem u29 :Tryz.prog.underlying 29=some (.struct (VT Tryz.prog 29)):=by kernel_rfl
theorem u22 :Tryz.prog.underlying 22=some (.slice 29):=by kernel_rfl
theorem AL6 :∀n:Nat,Opens enc Tryz.prog W base spare held 29 L9.eBe0 (fun(a:A0) d=>A0.bulk a≤bk d) n:=by
 intro n
 induction n with
 |zero=>intro cs x h;simp[DataW.trod]at h
 |succ n ih=>
 intro cs x h;obtain⟨xs,m,hm,rfl,hcl,hl,hf⟩:=GL u29 h;cases hm;obtain⟨y0,k0,t0⟩:=O2 hl hf 0 (ty:=3) (off:=0) (sz:=1) (by kernel_rfl);obtain⟨y1,k1,t1⟩:=O2 hl hf 1 (ty:=22) (off:=1) (sz:=1) (by kernel_rfl);obtain⟨y2,k2,t2⟩:=O2 hl hf 2 (ty:=3) (off:=2) (sz:=1) (by kernel_rfl);obtain⟨y3,k3,t3⟩:=O2 hl hf 3 (ty:=3) (off:=3) (sz:=1) (by kernel_rfl);obtain⟨y4,k4,t4⟩:=O2 hl hf 4 (ty:=3) (off:=4) (sz:=1) (by kernel_rfl);obtain⟨y5,k5,t5⟩:=O2 hl hf 5 (ty:=3) (off:=5) (sz:=1) (by kernel_rfl);obtain⟨y6,k6,t6⟩:=O2 hl hf 6 (ty:=27) (off:=6) (sz:=8) (by kernel_rfl);have hxs:=AV6 (hl.trans (by kernel_rfl)) k0 k1 k2 k3 k4 k5 k6;obtain⟨a0,r0,q0⟩:=EF _ _ _ t0
 obtain⟨a1,r1,q1⟩:∃a:List A0,FP (g0 W) W ((cs.drop 1).take 1) (V.sl (a.map L9.eBe0) .ro).cells∧A0.bulks a≤bk y1.1:=by
  cases n with
  |zero=>simp[DataW.trod]at t1
  |succ n=>
   obtain⟨a,r,q⟩:=LW u22 (show 0<Tryz.prog.cellsOf 29 by rw[show Tryz.prog.cellsOf 29=14 by kernel_rfl];decide) ih.down _ _ t1;exact⟨a,r,Yy q⟩
 obtain⟨a2,r2,q2⟩:=EF _ _ _ t2;obtain⟨a3,r3,q3⟩:=EF _ _ _ t3;obtain⟨a4,r4,q4⟩:=EF _ _ _ t4;obtain⟨a5,r5,q5⟩:=EF _ _ _ t5;obtain⟨a6,r6,q6⟩:=AL7 _ _ _ t6;refine⟨⟨a0,a1,a2,a3,a4,a5,a6⟩,?_,?_⟩
 ·have hc3:cs.length=14:=hcl.trans (by kernel_rfl)
  rw[L9.eBf0]at r6
  have:=(((((r0.join r1).join r2).join r3).join r4).join r5).join r6;rw[L9.eBe1]
  simp only[lst_eq]at this ⊢
  simpa[T8,hc3,V.cells]using this
 simp only[bk]at q0 q1 q2 q3 q4 q5 q6
 rw[hxs]
 simp only[D8,H7,bk,Rows.uptoBulk,Rows.uptoBulkAll,A0.bulk,A7.mu]at *
 omega
theorem u32 :Tryz.prog.underlying 32=some (.struct (VT Tryz.prog 32)):=by kernel_rfl
theorem u30 :Tryz.prog.underlying 30=some (.slice 25):=by kernel_rfl
theorem AL5 (n:Nat):Opens enc Tryz.prog W base spare held 30 (fun l:List A7=>.sl (lst L9.eBe8 l) .ro) (fun a d=>(muL A7.mu) a≤bk d) n:=
 Opens.down (((LW u30 (show 0<Tryz.prog.cellsOf 25 by rw[show Tryz.prog.cellsOf 25=3 by kernel_rfl];decide) (Af3 n)).imp fun a d h=>Ax3 h).congr fun x=>by rw[lst_eq])
def B3.mu (x:B3):Nat:=(fun _:Int=>1) x.Source+(fun _:Int=>1) x.Seq+(fun _:Int=>1) x.Typ+(fun _:Int=>1) x.Time+(muL A7.mu) x.Values+1
theorem AL4 (n:Nat):Opens enc Tryz.prog W base spare held 32 L9.eBe2 (fun(a:B3) d=>B3.mu a≤bk d) n:=by
 intro cs x h;obtain⟨xs,m,hm,rfl,hcl,hl,hf⟩:=GL u32 h;subst hm;obtain⟨y0,k0,t0⟩:=O2 hl hf 0 (ty:=3) (off:=0) (sz:=1) (by kernel_rfl);obtain⟨y1,k1,t1⟩:=O2 hl hf 1 (ty:=3) (off:=1) (sz:=1) (by kernel_rfl);obtain⟨y2,k2,t2⟩:=O2 hl hf 2 (ty:=3) (off:=2) (sz:=1) (by kernel_rfl);obtain⟨y3,k3,t3⟩:=O2 hl hf 3 (ty:=3) (off:=3) (sz:=1) (by kernel_rfl);obtain⟨y4,k4,t4⟩:=O2 hl hf 4 (ty:=30) (off:=4) (sz:=1) (by kernel_rfl);have hxs:=AV8 (hl.trans (by kernel_rfl)) k0 k1 k2 k3 k4;obtain⟨a0,r0,q0⟩:=EF _ _ _ t0;obtain⟨a1,r1,q1⟩:=EF _ _ _ t1;obtain⟨a2,r2,q2⟩:=EF _ _ _ t2;obtain⟨a3,r3,q3⟩:=EF _ _ _ t3;obtain⟨a4,r4,q4⟩:=AL5 _ _ _ t4;refine⟨⟨a0,a1,a2,a3,a4⟩,?_,?_⟩
 ·have hc3:cs.length=5:=hcl.trans (by kernel_rfl);have:=(((r0.join r1).join r2).join r3).join r4;rw[L9.eBe6]
  simp only[lst_eq]at this ⊢
  simpa[T8,hc3,V.cells]using this
 simp only[bk]at q0 q1 q2 q3 q4
 rw[hxs];simp only[D8,H7,bk,Rows.uptoBulk,Rows.uptoBulkAll,B3.mu];omega
theorem Wh {v:Value}{d:DataW H}{p:List MemPlace}(hv:Value.okWide Tryz.prog W .any base 29 v)(h:DataW.Trod enc Tryz.prog W 0 (fun _=>true) true 29 v d p):∃x:A0,VR (g0 W) W v (L9.eBe0 x)∧A0.bulk x≤Rows.uptoBulk d:=by
 obtain⟨fuel,ht⟩:=h;obtain⟨cs,rfl,hcs⟩:=okWide_struct u29 hv;obtain⟨x,hr,hb⟩:=AL6 fuel _ _ ht;have hr':FP (g0 W) W cs.toList (L9.eBe0 x).cells:=hr;refine⟨x,?_,hb⟩;have:=hr'.agg
 rw[L9.eBe1]at this ⊢
 exact this
theorem Ac1 {v:Value}{d:DataW H}{p:List MemPlace}(hv:Value.okWide Tryz.prog W .any base 32 v)(h:DataW.Trod enc Tryz.prog W 0 (fun _=>true) true 32 v d p):∃x:B3,VR (g0 W) W v (L9.eBe2 x)∧B3.mu x≤Rows.uptoBulk d:=by
 obtain⟨fuel,ht⟩:=h;obtain⟨cs,rfl,hcs⟩:=okWide_struct u32 hv;obtain⟨x,hr,hb⟩:=AL4 fuel _ _ ht;have hr':FP (g0 W) W cs.toList (L9.eBe2 x).cells:=hr;refine⟨x,?_,hb⟩;have:=hr'.agg
 rw[L9.eBe6]at this ⊢
 exact this
theorem u4 :Tryz.prog.underlying 4=some .bool:=by kernel_rfl
theorem AN1 {f:FuncId}{vals:Array Value}{args:List V}(hg:∀n,VR (g0 W) W (.pointer (some ⟨n,0,none⟩)) (M9.gl n))(hcall:∀vals w,(callFunc f vals).run Tryz.prog w= .ok (.enter f vals) w)(law:C0 Tryz.prog f args (.bool true))(hA:Args (g0 W) W vals args):
 Calls Tryz.prog f vals W fun e W'=>e= .returned (.bool true)∧Below W.heap.size W W':=by
 have hc:=law (fun _=>none) (g0 W) W vals (rl0 hg) hA
 rw[hcall]at hc
 refine(callsIn_wide.1 hc).mono fun e W' ⟨v,he,g',y,H',hs,hR,hvy,hy,_⟩=>?_;subst hy;cases hvy;exact⟨he,hs.low⟩
theorem Bd1 {v0 v1:Value}{x0 x1:V}(h0:VR (g0 W) W v0 x0)(h1:VR (g0 W) W v1 x1):Args (g0 W) W #[v0,v1] [x0,x1]:=⟨rfl,fun i hi=>by
 match i,hi with
 |0,_=>exact h0
 |1,_=>exact h1⟩
end
end Go.Ab
namespace Go.Ab
open Go.RowKit Go.ChangeShapes Go.WideShapes Go.ChangeAt Go.Proofs Go.Proofs.YtmfdlklcmoklhaaGreatDoor
set_option maxRecDepth 100000
section
variable {H:Type}{enc:TypeId×Value→H}{W:World}{base:Nat}{spare:Nat→Bool}{held:Bool}
theorem u105 :Tryz.prog.underlying 105=some (.array K8.length 104):=by kernel_rfl
theorem u104 :Tryz.prog.underlying 104=some (.struct (VT Tryz.prog 104)):=by kernel_rfl
theorem ZD (n:Nat):Opens enc Tryz.prog W base spare held 104 L9.eBh3 (fun(a:P3) d=>d= .agg [.lit (.int .i64 a.dK),.lit (.int .i64 a.most),.lit (.bool a.typed),.lit (.bool a.cond),.lit (.bool a.scope),.lit (.bool a.span)]) n:=by
 intro cs x h;obtain⟨xs,m,rfl,rfl,hcl,hl,hf⟩:=GL u104 h;obtain⟨y0,k0,t0⟩:=O2 hl hf 0 (ty:=3) (off:=0) (sz:=1) (by kernel_rfl);obtain⟨y1,k1,t1⟩:=O2 hl hf 1 (ty:=3) (off:=1) (sz:=1) (by kernel_rfl);obtain⟨y2,k2,t2⟩:=O2 hl hf 2 (ty:=4) (off:=2) (sz:=1) (by kernel_rfl);obtain⟨y3,k3,t3⟩:=O2 hl hf 3 (ty:=4) (off:=3) (sz:=1) (by kernel_rfl);obtain⟨y4,k4,t4⟩:=O2 hl hf 4 (ty:=4) (off:=4) (sz:=1) (by kernel_rfl);obtain⟨y5,k5,t5⟩:=O2 hl hf 5 (ty:=4) (off:=5) (sz:=1) (by kernel_rfl)
 have hxs:xs=[y0,y1,y2,y3,y4,y5]:=match xs,hl.trans (show _=6 by kernel_rfl),k0,k1,k2,k3,k4,k5 with|[_,_,_,_,_,_],_,rfl,rfl,rfl,rfl,rfl,rfl=>rfl
 obtain⟨a0,r0,q0⟩:=PI u3 _ _ t0;obtain⟨a1,r1,q1⟩:=PI u3 _ _ t1;obtain⟨a2,r2,q2⟩:=Km u4 _ _ t2;obtain⟨a3,r3,q3⟩:=Km u4 _ _ t3;obtain⟨a4,r4,q4⟩:=Km u4 _ _ t4;obtain⟨a5,r5,q5⟩:=Km u4 _ _ t5;refine⟨⟨a0,a1,a2,a3,a4,a5⟩,?_,?_⟩
 ·have hc3:cs.length=6:=hcl.trans (by kernel_rfl);have:=((((r0.join r1).join r2).join r3).join r4).join r5;rw[L9.eBi0]
  simpa[T8,hc3,V.cells]using this
 rw[hxs];simp only[D8,H7,q0,q1,q2,q3,q4,q5]
theorem Ug :∀(l k:List P3),(RL (H:=H) (fun(a:P3) d=>d= .agg [.lit (.int .i64 a.dK),.lit (.int .i64 a.most),.lit (.bool a.typed),.lit (.bool a.cond),.lit (.bool a.scope),.lit (.bool a.span)]) l
 (k.map fun a=>.agg [.lit (.int .i64 a.dK),.lit (.int .i64 a.most),.lit (.bool a.typed),.lit (.bool a.cond),.lit (.bool a.scope),.lit (.bool a.span)]))→l=k
 |[],[],_=>rfl
 |[],_::_,h=>by have:=h.1;simp at this
 |_::_,[],h=>by have:=h.1;simp at this
 |a::l,b::k,h=>by
  have h0:=h.2 0 a _ rfl rfl;have h1:=Ug l k ⟨by simpa using h.1,fun i a d hi hd=>h.2 (i+1) a d (by simpa using hi) (by simpa using hd)⟩;subst h1;obtain⟨a0,a1,a2,a3,a4,a5⟩:=a;obtain⟨b0,b1,b2,b3,b4,b5⟩:=b
  simp at h0
  simp[h0]
theorem XR (h:laidMetH Tryz.prog Rows.derivativeSinglesRow.laid W):VR (g0 W) W (.pointer (some ⟨0,0,none⟩)) (M9.gl 0):=by
 have h':laidMet Tryz.prog Rows.derivativeSinglesRow.laid W:=h;obtain⟨ps,⟨_,_,_,_,_,q1,_,_,_,_,L1,_⟩,_⟩:=h';obtain⟨_,_,_,_,_,q2,_,_,_,_,L2,_⟩:=L1;obtain⟨_,_,_,_,_,q3,_,_,_,_,L3,_⟩:=L2;obtain⟨g',t',cs,fuel,p,q,hg',ht',hvar,hd,_,_⟩:=L3;obtain rfl:g'=0:=AA (hg'.symm.trans (by kernel_rfl));obtain rfl:t'=105:=AA (ht'.symm.trans (by kernel_rfl));obtain⟨l,hr,ds,hds,hl⟩:=Xy u105 (by kernel_rfl) (by decide) (fun n=>ZD n) hd
 have e:ds=K8.map fun a=>.agg [.lit (.int .i64 a.dK),.lit (.int .i64 a.most),.lit (.bool a.typed),.lit (.bool a.cond),.lit (.bool a.scope),.lit (.bool a.span)]:=by
  have e2:(Rows.laid_tidegate_pattern_shapes:DataW Unit)= .agg ds:=hds;have e3:(Rows.laid_tidegate_pattern_shapes:DataW Unit)= .agg (K8.map fun a=>.agg [.lit (.int .i64 a.dK),.lit (.int .i64 a.most),.lit (.bool a.typed),.lit (.bool a.cond),.lit (.bool a.scope),.lit (.bool a.span)]):=rfl
  rw[e3]at e2
  exact(DataW.agg.inj e2).symm
 subst e;obtain rfl:=Ug _ _ hl;exact XX hg' hvar hr
theorem AW3 (h:laidMetH Tryz.prog Rows.derivativeSinglesRow.laid W):∀n,VR (g0 W) W (.pointer (some ⟨n,0,none⟩)) (M9.gl n)
 |0=>XR h
 |_+1=>.bad _
end
end Go.Ab
