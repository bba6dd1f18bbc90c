/- GVIn GVPr -/
import Derived.Test.YtjhobbohibnioaaGreatDoorE21
import Derived.Test.YtjhobbohibnioaaGreatDoorRows
import Derived.WalkKit
import Derived.ProofKit
import Derived.OpenShut
import Derived.Deep.DeepHandedRow
import Derived.Carry
import Derived.Test.YtjhobbohibnioaaGreatDoorTie
set_option linter.all false
open Go.Ab.Ar (lst lst_eq)
namespace Go.Ab
open Go.RowKit Go.ChangeShapes Go.WideShapes Go.ChangeAt Go.Proofs Go.Proofs.YtjhobbohibnioaaGreatDoor
set_option maxRecDepth 100000
mutual
def WS :B1→V
 |⟨op,args,var,field,kind,val⟩=>.agg [.int .i64 op,.sl (Qy args) .ro,.int .i64 var,.int .i64 field,.int .i64 kind,.int .i64 val.Kind,.int .i64 val.Num,.str val.Text]
def Qy :List B1→List V
 |[]=>[]
 |a::r=>WS a::Qy r
end
theorem Nv :∀l:List B1,Qy l=l.map WS
 |[]=>by simp[Qy]
 |a::r=>by simp[Qy,Nv r]
mutual
def YM :A0→V
 |⟨op,args,typ,var,scope,span,c⟩=>.agg [.int .i64 op,.sl (Qx args) .ro,.int .i64 typ,.int .i64 var,.int .i64 scope,.int .i64 span,.int .i64 c.Op,.sl (c.cK.map WS) .ro,.int .i64 c.Var,.int .i64 c.Field,.int .i64 c.Kind,.int .i64 c.Value.Kind,.int .i64 c.Value.Num,.str c.Value.Text]
def Qx :List A0→List V
 |[]=>[]
 |a::r=>YM a::Qx r
end
theorem Nu :∀l:List A0,Qx l=l.map YM
 |[]=>by simp[Qx]
 |a::r=>by simp[Qx,Nu r]
mutual
def QA :A2→V
 |⟨r,c,ks⟩=>.agg [.int .i64 r.Time,.int .i64 r.Source,.int .i64 r.Seq,.int .i64 c,.sl (Qz ks) .ro]
def Qz :List A2→List V
 |[]=>[]
 |a::r=>QA a::Qz r
end
theorem Nw :∀l:List A2,Qz l=l.map QA
 |[]=>by simp[Qz]
 |a::r=>by simp[Qz,Nw r]
noncomputable def JR (x:B3):V:=.agg [.int .i64 x.Kind,.int .i64 x.Num,.str x.Text]
noncomputable def Hu (x:B8):V:=.agg [.int .i64 x.Source,.int .i64 x.Seq,.int .i64 x.Typ,.int .i64 x.Time,.sl (lst JR x.Values) .ro]
noncomputable def YN (x:R0):V:=.agg [.int .i64 x.Time,.int .i64 x.Source,.int .i64 x.Seq]
noncomputable def Kj (x:A4):V:=.agg [.int .i64 x.Var,.int .i64 x.Ref.Time,.int .i64 x.Ref.Source,.int .i64 x.Ref.Seq]
noncomputable def UK (x:T8):V:=.agg [.sl (lst Kj x.cP) .ro]
noncomputable def Gj (x:C9):V:=.agg [.sl (lst Hu x.cQ) .ro,.int .i64 x.count]
noncomputable def AS (x:A3):V:=.agg [.int .i64 x.v,.int .i64 x.at_]
noncomputable def GU (x:A9):V:=.agg [.int .i64 x.d.Ref.Time,.int .i64 x.d.Ref.Source,.int .i64 x.d.Ref.Seq,.int .i64 x.d.Choice,.sl (lst QA x.d.Kids) .ro,.sl (lst AS x.s) .ro]
noncomputable def Gi (x:A6):V:=.agg [.int .i64 x.d.Ref.Time,.int .i64 x.d.Ref.Source,.int .i64 x.d.Ref.Seq,.int .i64 x.d.Choice,.sl (lst QA x.d.Kids) .ro,.bool x.ok]
noncomputable def HB (x:Fp):V:=.agg [.sl (lst Hu x.cQ) .ro,.bool x.full]
noncomputable def Dt (x:U8):V:=.agg [.int .i64 x.cT,.int .i64 x.at_]
noncomputable def HA (x:G4):V:=.agg [.int .i64 x.source,.int .i64 x.seq]
noncomputable def HC (x:B5):V:=.agg [.int .i64 x.node,.int .i64 x.first,.int .i64 x.last,.int .i64 x.outer]
noncomputable def Aa (x:P1):V:=.agg [.int .i64 x.Var,.int .i64 x.At]
noncomputable def FL (x:Dx):V:=.agg [.sl (lst Aa x.s) .ro,.int .i64 x.d.Ref.Time,.int .i64 x.d.Ref.Source,.int .i64 x.d.Ref.Seq,.int .i64 x.d.Choice,.sl (lst QA x.d.Kids) .ro]
noncomputable def Jd (x:J5):V:=.agg [.int .i64 x.cR,.int .i64 x.most,.bool x.cN,.bool x.cond,.bool x.scope,.bool x.span]
noncomputable def Iu (x:List B8):V:=.sl (lst Hu x) .ro
noncomputable def YO (x:Jq):V:=.agg [.sl (lst Iu x.cS) .ro]
noncomputable def Iv (x:L1):V:=.agg [.sl (lst Iu x.env.cS) .ro,.int .i64 x.own,.int .i64 x.event.Source,.int .i64 x.event.Seq,.int .i64 x.event.Typ,.int .i64 x.event.Time,.sl (lst JR x.event.Values) .ro,.fmap OE OD]
noncomputable def KB (x:D8):V:=.agg [.int .i64 x.Kind,.int .i64 x.Count,.int .i64 x.Value.Kind,.int .i64 x.Value.Num,.str x.Value.Text]
noncomputable def KA (x:List A2):V:=.sl (lst QA x) .ro
noncomputable def GT (x:List A3):V:=.sl (lst AS x) .ro
noncomputable def Dh (x:List U8):V:=.sl (lst Dt x) .ro
noncomputable def Gg (x:List (List U8)):V:=.sl (lst Dh x) .ro
noncomputable def Fm (x:List P1):V:=.sl (lst Aa x) .ro
noncomputable instance encsInst :I8 where
 eAi1:=JR
 eAi0:=fun _=>rfl
 eAi7:=WS
 eAi6:=fun⟨_,_,_,_,_,_⟩=>by simp only[WS,Nv];rfl
 eAh8:=YM
 eAh9:=fun⟨_,_,_,_,_,_,_⟩=>by simp only[YM,Nu];rfl
 eAh5:=Hu
 eAi4:=fun _=>rfl
 eAi9:=YN
 eAj4:=fun _=>rfl
 eAh3:=Kj
 eAh7:=fun _=>rfl
 eAk4:=UK
 eAl5:=fun _=>rfl
 eAh4:=QA
 eAh6:=fun⟨_,_,_⟩=>by simp only[QA,Nw];rfl
 eAk5:=Gj
 eAl6:=fun _=>rfl
 eAh2:=AS
 eAi2:=fun _=>rfl
 eAk6:=GU
 eAl7:=fun _=>rfl
 eAi5:=Gi
 eAj8:=fun _=>rfl
 eAk7:=HB
 eAl8:=fun _=>rfl
 eAk0:=Dt
 eAl9:=fun _=>rfl
 eAj1:=HA
 eAj5:=fun _=>rfl
 eAi3:=HC
 eAj9:=fun _=>rfl
 eAj7:=Aa
 eAm0:=fun _=>rfl
 eAk8:=FL
 eAm1:=fun _=>rfl
 eAk1:=Jd
 eAl4:=fun _=>rfl
 eAk9:=YO
 eAm2:=fun _=>rfl
 eAl0:=Iv
 eAm3:=fun _=>rfl
 eAl1:=KB
 eAm4:=fun _=>rfl
 eAj0:=Iu
 eAk3:=fun _=>rfl
 eAi8:=KA
 eAj3:=fun _=>rfl
 eAj2:=GT
 eAj6:=fun _=>rfl
 eAl2:=Gg
 eAm5:=fun _=>rfl
 eAk2:=Dh
 eAm6:=fun _=>rfl
 eAl3:=Fm
 eAm7:=fun _=>rfl
def QU {α:Type}(f:α→Nat):List α→Nat
 |[]=>1
 |a::l=>f a+QU f l
section
variable [I4]{H:Type}{enc:TypeId×Value→H}{W:World}{base:Nat}{spare:Nat→Bool}{held:Bool}
abbrev bk (d:DataW H):Nat:=Rows.uptoBulk d
noncomputable def MG (P:Program)(t:TypeId):Array Field:=match P.underlying t with|some (.struct fs)=>fs|_=> #[]
theorem I1 {P:Program} {t ty off sz:Nat} {xs:List (DataW H×List MemPlace)} {cs:List Value} {n:Nat} (hl:xs.length=(MG P t).size)
 (hf:∀(i:Nat) (f:Field),(MG P t)[i]? =some f→DataW.trod enc P W base spare held n f.type ((cs.drop f.offset).take (P.cellsOf f.type))=xs[i]?) (i:Nat)
 (h:((MG P t)[i]?.map fun f=>(f.type,f.offset,P.cellsOf f.type))=some (ty,off,sz)):∃y,xs[i]? =some y∧DataW.trod enc P W base spare held n ty ((cs.drop off).take sz)=some y:=by
 cases hi:(MG P t)[i]? with
 |none=>rw[hi]at h;cases h
 |some f=>
  rw[hi]at h
  simp only[Option.map_some,Option.some.injEq,Prod.mk.injEq]at h
  obtain⟨rfl,rfl,rfl⟩:=h;exact Sj hl hf i hi
theorem AB.down {α:Type}{P:Program}{t:TypeId}{f:α→V}{R:α→DataW H→Prop}{n:Nat}(h:AB enc P W base spare held t f R (n+1)):AB enc P W base spare held t f R n:=fun cs x hx=>h cs x (DataW.trod_le (Nat.le_succ n) hx)
theorem AB.imp {α:Type}{P:Program}{t:TypeId}{f:α→V}{R R':α→DataW H→Prop}{n:Nat}(h:AB enc P W base spare held t f R n)(hi:∀a d,R a d→R' a d):AB enc P W base spare held t f R' n:=fun cs x hx=>by
 obtain⟨a,r,q⟩:=h cs x hx;exact⟨a,r,hi _ _ q⟩
theorem AB.congr {α:Type}{P:Program}{t:TypeId}{f g:α→V}{R:α→DataW H→Prop}{n:Nat}(h:AB enc P W base spare held t f R n)(hg:∀x,f x=g x):AB enc P W base spare held t g R n:=fun cs x hx=>by
 obtain⟨a,r,q⟩:=h cs x hx;exact⟨a,by rw[←hg];exact r,q⟩
theorem Zp {α:Type} {f:α→Nat}:∀(l:List α) (ds:List (DataW H)),RL (fun a d=>f a≤bk d) l ds→QU f l≤Rows.uptoBulkAll ds+1
 |[],ds,h=>by simp[QU]
 |a::l,[],h=>by have:=h.1;simp at this
 |a::l,d::ds,h=>by
  have h1:f a≤bk d:=h.2 0 a d rfl rfl;have h2:=Zp l ds ⟨by simpa using h.1,fun i a d hi hd=>h.2 (i+1) a d (by simpa using hi) (by simpa using hd)⟩;simp only[QU,Rows.uptoBulkAll];have h3:bk d=Rows.uptoBulk d:=rfl;omega
theorem VK {α:Type}{f:α→Nat}{l:List α}{d:DataW H}(h:RS (fun a d=>f a≤bk d) l d):QU f l≤bk d:=by
 obtain⟨_,h⟩:=h
 rcases h with⟨rfl,rfl⟩|⟨es,sp,rfl,h⟩
 ·simp[bk,Rows.uptoBulk,QU]
 have:=Zp l es h;simp only[bk,Rows.uptoBulk];omega
theorem QK :∀l:List B1,B1.bulks l=QU B1.bulk l
 |[]=>by simp[B1.bulks,QU]
 |a::l=>by simp[B1.bulks,QU,QK l]
theorem Xb {l:List B1}{d:DataW H}(h:RS (fun a d=>B1.bulk a≤bk d) l d):B1.bulks l≤bk d:=by rw[QK];exact VK h
theorem NG :∀l:List A0,A0.bulks l=QU A0.bulk l
 |[]=>by simp[A0.bulks,QU]
 |a::l=>by simp[A0.bulks,QU,NG l]
theorem QL {l:List A0}{d:DataW H}(h:RS (fun a d=>A0.bulk a≤bk d) l d):A0.bulks l≤bk d:=by rw[NG];exact VK h
theorem NH :∀l:List A2,A2.bulks l=QU A2.bulk l
 |[]=>by simp[A2.bulks,QU]
 |a::l=>by simp[A2.bulks,QU,NH l]
theorem UR {l:List A2}{d:DataW H}(h:RS (fun a d=>A2.bulk a≤bk d) l d):A2.bulks l≤bk d:=by rw[NH];exact VK h
theorem RY {β:Type}{xs:List β}{a b c:β}(hl:xs.length=3)(h0:xs[0]? =some a)(h1:xs[1]? =some b)(h2:xs[2]? =some c):xs=[a,b,c]:=by
 match xs,hl with
 |[x0,x1,x2],_=>simp at h0 h1 h2;rw[h0,h1,h2]
theorem Wv {β:Type}{xs:List β}{a b c d e f:β}(hl:xs.length=6)(h0:xs[0]? =some a)(h1:xs[1]? =some b)(h2:xs[2]? =some c)(h3:xs[3]? =some d)(h4:xs[4]? =some e)(h5:xs[5]? =some f):xs=[a,b,c,d,e,f]:=by
 match xs,hl with
 |[x0,x1,x2,x3,x4,x5],_=>simp at h0 h1 h2 h3 h4 h5;rw[h0,h1,h2,h3,h4,h5]
theorem Aa1 {β:Type}{xs:List β}{a b c d e f g:β}(hl:xs.length=7)(h0:xs[0]? =some a)(h1:xs[1]? =some b)(h2:xs[2]? =some c)(h3:xs[3]? =some d)(h4:xs[4]? =some e)(h5:xs[5]? =some f)(h6:xs[6]? =some g):xs=[a,b,c,d,e,f,g]:=by
 match xs,hl with
 |[x0,x1,x2,x3,x4,x5,x6],_=>simp at h0 h1 h2 h3 h4 h5 h6;rw[h0,h1,h2,h3,h4,h5,h6]
theorem u27 :Tryz.prog.underlying 27=some (.struct (MG Tryz.prog 27)):=by kernel_rfl
theorem u23 :Tryz.prog.underlying 23=some (.slice 27):=by kernel_rfl
theorem u3 :Tryz.prog.underlying 3=some (.int .i64):=by kernel_rfl
theorem Bq (n:Nat):AB enc Tryz.prog W base spare held 3 (V.int .i64) (fun a d=>(fun _:Int=>1) a≤bk d) n:=(JI u3).imp fun a d h=>by subst h;simp[bk,Rows.uptoBulk]
theorem u25 :Tryz.prog.underlying 25=some (.struct (MG Tryz.prog 25)):=by kernel_rfl
theorem u9 :Tryz.prog.underlying 9=some .string:=by kernel_rfl
theorem ZT (n:Nat):AB enc Tryz.prog W base spare held 9 V.str (fun a d=>(fun s:ByteArray=>s.size+1) a≤bk d) n:=(Ur u9).imp fun a d h=>by obtain⟨rfl,_⟩:=h;simp[bk,Rows.uptoBulk]
def B3.mu (x:B3):Nat:=(fun _:Int=>1) x.Kind+(fun _:Int=>1) x.Num+(fun s:ByteArray=>s.size+1) x.Text+1
theorem Yd (n:Nat):AB enc Tryz.prog W base spare held 25 I8.eAi1 (fun(a:B3) d=>B3.mu a≤bk d) n:=by
 intro cs x h;obtain⟨xs,m,hm,rfl,hcl,hl,hf⟩:=DataW.trod_struct u25 h;subst hm;obtain⟨y0,k0,t0⟩:=I1 hl hf 0 (ty:=3) (off:=0) (sz:=1) (by kernel_rfl);obtain⟨y1,k1,t1⟩:=I1 hl hf 1 (ty:=3) (off:=1) (sz:=1) (by kernel_rfl);obtain⟨y2,k2,t2⟩:=I1 hl hf 2 (ty:=9) (off:=2) (sz:=1) (by kernel_rfl);have hxs:=RY (hl.trans (by kernel_rfl)) k0 k1 k2;obtain⟨a0,r0,q0⟩:=Bq _ _ _ t0;obtain⟨a1,r1,q1⟩:=Bq _ _ _ t1;obtain⟨a2,r2,q2⟩:=ZT _ _ _ t2;refine⟨⟨a0,a1,a2⟩,?_,?_⟩
 ·have hc3:cs.length=3:=hcl.trans (by kernel_rfl);have:=(r0.join r1).join r2;rw[I8.eAi0]
  simp only[lst_eq]at this ⊢
  simpa[List.take_of_length_le,hc3,V.cells]using this
 simp only[bk]at q0 q1 q2
 rw[hxs];simp only[List.map_cons,List.map_nil,bk,Rows.uptoBulk,Rows.uptoBulkAll,B3.mu];omega
theorem Yc :∀n:Nat,AB enc Tryz.prog W base spare held 27 I8.eAi7 (fun(a:B1) d=>B1.bulk a≤bk d) n:=by
 intro n
 induction n with
 |zero=>intro cs x h;simp[DataW.trod]at h
 |succ n ih=>
 intro cs x h;obtain⟨xs,m,hm,rfl,hcl,hl,hf⟩:=DataW.trod_struct u27 h;cases hm;obtain⟨y0,k0,t0⟩:=I1 hl hf 0 (ty:=3) (off:=0) (sz:=1) (by kernel_rfl);obtain⟨y1,k1,t1⟩:=I1 hl hf 1 (ty:=23) (off:=1) (sz:=1) (by kernel_rfl);obtain⟨y2,k2,t2⟩:=I1 hl hf 2 (ty:=3) (off:=2) (sz:=1) (by kernel_rfl);obtain⟨y3,k3,t3⟩:=I1 hl hf 3 (ty:=3) (off:=3) (sz:=1) (by kernel_rfl);obtain⟨y4,k4,t4⟩:=I1 hl hf 4 (ty:=3) (off:=4) (sz:=1) (by kernel_rfl);obtain⟨y5,k5,t5⟩:=I1 hl hf 5 (ty:=25) (off:=5) (sz:=3) (by kernel_rfl);have hxs:=Wv (hl.trans (by kernel_rfl)) k0 k1 k2 k3 k4 k5;obtain⟨a0,r0,q0⟩:=Bq _ _ _ t0
 obtain⟨a1,r1,q1⟩:∃a:List B1,CO (g0 W) W ((cs.drop 1).take 1) (V.sl (a.map I8.eAi7) .ro).cells∧B1.bulks a≤bk y1.1:=by
  cases n with
  |zero=>simp[DataW.trod]at t1
  |succ n=>
   obtain⟨a,r,q⟩:=GE u23 (show 0<Tryz.prog.cellsOf 27 by rw[show Tryz.prog.cellsOf 27=8 by kernel_rfl];decide) ih.down _ _ t1;exact⟨a,r,Xb q⟩
 obtain⟨a2,r2,q2⟩:=Bq _ _ _ t2;obtain⟨a3,r3,q3⟩:=Bq _ _ _ t3;obtain⟨a4,r4,q4⟩:=Bq _ _ _ t4;obtain⟨a5,r5,q5⟩:=Yd _ _ _ t5;refine⟨⟨a0,a1,a2,a3,a4,a5⟩,?_,?_⟩
 ·have hc3:cs.length=8:=hcl.trans (by kernel_rfl)
  rw[I8.eAi0]at r5
  have:=((((r0.join r1).join r2).join r3).join r4).join r5;rw[I8.eAi6]
  simp only[lst_eq]at this ⊢
  simpa[List.take_of_length_le,hc3,V.cells]using this
 simp only[bk]at q0 q1 q2 q3 q4 q5
 rw[hxs]
 simp only[List.map_cons,List.map_nil,bk,Rows.uptoBulk,Rows.uptoBulkAll,B1.bulk,B3.mu]at *
 omega
theorem u29 :Tryz.prog.underlying 29=some (.struct (MG Tryz.prog 29)):=by kernel_rfl
theorem u22 :Tryz.prog.underlying 22=some (.slice 29):=by kernel_rfl
theorem Yb :∀n:Nat,AB enc Tryz.prog W base spare held 29 I8.eAh8 (fun(a:A0) d=>A0.bulk a≤bk d) n:=by
 intro n
 induction n with
 |zero=>intro cs x h;simp[DataW.trod]at h
 |succ n ih=>
 intro cs x h;obtain⟨xs,m,hm,rfl,hcl,hl,hf⟩:=DataW.trod_struct u29 h;cases hm;obtain⟨y0,k0,t0⟩:=I1 hl hf 0 (ty:=3) (off:=0) (sz:=1) (by kernel_rfl);obtain⟨y1,k1,t1⟩:=I1 hl hf 1 (ty:=22) (off:=1) (sz:=1) (by kernel_rfl);obtain⟨y2,k2,t2⟩:=I1 hl hf 2 (ty:=3) (off:=2) (sz:=1) (by kernel_rfl);obtain⟨y3,k3,t3⟩:=I1 hl hf 3 (ty:=3) (off:=3) (sz:=1) (by kernel_rfl);obtain⟨y4,k4,t4⟩:=I1 hl hf 4 (ty:=3) (off:=4) (sz:=1) (by kernel_rfl);obtain⟨y5,k5,t5⟩:=I1 hl hf 5 (ty:=3) (off:=5) (sz:=1) (by kernel_rfl);obtain⟨y6,k6,t6⟩:=I1 hl hf 6 (ty:=27) (off:=6) (sz:=8) (by kernel_rfl);have hxs:=Aa1 (hl.trans (by kernel_rfl)) k0 k1 k2 k3 k4 k5 k6;obtain⟨a0,r0,q0⟩:=Bq _ _ _ t0
 obtain⟨a1,r1,q1⟩:∃a:List A0,CO (g0 W) W ((cs.drop 1).take 1) (V.sl (a.map I8.eAh8) .ro).cells∧A0.bulks a≤bk y1.1:=by
  cases n with
  |zero=>simp[DataW.trod]at t1
  |succ n=>
   obtain⟨a,r,q⟩:=GE u22 (show 0<Tryz.prog.cellsOf 29 by rw[show Tryz.prog.cellsOf 29=14 by kernel_rfl];decide) ih.down _ _ t1;exact⟨a,r,QL q⟩
 obtain⟨a2,r2,q2⟩:=Bq _ _ _ t2;obtain⟨a3,r3,q3⟩:=Bq _ _ _ t3;obtain⟨a4,r4,q4⟩:=Bq _ _ _ t4;obtain⟨a5,r5,q5⟩:=Bq _ _ _ t5;obtain⟨a6,r6,q6⟩:=Yc _ _ _ t6;refine⟨⟨a0,a1,a2,a3,a4,a5,a6⟩,?_,?_⟩
 ·have hc3:cs.length=14:=hcl.trans (by kernel_rfl)
  rw[I8.eAi6]at r6
  have:=(((((r0.join r1).join r2).join r3).join r4).join r5).join r6;rw[I8.eAh9]
  simp only[lst_eq]at this ⊢
  simpa[List.take_of_length_le,hc3,V.cells]using this
 simp only[bk]at q0 q1 q2 q3 q4 q5 q6
 rw[hxs]
 simp only[List.map_cons,List.map_nil,bk,Rows.uptoBulk,Rows.uptoBulkAll,A0.bulk,B3.mu]at *
 omega
def B8.mu (x:B8):Nat:=(fun _:Int=>1) x.Source+(fun _:Int=>1) x.Seq+(fun _:Int=>1) x.Typ+(fun _:Int=>1) x.Time+(QU B3.mu) x.Values+1
theorem u46 :Tryz.prog.underlying 46=some (.struct (MG Tryz.prog 46)):=by kernel_rfl
theorem u37 :Tryz.prog.underlying 37=some (.slice 46):=by kernel_rfl
theorem u44 :Tryz.prog.underlying 44=some (.struct (MG Tryz.prog 44)):=by kernel_rfl
def R0.mu (x:R0):Nat:=(fun _:Int=>1) x.Time+(fun _:Int=>1) x.Source+(fun _:Int=>1) x.Seq+1
theorem Ya (n:Nat):AB enc Tryz.prog W base spare held 44 I8.eAi9 (fun(a:R0) d=>R0.mu a≤bk d) n:=by
 intro cs x h;obtain⟨xs,m,hm,rfl,hcl,hl,hf⟩:=DataW.trod_struct u44 h;subst hm;obtain⟨y0,k0,t0⟩:=I1 hl hf 0 (ty:=3) (off:=0) (sz:=1) (by kernel_rfl);obtain⟨y1,k1,t1⟩:=I1 hl hf 1 (ty:=3) (off:=1) (sz:=1) (by kernel_rfl);obtain⟨y2,k2,t2⟩:=I1 hl hf 2 (ty:=3) (off:=2) (sz:=1) (by kernel_rfl);have hxs:=RY (hl.trans (by kernel_rfl)) k0 k1 k2;obtain⟨a0,r0,q0⟩:=Bq _ _ _ t0;obtain⟨a1,r1,q1⟩:=Bq _ _ _ t1;obtain⟨a2,r2,q2⟩:=Bq _ _ _ t2;refine⟨⟨a0,a1,a2⟩,?_,?_⟩
 ·have hc3:cs.length=3:=hcl.trans (by kernel_rfl);have:=(r0.join r1).join r2;rw[I8.eAj4]
  simp only[lst_eq]at this ⊢
  simpa[List.take_of_length_le,hc3,V.cells]using this
 simp only[bk]at q0 q1 q2
 rw[hxs];simp only[List.map_cons,List.map_nil,bk,Rows.uptoBulk,Rows.uptoBulkAll,R0.mu];omega
theorem XZ :∀n:Nat,AB enc Tryz.prog W base spare held 46 I8.eAh4 (fun(a:A2) d=>A2.bulk a≤bk d) n:=by
 intro n
 induction n with
 |zero=>intro cs x h;simp[DataW.trod]at h
 |succ n ih=>
 intro cs x h;obtain⟨xs,m,hm,rfl,hcl,hl,hf⟩:=DataW.trod_struct u46 h;cases hm;obtain⟨y0,k0,t0⟩:=I1 hl hf 0 (ty:=44) (off:=0) (sz:=3) (by kernel_rfl);obtain⟨y1,k1,t1⟩:=I1 hl hf 1 (ty:=3) (off:=3) (sz:=1) (by kernel_rfl);obtain⟨y2,k2,t2⟩:=I1 hl hf 2 (ty:=37) (off:=4) (sz:=1) (by kernel_rfl);have hxs:=RY (hl.trans (by kernel_rfl)) k0 k1 k2;obtain⟨a0,r0,q0⟩:=Ya _ _ _ t0;obtain⟨a1,r1,q1⟩:=Bq _ _ _ t1
 obtain⟨a2,r2,q2⟩:∃a:List A2,CO (g0 W) W ((cs.drop 4).take 1) (V.sl (a.map I8.eAh4) .ro).cells∧A2.bulks a≤bk y2.1:=by
  cases n with
  |zero=>simp[DataW.trod]at t2
  |succ n=>
   obtain⟨a,r,q⟩:=GE u37 (show 0<Tryz.prog.cellsOf 46 by rw[show Tryz.prog.cellsOf 46=5 by kernel_rfl];decide) ih.down _ _ t2;exact⟨a,r,UR q⟩
 refine⟨⟨a0,a1,a2⟩,?_,?_⟩
 ·have hc3:cs.length=5:=hcl.trans (by kernel_rfl)
  rw[I8.eAj4]at r0
  have:=(r0.join r1).join r2;rw[I8.eAh6]
  simp only[lst_eq]at this ⊢
  simpa[List.take_of_length_le,hc3,V.cells]using this
 simp only[bk]at q0 q1 q2
 rw[hxs]
 simp only[List.map_cons,List.map_nil,bk,Rows.uptoBulk,Rows.uptoBulkAll,A2.bulk,R0.mu]at *
 omega
theorem OL {v:Value}{d:DataW H}{p:List MemPlace}(hv:Value.okWide Tryz.prog W .any base 29 v)(h:DataW.Trod enc Tryz.prog W 0 (fun _=>true) true 29 v d p):∃x:A0,VR (g0 W) W v (I8.eAh8 x)∧A0.bulk x≤Rows.uptoBulk d:=by
 obtain⟨fuel,ht⟩:=h;obtain⟨cs,rfl,hcs⟩:=okWide_struct u29 hv;obtain⟨x,hr,hb⟩:=Yb fuel _ _ ht;have hr':CO (g0 W) W cs.toList (I8.eAh8 x).cells:=hr;refine⟨x,?_,hb⟩;have:=hr'.agg
 rw[I8.eAh9]at this ⊢
 exact this
theorem KE {v:Value}{d:DataW H}{p:List MemPlace}(hv:Value.okWide Tryz.prog W .any base 46 v)(h:DataW.Trod enc Tryz.prog W 0 (fun _=>true) true 46 v d p):∃x:A2,VR (g0 W) W v (I8.eAh4 x)∧A2.bulk x≤Rows.uptoBulk d:=by
 obtain⟨fuel,ht⟩:=h;obtain⟨cs,rfl,hcs⟩:=okWide_struct u46 hv;obtain⟨x,hr,hb⟩:=XZ fuel _ _ ht;have hr':CO (g0 W) W cs.toList (I8.eAh4 x).cells:=hr;refine⟨x,?_,hb⟩;have:=hr'.agg
 rw[I8.eAh6]at this ⊢
 exact this
theorem u4 :Tryz.prog.underlying 4=some .bool:=by kernel_rfl
theorem Yv {f:FuncId}{vals:Array Value}{args:List V}(hg:∀n,VR (g0 W) W (.pointer (some ⟨n,0,none⟩)) (I4.gl n))(hcall:∀vals w,(callFunc f vals).run Tryz.prog w= .ok (.enter f vals) w)(law:B6 Tryz.prog f args (.bool true))(hA:Args (g0 W) W vals args):
 Calls Tryz.prog f vals W fun e W'=>e= .returned (.bool true)∧Below W.heap.size W W':=by
 have hc:=law (fun _=>none) (g0 W) W vals (rl0 hg) hA
 rw[hcall]at hc
 refine(callsIn_wide.1 hc).mono fun e W' ⟨v,he,g',y,H',hs,hR,hvy,hy,_⟩=>?_;subst hy;cases hvy;exact⟨he,hs.low⟩
theorem Ag7 {v0 v1:Value}{x0 x1:V}(h0:VR (g0 W) W v0 x0)(h1:VR (g0 W) W v1 x1):Args (g0 W) W #[v0,v1] [x0,x1]:=⟨rfl,fun i hi=>by
 match i,hi with
 |0,_=>exact h0
 |1,_=>exact h1⟩
end
end Go.Ab
namespace Go.Ab
open Go.RowKit Go.ChangeShapes Go.WideShapes Go.ChangeAt Go.Proofs Go.Proofs.YtjhobbohibnioaaGreatDoor
set_option maxRecDepth 100000
section
variable {H:Type}{enc:TypeId×Value→H}{W:World}{base:Nat}{spare:Nat→Bool}{held:Bool}
theorem u220 :Tryz.prog.underlying 220=some (.array G6.length 219):=by kernel_rfl
theorem u219 :Tryz.prog.underlying 219=some (.struct (MG Tryz.prog 219)):=by kernel_rfl
theorem RN (n:Nat):AB enc Tryz.prog W base spare held 219 I8.eAk1 (fun(a:J5) d=>d= .agg [.lit (.int .i64 a.cR),.lit (.int .i64 a.most),.lit (.bool a.cN),.lit (.bool a.cond),.lit (.bool a.scope),.lit (.bool a.span)]) n:=by
 intro cs x h;obtain⟨xs,m,rfl,rfl,hcl,hl,hf⟩:=DataW.trod_struct u219 h;obtain⟨y0,k0,t0⟩:=I1 hl hf 0 (ty:=3) (off:=0) (sz:=1) (by kernel_rfl);obtain⟨y1,k1,t1⟩:=I1 hl hf 1 (ty:=3) (off:=1) (sz:=1) (by kernel_rfl);obtain⟨y2,k2,t2⟩:=I1 hl hf 2 (ty:=4) (off:=2) (sz:=1) (by kernel_rfl);obtain⟨y3,k3,t3⟩:=I1 hl hf 3 (ty:=4) (off:=3) (sz:=1) (by kernel_rfl);obtain⟨y4,k4,t4⟩:=I1 hl hf 4 (ty:=4) (off:=4) (sz:=1) (by kernel_rfl);obtain⟨y5,k5,t5⟩:=I1 hl hf 5 (ty:=4) (off:=5) (sz:=1) (by kernel_rfl);have hxs:=Wv (hl.trans (by kernel_rfl)) k0 k1 k2 k3 k4 k5;obtain⟨a0,r0,q0⟩:=JI u3 _ _ t0;obtain⟨a1,r1,q1⟩:=JI u3 _ _ t1;obtain⟨a2,r2,q2⟩:=FB u4 _ _ t2;obtain⟨a3,r3,q3⟩:=FB u4 _ _ t3;obtain⟨a4,r4,q4⟩:=FB u4 _ _ t4;obtain⟨a5,r5,q5⟩:=FB u4 _ _ t5;refine⟨⟨a0,a1,a2,a3,a4,a5⟩,?_,?_⟩
 ·have hc3:cs.length=6:=hcl.trans (by kernel_rfl);have:=((((r0.join r1).join r2).join r3).join r4).join r5;rw[I8.eAl4]
  simpa[List.take_of_length_le,hc3,V.cells]using this
 rw[hxs];simp only[List.map_cons,List.map_nil,q0,q1,q2,q3,q4,q5]
theorem MW :∀(l k:List J5),(RL (H:=H) (fun(a:J5) d=>d= .agg [.lit (.int .i64 a.cR),.lit (.int .i64 a.most),.lit (.bool a.cN),.lit (.bool a.cond),.lit (.bool a.scope),.lit (.bool a.span)]) l
 (k.map fun a=>.agg [.lit (.int .i64 a.cR),.lit (.int .i64 a.most),.lit (.bool a.cN),.lit (.bool a.cond),.lit (.bool a.scope),.lit (.bool a.span)]))→l=k
 |[],[],_=>rfl
 |[],_::_,h=>by have:=h.1;simp at this
 |_::_,[],h=>by have:=h.1;simp at this
 |a::l,b::k,h=>by
  have h0:=h.2 0 a _ rfl rfl;have h1:=MW l k ⟨by simpa using h.1,fun i a d hi hd=>h.2 (i+1) a d (by simpa using hi) (by simpa using hd)⟩;subst h1;obtain⟨a0,a1,a2,a3,a4,a5⟩:=a;obtain⟨b0,b1,b2,b3,b4,b5⟩:=b
  simp at h0
  simp[h0]
theorem Qn (h:laidMetH Tryz.prog Rows.derivationComparesRow.laid W):VR (g0 W) W (.pointer (some ⟨0,0,none⟩)) (I4.gl 0):=by
 have h':laidMet Tryz.prog Rows.derivationComparesRow.laid W:=h;obtain⟨ps,⟨g',t',cs,fuel,p,q,hg',ht',hvar,hd,_,_⟩,_⟩:=h';obtain rfl:g'=0:=Option.some.inj (hg'.symm.trans (by kernel_rfl));obtain rfl:t'=220:=Option.some.inj (ht'.symm.trans (by kernel_rfl));obtain⟨l,hr,ds,hds,hl⟩:=PX u220 (by kernel_rfl) (by decide) (fun n=>RN n) hd
 have e:ds=G6.map fun a=>.agg [.lit (.int .i64 a.cR),.lit (.int .i64 a.most),.lit (.bool a.cN),.lit (.bool a.cond),.lit (.bool a.scope),.lit (.bool a.span)]:=by
  have e2:(Rows.laid_tidegate_pattern_shapes:DataW Unit)= .agg ds:=hds;have e3:(Rows.laid_tidegate_pattern_shapes:DataW Unit)= .agg (G6.map fun a=>.agg [.lit (.int .i64 a.cR),.lit (.int .i64 a.most),.lit (.bool a.cN),.lit (.bool a.cond),.lit (.bool a.scope),.lit (.bool a.span)]):=rfl
  rw[e3]at e2
  exact(DataW.agg.inj e2).symm
 subst e;obtain rfl:=MW _ _ hl;exact Qq hg' hvar hr
theorem Aa6 (h:laidMetH Tryz.prog Rows.derivationComparesRow.laid W):∀n,VR (g0 W) W (.pointer (some ⟨n,0,none⟩)) (I4.gl n)
 |0=>Qn h
 |_+1=>.bad _
end
end Go.Ab
