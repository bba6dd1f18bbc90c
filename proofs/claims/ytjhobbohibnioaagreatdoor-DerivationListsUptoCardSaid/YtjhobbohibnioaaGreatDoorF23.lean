/- . -/
import Derived.Test.YtjhobbohibnioaaGreatDoorF22
import Derived.Test.YtjhobbohibnioaaGreatDoorRows
import Derived.WalkKit
import Derived.ProofKit
import Derived.OpenShut
import Derived.Deep.DeepHandedRow
import Derived.Carry
import Derived.Test.YtjhobbohibnioaaGreatDoorTie
set_option linter.all false
open Go.Ab.Ar (lst lst_eq)
namespace Go.Ab
open Go.RowKit Go.ChangeShapes Go.WideShapes Go.ChangeAt Go.Proofs Go.Proofs.YtjhobbohibnioaaGreatDoor
set_option maxRecDepth 100000
mutual
def AH4:B6→V
 |⟨op,args,var,field,kind,val⟩=>.agg [.int .i64 op,.sl (Zb args) .ro,.int .i64 var,.int .i64 field,.int .i64 kind,.int .i64 val.Kind,.int .i64 val.Num,.str val.Text]
def Zb:List B6→List V
 |[]=>[]
 |a::r=>AH4 a::Zb r
end
theorem Vp:∀l:List B6,Zb l=l.map AH4
 |[]=>by simp[Zb]
 |a::r=>by simp[Zb,Vp r]
mutual
def AR8:A1→V
 |⟨op,args,typ,var,scope,span,c⟩=>.agg [.int .i64 op,.sl (Za args) .ro,.int .i64 typ,.int .i64 var,.int .i64 scope,.int .i64 span,.int .i64 c.Op,.sl (c.cL.map AH4) .ro,.int .i64 c.Var,.int .i64 c.Field,.int .i64 c.Kind,.int .i64 c.Value.Kind,.int .i64 c.Value.Num,.str c.Value.Text]
def Za:List A1→List V
 |[]=>[]
 |a::r=>AR8 a::Za r
end
theorem Vo:∀l:List A1,Za l=l.map AR8
 |[]=>by simp[Za]
 |a::r=>by simp[Za,Vo r]
mutual
def Zd:A3→V
 |⟨r,c,ks⟩=>.agg [.int .i64 r.Time,.int .i64 r.Source,.int .i64 r.Seq,.int .i64 c,.sl (Zc ks) .ro]
def Zc:List A3→List V
 |[]=>[]
 |a::r=>Zd a::Zc r
end
theorem Vq:∀l:List A3,Zc l=l.map Zd
 |[]=>by simp[Zc]
 |a::r=>by simp[Zc,Vq r]
noncomputable def QA (x:B1):V:=.agg [.int .i64 x.Kind,.int .i64 x.Num,.str x.Text]
noncomputable def Nn (x:A8):V:=.agg [.int .i64 x.Source,.int .i64 x.Seq,.int .i64 x.Typ,.int .i64 x.Time,.sl (lst QA x.Values) .ro]
noncomputable def AR9 (x:Q4):V:=.agg [.int .i64 x.Time,.int .i64 x.Source,.int .i64 x.Seq]
noncomputable def Rp (x:E1):V:=.agg [.int .i64 x.Var,.int .i64 x.Ref.Time,.int .i64 x.Ref.Source,.int .i64 x.Ref.Seq]
noncomputable def Av5 (x:Ij):V:=.agg [.sl (lst Rp x.cR) .ro]
noncomputable def Lb (x:E8):V:=.agg [.sl (lst Nn x.cQ) .ro,.int .i64 x.count]
noncomputable def DC (x:A6):V:=.agg [.int .i64 x.v,.int .i64 x.at_]
noncomputable def MC (x:A7):V:=.agg [.int .i64 x.d.Ref.Time,.int .i64 x.d.Ref.Source,.int .i64 x.d.Ref.Seq,.int .i64 x.d.Choice,.sl (lst Zd x.d.Kids) .ro,.sl (lst DC x.s) .ro]
noncomputable def La (x:B2):V:=.agg [.int .i64 x.d.Ref.Time,.int .i64 x.d.Ref.Source,.int .i64 x.d.Ref.Seq,.int .i64 x.d.Choice,.sl (lst Zd x.d.Kids) .ro,.bool x.ok]
noncomputable def Nz (x:Kc):V:=.agg [.sl (lst Nn x.cQ) .ro,.bool x.full]
noncomputable def GU (x:AA):V:=.agg [.int .i64 x.cU,.int .i64 x.at_]
noncomputable def Ny (x:I1):V:=.agg [.int .i64 x.source,.int .i64 x.seq]
noncomputable def NA (x:C7):V:=.agg [.int .i64 x.node,.int .i64 x.first,.int .i64 x.last,.int .i64 x.outer]
noncomputable def BR (x:B5):V:=.agg [.int .i64 x.Var,.int .i64 x.At]
noncomputable def KF (x:A9):V:=.agg [.sl (lst BR x.s) .ro,.int .i64 x.d.Ref.Time,.int .i64 x.d.Ref.Source,.int .i64 x.d.Ref.Seq,.int .i64 x.d.Choice,.sl (lst Zd x.d.Kids) .ro]
noncomputable def PE (x:Q3):V:=.agg [.int .i64 x.cS,.int .i64 x.most,.bool x.cO,.bool x.cond,.bool x.scope,.bool x.span]
noncomputable def OE (x:List A8):V:=.sl (lst Nn x) .ro
noncomputable def AS0 (x:Cz):V:=.agg [.sl (lst OE x.cT) .ro]
noncomputable def OF (x:S1):V:=.agg [.sl (lst OE x.env.cT) .ro,.int .i64 x.own,.int .i64 x.event.Source,.int .i64 x.event.Seq,.int .i64 x.event.Typ,.int .i64 x.event.Time,.sl (lst QA x.event.Values) .ro,.fmap WD WC]
noncomputable def RM (x:D0):V:=.agg [.int .i64 x.Kind,.int .i64 x.Count,.int .i64 x.Value.Kind,.int .i64 x.Value.Num,.str x.Value.Text]
noncomputable def RK (x:List A3):V:=.sl (lst Zd x) .ro
noncomputable def MB (x:List A6):V:=.sl (lst DC x) .ro
noncomputable def GE (x:List AA):V:=.sl (lst GU x) .ro
noncomputable def KZ (x:List (List AA)):V:=.sl (lst GE x) .ro
noncomputable def JY (x:List B5):V:=.sl (lst BR x) .ro
noncomputable instance encsInst :O6 where
 eBh3:=QA
 eBh7:=fun _=>rfl
 eBi3:=AH4
 eBi2:=fun⟨_,_,_,_,_,_⟩=>by simp only[AH4,Vp];rfl
 eBh0:=AR8
 eBh2:=fun⟨_,_,_,_,_,_,_⟩=>by simp only[AR8,Vo];rfl
 eBg5:=Nn
 eBh4:=fun _=>rfl
 eBi6:=AR9
 eBj3:=fun _=>rfl
 eBh1:=Rp
 eBi1:=fun _=>rfl
 eBj9:=Av5
 eBk9:=fun _=>rfl
 eBg6:=Zd
 eBg8:=fun⟨_,_,_⟩=>by simp only[Zd,Vq];rfl
 eBk0:=Lb
 eBl0:=fun _=>rfl
 eBg4:=DC
 eBh8:=fun _=>rfl
 eBk1:=MC
 eBl1:=fun _=>rfl
 eBi0:=La
 eBj4:=fun _=>rfl
 eBk2:=Nz
 eBl2:=fun _=>rfl
 eBj6:=GU
 eBl3:=fun _=>rfl
 eBi7:=Ny
 eBj0:=fun _=>rfl
 eBh9:=NA
 eBj5:=fun _=>rfl
 eBg7:=BR
 eBh5:=fun _=>rfl
 eBg9:=KF
 eBh6:=fun _=>rfl
 eBj7:=PE
 eBk8:=fun _=>rfl
 eBk3:=AS0
 eBl4:=fun _=>rfl
 eBk4:=OF
 eBl5:=fun _=>rfl
 eBk5:=RM
 eBl6:=fun _=>rfl
 eBi5:=OE
 eBj1:=fun _=>rfl
 eBi4:=RK
 eBi9:=fun _=>rfl
 eBi8:=MB
 eBj2:=fun _=>rfl
 eBk6:=KZ
 eBl7:=fun _=>rfl
 eBj8:=GE
 eBl8:=fun _=>rfl
 eBk7:=JY
 eBl9:=fun _=>rfl
def UZ {α:Type}(f:α→Nat):List α→Nat
 |[]=>1
 |a::l=>f a+UZ f l
theorem Ak8 {α:Type}{f:α→Nat}(hf:∀a,1≤f a):∀l:List α,l.length+1≤UZ f l
 |[]=>by simp[UZ]
 |b::l=>by have:=hf b;have:=Ak8 hf l;simp only[UZ,H7];omega
section
variable [O5]{H:Type}{enc:TypeId×Value→H}{W:World}{base:Nat}{spare:Nat→Bool}{held:Bool}
abbrev bk (d:DataW H):Nat:=Rows.uptoBulk d
noncomputable def WA (P:Program)(t:TypeId):Array Field:=match P.underlying t with|some (.struct fs)=>fs|_=> #[]
theorem P1 {P:Program} {t ty off sz:Nat} {xs:List (DataW H×List MemPlace)} {cs:List Value} {n:Nat} (hl:xs.length=(WA P t).size)
 (hf:∀(i:Nat) (f:Field),(WA P t)[i]? =some f→DataW.trod enc P W base spare held n f.type ((cs.drop f.offset).take (P.cellsOf f.type))=xs[i]?) (i:Nat)
 (h:((WA P t)[i]?.map fun f=>(f.type,f.offset,P.cellsOf f.type))=some (ty,off,sz)):∃y,xs[i]? =some y∧DataW.trod enc P W base spare held n ty ((cs.drop off).take sz)=some y:=by
 cases hi:(WA P t)[i]? with
 |none=>rw[hi]at h;cases h
 |some f=>
  rw[hi]at h
  simp only[I6,F3,Gj]at h
  obtain⟨rfl,rfl,rfl⟩:=h;exact Af2 hl hf i hi
theorem BC.down {α:Type}{P:Program}{t:TypeId}{f:α→V}{R:α→DataW H→Prop}{n:Nat}(h:BC enc P W base spare held t f R (n+1)):BC enc P W base spare held t f R n:=fun cs x hx=>h cs x (DataW.trod_le (Nat.le_succ n) hx)
theorem BC.imp {α:Type}{P:Program}{t:TypeId}{f:α→V}{R R':α→DataW H→Prop}{n:Nat}(h:BC enc P W base spare held t f R n)(hi:∀a d,R a d→R' a d):BC enc P W base spare held t f R' n:=fun cs x hx=>by
 obtain⟨a,r,q⟩:=h cs x hx;exact⟨a,r,hi _ _ q⟩
theorem BC.congr {α:Type}{P:Program}{t:TypeId}{f g:α→V}{R:α→DataW H→Prop}{n:Nat}(h:BC enc P W base spare held t f R n)(hg:∀x,f x=g x):BC enc P W base spare held t g R n:=fun cs x hx=>by
 obtain⟨a,r,q⟩:=h cs x hx;exact⟨a,by rw[←hg];exact r,q⟩
theorem AV3 {α:Type} {f:α→Nat}:∀(l:List α) (ds:List (DataW H)),RL (fun a d=>f a≤bk d) l ds→UZ f l≤Rows.uptoBulkAll ds+1
 |[],ds,h=>by simp[UZ]
 |a::l,[],h=>by have:=h.1;simp at this
 |a::l,d::ds,h=>by
  have h1:f a≤bk d:=h.2 0 a d rfl rfl;have h2:=AV3 l ds ⟨by simpa using h.1,fun i a d hi hd=>h.2 (i+1) a d (by simpa using hi) (by simpa using hd)⟩;simp only[UZ,Rows.uptoBulkAll];have h3:bk d=Rows.uptoBulk d:=rfl;omega
theorem Aj1 {α:Type}{f:α→Nat}{l:List α}{d:DataW H}(h:RS (fun a d=>f a≤bk d) l d):UZ f l≤bk d:=by
 obtain⟨_,h⟩:=h
 rcases h with⟨rfl,rfl⟩|⟨es,sp,rfl,h⟩
 ·simp[bk,Rows.uptoBulk,UZ]
 have:=AV3 l es h;simp only[bk,Rows.uptoBulk];omega
theorem Zz:∀l:List B6,B6.bulks l=UZ B6.bulk l
 |[]=>by simp[B6.bulks,UZ]
 |a::l=>by simp[B6.bulks,UZ,Zz l]
theorem AI4 {l:List B6}{d:DataW H}(h:RS (fun a d=>B6.bulk a≤bk d) l d):B6.bulks l≤bk d:=by rw[Zz];exact Aj1 h
theorem VA:∀l:List A1,A1.bulks l=UZ A1.bulk l
 |[]=>by simp[A1.bulks,UZ]
 |a::l=>by simp[A1.bulks,UZ,VA l]
theorem ZA {l:List A1}{d:DataW H}(h:RS (fun a d=>A1.bulk a≤bk d) l d):A1.bulks l≤bk d:=by rw[VA];exact Aj1 h
theorem AZ6 {β:Type}{xs:List β}{a b c:β}(hl:xs.length=3)(h0:xs[0]? =some a)(h1:xs[1]? =some b)(h2:xs[2]? =some c):xs=[a,b,c]:=by
 match xs,hl with
 |[x0,x1,x2],_=>simp at h0 h1 h2;rw[h0,h1,h2]
theorem AZ5 {β:Type}{xs:List β}{a b c d e:β}(hl:xs.length=5)(h0:xs[0]? =some a)(h1:xs[1]? =some b)(h2:xs[2]? =some c)(h3:xs[3]? =some d)(h4:xs[4]? =some e):xs=[a,b,c,d,e]:=by
 match xs,hl with
 |[x0,x1,x2,x3,x4],_=>simp at h0 h1 h2 h3 h4;rw[h0,h1,h2,h3,h4]
theorem AF4 {β:Type}{xs:List β}{a b c d e f:β}(hl:xs.length=6)(h0:xs[0]? =some a)(h1:xs[1]? =some b)(h2:xs[2]? =some c)(h3:xs[3]? =some d)(h4:xs[4]? =some e)(h5:xs[5]? =some f):xs=[a,b,c,d,e,f]:=by
 match xs,hl with
 |[x0,x1,x2,x3,x4,x5],_=>simp at h0 h1 h2 h3 h4 h5;rw[h0,h1,h2,h3,h4,h5]
theorem AZ4 {β:Type}{xs:List β}{a b c d e f g:β}(hl:xs.length=7)(h0:xs[0]? =some a)(h1:xs[1]? =some b)(h2:xs[2]? =some c)(h3:xs[3]? =some d)(h4:xs[4]? =some e)(h5:xs[5]? =some f)(h6:xs[6]? =some g):xs=[a,b,c,d,e,f,g]:=by
 match xs,hl with
 |[x0,x1,x2,x3,x4,x5,x6],_=>simp at h0 h1 h2 h3 h4 h5 h6;rw[h0,h1,h2,h3,h4,h5,h6]
theorem u27:Tryz.prog.underlying 27=some (.struct (WA Tryz.prog 27)):=by kernel_rfl
theorem u23:Tryz.prog.underlying 23=some (.slice 27):=by kernel_rfl
theorem u3:Tryz.prog.underlying 3=some (.int .i64):=by kernel_rfl
theorem Ec (n:Nat):BC enc Tryz.prog W base spare held 3 (V.int .i64) (fun a d=>(fun _:Int=>1) a≤bk d) n:=(Qm u3).imp fun a d h=>by subst h;simp[bk,Rows.uptoBulk]
theorem u25:Tryz.prog.underlying 25=some (.struct (WA Tryz.prog 25)):=by kernel_rfl
theorem u9:Tryz.prog.underlying 9=some .string:=by kernel_rfl
theorem AY3 (n:Nat):BC enc Tryz.prog W base spare held 9 V.str (fun a d=>(fun s:ByteArray=>s.size+1) a≤bk d) n:=(As5 u9).imp fun a d h=>by obtain⟨rfl,_⟩:=h;simp[bk,Rows.uptoBulk]
def B1.mu (x:B1):Nat:=(fun _:Int=>1) x.Kind+(fun _:Int=>1) x.Num+(fun s:ByteArray=>s.size+1) x.Text+1
theorem Aj9 (n:Nat):BC enc Tryz.prog W base spare held 25 O6.eBh3 (fun(a:B1) d=>B1.mu a≤bk d) n:=by
 intro cs x h;obtain⟨xs,m,hm,rfl,hcl,hl,hf⟩:=Gp u25 h;subst hm;obtain⟨y0,k0,t0⟩:=P1 hl hf 0 (ty:=3) (off:=0) (sz:=1) (by kernel_rfl);obtain⟨y1,k1,t1⟩:=P1 hl hf 1 (ty:=3) (off:=1) (sz:=1) (by kernel_rfl);obtain⟨y2,k2,t2⟩:=P1 hl hf 2 (ty:=9) (off:=2) (sz:=1) (by kernel_rfl);have hxs:=AZ6 (hl.trans (by kernel_rfl)) k0 k1 k2;obtain⟨a0,r0,q0⟩:=Ec _ _ _ t0;obtain⟨a1,r1,q1⟩:=Ec _ _ _ t1;obtain⟨a2,r2,q2⟩:=AY3 _ _ _ t2;refine⟨⟨a0,a1,a2⟩,?_,?_⟩
 ·have hc3:cs.length=3:=hcl.trans (by kernel_rfl);have:=(r0.join r1).join r2;rw[O6.eBh7]
  simp only[lst_eq]at this ⊢
  simpa[Bh,hc3,V.cells]using this
 simp only[bk]at q0 q1 q2
 rw[hxs];simp only[D5,H5,bk,Rows.uptoBulk,Rows.uptoBulkAll,B1.mu];omega
theorem AO6:∀n:Nat,BC enc Tryz.prog W base spare held 27 O6.eBi3 (fun(a:B6) d=>B6.bulk a≤bk d) n:=by
 intro n
 induction n with
 |zero=>intro cs x h;simp[DataW.trod]at h
 |succ n ih=>
 intro cs x h;obtain⟨xs,m,hm,rfl,hcl,hl,hf⟩:=Gp u27 h;cases hm;obtain⟨y0,k0,t0⟩:=P1 hl hf 0 (ty:=3) (off:=0) (sz:=1) (by kernel_rfl);obtain⟨y1,k1,t1⟩:=P1 hl hf 1 (ty:=23) (off:=1) (sz:=1) (by kernel_rfl);obtain⟨y2,k2,t2⟩:=P1 hl hf 2 (ty:=3) (off:=2) (sz:=1) (by kernel_rfl);obtain⟨y3,k3,t3⟩:=P1 hl hf 3 (ty:=3) (off:=3) (sz:=1) (by kernel_rfl);obtain⟨y4,k4,t4⟩:=P1 hl hf 4 (ty:=3) (off:=4) (sz:=1) (by kernel_rfl);obtain⟨y5,k5,t5⟩:=P1 hl hf 5 (ty:=25) (off:=5) (sz:=3) (by kernel_rfl);have hxs:=AF4 (hl.trans (by kernel_rfl)) k0 k1 k2 k3 k4 k5;obtain⟨a0,r0,q0⟩:=Ec _ _ _ t0
 obtain⟨a1,r1,q1⟩:∃a:List B6,FQ (g0 W) W ((cs.drop 1).take 1) (V.sl (a.map O6.eBi3) .ro).cells∧B6.bulks a≤bk y1.1:=by
  cases n with
  |zero=>simp[DataW.trod]at t1
  |succ n=>
   obtain⟨a,r,q⟩:=Jf u23 (show 0<Tryz.prog.cellsOf 27 by rw[show Tryz.prog.cellsOf 27=8 by kernel_rfl];decide) ih.down _ _ t1;exact⟨a,r,AI4 q⟩
 obtain⟨a2,r2,q2⟩:=Ec _ _ _ t2;obtain⟨a3,r3,q3⟩:=Ec _ _ _ t3;obtain⟨a4,r4,q4⟩:=Ec _ _ _ t4;obtain⟨a5,r5,q5⟩:=Aj9 _ _ _ t5;refine⟨⟨a0,a1,a2,a3,a4,a5⟩,?_,?_⟩
 ·have hc3:cs.length=8:=hcl.trans (by kernel_rfl)
  rw[O6.eBh7]at r5
  have:=((((r0.join r1).join r2).join r3).join r4).join r5;rw[O6.eBi2]
  simp only[lst_eq]at this ⊢
  simpa[Bh,hc3,V.cells]using this
 simp only[bk]at q0 q1 q2 q3 q4 q5
 rw[hxs]
 simp only[D5,H5,bk,Rows.uptoBulk,Rows.uptoBulkAll,B6.bulk,B1.mu]at *
 omega
theorem u29:Tryz.prog.underlying 29=some (.struct (WA Tryz.prog 29)):=by kernel_rfl
theorem u22:Tryz.prog.underlying 22=some (.slice 29):=by kernel_rfl
theorem AO5:∀n:Nat,BC enc Tryz.prog W base spare held 29 O6.eBh0 (fun(a:A1) d=>A1.bulk a≤bk d) n:=by
 intro n
 induction n with
 |zero=>intro cs x h;simp[DataW.trod]at h
 |succ n ih=>
 intro cs x h;obtain⟨xs,m,hm,rfl,hcl,hl,hf⟩:=Gp u29 h;cases hm;obtain⟨y0,k0,t0⟩:=P1 hl hf 0 (ty:=3) (off:=0) (sz:=1) (by kernel_rfl);obtain⟨y1,k1,t1⟩:=P1 hl hf 1 (ty:=22) (off:=1) (sz:=1) (by kernel_rfl);obtain⟨y2,k2,t2⟩:=P1 hl hf 2 (ty:=3) (off:=2) (sz:=1) (by kernel_rfl);obtain⟨y3,k3,t3⟩:=P1 hl hf 3 (ty:=3) (off:=3) (sz:=1) (by kernel_rfl);obtain⟨y4,k4,t4⟩:=P1 hl hf 4 (ty:=3) (off:=4) (sz:=1) (by kernel_rfl);obtain⟨y5,k5,t5⟩:=P1 hl hf 5 (ty:=3) (off:=5) (sz:=1) (by kernel_rfl);obtain⟨y6,k6,t6⟩:=P1 hl hf 6 (ty:=27) (off:=6) (sz:=8) (by kernel_rfl);have hxs:=AZ4 (hl.trans (by kernel_rfl)) k0 k1 k2 k3 k4 k5 k6;obtain⟨a0,r0,q0⟩:=Ec _ _ _ t0
 obtain⟨a1,r1,q1⟩:∃a:List A1,FQ (g0 W) W ((cs.drop 1).take 1) (V.sl (a.map O6.eBh0) .ro).cells∧A1.bulks a≤bk y1.1:=by
  cases n with
  |zero=>simp[DataW.trod]at t1
  |succ n=>
   obtain⟨a,r,q⟩:=Jf u22 (show 0<Tryz.prog.cellsOf 29 by rw[show Tryz.prog.cellsOf 29=14 by kernel_rfl];decide) ih.down _ _ t1;exact⟨a,r,ZA q⟩
 obtain⟨a2,r2,q2⟩:=Ec _ _ _ t2;obtain⟨a3,r3,q3⟩:=Ec _ _ _ t3;obtain⟨a4,r4,q4⟩:=Ec _ _ _ t4;obtain⟨a5,r5,q5⟩:=Ec _ _ _ t5;obtain⟨a6,r6,q6⟩:=AO6 _ _ _ t6;refine⟨⟨a0,a1,a2,a3,a4,a5,a6⟩,?_,?_⟩
 ·have hc3:cs.length=14:=hcl.trans (by kernel_rfl)
  rw[O6.eBi2]at r6
  have:=(((((r0.join r1).join r2).join r3).join r4).join r5).join r6;rw[O6.eBh2]
  simp only[lst_eq]at this ⊢
  simpa[Bh,hc3,V.cells]using this
 simp only[bk]at q0 q1 q2 q3 q4 q5 q6
 rw[hxs]
 simp only[D5,H5,bk,Rows.uptoBulk,Rows.uptoBulkAll,A1.bulk,B1.mu]at *
 omega
theorem u78:Tryz.prog.underlying 78=some (.struct (WA Tryz.prog 78)):=by kernel_rfl
theorem u76:Tryz.prog.underlying 76=some (.slice 25):=by kernel_rfl
theorem AO3 (n:Nat):BC enc Tryz.prog W base spare held 76 (fun l:List B1=>.sl (lst O6.eBh3 l) .ro) (fun a d=>(UZ B1.mu) a≤bk d) n:=
 BC.down (((Jf u76 (show 0<Tryz.prog.cellsOf 25 by rw[show Tryz.prog.cellsOf 25=3 by kernel_rfl];decide) (Aj9 n)).imp fun a d h=>Aj1 h).congr fun x=>by rw[lst_eq])
def A8.mu (x:A8):Nat:=(fun _:Int=>1) x.Source+(fun _:Int=>1) x.Seq+(fun _:Int=>1) x.Typ+(fun _:Int=>1) x.Time+(UZ B1.mu) x.Values+1
theorem AO2 (n:Nat):BC enc Tryz.prog W base spare held 78 O6.eBg5 (fun(a:A8) d=>A8.mu a≤bk d) n:=by
 intro cs x h;obtain⟨xs,m,hm,rfl,hcl,hl,hf⟩:=Gp u78 h;subst hm;obtain⟨y0,k0,t0⟩:=P1 hl hf 0 (ty:=3) (off:=0) (sz:=1) (by kernel_rfl);obtain⟨y1,k1,t1⟩:=P1 hl hf 1 (ty:=3) (off:=1) (sz:=1) (by kernel_rfl);obtain⟨y2,k2,t2⟩:=P1 hl hf 2 (ty:=3) (off:=2) (sz:=1) (by kernel_rfl);obtain⟨y3,k3,t3⟩:=P1 hl hf 3 (ty:=3) (off:=3) (sz:=1) (by kernel_rfl);obtain⟨y4,k4,t4⟩:=P1 hl hf 4 (ty:=76) (off:=4) (sz:=1) (by kernel_rfl);have hxs:=AZ5 (hl.trans (by kernel_rfl)) k0 k1 k2 k3 k4;obtain⟨a0,r0,q0⟩:=Ec _ _ _ t0;obtain⟨a1,r1,q1⟩:=Ec _ _ _ t1;obtain⟨a2,r2,q2⟩:=Ec _ _ _ t2;obtain⟨a3,r3,q3⟩:=Ec _ _ _ t3;obtain⟨a4,r4,q4⟩:=AO3 _ _ _ t4;refine⟨⟨a0,a1,a2,a3,a4⟩,?_,?_⟩
 ·have hc3:cs.length=5:=hcl.trans (by kernel_rfl);have:=(((r0.join r1).join r2).join r3).join r4;rw[O6.eBh4]
  simp only[lst_eq]at this ⊢
  simpa[Bh,hc3,V.cells]using this
 simp only[bk]at q0 q1 q2 q3 q4
 rw[hxs];simp only[D5,H5,bk,Rows.uptoBulk,Rows.uptoBulkAll,A8.mu];omega
theorem u30:Tryz.prog.underlying 30=some (.slice 78):=by kernel_rfl
theorem AO4 (n:Nat):BC enc Tryz.prog W base spare held 30 (fun l:List A8=>.sl (lst O6.eBg5 l) .ro) (fun a d=>(UZ A8.mu) a≤bk d) n:=
 BC.down (((Jf u30 (show 0<Tryz.prog.cellsOf 78 by rw[show Tryz.prog.cellsOf 78=5 by kernel_rfl];decide) (AO2 n)).imp fun a d h=>Aj1 h).congr fun x=>by rw[lst_eq])
def Q4.mu (x:Q4):Nat:=(fun _:Int=>1) x.Time+(fun _:Int=>1) x.Source+(fun _:Int=>1) x.Seq+1
theorem WQ {v:Value}{d:DataW H}{p:List MemPlace}(hv:Value.okWide Tryz.prog W .any base 29 v)(h:DataW.Trod enc Tryz.prog W 0 (fun _=>true) true 29 v d p):∃x:A1,VR (g0 W) W v (O6.eBh0 x)∧A1.bulk x≤Rows.uptoBulk d:=by
 obtain⟨fuel,ht⟩:=h;obtain⟨cs,rfl,hcs⟩:=okWide_struct u29 hv;obtain⟨x,hr,hb⟩:=AO5 fuel _ _ ht;have hr':FQ (g0 W) W cs.toList (O6.eBh0 x).cells:=hr;refine⟨x,?_,hb⟩;have:=hr'.agg
 rw[O6.eBh2]at this ⊢
 exact this
theorem ZC {v:Value}{d:DataW H}{p:List MemPlace}(hv:Value.okWide Tryz.prog W .any base 30 v)(h:DataW.Trod enc Tryz.prog W 0 (fun _=>true) true 30 v d p):∃x:List A8,VR (g0 W) W v (.sl (lst O6.eBg5 x) .ro)∧(UZ A8.mu) x≤Rows.uptoBulk d:=by
 obtain⟨fuel,ht⟩:=h;obtain⟨a,len,cap,rfl⟩:=okWide_slice u30 hv;obtain⟨x,hr,hb⟩:=AO4 fuel _ _ ht;exact⟨x,(hr.2 0 (by simp[V.cells])).2,hb⟩
theorem u4:Tryz.prog.underlying 4=some .bool:=by kernel_rfl
theorem AQ2 {f:FuncId}{vals:Array Value}{args:List V}(hg:∀n,VR (g0 W) W (.pointer (some ⟨n,0,none⟩)) (O5.gl n))(hcall:∀vals w,(callFunc f vals).run Tryz.prog w= .ok (.enter f vals) w)(law:B9 Tryz.prog f args (.bool true))(hA:Args (g0 W) W vals args):
 Calls Tryz.prog f vals W fun e W'=>e= .returned (.bool true)∧Below W.heap.size W W':=by
 have hc:=law (fun _=>none) (g0 W) W vals (rl0 hg) hA
 rw[hcall]at hc
 refine(callsIn_wide.1 hc).mono fun e W' ⟨v,he,g',y,H',hs,hR,hvy,hy,_⟩=>?_;subst hy;cases hvy;exact⟨he,hs.low⟩
theorem Bf8 {v0 v1:Value}{x0 x1:V}(h0:VR (g0 W) W v0 x0)(h1:VR (g0 W) W v1 x1):Args (g0 W) W #[v0,v1] [x0,x1]:=⟨rfl,fun i hi=>by
 match i,hi with
 |0,_=>exact h0
 |1,_=>exact h1⟩
end
end Go.Ab
namespace Go.Ab
open Go.RowKit Go.ChangeShapes Go.WideShapes Go.ChangeAt Go.Proofs Go.Proofs.YtjhobbohibnioaaGreatDoor
set_option maxRecDepth 100000
section
variable {H:Type}{enc:TypeId×Value→H}{W:World}{base:Nat}{spare:Nat→Bool}{held:Bool}
theorem u220:Tryz.prog.underlying 220=some (.array M7.length 219):=by kernel_rfl
theorem u219:Tryz.prog.underlying 219=some (.struct (WA Tryz.prog 219)):=by kernel_rfl
theorem Ad2 (n:Nat):BC enc Tryz.prog W base spare held 219 O6.eBj7 (fun(a:Q3) d=>d= .agg [.lit (.int .i64 a.cS),.lit (.int .i64 a.most),.lit (.bool a.cO),.lit (.bool a.cond),.lit (.bool a.scope),.lit (.bool a.span)]) n:=by
 intro cs x h;obtain⟨xs,m,rfl,rfl,hcl,hl,hf⟩:=Gp u219 h;obtain⟨y0,k0,t0⟩:=P1 hl hf 0 (ty:=3) (off:=0) (sz:=1) (by kernel_rfl);obtain⟨y1,k1,t1⟩:=P1 hl hf 1 (ty:=3) (off:=1) (sz:=1) (by kernel_rfl);obtain⟨y2,k2,t2⟩:=P1 hl hf 2 (ty:=4) (off:=2) (sz:=1) (by kernel_rfl);obtain⟨y3,k3,t3⟩:=P1 hl hf 3 (ty:=4) (off:=3) (sz:=1) (by kernel_rfl);obtain⟨y4,k4,t4⟩:=P1 hl hf 4 (ty:=4) (off:=4) (sz:=1) (by kernel_rfl);obtain⟨y5,k5,t5⟩:=P1 hl hf 5 (ty:=4) (off:=5) (sz:=1) (by kernel_rfl);have hxs:=AF4 (hl.trans (by kernel_rfl)) k0 k1 k2 k3 k4 k5;obtain⟨a0,r0,q0⟩:=Qm u3 _ _ t0;obtain⟨a1,r1,q1⟩:=Qm u3 _ _ t1;obtain⟨a2,r2,q2⟩:=Kt u4 _ _ t2;obtain⟨a3,r3,q3⟩:=Kt u4 _ _ t3;obtain⟨a4,r4,q4⟩:=Kt u4 _ _ t4;obtain⟨a5,r5,q5⟩:=Kt u4 _ _ t5;refine⟨⟨a0,a1,a2,a3,a4,a5⟩,?_,?_⟩
 ·have hc3:cs.length=6:=hcl.trans (by kernel_rfl);have:=((((r0.join r1).join r2).join r3).join r4).join r5;rw[O6.eBk8]
  simpa[Bh,hc3,V.cells]using this
 rw[hxs];simp only[D5,H5,q0,q1,q2,q3,q4,q5]
theorem UM:∀(l k:List Q3),(RL (H:=H) (fun(a:Q3) d=>d= .agg [.lit (.int .i64 a.cS),.lit (.int .i64 a.most),.lit (.bool a.cO),.lit (.bool a.cond),.lit (.bool a.scope),.lit (.bool a.span)]) l
 (k.map fun a=>.agg [.lit (.int .i64 a.cS),.lit (.int .i64 a.most),.lit (.bool a.cO),.lit (.bool a.cond),.lit (.bool a.scope),.lit (.bool a.span)]))→l=k
 |[],[],_=>rfl
 |[],_::_,h=>by have:=h.1;simp at this
 |_::_,[],h=>by have:=h.1;simp at this
 |a::l,b::k,h=>by
  have h0:=h.2 0 a _ rfl rfl;have h1:=UM l k ⟨by simpa using h.1,fun i a d hi hd=>h.2 (i+1) a d (by simpa using hi) (by simpa using hd)⟩;subst h1;obtain⟨a0,a1,a2,a3,a4,a5⟩:=a;obtain⟨b0,b1,b2,b3,b4,b5⟩:=b
  simp at h0
  simp[h0]
theorem YJ (h:laidMetH Tryz.prog Rows.derivationComparesRow.laid W):VR (g0 W) W (.pointer (some ⟨0,0,none⟩)) (O5.gl 0):=by
 have h':laidMet Tryz.prog Rows.derivationComparesRow.laid W:=h;obtain⟨ps,⟨g',t',cs,fuel,p,q,hg',ht',hvar,hd,_,_⟩,_⟩:=h';obtain rfl:g'=0:=BL (hg'.symm.trans (by kernel_rfl));obtain rfl:t'=220:=BL (ht'.symm.trans (by kernel_rfl));obtain⟨l,hr,ds,hds,hl⟩:=Yo u220 (by kernel_rfl) (by decide) (fun n=>Ad2 n) hd
 have e:ds=M7.map fun a=>.agg [.lit (.int .i64 a.cS),.lit (.int .i64 a.most),.lit (.bool a.cO),.lit (.bool a.cond),.lit (.bool a.scope),.lit (.bool a.span)]:=by
  have e2:(Rows.laid_tidegate_pattern_shapes:DataW Unit)= .agg ds:=hds;have e3:(Rows.laid_tidegate_pattern_shapes:DataW Unit)= .agg (M7.map fun a=>.agg [.lit (.int .i64 a.cS),.lit (.int .i64 a.most),.lit (.bool a.cO),.lit (.bool a.cond),.lit (.bool a.scope),.lit (.bool a.span)]):=rfl
  rw[e3]at e2
  exact(DataW.agg.inj e2).symm
 subst e;obtain rfl:=UM _ _ hl;exact YO hg' hvar hr
theorem AZ8 (h:laidMetH Tryz.prog Rows.derivationComparesRow.laid W):∀n,VR (g0 W) W (.pointer (some ⟨n,0,none⟩)) (O5.gl n)
 |0=>YJ h
 |_+1=>.bad _
end
end Go.Ab
