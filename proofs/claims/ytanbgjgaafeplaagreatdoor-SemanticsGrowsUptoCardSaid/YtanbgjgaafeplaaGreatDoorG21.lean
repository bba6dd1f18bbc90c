/- GTIn GTIn9 GTPr -/
import Derived.Test.YtanbgjgaafeplaaGreatDoorG20
import Derived.Test.YtanbgjgaafeplaaGreatDoorRows
import Derived.WalkKit
import Derived.ProofKit
import Derived.OpenShut
import Derived.Deep.DeepHandedRow
import Derived.Carry
import Derived.Test.YtanbgjgaafeplaaGreatDoorTie
set_option linter.all false
open Go.Ab.Ar (lst lst_eq)
namespace Go.Ab
open Go.RowKit Go.ChangeShapes Go.WideShapes Go.ChangeAt Go.Proofs Go.Proofs.YtanbgjgaafeplaaGreatDoor
set_option maxRecDepth 100000
mutual
def Yt :A4→V
 |⟨op,args,var,field,kind,val⟩=>.agg [.int .i64 op,.sl (Ru args) .ro,.int .i64 var,.int .i64 field,.int .i64 kind,.int .i64 val.Kind,.int .i64 val.Num,.str val.Text]
def Ru :List A4→List V
 |[]=>[]
 |a::r=>Yt a::Ru r
end
theorem Ob :∀l:List A4,Ru l=l.map Yt
 |[]=>by simp[Ru]
 |a::r=>by simp[Ru,Ob r]
mutual
def ZX :A0→V
 |⟨op,args,typ,var,scope,span,c⟩=>.agg [.int .i64 op,.sl (Rt args) .ro,.int .i64 typ,.int .i64 var,.int .i64 scope,.int .i64 span,.int .i64 c.Op,.sl (c.cP.map Yt) .ro,.int .i64 c.Var,.int .i64 c.Field,.int .i64 c.Kind,.int .i64 c.Value.Kind,.int .i64 c.Value.Num,.str c.Value.Text]
def Rt :List A0→List V
 |[]=>[]
 |a::r=>ZX a::Rt r
end
theorem NY :∀l:List A0,Rt l=l.map ZX
 |[]=>by simp[Rt]
 |a::r=>by simp[Rt,NY r]
noncomputable def NZ (x:A7):V:=.agg [.int .i64 x.Kind,.int .i64 x.Num,.str x.Text]
noncomputable def Oa (x:A5):V:=.agg [.int .i64 x.Source,.int .i64 x.Seq,.int .i64 x.Typ,.int .i64 x.Time,.sl (lst NZ x.Values) .ro]
noncomputable def Ky (x:C7):V:=.agg [.int .i64 x.Var,.int .i64 x.Ref.Time,.int .i64 x.Ref.Source,.int .i64 x.Ref.Seq]
noncomputable def We (x:C8):V:=.agg [.sl (lst Ky x.cR) .ro]
noncomputable def Wf (x:PF):V:=.agg [.int .i64 x.cS,.int .i64 x.Span]
noncomputable def Dt (x:A1):V:=.agg [.int .i64 x.cU,.int .i64 x.at_]
noncomputable def Cl (x:L8):V:=.agg [.int .i64 x.Var,.int .i64 x.At]
noncomputable def Jp (x:H9):V:=.agg [.int .i64 x.cV,.int .i64 x.most,.bool x.cT,.bool x.cond,.bool x.scope,.bool x.span]
noncomputable def HG (x:D1):V:=.agg [.int .i64 x.source,.int .i64 x.seq]
noncomputable def Tn (x:List A5):V:=.sl (lst Oa x) .ro
noncomputable def Di (x:List A1):V:=.sl (lst Dt x) .ro
noncomputable def Gr (x:List (List A1)):V:=.sl (lst Di x) .ro
noncomputable def Fs (x:List L8):V:=.sl (lst Cl x) .ro
noncomputable instance encsInst :I0 where
 eAp0:=NZ
 eAo8:=fun _=>rfl
 eAo6:=Yt
 eAp2:=fun⟨_,_,_,_,_,_⟩=>by simp only[Yt,Ob];rfl
 eAo2:=ZX
 eAo4:=fun⟨_,_,_,_,_,_,_⟩=>by simp only[ZX,NY];rfl
 eAo3:=Oa
 eAo9:=fun _=>rfl
 eAp1:=Ky
 eAp5:=fun _=>rfl
 eAo5:=We
 eAp3:=fun _=>rfl
 eAq5:=Wf
 eAq8:=fun _=>rfl
 eAo1:=Dt
 eAp4:=fun _=>rfl
 eAq2:=Cl
 eAq9:=fun _=>rfl
 eAq3:=Jp
 eAq7:=fun _=>rfl
 eAp8:=HG
 eAq0:=fun _=>rfl
 eAp9:=Tn
 eAq4:=fun _=>rfl
 eAp7:=Gr
 eAq1:=fun _=>rfl
 eAo7:=Di
 eAp6:=fun _=>rfl
 eAq6:=Fs
 eAr0:=fun _=>rfl
def MT {α:Type}(f:α→Nat):List α→Nat
 |[]=>1
 |a::l=>f a+MT f l
theorem OR {α:Type}{f:α→Nat}(hf:∀a,1≤f a):∀l:List α,l.length+1≤MT f l
 |[]=>by simp[MT]
 |b::l=>by have:=hf b;have:=OR hf l;simp only[MT,List.length_cons];omega
section
variable [I3]{H:Type}{enc:TypeId×Value→H}{W:World}{base:Nat}{spare:Nat→Bool}{held:Bool}
abbrev bk (d:DataW H):Nat:=Rows.uptoBulk d
noncomputable def Pm (P:Program)(t:TypeId):Array Field:=match P.underlying t with|some (.struct fs)=>fs|_=> #[]
theorem H8 {P:Program} {t ty off sz:Nat} {xs:List (DataW H×List MemPlace)} {cs:List Value} {n:Nat} (hl:xs.length=(Pm P t).size)
 (hf:∀(i:Nat) (f:Field),(Pm P t)[i]? =some f→DataW.trod enc P W base spare held n f.type ((cs.drop f.offset).take (P.cellsOf f.type))=xs[i]?) (i:Nat)
 (h:((Pm P t)[i]?.map fun f=>(f.type,f.offset,P.cellsOf f.type))=some (ty,off,sz)):∃y,xs[i]? =some y∧DataW.trod enc P W base spare held n ty ((cs.drop off).take sz)=some y:=by
 cases hi:(Pm P t)[i]? with
 |none=>rw[hi]at h;cases h
 |some f=>
  rw[hi]at h
  simp only[Option.map_some,Option.some.injEq,Prod.mk.injEq]at h
  obtain⟨rfl,rfl,rfl⟩:=h;exact Th hl hf i hi
theorem Opens.down {α:Type}{P:Program}{t:TypeId}{f:α→V}{R:α→DataW H→Prop}{n:Nat}(h:Opens enc P W base spare held t f R (n+1)):Opens enc P W base spare held t f R n:=fun cs x hx=>h cs x (DataW.trod_le (Nat.le_succ n) hx)
theorem Opens.imp {α:Type}{P:Program}{t:TypeId}{f:α→V}{R R':α→DataW H→Prop}{n:Nat}(h:Opens enc P W base spare held t f R n)(hi:∀a d,R a d→R' a d):Opens enc P W base spare held t f R' n:=fun cs x hx=>by
 obtain⟨a,r,q⟩:=h cs x hx;exact⟨a,r,hi _ _ q⟩
theorem Opens.congr {α:Type}{P:Program}{t:TypeId}{f g:α→V}{R:α→DataW H→Prop}{n:Nat}(h:Opens enc P W base spare held t f R n)(hg:∀x,f x=g x):Opens enc P W base spare held t g R n:=fun cs x hx=>by
 obtain⟨a,r,q⟩:=h cs x hx;exact⟨a,by rw[←hg];exact r,q⟩
theorem Ab7 {α:Type} {f:α→Nat}:∀(l:List α) (ds:List (DataW H)),RL (fun a d=>f a≤bk d) l ds→MT f l≤Rows.uptoBulkAll ds+1
 |[],ds,h=>by simp[MT]
 |a::l,[],h=>by have:=h.1;simp at this
 |a::l,d::ds,h=>by
  have h1:f a≤bk d:=h.2 0 a d rfl rfl;have h2:=Ab7 l ds ⟨by simpa using h.1,fun i a d hi hd=>h.2 (i+1) a d (by simpa using hi) (by simpa using hd)⟩;simp only[MT,Rows.uptoBulkAll];have h3:bk d=Rows.uptoBulk d:=rfl;omega
theorem TX {α:Type}{f:α→Nat}{l:List α}{d:DataW H}(h:RS (fun a d=>f a≤bk d) l d):MT f l≤bk d:=by
 obtain⟨_,h⟩:=h
 rcases h with⟨rfl,rfl⟩|⟨es,sp,rfl,h⟩
 ·simp[bk,Rows.uptoBulk,MT]
 have:=Ab7 l es h;simp only[bk,Rows.uptoBulk];omega
theorem RF :∀l:List A4,A4.bulks l=MT A4.bulk l
 |[]=>by simp[A4.bulks,MT]
 |a::l=>by simp[A4.bulks,MT,RF l]
theorem Yx {l:List A4}{d:DataW H}(h:RS (fun a d=>A4.bulk a≤bk d) l d):A4.bulks l≤bk d:=by rw[RF];exact TX h
theorem Oj :∀l:List A0,A0.bulks l=MT A0.bulk l
 |[]=>by simp[A0.bulks,MT]
 |a::l=>by simp[A0.bulks,MT,Oj l]
theorem RG {l:List A0}{d:DataW H}(h:RS (fun a d=>A0.bulk a≤bk d) l d):A0.bulks l≤bk d:=by rw[Oj];exact TX h
theorem Ag7 {β:Type}{xs:List β}{a b c:β}(hl:xs.length=3)(h0:xs[0]? =some a)(h1:xs[1]? =some b)(h2:xs[2]? =some c):xs=[a,b,c]:=by
 match xs,hl with
 |[x0,x1,x2],_=>simp at h0 h1 h2;rw[h0,h1,h2]
theorem Ag6 {β:Type}{xs:List β}{a b c d e:β}(hl:xs.length=5)(h0:xs[0]? =some a)(h1:xs[1]? =some b)(h2:xs[2]? =some c)(h3:xs[3]? =some d)(h4:xs[4]? =some e):xs=[a,b,c,d,e]:=by
 match xs,hl with
 |[x0,x1,x2,x3,x4],_=>simp at h0 h1 h2 h3 h4;rw[h0,h1,h2,h3,h4]
theorem Ag5 {β:Type}{xs:List β}{a b c d e f:β}(hl:xs.length=6)(h0:xs[0]? =some a)(h1:xs[1]? =some b)(h2:xs[2]? =some c)(h3:xs[3]? =some d)(h4:xs[4]? =some e)(h5:xs[5]? =some f):xs=[a,b,c,d,e,f]:=by
 match xs,hl with
 |[x0,x1,x2,x3,x4,x5],_=>simp at h0 h1 h2 h3 h4 h5;rw[h0,h1,h2,h3,h4,h5]
theorem Ag4 {β:Type}{xs:List β}{a b c d e f g:β}(hl:xs.length=7)(h0:xs[0]? =some a)(h1:xs[1]? =some b)(h2:xs[2]? =some c)(h3:xs[3]? =some d)(h4:xs[4]? =some e)(h5:xs[5]? =some f)(h6:xs[6]? =some g):xs=[a,b,c,d,e,f,g]:=by
 match xs,hl with
 |[x0,x1,x2,x3,x4,x5,x6],_=>simp at h0 h1 h2 h3 h4 h5 h6;rw[h0,h1,h2,h3,h4,h5,h6]
theorem u27 :Tryz.prog.underlying 27=some (.struct (Pm Tryz.prog 27)):=by kernel_rfl
theorem u23 :Tryz.prog.underlying 23=some (.slice 27):=by kernel_rfl
theorem u3 :Tryz.prog.underlying 3=some (.int .i64):=by kernel_rfl
theorem BI (n:Nat):Opens enc Tryz.prog W base spare held 3 (V.int .i64) (fun a d=>(fun _:Int=>1) a≤bk d) n:=(JQ u3).imp fun a d h=>by subst h;simp[bk,Rows.uptoBulk]
theorem u25 :Tryz.prog.underlying 25=some (.struct (Pm Tryz.prog 25)):=by kernel_rfl
theorem u9 :Tryz.prog.underlying 9=some .string:=by kernel_rfl
theorem Af3 (n:Nat):Opens enc Tryz.prog W base spare held 9 V.str (fun a d=>(fun s:ByteArray=>s.size+1) a≤bk d) n:=(VD u9).imp fun a d h=>by obtain⟨rfl,_⟩:=h;simp[bk,Rows.uptoBulk]
def A7.mu (x:A7):Nat:=(fun _:Int=>1) x.Kind+(fun _:Int=>1) x.Num+(fun s:ByteArray=>s.size+1) x.Text+1
theorem Ue (n:Nat):Opens enc Tryz.prog W base spare held 25 I0.eAp0 (fun(a:A7) d=>A7.mu a≤bk d) n:=by
 intro cs x h;obtain⟨xs,m,hm,rfl,hcl,hl,hf⟩:=DataW.trod_struct u25 h;subst hm;obtain⟨y0,k0,t0⟩:=H8 hl hf 0 (ty:=3) (off:=0) (sz:=1) (by kernel_rfl);obtain⟨y1,k1,t1⟩:=H8 hl hf 1 (ty:=3) (off:=1) (sz:=1) (by kernel_rfl);obtain⟨y2,k2,t2⟩:=H8 hl hf 2 (ty:=9) (off:=2) (sz:=1) (by kernel_rfl);have hxs:=Ag7 (hl.trans (by kernel_rfl)) k0 k1 k2;obtain⟨a0,r0,q0⟩:=BI _ _ _ t0;obtain⟨a1,r1,q1⟩:=BI _ _ _ t1;obtain⟨a2,r2,q2⟩:=Af3 _ _ _ t2;refine⟨⟨a0,a1,a2⟩,?_,?_⟩
 ·have hc3:cs.length=3:=hcl.trans (by kernel_rfl);have:=(r0.join r1).join r2;rw[I0.eAo8]
  simp only[lst_eq]at this ⊢
  simpa[List.take_of_length_le,hc3,V.cells]using this
 simp only[bk]at q0 q1 q2
 rw[hxs];simp only[List.map_cons,List.map_nil,bk,Rows.uptoBulk,Rows.uptoBulkAll,A7.mu];omega
theorem Zz :∀n:Nat,Opens enc Tryz.prog W base spare held 27 I0.eAo6 (fun(a:A4) d=>A4.bulk a≤bk d) n:=by
 intro n
 induction n with
 |zero=>intro cs x h;simp[DataW.trod]at h
 |succ n ih=>
 intro cs x h;obtain⟨xs,m,hm,rfl,hcl,hl,hf⟩:=DataW.trod_struct u27 h;cases hm;obtain⟨y0,k0,t0⟩:=H8 hl hf 0 (ty:=3) (off:=0) (sz:=1) (by kernel_rfl);obtain⟨y1,k1,t1⟩:=H8 hl hf 1 (ty:=23) (off:=1) (sz:=1) (by kernel_rfl);obtain⟨y2,k2,t2⟩:=H8 hl hf 2 (ty:=3) (off:=2) (sz:=1) (by kernel_rfl);obtain⟨y3,k3,t3⟩:=H8 hl hf 3 (ty:=3) (off:=3) (sz:=1) (by kernel_rfl);obtain⟨y4,k4,t4⟩:=H8 hl hf 4 (ty:=3) (off:=4) (sz:=1) (by kernel_rfl);obtain⟨y5,k5,t5⟩:=H8 hl hf 5 (ty:=25) (off:=5) (sz:=3) (by kernel_rfl);have hxs:=Ag5 (hl.trans (by kernel_rfl)) k0 k1 k2 k3 k4 k5;obtain⟨a0,r0,q0⟩:=BI _ _ _ t0
 obtain⟨a1,r1,q1⟩:∃a:List A4,Dr (g0 W) W ((cs.drop 1).take 1) (V.sl (a.map I0.eAo6) .ro).cells∧A4.bulks a≤bk y1.1:=by
  cases n with
  |zero=>simp[DataW.trod]at t1
  |succ n=>
   obtain⟨a,r,q⟩:=Ez u23 (show 0<Tryz.prog.cellsOf 27 by rw[show Tryz.prog.cellsOf 27=8 by kernel_rfl];decide) ih.down _ _ t1;exact⟨a,r,Yx q⟩
 obtain⟨a2,r2,q2⟩:=BI _ _ _ t2;obtain⟨a3,r3,q3⟩:=BI _ _ _ t3;obtain⟨a4,r4,q4⟩:=BI _ _ _ t4;obtain⟨a5,r5,q5⟩:=Ue _ _ _ t5;refine⟨⟨a0,a1,a2,a3,a4,a5⟩,?_,?_⟩
 ·have hc3:cs.length=8:=hcl.trans (by kernel_rfl)
  rw[I0.eAo8]at r5
  have:=((((r0.join r1).join r2).join r3).join r4).join r5;rw[I0.eAp2]
  simp only[lst_eq]at this ⊢
  simpa[List.take_of_length_le,hc3,V.cells]using this
 simp only[bk]at q0 q1 q2 q3 q4 q5
 rw[hxs]
 simp only[List.map_cons,List.map_nil,bk,Rows.uptoBulk,Rows.uptoBulkAll,A4.bulk,A7.mu]at *
 omega
theorem u29 :Tryz.prog.underlying 29=some (.struct (Pm Tryz.prog 29)):=by kernel_rfl
theorem u22 :Tryz.prog.underlying 22=some (.slice 29):=by kernel_rfl
theorem Zy :∀n:Nat,Opens enc Tryz.prog W base spare held 29 I0.eAo2 (fun(a:A0) d=>A0.bulk a≤bk d) n:=by
 intro n
 induction n with
 |zero=>intro cs x h;simp[DataW.trod]at h
 |succ n ih=>
 intro cs x h;obtain⟨xs,m,hm,rfl,hcl,hl,hf⟩:=DataW.trod_struct u29 h;cases hm;obtain⟨y0,k0,t0⟩:=H8 hl hf 0 (ty:=3) (off:=0) (sz:=1) (by kernel_rfl);obtain⟨y1,k1,t1⟩:=H8 hl hf 1 (ty:=22) (off:=1) (sz:=1) (by kernel_rfl);obtain⟨y2,k2,t2⟩:=H8 hl hf 2 (ty:=3) (off:=2) (sz:=1) (by kernel_rfl);obtain⟨y3,k3,t3⟩:=H8 hl hf 3 (ty:=3) (off:=3) (sz:=1) (by kernel_rfl);obtain⟨y4,k4,t4⟩:=H8 hl hf 4 (ty:=3) (off:=4) (sz:=1) (by kernel_rfl);obtain⟨y5,k5,t5⟩:=H8 hl hf 5 (ty:=3) (off:=5) (sz:=1) (by kernel_rfl);obtain⟨y6,k6,t6⟩:=H8 hl hf 6 (ty:=27) (off:=6) (sz:=8) (by kernel_rfl);have hxs:=Ag4 (hl.trans (by kernel_rfl)) k0 k1 k2 k3 k4 k5 k6;obtain⟨a0,r0,q0⟩:=BI _ _ _ t0
 obtain⟨a1,r1,q1⟩:∃a:List A0,Dr (g0 W) W ((cs.drop 1).take 1) (V.sl (a.map I0.eAo2) .ro).cells∧A0.bulks a≤bk y1.1:=by
  cases n with
  |zero=>simp[DataW.trod]at t1
  |succ n=>
   obtain⟨a,r,q⟩:=Ez u22 (show 0<Tryz.prog.cellsOf 29 by rw[show Tryz.prog.cellsOf 29=14 by kernel_rfl];decide) ih.down _ _ t1;exact⟨a,r,RG q⟩
 obtain⟨a2,r2,q2⟩:=BI _ _ _ t2;obtain⟨a3,r3,q3⟩:=BI _ _ _ t3;obtain⟨a4,r4,q4⟩:=BI _ _ _ t4;obtain⟨a5,r5,q5⟩:=BI _ _ _ t5;obtain⟨a6,r6,q6⟩:=Zz _ _ _ t6;refine⟨⟨a0,a1,a2,a3,a4,a5,a6⟩,?_,?_⟩
 ·have hc3:cs.length=14:=hcl.trans (by kernel_rfl)
  rw[I0.eAp2]at r6
  have:=(((((r0.join r1).join r2).join r3).join r4).join r5).join r6;rw[I0.eAo4]
  simp only[lst_eq]at this ⊢
  simpa[List.take_of_length_le,hc3,V.cells]using this
 simp only[bk]at q0 q1 q2 q3 q4 q5 q6
 rw[hxs]
 simp only[List.map_cons,List.map_nil,bk,Rows.uptoBulk,Rows.uptoBulkAll,A0.bulk,A7.mu]at *
 omega
theorem u62 :Tryz.prog.underlying 62=some (.struct (Pm Tryz.prog 62)):=by kernel_rfl
theorem u60 :Tryz.prog.underlying 60=some (.slice 25):=by kernel_rfl
theorem Zw (n:Nat):Opens enc Tryz.prog W base spare held 60 (fun l:List A7=>.sl (lst I0.eAp0 l) .ro) (fun a d=>(MT A7.mu) a≤bk d) n:=
 Opens.down (((Ez u60 (show 0<Tryz.prog.cellsOf 25 by rw[show Tryz.prog.cellsOf 25=3 by kernel_rfl];decide) (Ue n)).imp fun a d h=>TX h).congr fun x=>by rw[lst_eq])
def A5.mu (x:A5):Nat:=(fun _:Int=>1) x.Source+(fun _:Int=>1) x.Seq+(fun _:Int=>1) x.Typ+(fun _:Int=>1) x.Time+(MT A7.mu) x.Values+1
theorem Zv (n:Nat):Opens enc Tryz.prog W base spare held 62 I0.eAo3 (fun(a:A5) d=>A5.mu a≤bk d) n:=by
 intro cs x h;obtain⟨xs,m,hm,rfl,hcl,hl,hf⟩:=DataW.trod_struct u62 h;subst hm;obtain⟨y0,k0,t0⟩:=H8 hl hf 0 (ty:=3) (off:=0) (sz:=1) (by kernel_rfl);obtain⟨y1,k1,t1⟩:=H8 hl hf 1 (ty:=3) (off:=1) (sz:=1) (by kernel_rfl);obtain⟨y2,k2,t2⟩:=H8 hl hf 2 (ty:=3) (off:=2) (sz:=1) (by kernel_rfl);obtain⟨y3,k3,t3⟩:=H8 hl hf 3 (ty:=3) (off:=3) (sz:=1) (by kernel_rfl);obtain⟨y4,k4,t4⟩:=H8 hl hf 4 (ty:=60) (off:=4) (sz:=1) (by kernel_rfl);have hxs:=Ag6 (hl.trans (by kernel_rfl)) k0 k1 k2 k3 k4;obtain⟨a0,r0,q0⟩:=BI _ _ _ t0;obtain⟨a1,r1,q1⟩:=BI _ _ _ t1;obtain⟨a2,r2,q2⟩:=BI _ _ _ t2;obtain⟨a3,r3,q3⟩:=BI _ _ _ t3;obtain⟨a4,r4,q4⟩:=Zw _ _ _ t4;refine⟨⟨a0,a1,a2,a3,a4⟩,?_,?_⟩
 ·have hc3:cs.length=5:=hcl.trans (by kernel_rfl);have:=(((r0.join r1).join r2).join r3).join r4;rw[I0.eAo9]
  simp only[lst_eq]at this ⊢
  simpa[List.take_of_length_le,hc3,V.cells]using this
 simp only[bk]at q0 q1 q2 q3 q4
 rw[hxs];simp only[List.map_cons,List.map_nil,bk,Rows.uptoBulk,Rows.uptoBulkAll,A5.mu];omega
theorem u30 :Tryz.prog.underlying 30=some (.slice 62):=by kernel_rfl
theorem Zx (n:Nat):Opens enc Tryz.prog W base spare held 30 (fun l:List A5=>.sl (lst I0.eAo3 l) .ro) (fun a d=>(MT A5.mu) a≤bk d) n:=
 Opens.down (((Ez u30 (show 0<Tryz.prog.cellsOf 62 by rw[show Tryz.prog.cellsOf 62=5 by kernel_rfl];decide) (Zv n)).imp fun a d h=>TX h).congr fun x=>by rw[lst_eq])
theorem Jv {v:Value}{d:DataW H}{p:List MemPlace}(hv:Value.okWide Tryz.prog W .any base 29 v)(h:DataW.Trod enc Tryz.prog W 0 (fun _=>true) true 29 v d p):∃x:A0,VR (g0 W) W v (I0.eAo2 x)∧A0.bulk x≤Rows.uptoBulk d:=by
 obtain⟨fuel,ht⟩:=h;obtain⟨cs,rfl,hcs⟩:=okWide_struct u29 hv;obtain⟨x,hr,hb⟩:=Zy fuel _ _ ht;have hr':Dr (g0 W) W cs.toList (I0.eAo2 x).cells:=hr;refine⟨x,?_,hb⟩;have:=hr'.agg
 rw[I0.eAo4]at this ⊢
 exact this
theorem KI {v:Value}{d:DataW H}{p:List MemPlace}(hv:Value.okWide Tryz.prog W .any base 30 v)(h:DataW.Trod enc Tryz.prog W 0 (fun _=>true) true 30 v d p):∃x:List A5,VR (g0 W) W v (.sl (lst I0.eAo3 x) .ro)∧(MT A5.mu) x≤Rows.uptoBulk d:=by
 obtain⟨fuel,ht⟩:=h;obtain⟨a,len,cap,rfl⟩:=okWide_slice u30 hv;obtain⟨x,hr,hb⟩:=Zx fuel _ _ ht;exact⟨x,(hr.2 0 (by simp[V.cells])).2,hb⟩
theorem u4 :Tryz.prog.underlying 4=some .bool:=by kernel_rfl
theorem Ux {f:FuncId}{vals:Array Value}{args:List V}(hg:∀n,VR (g0 W) W (.pointer (some ⟨n,0,none⟩)) (I3.gl n))(hcall:∀vals w,(callFunc f vals).run Tryz.prog w= .ok (.enter f vals) w)(law:B2 Tryz.prog f args (.bool true))(hA:Args (g0 W) W vals args):
 Calls Tryz.prog f vals W fun e W'=>e= .returned (.bool true)∧Below W.heap.size W W':=by
 have hc:=law (fun _=>none) (g0 W) W vals (rl0 hg) hA
 rw[hcall]at hc
 refine(callsIn_wide.1 hc).mono fun e W' ⟨v,he,g',y,H',hs,hR,hvy,hy,_⟩=>?_;subst hy;cases hvy;exact⟨he,hs.low⟩
theorem Ad1 {v0 v1 v2:Value}{x0 x1 x2:V}(h0:VR (g0 W) W v0 x0)(h1:VR (g0 W) W v1 x1)(h2:VR (g0 W) W v2 x2):Args (g0 W) W #[v0,v1,v2] [x0,x1,x2]:=⟨rfl,fun i hi=>by
 match i,hi with
 |0,_=>exact h0
 |1,_=>exact h1
 |2,_=>exact h2⟩
end
end Go.Ab
namespace Go.Ab
open Go.RowKit Go.ChangeShapes Go.WideShapes Go.ChangeAt Go.Proofs Go.Proofs.YtanbgjgaafeplaaGreatDoor
set_option maxRecDepth 100000
section
variable [I3]{H:Type}{enc:TypeId×Value→H}{W:World}{base:Nat}{spare:Nat→Bool}{held:Bool}
def El.mu (x:El):Nat:=(fun _:Int=>1) x.Time+(fun _:Int=>1) x.Source+(fun _:Int=>1) x.Seq+1
def C7.mu (x:C7):Nat:=(fun _:Int=>1) x.Var+El.mu x.Ref+1
def C8.mu (x:C8):Nat:=(MT C7.mu) x.cR+1
theorem YE {v:Value}(hv:Value.okWide Tryz.prog W .any base 5 v):∃n:Int,VR (g0 W) W v (.int .u8 n)∧0≤n∧n<256:=by
 have ht:Tryz.prog.underlying 5=some (.int .u8):=by kernel_rfl
 obtain⟨n,rfl⟩:=okWide_int ht hv;refine⟨n,.int _ _,?_⟩
 simp only[Value.okWide,ht,Cell.okWide,Cell.ok,IntKind.has]at hv
 have a:IntKind.u8.min=0:=by rfl
 have b:IntKind.u8.max=255:=by rfl
 simp only[a,b,decide_eq_true_eq,Bool.and_eq_true]at hv
 omega
end
end Go.Ab
namespace Go.Ab
open Go.RowKit Go.ChangeShapes Go.WideShapes Go.ChangeAt Go.Proofs Go.Proofs.YtanbgjgaafeplaaGreatDoor
set_option maxRecDepth 100000
section
variable {H:Type}{enc:TypeId×Value→H}{W:World}{base:Nat}{spare:Nat→Bool}{held:Bool}
theorem u196 :Tryz.prog.underlying 196=some (.array G1.length 195):=by kernel_rfl
theorem u195 :Tryz.prog.underlying 195=some (.struct (Pm Tryz.prog 195)):=by kernel_rfl
theorem SN (n:Nat):Opens enc Tryz.prog W base spare held 195 I0.eAq3 (fun(a:H9) d=>d= .agg [.lit (.int .i64 a.cV),.lit (.int .i64 a.most),.lit (.bool a.cT),.lit (.bool a.cond),.lit (.bool a.scope),.lit (.bool a.span)]) n:=by
 intro cs x h;obtain⟨xs,m,rfl,rfl,hcl,hl,hf⟩:=DataW.trod_struct u195 h;obtain⟨y0,k0,t0⟩:=H8 hl hf 0 (ty:=3) (off:=0) (sz:=1) (by kernel_rfl);obtain⟨y1,k1,t1⟩:=H8 hl hf 1 (ty:=3) (off:=1) (sz:=1) (by kernel_rfl);obtain⟨y2,k2,t2⟩:=H8 hl hf 2 (ty:=4) (off:=2) (sz:=1) (by kernel_rfl);obtain⟨y3,k3,t3⟩:=H8 hl hf 3 (ty:=4) (off:=3) (sz:=1) (by kernel_rfl);obtain⟨y4,k4,t4⟩:=H8 hl hf 4 (ty:=4) (off:=4) (sz:=1) (by kernel_rfl);obtain⟨y5,k5,t5⟩:=H8 hl hf 5 (ty:=4) (off:=5) (sz:=1) (by kernel_rfl)
 have hxs:xs=[y0,y1,y2,y3,y4,y5]:=match xs,hl.trans (show _=6 by kernel_rfl),k0,k1,k2,k3,k4,k5 with|[_,_,_,_,_,_],_,rfl,rfl,rfl,rfl,rfl,rfl=>rfl
 obtain⟨a0,r0,q0⟩:=JQ u3 _ _ t0;obtain⟨a1,r1,q1⟩:=JQ u3 _ _ t1;obtain⟨a2,r2,q2⟩:=FH u4 _ _ t2;obtain⟨a3,r3,q3⟩:=FH u4 _ _ t3;obtain⟨a4,r4,q4⟩:=FH u4 _ _ t4;obtain⟨a5,r5,q5⟩:=FH u4 _ _ t5;refine⟨⟨a0,a1,a2,a3,a4,a5⟩,?_,?_⟩
 ·have hc3:cs.length=6:=hcl.trans (by kernel_rfl);have:=((((r0.join r1).join r2).join r3).join r4).join r5;rw[I0.eAq7]
  simpa[List.take_of_length_le,hc3,V.cells]using this
 rw[hxs];simp only[List.map_cons,List.map_nil,q0,q1,q2,q3,q4,q5]
theorem Nx :∀(l k:List H9),(RL (H:=H) (fun(a:H9) d=>d= .agg [.lit (.int .i64 a.cV),.lit (.int .i64 a.most),.lit (.bool a.cT),.lit (.bool a.cond),.lit (.bool a.scope),.lit (.bool a.span)]) l
 (k.map fun a=>.agg [.lit (.int .i64 a.cV),.lit (.int .i64 a.most),.lit (.bool a.cT),.lit (.bool a.cond),.lit (.bool a.scope),.lit (.bool a.span)]))→l=k
 |[],[],_=>rfl
 |[],_::_,h=>by have:=h.1;simp at this
 |_::_,[],h=>by have:=h.1;simp at this
 |a::l,b::k,h=>by
  have h0:=h.2 0 a _ rfl rfl;have h1:=Nx l k ⟨by simpa using h.1,fun i a d hi hd=>h.2 (i+1) a d (by simpa using hi) (by simpa using hd)⟩;subst h1;obtain⟨a0,a1,a2,a3,a4,a5⟩:=a;obtain⟨b0,b1,b2,b3,b4,b5⟩:=b
  simp at h0
  simp[h0]
theorem Rd (h:laidMetH Tryz.prog Rows.semanticsMatchesRow.laid W):VR (g0 W) W (.pointer (some ⟨0,0,none⟩)) (I3.gl 0):=by
 have h':laidMet Tryz.prog Rows.semanticsMatchesRow.laid W:=h;obtain⟨ps,⟨_,_,_,_,_,q1,_,_,_,_,L1,_⟩,_⟩:=h';obtain⟨_,_,_,_,_,q2,_,_,_,_,L2,_⟩:=L1;obtain⟨_,_,_,_,_,q3,_,_,_,_,L3,_⟩:=L2;obtain⟨g',t',cs,fuel,p,q,hg',ht',hvar,hd,_,_⟩:=L3;obtain rfl:g'=0:=Option.some.inj (hg'.symm.trans (by kernel_rfl));obtain rfl:t'=196:=Option.some.inj (ht'.symm.trans (by kernel_rfl));obtain⟨l,hr,ds,hds,hl⟩:=QR u196 (by kernel_rfl) (by decide) (fun n=>SN n) hd
 have e:ds=G1.map fun a=>.agg [.lit (.int .i64 a.cV),.lit (.int .i64 a.most),.lit (.bool a.cT),.lit (.bool a.cond),.lit (.bool a.scope),.lit (.bool a.span)]:=by
  have e2:(Rows.laid_tidegate_pattern_shapes:DataW Unit)= .agg ds:=hds;have e3:(Rows.laid_tidegate_pattern_shapes:DataW Unit)= .agg (G1.map fun a=>.agg [.lit (.int .i64 a.cV),.lit (.int .i64 a.most),.lit (.bool a.cT),.lit (.bool a.cond),.lit (.bool a.scope),.lit (.bool a.span)]):=rfl
  rw[e3]at e2
  exact(DataW.agg.inj e2).symm
 subst e;obtain rfl:=Nx _ _ hl;exact Rk hg' hvar hr
theorem Yb (h:laidMetH Tryz.prog Rows.semanticsMatchesRow.laid W):∀n,VR (g0 W) W (.pointer (some ⟨n,0,none⟩)) (I3.gl n)
 |0=>Rd h
 |_+1=>.bad _
end
end Go.Ab
