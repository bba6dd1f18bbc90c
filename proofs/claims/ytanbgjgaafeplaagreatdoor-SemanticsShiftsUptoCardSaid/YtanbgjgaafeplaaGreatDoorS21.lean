/- GTIn9 GTPr -/
import Derived.Test.YtanbgjgaafeplaaGreatDoorS20
import Derived.Test.YtanbgjgaafeplaaGreatDoorTie
import Derived.WalkKit
import Derived.ProofKit
import Derived.OpenShut
import Derived.Deep.DeepHandedRow
import Derived.Carry
set_option linter.all false
namespace Go.Ab
open Go.RowKit Go.ChangeShapes Go.WideShapes Go.ChangeAt Go.Proofs Go.Proofs.YtanbgjgaafeplaaGreatDoor
set_option maxRecDepth 100000
section
variable [H8]{H:Type}{enc:TypeId×Value→H}{W:World}{base:Nat}{spare:Nat→Bool}{held:Bool}
def EO.mu (x:EO):Nat:=(fun _:Int=>1) x.Time+(fun _:Int=>1) x.Source+(fun _:Int=>1) x.Seq+1
def C1.mu (x:C1):Nat:=(fun _:Int=>1) x.Var+EO.mu x.Ref+1
def D3.mu (x:D3):Nat:=(Ma C1.mu) x.cP+1
theorem Ad0 {v:Value}(hv:Value.okWide Tryz.prog W .any base 5 v):∃n:Int,VR (g0 W) W v (.int .u8 n)∧0≤n∧n<256:=by
 have ht:Tryz.prog.underlying 5=some (.int .u8):=by kernel_rfl
 obtain⟨n,rfl⟩:=okWide_int ht hv;refine⟨n,.int _ _,?_⟩
 simp only[Value.okWide,ht,Cell.okWide,Cell.ok,IntKind.has]at hv
 have a:IntKind.u8.min=0:=by rfl
 have b:IntKind.u8.max=255:=by rfl
 simp only[a,b,decide_eq_true_eq,Bool.and_eq_true]at hv
 omega
end
end Go.Ab
namespace Go.Ab
open Go.RowKit Go.ChangeShapes Go.WideShapes Go.ChangeAt Go.Proofs Go.Proofs.YtanbgjgaafeplaaGreatDoor
set_option maxRecDepth 100000
section
variable {H:Type}{enc:TypeId×Value→H}{W:World}{base:Nat}{spare:Nat→Bool}{held:Bool}
theorem u196 :Tryz.prog.underlying 196=some (.array F2.length 195):=by kernel_rfl
theorem u195 :Tryz.prog.underlying 195=some (.struct (Og Tryz.prog 195)):=by kernel_rfl
theorem RD (n:Nat):Opens enc Tryz.prog W base spare held 195 J0.eAl9 (fun(a:I5) d=>d= .agg [.lit (.int .i64 a.cT),.lit (.int .i64 a.most),.lit (.bool a.cQ),.lit (.bool a.cond),.lit (.bool a.scope),.lit (.bool a.span)]) n:=by
 intro cs x h;obtain⟨xs,m,rfl,rfl,hcl,hl,hf⟩:=DataW.trod_struct u195 h;obtain⟨y0,k0,t0⟩:=H7 hl hf 0 (ty:=3) (off:=0) (sz:=1) (by kernel_rfl);obtain⟨y1,k1,t1⟩:=H7 hl hf 1 (ty:=3) (off:=1) (sz:=1) (by kernel_rfl);obtain⟨y2,k2,t2⟩:=H7 hl hf 2 (ty:=4) (off:=2) (sz:=1) (by kernel_rfl);obtain⟨y3,k3,t3⟩:=H7 hl hf 3 (ty:=4) (off:=3) (sz:=1) (by kernel_rfl);obtain⟨y4,k4,t4⟩:=H7 hl hf 4 (ty:=4) (off:=4) (sz:=1) (by kernel_rfl);obtain⟨y5,k5,t5⟩:=H7 hl hf 5 (ty:=4) (off:=5) (sz:=1) (by kernel_rfl)
 have hxs:xs=[y0,y1,y2,y3,y4,y5]:=match xs,hl.trans (show _=6 by kernel_rfl),k0,k1,k2,k3,k4,k5 with|[_,_,_,_,_,_],_,rfl,rfl,rfl,rfl,rfl,rfl=>rfl
 obtain⟨a0,r0,q0⟩:=Jc u3 _ _ t0;obtain⟨a1,r1,q1⟩:=Jc u3 _ _ t1;obtain⟨a2,r2,q2⟩:=EZ u4 _ _ t2;obtain⟨a3,r3,q3⟩:=EZ u4 _ _ t3;obtain⟨a4,r4,q4⟩:=EZ u4 _ _ t4;obtain⟨a5,r5,q5⟩:=EZ u4 _ _ t5;refine⟨⟨a0,a1,a2,a3,a4,a5⟩,?_,?_⟩
 ·have hc3:cs.length=6:=hcl.trans (by kernel_rfl);have:=((((r0.join r1).join r2).join r3).join r4).join r5;rw[J0.eAm3]
  simpa[List.take_of_length_le,hc3,V.cells]using this
 rw[hxs];simp only[List.map_cons,List.map_nil,q0,q1,q2,q3,q4,q5]
theorem Mv :∀(l k:List I5),(RL (H:=H) (fun(a:I5) d=>d= .agg [.lit (.int .i64 a.cT),.lit (.int .i64 a.most),.lit (.bool a.cQ),.lit (.bool a.cond),.lit (.bool a.scope),.lit (.bool a.span)]) l
 (k.map fun a=>.agg [.lit (.int .i64 a.cT),.lit (.int .i64 a.most),.lit (.bool a.cQ),.lit (.bool a.cond),.lit (.bool a.scope),.lit (.bool a.span)]))→l=k
 |[],[],_=>rfl
 |[],_::_,h=>by have:=h.1;simp at this
 |_::_,[],h=>by have:=h.1;simp at this
 |a::l,b::k,h=>by
  have h0:=h.2 0 a _ rfl rfl;have h1:=Mv l k ⟨by simpa using h.1,fun i a d hi hd=>h.2 (i+1) a d (by simpa using hi) (by simpa using hd)⟩;subst h1;obtain⟨a0,a1,a2,a3,a4,a5⟩:=a;obtain⟨b0,b1,b2,b3,b4,b5⟩:=b
  simp at h0
  simp[h0]
theorem Qc (h:laidMetH Tryz.prog Rows.semanticsMatchesRow.laid W):VR (g0 W) W (.pointer (some ⟨0,0,none⟩)) (H8.gl 0):=by
 have h':laidMet Tryz.prog Rows.semanticsMatchesRow.laid W:=h;obtain⟨ps,⟨_,_,_,_,_,q1,_,_,_,_,L1,_⟩,_⟩:=h';obtain⟨_,_,_,_,_,q2,_,_,_,_,L2,_⟩:=L1;obtain⟨_,_,_,_,_,q3,_,_,_,_,L3,_⟩:=L2;obtain⟨g',t',cs,fuel,p,q,hg',ht',hvar,hd,_,_⟩:=L3;obtain rfl:g'=0:=Option.some.inj (hg'.symm.trans (by kernel_rfl));obtain rfl:t'=196:=Option.some.inj (ht'.symm.trans (by kernel_rfl));obtain⟨l,hr,ds,hds,hl⟩:=PN u196 (by kernel_rfl) (by decide) (fun n=>RD n) hd
 have e:ds=F2.map fun a=>.agg [.lit (.int .i64 a.cT),.lit (.int .i64 a.most),.lit (.bool a.cQ),.lit (.bool a.cond),.lit (.bool a.scope),.lit (.bool a.span)]:=by
  have e2:(Rows.laid_tidegate_pattern_shapes:DataW Unit)= .agg ds:=hds;have e3:(Rows.laid_tidegate_pattern_shapes:DataW Unit)= .agg (F2.map fun a=>.agg [.lit (.int .i64 a.cT),.lit (.int .i64 a.most),.lit (.bool a.cQ),.lit (.bool a.cond),.lit (.bool a.scope),.lit (.bool a.span)]):=rfl
  rw[e3]at e2
  exact(DataW.agg.inj e2).symm
 subst e;obtain rfl:=Mv _ _ hl;exact Qh hg' hvar hr
theorem Ab6 (h:laidMetH Tryz.prog Rows.semanticsMatchesRow.laid W):∀n,VR (g0 W) W (.pointer (some ⟨n,0,none⟩)) (H8.gl n)
 |0=>Qc h
 |_+1=>.bad _
end
end Go.Ab
