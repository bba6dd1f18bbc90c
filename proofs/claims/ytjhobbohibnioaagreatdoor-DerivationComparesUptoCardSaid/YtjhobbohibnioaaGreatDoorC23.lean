/- GVA2 GVIn GVPr -/
import Derived.Test.YtjhobbohibnioaaGreatDoorC22
import Derived.Test.YtjhobbohibnioaaGreatDoorRows
import Derived.WalkKit
import Derived.ProofKit
import Derived.OpenShut
import Derived.Deep.DeepHandedRow
import Derived.Carry
import Derived.Test.YtjhobbohibnioaaGreatDoorTie
set_option linter.all false
open Go.Ab.Ar (ar cmp lst)
namespace Go.Ab
open Classical
noncomputable section
theorem VT {a:Int}(h0: -9223372036854775807≤a)(h1:a≤9223372036854775807):Ar.neg .i64 a= -a:=(JL (n:=0 - a) (by omega) (by omega)).trans (by omega)
theorem WF (a:A2):dO a a=0:=by rw[FJ,DS]
theorem XV (a b:A2):dO b a= - dO a b:=by rw[FJ,FJ,OD]
theorem XU (a b:A2):dO a b= -1∨dO a b=0∨dO a b=1:=by rw[FJ];exact OC _ _
theorem US {a b c:A2} (h1:dO a b≤0) (h2:dO b c≤0):dO a c≤0∧(dO a b<0→dO a c<0):=by
 rw[FJ a b]at h1 ⊢
 rw[FJ b c]at h2
 rw[FJ a c]
 rcases Int.lt_or_eq_of_le h1 with h1|h1
 ·rcases Int.lt_or_eq_of_le h2 with h2|h2
  ·have:=Kw h1 h2;omega
  rw[←MV h2];omega
 rw[MV h1]at *;exact⟨h2,fun h=>absurd h (by omega)⟩
theorem Wg {a:A2} (h:0<a.Kids.length):dO {a with Kids:=a.Kids.take (a.Kids.length - 1)} a= -1:=by
 rw[UU]
 dsimp only
 rw[DS]
 have ht:LE a.Choice a.Choice=0:=by simp[LE]
 rw[ht,if_neg (by simp),if_neg (by simp)]
 have hl:a.Kids=a.Kids.take (a.Kids.length - 1)++[a.Kids[a.Kids.length - 1]]:=by
  have:=List.take_append_getElem (l:=a.Kids) (i:=a.Kids.length - 1) (by omega);rw[this,List.take_of_length_le (by omega)]
 have h2:=RA a.Kids[a.Kids.length - 1] (a.Kids.take (a.Kids.length - 1))
 rwa[←hl]at h2
theorem Wf {a:A2} (h:0<a.Kids.length):GN {a with Kids:=a.Kids.take (a.Kids.length - 1)}+GN a.Kids[a.Kids.length - 1]=GN a:=by
 have hl:a.Kids=a.Kids.take (a.Kids.length - 1)++[a.Kids[a.Kids.length - 1]]:=by
  have:=List.take_append_getElem (l:=a.Kids) (i:=a.Kids.length - 1) (by omega);rw[this,List.take_of_length_le (by omega)]
 rw[Ef,Ef a]
 dsimp only
 rw[CB,CB];have:=congrArg (fun l=>(List.map GN l).sum) hl
 simp only[List.map_append,List.sum_append,List.map_cons,List.map_nil,List.sum_cons,List.sum_nil]at this
 omega
mutual
theorem HA :∀d:A2,GN d≤d.bulk
 |⟨_,_,ks⟩=>by have:=LG ks;simp only[GN,A2.bulk];omega
theorem LG :∀l:List A2,Hz l≤A2.bulks l
 |[]=>by simp[Hz]
 |a::l=>by have:=HA a;have:=LG l;simp only[Hz,A2.bulks];omega
end
theorem Nh {N : Nat} (hN:40000000≤N) (haw:U1 N=some true) (a b c:A2) (ha:GN a≤16777216) (hb:GN b≤16777216) (hc:GN c≤16777216):N8 N a b c=some true:=by
 have da:=KO a;have db:=KO b;have dc:=KO c;unfold N8;rw[Nf hN (by omega),Nf hN (by omega),Nf hN (by omega),haw];simp only[Option.bind_some,Fq]
 by_cases fa:Ng a≤20∧GN a≤4101
 case neg=>rw[if_pos (by simp[fa])]
 rw[if_neg (by simp[fa])]
 by_cases fb:Ng b≤20∧GN b≤4101
 case neg=>rw[if_pos (by simp[fb])]
 rw[if_neg (by simp[fb])]
 by_cases fc:Ng c≤20∧GN c≤4101
 case neg=>rw[if_pos (by simp[fc])]
 rw[if_neg (by simp[fc]),ED hN N a b (by omega) (by omega),ED hN N b c (by omega) (by omega),ED hN N a c (by omega) (by omega)];simp only[Option.bind_some];have vab:=XU a b;rw[if_neg (by simp only[U8,G4,Z3];simp;omega),ED hN N b a (by omega) (by omega)];simp only[Option.bind_some];have hn:=XV a b;rw[VT (by omega) (by omega),if_neg (CI (by omega)),ED hN N a a (by omega) (by omega)];simp only[Option.bind_some];rw[WF,if_neg ?hnc]
 case hnc=>
  simp only[U8,Ce,G4,Z3,Gk,EE,M6];simp only[Bool.or_eq_true,Bool.and_eq_true,decide_eq_true_eq,Bool.not_eq_true',decide_eq_false_iff_not];have h1:=@US a b c;rintro((h|h)|h)
  ·exact h trivial
  ·exact absurd (h1 h.1.1 h.1.2).1 (by omega)
  exact absurd ((h1 (by omega) h.1.2).2 h.1.1) (by omega)
 have hrest : (((if cmp .gtr (Ar.len a.Kids) 0=true then
                 (S9 a.Kids none (some (ar .sub .i64 (Ar.len a.Kids) 1)) none).bind fun l14=>
                 (E3 N N ({a with Kids:=l14}) a).bind fun r16=>
                 if cmp .neq r16 (-1)=true then
                  some (.inr ())
                 else
                  (E9 N N ({a with Kids:=l14})).bind fun r17=>
                  (E9 N N a).bind fun r18=>
                  (D4 a.Kids (ar .sub .i64 (Ar.len a.Kids) 1)).bind fun x19=>
                  (E9 N N x19).bind fun r20=>
                  if cmp .neq r17 (ar .sub .i64 r18 r20)=true then
                   some (.inr ())
                  else
                   some (.inl ())
  else
   some (.inl ())):Option (Unit ⊕ Unit)))=some (.inl ()):=by
  by_cases hk:0<a.Kids.length
  ·have e1:ar .sub .i64 (Ar.len a.Kids) 1=((a.Kids.length - 1:Nat):Int):=by
    have h1:=CC a.Kids;have h2:=Ef a;rw[E7,QT (by omega) (by omega)];omega
   have hs:=Wf hk;have hl:=KO {a with Kids:=a.Kids.take (a.Kids.length - 1)};have hm:=KO a.Kids[a.Kids.length - 1];rw[if_pos (Ew (by rw[E7];omega)),e1,Pz (by omega)];simp only[Option.bind_some];rw[ED hN N _ _ (by omega) (by omega)];simp only[Option.bind_some];rw[Wg hk,if_neg (CI rfl),HU hN N _ (by omega) (by omega),HU hN N a (by omega) (by omega),Aq,List.getElem?_eq_getElem (by omega)];simp only[Option.bind_some];rw[HU hN N _ (by omega) (by omega)];simp only[Option.bind_some];rw[QT (by omega) (by omega),if_neg (CI (by omega))]
  rw[if_neg (CM (by rw[E7];omega))]
 rw[hrest];simp only[Option.bind_some];rw[Oa hN N a b (by omega) (by omega)];simp only[Option.bind_some];rw[if_pos (UP rfl)]
end
end Go.Ab
namespace Go.Ab
open Go.RowKit Go.ChangeShapes Go.WideShapes Go.ChangeAt Go.Proofs Go.Proofs.YtjhobbohibnioaaGreatDoor
set_option maxRecDepth 100000
mutual
def UR :B6→V
 |⟨op,args,var,field,kind,val⟩=>.agg [.int .i64 op,.sl (OP args) .ro,.int .i64 var,.int .i64 field,.int .i64 kind,.int .i64 val.Kind,.int .i64 val.Num,.str val.Text]
def OP :List B6→List V
 |[]=>[]
 |a::r=>UR a::OP r
end
theorem Me :∀l:List B6,OP l=l.map UR
 |[]=>by simp[OP]
 |a::r=>by simp[OP,Me r]
mutual
def WB :A1→V
 |⟨op,args,typ,var,scope,span,c⟩=>.agg [.int .i64 op,.sl (OO args) .ro,.int .i64 typ,.int .i64 var,.int .i64 scope,.int .i64 span,.int .i64 c.Op,.sl (c.cJ.map UR) .ro,.int .i64 c.Var,.int .i64 c.Field,.int .i64 c.Kind,.int .i64 c.Value.Kind,.int .i64 c.Value.Num,.str c.Value.Text]
def OO :List A1→List V
 |[]=>[]
 |a::r=>WB a::OO r
end
theorem Md :∀l:List A1,OO l=l.map WB
 |[]=>by simp[OO]
 |a::r=>by simp[OO,Md r]
mutual
def OR :A2→V
 |⟨r,c,ks⟩=>.agg [.int .i64 r.Time,.int .i64 r.Source,.int .i64 r.Seq,.int .i64 c,.sl (OQ ks) .ro]
def OQ :List A2→List V
 |[]=>[]
 |a::r=>OR a::OQ r
end
theorem Mf :∀l:List A2,OQ l=l.map OR
 |[]=>by simp[OQ]
 |a::r=>by simp[OQ,Mf r]
noncomputable def IC (x:B4):V:=.agg [.int .i64 x.Kind,.int .i64 x.Num,.str x.Text]
noncomputable def Gj (x:B5):V:=.agg [.int .i64 x.Source,.int .i64 x.Seq,.int .i64 x.Typ,.int .i64 x.Time,.sl (lst IC x.Values) .ro]
noncomputable def WC (x:L4):V:=.agg [.int .i64 x.Time,.int .i64 x.Source,.int .i64 x.Seq]
noncomputable def Jc (x:C0):V:=.agg [.int .i64 x.Var,.int .i64 x.Ref.Time,.int .i64 x.Ref.Source,.int .i64 x.Ref.Seq]
noncomputable def SI (x:Aw):V:=.agg [.sl (lst Jc x.cO) .ro]
noncomputable def ES (x:C5):V:=.agg [.sl (lst Gj x.cN) .ro,.int .i64 x.count]
noncomputable def Z6 (x:A3):V:=.agg [.int .i64 x.v,.int .i64 x.at_]
noncomputable def FH (x:A4):V:=.agg [.int .i64 x.d.Ref.Time,.int .i64 x.d.Ref.Source,.int .i64 x.d.Ref.Seq,.int .i64 x.d.Choice,.sl (lst OR x.d.Kids) .ro,.sl (lst Z6 x.s) .ro]
noncomputable def EQ (x:A5):V:=.agg [.int .i64 x.d.Ref.Time,.int .i64 x.d.Ref.Source,.int .i64 x.d.Ref.Seq,.int .i64 x.d.Choice,.sl (lst OR x.d.Kids) .ro,.bool x.ok]
noncomputable def Gt (x:Ec):V:=.agg [.sl (lst Gj x.cN) .ro,.bool x.full]
noncomputable def Ci (x:Q3):V:=.agg [.int .i64 x.cS,.int .i64 x.at_]
noncomputable def Gs (x:F6):V:=.agg [.int .i64 x.source,.int .i64 x.seq]
noncomputable def Gu (x:B2):V:=.agg [.int .i64 x.node,.int .i64 x.first,.int .i64 x.last,.int .i64 x.outer]
noncomputable def V2 (x:M9):V:=.agg [.int .i64 x.Var,.int .i64 x.At]
noncomputable def EB (x:Cl):V:=.agg [.sl (lst V2 x.s) .ro,.int .i64 x.d.Ref.Time,.int .i64 x.d.Ref.Source,.int .i64 x.d.Ref.Seq,.int .i64 x.d.Choice,.sl (lst OR x.d.Kids) .ro]
noncomputable def HT (x:I0):V:=.agg [.int .i64 x.cQ,.int .i64 x.most,.bool x.cL,.bool x.cond,.bool x.scope,.bool x.span]
noncomputable def Hi (x:List B5):V:=.sl (lst Gj x) .ro
noncomputable def WD (x:Id):V:=.agg [.sl (lst Hi x.cR) .ro]
noncomputable def Hj (x:K0):V:=.agg [.sl (lst Hi x.env.cR) .ro,.int .i64 x.own,.int .i64 x.event.Source,.int .i64 x.event.Seq,.int .i64 x.event.Typ,.int .i64 x.event.Time,.sl (lst IC x.event.Values) .ro,.fmap Nc Nb]
noncomputable def Jq (x:D3):V:=.agg [.int .i64 x.Kind,.int .i64 x.Count,.int .i64 x.Value.Kind,.int .i64 x.Value.Num,.str x.Value.Text]
noncomputable def Jp (x:List A2):V:=.sl (lst OR x) .ro
noncomputable def FF (x:List A3):V:=.sl (lst Z6 x) .ro
noncomputable def BV (x:List Q3):V:=.sl (lst Ci x) .ro
noncomputable def EP (x:List (List Q3)):V:=.sl (lst BV x) .ro
noncomputable def DX (x:List M9):V:=.sl (lst V2 x) .ro
noncomputable instance encsInst :I6 where
 eZt:=IC
 eZo:=fun _=>rfl
 eZw:=UR
 eZC:=fun⟨_,_,_,_,_,_⟩=>by simp only[UR,Me];rfl
 eZn:=WB
 eZp:=fun⟨_,_,_,_,_,_,_⟩=>by simp only[WB,Md];rfl
 eZj:=Gj
 eZm:=fun _=>rfl
 eZx:=WC
 eZD:=fun _=>rfl
 eZl:=Jc
 eZs:=fun _=>rfl
 eZN:=SI
 eZY:=fun _=>rfl
 eZi:=OR
 eZk:=fun⟨_,_,_⟩=>by simp only[OR,Mf];rfl
 eZO:=ES
 eZZ:=fun _=>rfl
 eZh:=Z6
 eZq:=fun _=>rfl
 eZP:=FH
 eAa0:=fun _=>rfl
 eZu:=EQ
 eZH:=fun _=>rfl
 eZQ:=Gt
 eAa1:=fun _=>rfl
 eZJ:=Ci
 eAa2:=fun _=>rfl
 eZz:=Gs
 eZE:=fun _=>rfl
 eZr:=Gu
 eZI:=fun _=>rfl
 eZG:=V2
 eAa3:=fun _=>rfl
 eZR:=EB
 eAa4:=fun _=>rfl
 eZK:=HT
 eZX:=fun _=>rfl
 eZS:=WD
 eAa5:=fun _=>rfl
 eZT:=Hj
 eAa6:=fun _=>rfl
 eZU:=Jq
 eAa7:=fun _=>rfl
 eZy:=Hi
 eZM:=fun _=>rfl
 eZv:=Jp
 eZB:=fun _=>rfl
 eZA:=FF
 eZF:=fun _=>rfl
 eZV:=EP
 eAa8:=fun _=>rfl
 eZL:=BV
 eAa9:=fun _=>rfl
 eZW:=DX
 eAb0:=fun _=>rfl
def Vq {α:Type}(f:α→Nat):List α→Nat
 |[]=>1
 |a::l=>f a+Vq f l
section
variable [G7]{H:Type}{enc:TypeId×Value→H}{W:World}{base:Nat}{spare:Nat→Bool}{held:Bool}
abbrev bk (d:DataW H):Nat:=Rows.uptoBulk d
noncomputable def Qs (P:Program)(t:TypeId):Array Field:=match P.underlying t with|some (.struct fs)=>fs|_=> #[]
theorem V7 {P:Program} {t ty off sz:Nat} {xs:List (DataW H×List MemPlace)} {cs:List Value} {n:Nat} (hl:xs.length=(Qs P t).size)
 (hf:∀(i:Nat) (f:Field),(Qs P t)[i]? =some f→DataW.trod enc P W base spare held n f.type ((cs.drop f.offset).take (P.cellsOf f.type))=xs[i]?) (i:Nat)
 (h:((Qs P t)[i]?.map fun f=>(f.type,f.offset,P.cellsOf f.type))=some (ty,off,sz)):∃y,xs[i]? =some y∧DataW.trod enc P W base spare held n ty ((cs.drop off).take sz)=some y:=by
 cases hi:(Qs P t)[i]? with
 |none=>rw[hi]at h;cases h
 |some f=>
  rw[hi]at h
  simp only[Option.map_some,Option.some.injEq,Prod.mk.injEq]at h
  obtain⟨rfl,rfl,rfl⟩:=h;exact Qt hl hf i hi
theorem Bo.down {α:Type}{P:Program}{t:TypeId}{f:α→V}{R:α→DataW H→Prop}{n:Nat}(h:Bo enc P W base spare held t f R (n+1)):Bo enc P W base spare held t f R n:=fun cs x hx=>h cs x (DataW.trod_le (Nat.le_succ n) hx)
theorem Bo.imp {α:Type}{P:Program}{t:TypeId}{f:α→V}{R R':α→DataW H→Prop}{n:Nat}(h:Bo enc P W base spare held t f R n)(hi:∀a d,R a d→R' a d):Bo enc P W base spare held t f R' n:=fun cs x hx=>by
 obtain⟨a,r,q⟩:=h cs x hx;exact⟨a,r,hi _ _ q⟩
theorem Bo.congr {α:Type}{P:Program}{t:TypeId}{f g:α→V}{R:α→DataW H→Prop}{n:Nat}(h:Bo enc P W base spare held t f R n)(hg:∀x,f x=g x):Bo enc P W base spare held t g R n:=fun cs x hx=>by
 obtain⟨a,r,q⟩:=h cs x hx;exact⟨a,by rw[←hg];exact r,q⟩
theorem Xf {α:Type} {f:α→Nat}:∀(l:List α) (ds:List (DataW H)),RL (fun a d=>f a≤bk d) l ds→Vq f l≤Rows.uptoBulkAll ds+1
 |[],ds,h=>by simp[Vq]
 |a::l,[],h=>by have:=h.1;simp at this
 |a::l,d::ds,h=>by
  have h1:f a≤bk d:=h.2 0 a d rfl rfl;have h2:=Xf l ds ⟨by simpa using h.1,fun i a d hi hd=>h.2 (i+1) a d (by simpa using hi) (by simpa using hd)⟩;simp only[Vq,Rows.uptoBulkAll];have h3:bk d=Rows.uptoBulk d:=rfl;omega
theorem Yw {α:Type}{f:α→Nat}{l:List α}{d:DataW H}(h:RS (fun a d=>f a≤bk d) l d):Vq f l≤bk d:=by
 obtain⟨_,h⟩:=h
 rcases h with⟨rfl,rfl⟩|⟨es,sp,rfl,h⟩
 ·simp[bk,Rows.uptoBulk,Vq]
 have:=Xf l es h;simp only[bk,Rows.uptoBulk];omega
theorem Mm :∀l:List A2,A2.bulks l=Vq A2.bulk l
 |[]=>by simp[A2.bulks,Vq]
 |a::l=>by simp[A2.bulks,Vq,Mm l]
theorem SP {l:List A2}{d:DataW H}(h:RS (fun a d=>A2.bulk a≤bk d) l d):A2.bulks l≤bk d:=by rw[Mm];exact Yw h
theorem Uq {β:Type}{xs:List β}{a b c:β}(hl:xs.length=3)(h0:xs[0]? =some a)(h1:xs[1]? =some b)(h2:xs[2]? =some c):xs=[a,b,c]:=by
 match xs,hl with
 |[x0,x1,x2],_=>simp at h0 h1 h2;rw[h0,h1,h2]
theorem XJ {β:Type}{xs:List β}{a b c d e f:β}(hl:xs.length=6)(h0:xs[0]? =some a)(h1:xs[1]? =some b)(h2:xs[2]? =some c)(h3:xs[3]? =some d)(h4:xs[4]? =some e)(h5:xs[5]? =some f):xs=[a,b,c,d,e,f]:=by
 match xs,hl with
 |[x0,x1,x2,x3,x4,x5],_=>simp at h0 h1 h2 h3 h4 h5;rw[h0,h1,h2,h3,h4,h5]
theorem u3 :Tryz.prog.underlying 3=some (.int .i64):=by kernel_rfl
theorem MO (n:Nat):Bo enc Tryz.prog W base spare held 3 (V.int .i64) (fun a d=>(fun _:Int=>1) a≤bk d) n:=(Iu u3).imp fun a d h=>by subst h;simp[bk,Rows.uptoBulk]
def B4.mu (x:B4):Nat:=(fun _:Int=>1) x.Kind+(fun _:Int=>1) x.Num+(fun s:ByteArray=>s.size+1) x.Text+1
def B5.mu (x:B5):Nat:=(fun _:Int=>1) x.Source+(fun _:Int=>1) x.Seq+(fun _:Int=>1) x.Typ+(fun _:Int=>1) x.Time+(Vq B4.mu) x.Values+1
theorem u46 :Tryz.prog.underlying 46=some (.struct (Qs Tryz.prog 46)):=by kernel_rfl
theorem u37 :Tryz.prog.underlying 37=some (.slice 46):=by kernel_rfl
theorem u44 :Tryz.prog.underlying 44=some (.struct (Qs Tryz.prog 44)):=by kernel_rfl
def L4.mu (x:L4):Nat:=(fun _:Int=>1) x.Time+(fun _:Int=>1) x.Source+(fun _:Int=>1) x.Seq+1
theorem VS (n:Nat):Bo enc Tryz.prog W base spare held 44 I6.eZx (fun(a:L4) d=>L4.mu a≤bk d) n:=by
 intro cs x h;obtain⟨xs,m,hm,rfl,hcl,hl,hf⟩:=DataW.trod_struct u44 h;subst hm;obtain⟨y0,k0,t0⟩:=V7 hl hf 0 (ty:=3) (off:=0) (sz:=1) (by kernel_rfl);obtain⟨y1,k1,t1⟩:=V7 hl hf 1 (ty:=3) (off:=1) (sz:=1) (by kernel_rfl);obtain⟨y2,k2,t2⟩:=V7 hl hf 2 (ty:=3) (off:=2) (sz:=1) (by kernel_rfl);have hxs:=Uq (hl.trans (by kernel_rfl)) k0 k1 k2;obtain⟨a0,r0,q0⟩:=MO _ _ _ t0;obtain⟨a1,r1,q1⟩:=MO _ _ _ t1;obtain⟨a2,r2,q2⟩:=MO _ _ _ t2;refine⟨⟨a0,a1,a2⟩,?_,?_⟩
 ·have hc3:cs.length=3:=hcl.trans (by kernel_rfl);have:=(r0.join r1).join r2;rw[I6.eZD]
  simp only[Ar.lst_eq]at this ⊢
  simpa[List.take_of_length_le,hc3,V.cells]using this
 simp only[bk]at q0 q1 q2
 rw[hxs];simp only[List.map_cons,List.map_nil,bk,Rows.uptoBulk,Rows.uptoBulkAll,L4.mu];omega
theorem VQ :∀n:Nat,Bo enc Tryz.prog W base spare held 46 I6.eZi (fun(a:A2) d=>A2.bulk a≤bk d) n:=by
 intro n
 induction n with
 |zero=>intro cs x h;simp[DataW.trod]at h
 |succ n ih=>
 intro cs x h;obtain⟨xs,m,hm,rfl,hcl,hl,hf⟩:=DataW.trod_struct u46 h;cases hm;obtain⟨y0,k0,t0⟩:=V7 hl hf 0 (ty:=44) (off:=0) (sz:=3) (by kernel_rfl);obtain⟨y1,k1,t1⟩:=V7 hl hf 1 (ty:=3) (off:=3) (sz:=1) (by kernel_rfl);obtain⟨y2,k2,t2⟩:=V7 hl hf 2 (ty:=37) (off:=4) (sz:=1) (by kernel_rfl);have hxs:=Uq (hl.trans (by kernel_rfl)) k0 k1 k2;obtain⟨a0,r0,q0⟩:=VS _ _ _ t0;obtain⟨a1,r1,q1⟩:=MO _ _ _ t1
 obtain⟨a2,r2,q2⟩:∃a:List A2,Cs (g0 W) W ((cs.drop 4).take 1) (V.sl (a.map I6.eZi) .ro).cells∧A2.bulks a≤bk y2.1:=by
  cases n with
  |zero=>simp[DataW.trod]at t2
  |succ n=>
   obtain⟨a,r,q⟩:=Ol u37 (show 0<Tryz.prog.cellsOf 46 by rw[show Tryz.prog.cellsOf 46=5 by kernel_rfl];decide) ih.down _ _ t2;exact⟨a,r,SP q⟩
 refine⟨⟨a0,a1,a2⟩,?_,?_⟩
 ·have hc3:cs.length=5:=hcl.trans (by kernel_rfl)
  rw[I6.eZD]at r0
  have:=(r0.join r1).join r2;rw[I6.eZk]
  simp only[Ar.lst_eq]at this ⊢
  simpa[List.take_of_length_le,hc3,V.cells]using this
 simp only[bk]at q0 q1 q2
 rw[hxs]
 simp only[List.map_cons,List.map_nil,bk,Rows.uptoBulk,Rows.uptoBulkAll,A2.bulk,L4.mu]at *
 omega
theorem Cd {v:Value}{d:DataW H}{p:List MemPlace}(hv:Value.okWide Tryz.prog W .any base 46 v)(h:DataW.Trod enc Tryz.prog W 0 (fun _=>true) true 46 v d p):∃x:A2,VR (g0 W) W v (I6.eZi x)∧A2.bulk x≤Rows.uptoBulk d:=by
 obtain⟨fuel,ht⟩:=h;obtain⟨cs,rfl,hcs⟩:=okWide_struct u46 hv;obtain⟨x,hr,hb⟩:=VQ fuel _ _ ht;have hr':Cs (g0 W) W cs.toList (I6.eZi x).cells:=hr;refine⟨x,?_,hb⟩;have:=hr'.agg
 rw[I6.eZk]at this ⊢
 exact this
theorem u4 :Tryz.prog.underlying 4=some .bool:=by kernel_rfl
theorem Wn {f:FuncId}{vals:Array Value}{args:List V}(hg:∀n,VR (g0 W) W (.pointer (some ⟨n,0,none⟩)) (G7.gl n))(hcall:∀vals w,(callFunc f vals).run Tryz.prog w= .ok (.enter f vals) w)(law:B8 Tryz.prog f args (.bool true))(hA:Args (g0 W) W vals args):
 Calls Tryz.prog f vals W fun e W'=>e= .returned (.bool true)∧Below W.heap.size W W':=by
 have hc:=law (fun _=>none) (g0 W) W vals (rl0 hg) hA
 rw[hcall]at hc
 refine(callsIn_wide.1 hc).mono fun e W' ⟨v,he,g',y,H',hs,hR,hvy,hy,_⟩=>?_;subst hy;cases hvy;exact⟨he,hs.low⟩
theorem Za {v0 v1 v2:Value}{x0 x1 x2:V}(h0:VR (g0 W) W v0 x0)(h1:VR (g0 W) W v1 x1)(h2:VR (g0 W) W v2 x2):Args (g0 W) W #[v0,v1,v2] [x0,x1,x2]:=⟨rfl,fun i hi=>by
 match i,hi with
 |0,_=>exact h0
 |1,_=>exact h1
 |2,_=>exact h2⟩
end
end Go.Ab
namespace Go.Ab
open Go.RowKit Go.ChangeShapes Go.WideShapes Go.ChangeAt Go.Proofs Go.Proofs.YtjhobbohibnioaaGreatDoor
set_option maxRecDepth 100000
section
variable {H:Type}{enc:TypeId×Value→H}{W:World}{base:Nat}{spare:Nat→Bool}{held:Bool}
theorem u220 :Tryz.prog.underlying 220=some (.array J5.length 219):=by kernel_rfl
theorem u219 :Tryz.prog.underlying 219=some (.struct (Qs Tryz.prog 219)):=by kernel_rfl
theorem Qc (n:Nat):Bo enc Tryz.prog W base spare held 219 I6.eZK (fun(a:I0) d=>d= .agg [.lit (.int .i64 a.cQ),.lit (.int .i64 a.most),.lit (.bool a.cL),.lit (.bool a.cond),.lit (.bool a.scope),.lit (.bool a.span)]) n:=by
 intro cs x h;obtain⟨xs,m,rfl,rfl,hcl,hl,hf⟩:=DataW.trod_struct u219 h;obtain⟨y0,k0,t0⟩:=V7 hl hf 0 (ty:=3) (off:=0) (sz:=1) (by kernel_rfl);obtain⟨y1,k1,t1⟩:=V7 hl hf 1 (ty:=3) (off:=1) (sz:=1) (by kernel_rfl);obtain⟨y2,k2,t2⟩:=V7 hl hf 2 (ty:=4) (off:=2) (sz:=1) (by kernel_rfl);obtain⟨y3,k3,t3⟩:=V7 hl hf 3 (ty:=4) (off:=3) (sz:=1) (by kernel_rfl);obtain⟨y4,k4,t4⟩:=V7 hl hf 4 (ty:=4) (off:=4) (sz:=1) (by kernel_rfl);obtain⟨y5,k5,t5⟩:=V7 hl hf 5 (ty:=4) (off:=5) (sz:=1) (by kernel_rfl);have hxs:=XJ (hl.trans (by kernel_rfl)) k0 k1 k2 k3 k4 k5;obtain⟨a0,r0,q0⟩:=Iu u3 _ _ t0;obtain⟨a1,r1,q1⟩:=Iu u3 _ _ t1;obtain⟨a2,r2,q2⟩:=El u4 _ _ t2;obtain⟨a3,r3,q3⟩:=El u4 _ _ t3;obtain⟨a4,r4,q4⟩:=El u4 _ _ t4;obtain⟨a5,r5,q5⟩:=El u4 _ _ t5;refine⟨⟨a0,a1,a2,a3,a4,a5⟩,?_,?_⟩
 ·have hc3:cs.length=6:=hcl.trans (by kernel_rfl);have:=((((r0.join r1).join r2).join r3).join r4).join r5;rw[I6.eZX]
  simpa[List.take_of_length_le,hc3,V.cells]using this
 rw[hxs];simp only[List.map_cons,List.map_nil,q0,q1,q2,q3,q4,q5]
theorem LJ :∀(l k:List I0),(RL (H:=H) (fun(a:I0) d=>d= .agg [.lit (.int .i64 a.cQ),.lit (.int .i64 a.most),.lit (.bool a.cL),.lit (.bool a.cond),.lit (.bool a.scope),.lit (.bool a.span)]) l
 (k.map fun a=>.agg [.lit (.int .i64 a.cQ),.lit (.int .i64 a.most),.lit (.bool a.cL),.lit (.bool a.cond),.lit (.bool a.scope),.lit (.bool a.span)]))→l=k
 |[],[],_=>rfl
 |[],_::_,h=>by have:=h.1;simp at this
 |_::_,[],h=>by have:=h.1;simp at this
 |a::l,b::k,h=>by
  have h0:=h.2 0 a _ rfl rfl;have h1:=LJ l k ⟨by simpa using h.1,fun i a d hi hd=>h.2 (i+1) a d (by simpa using hi) (by simpa using hd)⟩;subst h1;obtain⟨a0,a1,a2,a3,a4,a5⟩:=a;obtain⟨b0,b1,b2,b3,b4,b5⟩:=b
  simp at h0
  simp[h0]
theorem OE (h:laidMetH Tryz.prog Rows.derivationComparesRow.laid W):VR (g0 W) W (.pointer (some ⟨0,0,none⟩)) (G7.gl 0):=by
 have h':laidMet Tryz.prog Rows.derivationComparesRow.laid W:=h;obtain⟨ps,⟨g',t',cs,fuel,p,q,hg',ht',hvar,hd,_,_⟩,_⟩:=h';obtain rfl:g'=0:=Option.some.inj (hg'.symm.trans (by kernel_rfl));obtain rfl:t'=220:=Option.some.inj (ht'.symm.trans (by kernel_rfl));obtain⟨l,hr,ds,hds,hl⟩:=Om u220 (by kernel_rfl) (by decide) (fun n=>Qc n) hd
 have e:ds=J5.map fun a=>.agg [.lit (.int .i64 a.cQ),.lit (.int .i64 a.most),.lit (.bool a.cL),.lit (.bool a.cond),.lit (.bool a.scope),.lit (.bool a.span)]:=by
  have e2:(Rows.laid_tidegate_pattern_shapes:DataW Unit)= .agg ds:=hds;have e3:(Rows.laid_tidegate_pattern_shapes:DataW Unit)= .agg (J5.map fun a=>.agg [.lit (.int .i64 a.cQ),.lit (.int .i64 a.most),.lit (.bool a.cL),.lit (.bool a.cond),.lit (.bool a.scope),.lit (.bool a.span)]):=rfl
  rw[e3]at e2
  exact(DataW.agg.inj e2).symm
 subst e;obtain rfl:=LJ _ _ hl;exact OI hg' hvar hr
theorem XM (h:laidMetH Tryz.prog Rows.derivationComparesRow.laid W):∀n,VR (g0 W) W (.pointer (some ⟨n,0,none⟩)) (G7.gl n)
 |0=>OE h
 |_+1=>.bad _
end
end Go.Ab
