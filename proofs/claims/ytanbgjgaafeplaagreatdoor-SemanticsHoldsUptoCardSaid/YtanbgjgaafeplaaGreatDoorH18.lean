/- GTW1 GTW2 GTW3 GTW4 GTW5 GTW6 GTW7 GTW8 -/
import Derived.Test.YtanbgjgaafeplaaGreatDoorH17
set_option linter.all false
open List (append_nil countP_append)
open Nat (add_mul)
open Go.Ab.Ar (ar cmp nt)
namespace Go.Ab
open Classical
noncomputable section
def Nt (l:List A8)(s:List PR)(b v:Int):List A8:=s.filterMap fun x=>if x.At<b∧x.Var=v then l[x.At.toNat]? else none
def KB (l:List A8)(s:List PR)(b:Int):Bk:=⟨(List.range 16).map fun(v:Nat)=>Nt l s b (v:Int)⟩
def Sa (l:List A8)(s:List PR):Prop:=∀x∈s,(0≤x.Var∧x.Var<16)∧(0≤x.At∧x.At<l.length)
theorem Sa.ins {l:List A8}{s:List PR}(h:Sa l s):InS l.length s:=fun x hx=>(h x hx).2
theorem QB (l:List A8)(s:List PR)(b v:Int):(Nt l s b v).length≤s.length:=List.length_filterMap_le ..
theorem FM (l:List A8){s:List PR}(hs:s.length<1000000)(b:Int):GA (KB l s b):=by
 constructor
 ·simp[KB]
 intro r hr
 simp only[KB,List.mem_map]at hr
 obtain⟨v,_,rfl⟩:=hr;have:=QB l s b v;omega
theorem NQ (l:List A8)(p:List PR)(x:PR)(b v:Int):Nt l (p++[x]) b v=Nt l p b v++(if x.At<b∧x.Var=v then(l[x.At.toNat]?).toList else[]):=by
 unfold Nt;rw[List.filterMap_append]
 congr 1
 by_cases h:x.At<b∧x.Var=v
 ·simp only[List.filterMap_cons,List.filterMap_nil,if_pos h];cases l[x.At.toNat]? <;>rfl
 simp only[List.filterMap_cons,List.filterMap_nil,if_neg h]
theorem Mm {α R:Type} (f:α→PR) (l:List A8) (b:Int) {s:List α} (hs:s.length≤1000000) (hw:Sa l (s.map f)):
 H5 (R:=R) (fun rows x=>if cmp .lss (f x).At b=true then(B6 rows (f x).Var).bind fun x9=>(B6 l (f x).At).bind fun x14=>(I3 x9 [x14]).bind fun l15=>(Id rows (f x).Var (fun _=>l15)).bind fun l13=>some (.inl l13)else some (.inl rows)) s (List.replicate 16 [])=
  some (.inl ((List.range 16).map fun(v:Nat)=>Nt l (s.map f) b (v:Int))):=by
 obtain⟨s',h1,p,h2,h3⟩:=W5 (R:=R) (step:=fun rows x=>if cmp .lss (f x).At b=true then(B6 rows (f x).Var).bind fun x9=>(B6 l (f x).At).bind fun x14=>(I3 x9 [x14]).bind fun l15=>(Id rows (f x).Var (fun _=>l15)).bind fun l13=>some (.inl l13)else some (.inl rows))
  (fun r rows=>∃p,p++r=s∧rows=(List.range 16).map fun(v:Nat)=>Nt l (p.map f) b (v:Int)) (fun x r rows ⟨p,e1,e2⟩=>by
   subst e2
   have hx:x∈s:=by rw[←e1];simp
   obtain⟨⟨v0,v1⟩,a0,a1⟩:=hw (f x) (List.mem_map.2 ⟨x,hx,rfl⟩)
   have hpl:p.length≤1000000:=by have:=congrArg List.length e1;simp at this;omega
   by_cases hb:(f x).At<b
   ·rw[if_pos (by rw[C1];exact decide_eq_true hb)]
    generalize hv:(f x).Var=vv at *
    generalize ha:(f x).At=aa at *
    obtain⟨v,rfl⟩:=Int.eq_ofNat_of_zero_le v0;obtain⟨a,rfl⟩:=Int.eq_ofNat_of_zero_le a0
    have hva:v<16:=by omega
    have haa:a<l.length:=by omega
    have e1':B6 ((List.range 16).map fun(v:Nat)=>Nt l (p.map f) b (v:Int)) (v:Int)=some (Nt l (p.map f) b v):=by
     rw[C5];simp[hva]
    have e2':B6 l (a:Int)=some l[a]:=by rw[C5];simp[haa]
    have hpl':=QB l (p.map f) b v;simp only[e1',e2',Option.bind_some];rw[M6 (by simp at hpl' ⊢;omega)];simp only[Option.bind_some];refine⟨_,by unfold Id;rw[e1'];rfl,p++[x],by simpa using e1,?_⟩;apply List.ext_getElem?;intro j;rw[List.getElem?_set]
    by_cases hj:j<16
    ·simp only[List.getElem?_map,List.getElem?_range hj,List.map_append,List.map_cons,List.map_nil,NQ,hv,ha,Int.toNat_natCast,List.length_map,List.length_range,Option.map_some]
     by_cases hjv:v=j
     ·subst hjv;simp[hb,hj,haa]
     have:¬((v:Int)=(j:Int)):=by omega
     simp[hjv,this]
    have:¬(v=j):=by omega
    simp[hj,this]
   rw[if_neg (by rw[C1];simpa using hb)];refine⟨_,rfl,p++[x],by simpa using e1,?_⟩;apply List.map_congr_left;intro v _
   rw[List.map_append,List.map_cons,List.map_nil,NQ,if_neg (by omega),append_nil]) (l:=s) (s:=List.replicate 16 []) ⟨[],rfl,by simp[Nt];rfl⟩
 rw[h1]
 rw[append_nil]at h2
 rw[h3,h2]
theorem TV {N:Nat} (hN:40000000≤N) {l:List A8} {s:List BD} (hs:s.length≤1000000) (hw:Sa l (H6 s)) (f:Bool) (b:Int):P6 N ⟨l,f⟩ s b=some (KB l (H6 s) b):=by
 unfold P6;have h1:Um 16 16 ([]:List A8)=some (List.replicate 16 []):=rfl;rw[h1];simp only[Option.bind_some];rw[F2 s (by omega) (mk:=fun(rows:List (List A8)) i=>(i,rows)) (body:=fun rows x=>if cmp .lss (pr x).At b=true then(B6 rows (pr x).Var).bind fun x9=>(B6 l (pr x).At).bind fun x14=>(I3 x9 [x14]).bind fun l15=>(Id rows (pr x).Var (fun _=>l15)).bind fun l13=>some (.inl l13)else some (.inl rows)) (fin:=fun s=>s) (s:=List.replicate 16 []) (by omega) ?_ ?_]
 ·rw[Mm pr l b hs hw];rfl
 ·intro rows i x hx hi;have e:ar .add .i64 (i:Int) 1=i+1:=C4 (by omega) (by omega);simp only[C1,A9,hi,decide_true,if_true,C5,hx,Option.bind_some,e]
  show(if decide (x.at_<b)=true then _ else _)=Option.bind (if decide (x.at_<b)=true then _ else _) _
  by_cases hb:x.at_<b
  ·rw [if_pos (decide_eq_true hb),if_pos (decide_eq_true hb)]
   show((B6 rows x.cU).bind _)=((B6 rows x.cU).bind _).bind _
   cases B6 rows x.cU with
   |none=>rfl
   | some r=>
    simp only[Option.bind_some]
    show((B6 l x.at_).bind _)=((B6 l x.at_).bind _).bind _
    cases B6 l x.at_ with
    |none=>rfl
    | some y=>
     simp only[Option.bind_some]
     cases I3 r [y]with
     |none=>rfl
     |some q=>
      simp only[Option.bind_some]
      show((Id rows x.cU _).bind _)=((Id rows x.cU _).bind _).bind _
      cases Id rows x.cU fun _=>q<;>rfl
  rw[if_neg (by simpa using hb),if_neg (by simpa using hb)];rfl
 intro s;simp[C1,A9]
theorem OW {N:Nat} (hN:40000000≤N) {l:List A8} {s:List PR} (hs:s.length≤1000000) (hw:Sa l s) (b:Int):Cz N l s b=some (KB l s b):=by
 unfold Cz;have h1:Um 16 16 ([]:List A8)=some (List.replicate 16 []):=rfl;rw[h1];simp only[Option.bind_some];rw[F2 s (by omega) (mk:=fun(rows:List (List A8)) i=>(i,rows)) (body:=fun rows x=>if cmp .lss x.At b=true then(B6 rows x.Var).bind fun x9=>(B6 l x.At).bind fun x14=>(I3 x9 [x14]).bind fun l15=>(Id rows x.Var (fun _=>l15)).bind fun l13=>some (.inl l13)else some (.inl rows)) (fin:=fun s=>s) (s:=List.replicate 16 []) (by omega) ?_ ?_]
 ·have h:=Mm (R:=List (List A8)) (fun x:PR=>x) l b hs (by simpa using hw);rw[h];simp only[Option.bind_some,List.map_id'];rfl
 ·intro rows i x hx hi;have e:ar .add .i64 (i:Int) 1=i+1:=C4 (by omega) (by omega);have c1:cmp .lss (i:Int) (s.length:Int)=true:=U2 hi
  by_cases hb:x.At<b
  ·have c2:cmp .lss x.At b=true:=U2 hb;simp only[c1,c2,A9,if_true,C5,hx,Option.bind_some,e]
   cases B6 rows x.Var with
   |none=>rfl
   | some r=>
    simp only[Option.bind_some]
    cases B6 l x.At with
    |none=>rfl
    | some y=>
     simp only[Option.bind_some]
     cases I3 r [y]with
     |none=>rfl
     |some q=>
      simp only[Option.bind_some];cases Id rows x.Var fun _=>q<;>rfl
  have c2:cmp .lss x.At b=false:=by simpa using P1 hb
  simp only[c1,c2,A9,if_true,C5,hx,Option.bind_some,e,Bool.false_eq_true,if_false]
 intro s;simp[C1,A9]
theorem EF {l:List A8}{i:Nat}(h:i<l.length):B6 l (i:Int)=some l[i]:=by rw[C5];simp[h]
theorem Jy {N:Nat}(hN:40000000≤N){l:List A8}{s:List BD}(hs:s.length<1000000)(hw:Sa l (H6 s))(f:Bool){c:B1}(hc:c.bulk≤16777216)(own:Int){i:Nat}(hi:i<l.length):
 G9 N ⟨l,f⟩ c s own i=some (Dt (KB l (H6 s) i) own l[i] c):=by
 unfold G9;rw[TV hN (by omega) hw];simp only[Option.bind_some];rw[EF hi];simp only[Option.bind_some];rw[Qd hN (FM l (by simpa using hs) _) own _ hc];rfl
def Sp {β:Type}(T:Nat→Bool)(g:Nat→β):Nat→Nat→List β
 |0,_=>[]
 |k+1,i=>if T i=true then g i::Sp T g k (i+1)else Sp T g k (i+1)
theorem Jt {β:Type}(T:Nat→Bool)(g:Nat→β)(k i:Nat):Sp T g (k+1) i=if T i=true then g i::Sp T g k (i+1)else Sp T g k (i+1):=rfl
theorem LG {β:Type} {T:Nat→Bool} {g:Nat→β} {x:β}:∀{k i:Nat},x∈Sp T g k i↔∃j,i≤j∧j<i+k∧T j=true∧x=g j
 |0,i=>by simp[Sp];intro j a b;omega
 | k+1,i=>by
  rw[Jt];have ih:=LG (T:=T) (g:=g) (x:=x) (k:=k) (i:=i+1)
  constructor
  ·intro h
   by_cases ht:T i=true
   ·rw[if_pos ht]at h
    rcases List.mem_cons.1 h with h|h
    ·exact⟨i,by omega,by omega,ht,h⟩
    obtain⟨j,a,b,c⟩:=ih.1 h;exact⟨j,by omega,by omega,c⟩
   rw[if_neg ht]at h
   obtain⟨j,a,b,c⟩:=ih.1 h;exact⟨j,by omega,by omega,c⟩
  rintro⟨j,a,b,c,d⟩
  by_cases hij:j=i
  ·subst hij;rw[if_pos c,d];simp
  have:=ih.2 ⟨j,by omega,by omega,c,d⟩
  split
  ·exact List.mem_cons_of_mem _ this
  exact this
theorem Ks {β:Type} {T:Nat→Bool} {g:Nat→β} (hg:∀i j,g i=g j→i=j):∀{k i:Nat},(Sp T g k i).Nodup
 |0,i=>by simp[Sp]
 |k+1,i=>by
  rw[Jt]
  split
  ·refine List.nodup_cons.2 ⟨fun h=>?_,Ks hg⟩;obtain⟨j,a,b,c,d⟩:=LG.1 h;have:=hg _ _ d;omega
  exact Ks hg
theorem Rm {β A:Type} {n:Nat} {step:Int→Option (List β×(Int ⊕ A))} {T:Nat→Bool} {g:Nat→β} {u:A} (hs:∀i,i<n→step (i:Int)=some (if T i=true then[g i]else[],.inl ((i:Int)+1))) (he:step (n:Int)=some ([],.inr u)):
 ∀(k i N:Nat),i+k=n→k<N→W0 step N (i:Int)=some (Sp T g k i,u)
 |0,i,N,h,hN=>by
  obtain⟨N,rfl⟩:∃m,N=m+1:=⟨N - 1,by omega⟩;rw[show(i:Int)=n by omega];simp[W0,he,Sp]
 |k+1,i,N,h,hN=>by
  obtain⟨N,rfl⟩:∃m,N=m+1:=⟨N - 1,by omega⟩;have ih:=Rm hs he k (i+1) N (by omega) (by omega);simp only[W0,hs i (by omega)];rw[show((i:Int)+1)=((i+1:Nat):Int) by omega,ih];rw[Jt]
  by_cases ht:T i=true<;>simp[ht]
theorem Rk {β S:Type} {n:Nat} {mk:List β→Int→S} {step:S→Option (S ⊕ List β)} {T:Nat→Bool} {g:Nat→β} (hs:∀(out:List β) i,out.length≤n→i<n→step (mk out (i:Int))=some (.inl (mk (if T i=true then out++[g i]else out) ((i:Int)+1)))) (he:∀out:List β,step (mk out (n:Int))=some (.inr out)):
 ∀(k i N:Nat) (out:List β),i+k=n→k<N→out.length≤i→loopN step N (mk out (i:Int))=some (out++Sp T g k i)
 |0,i,N,out,h,hN,_=>by
  obtain⟨N,rfl⟩:∃m,N=m+1:=⟨N - 1,by omega⟩;rw[show(i:Int)=n by omega];simp[loopN,he,Sp]
 |k+1,i,N,out,h,hN,ho=>by
  obtain⟨N,rfl⟩:∃m,N=m+1:=⟨N - 1,by omega⟩;simp only[loopN,hs out i (by omega) (by omega)];rw[show((i:Int)+1)=((i+1:Nat):Int) by omega,Rk hs he k (i+1) N _ (by omega) (by omega) (by by_cases ht:T i=true<;>simp[ht]<;>omega)];rw[Jt]
  split<;>simp
end
end Go.Ab
namespace Go.Ab
open Classical
noncomputable section
theorem IS {A:Type} {n:Nat} {step:Int→Option (Int ⊕ (A ⊕ Unit))} {P:Nat→Bool} {u:A} (m:Nat) (hs:∀i,m≤i→i<n→step (i:Int)=some (if P i=true then .inr (.inr ())else .inl ((i:Int)+1))) (he:∀i:Nat,n≤i→step (i:Int)=some (.inr (.inl u))):
 ∀(k i N:Nat),n≤i+k→m≤i→k<N→loopN step N (i:Int)=some (if(List.range' i (n - i)).any P=true then .inr ()else .inl u)
 |0,i,N,h,_,hN=>by
  obtain⟨N,rfl⟩:∃m,N=m+1:=⟨N - 1,by omega⟩;rw[show n - i=0 by omega];simp[loopN,he i (by omega)]
 | k+1,i,N,h,hm,hN=>by
  obtain⟨N,rfl⟩:∃m,N=m+1:=⟨N - 1,by omega⟩
  by_cases hi:i<n
  ·have ih:=IS m hs he k (i+1) N (by omega) (by omega) (by omega);simp only[loopN,hs i hm hi];rw[show n - i=(n - (i+1))+1 by omega,List.range'_succ,List.any_cons]
   by_cases hp:P i=true
   ·simp[hp]
   rw[if_neg hp]
   dsimp only
   rw[show((i:Int)+1)=((i+1:Nat):Int) by omega,ih];simp[hp]
  rw[show n - i=0 by omega];simp[loopN,he i (by omega)]
def TP (l:List A8)(i:Int):Int:=match l[i.toNat]? with|some e=>e.Time|none=>0
def Nk (l:List A8)(p:A1)(b s:List PR)(i:Nat):Bool:=match l[i]? with|some e=>decide (e.Typ=p.Typ)&&(!IZ s i)&&Dt (KB l (mrg b s) i) p.Var e p.cR|none=>false
def Nb (l:List A8)(p:A1)(b s:List PR):Bool:= !((List.range l.length).any fun i=>decide (Ww s<(i:Int))&&decide ((i:Int)<Z0 s)&&Nk l p b s i)
def Dw (l:List A8)(p:A1)(b s:List PR):Bool:=
 if p.Op=6 then decide (ar .sub .i64 (TP l (Z0 s)) (TP l (Ww s))≤p.Span)else if p.Op=7 then Dt (KB l (mrg b s) l.length) (-1) ⟨0,0,0,0,[]⟩ p.cR else Nb l p b s
structure Gd (l:List A8) (s:List PR):Prop where
 wf:Sa l s
 asc:Wu s
theorem Gd.len {l:List A8}{s:List PR}(h:Gd l s):s.length≤l.length:=UI (k:=0) h.asc fun x hx=>by have:=(h.wf x hx).2;omega
theorem Gd.nil (l:List A8):Gd l []:=⟨fun _ h=>absurd h List.not_mem_nil,List.Pairwise.nil⟩
theorem Gd.mrg {l:List A8}{a b:List PR}(ha:Gd l a)(hb:Gd l b)(h:Cb a b):Gd l (mrg a b):=⟨fun x hx=>(CV.1 hx).elim (ha.wf x) (hb.wf x),LF _ (Nat.le_refl _) ha.asc hb.asc h⟩
theorem Gd.lst {l:List A8}{s:List PR}(h:Gd l s)(hn:s≠[]):0≤Z0 s∧Z0 s<l.length:=by
 obtain⟨x,_,hx,e⟩:=DY hn;rw[e];exact(h.wf x hx).2
theorem Gd.hd {l:List A8} {s:List PR} (h:Gd l s) (hn:s≠[]):0≤Ww s∧Ww s<l.length∧Ww s≤Z0 s∧IZ s (Ww s)=true:=by
 cases s with
 |nil=>exact absurd rfl hn
 |cons x s=>
  have:=(h.wf x (by simp)).2;exact⟨this.1,this.2,Nl h.asc x (by simp),Pq.2 ⟨x,by simp,rfl⟩⟩
theorem Lw {l:List A8}{i:Int}(h0:0≤i)(h1:i<l.length):∃e,B6 l i=some e∧e.Time=TP l i:=by
 obtain⟨i,rfl⟩:=Int.eq_ofNat_of_zero_le h0
 have hi:i<l.length:=by omega
 exact⟨l[i],EF hi,by simp[TP,hi]⟩
theorem Ah6 {s:List PR}(h:s≠[]):∃x,B6 s 0=some x∧x.At=Ww s:=by
 cases s with
 |nil=>exact absurd rfl h
 |cons x s=>exact⟨x,rfl,rfl⟩
theorem ZV {s:List BD}(h:s≠[]):∃x,B6 s 0=some x∧x.at_=Ww (H6 s):=by
 cases s with
 |nil=>exact absurd rfl h
 |cons x s=>exact⟨x,rfl,rfl⟩
theorem Af9 {s:List BD}(h:s≠[]):H6 s≠[]:=fun e=>h (List.map_eq_nil_iff.1 e)
theorem Od {l:List A8} {p:A1} {b s:List PR} {a n:Nat} (h1:(a:Int)≤Ww s+1) (h2:Ww s≤(a:Int)) (hn:(n:Int)=Z0 s) (hh:IZ s (Ww s)=true) (hl:Z0 s<l.length):
 (List.range' a (n - a)).any (Nk l p b s)= !Nb l p b s:=by
 unfold Nb;rw[Bool.not_not,Bool.eq_iff_iff,List.any_eq_true,List.any_eq_true]
 constructor
 ·rintro⟨i,hi,hb⟩
  rw[List.mem_range'_1]at hi
  refine⟨i,List.mem_range.2 (by omega),?_⟩
  have hne:Ww s≠(i:Int):=by
   intro e
   rw[e]at hh
   unfold Nk at hb
   split at hb
   ·rw[hh]at hb;simp at hb
   cases hb
  simp only[Bool.and_eq_true,decide_eq_true_eq];exact⟨⟨by omega,by omega⟩,hb⟩
 rintro⟨i,hi,hb⟩
 simp only[Bool.and_eq_true,decide_eq_true_eq]at hb
 exact⟨i,List.mem_range'_1.2 (by omega),hb.2⟩
theorem Vu {N:Nat} (hN:40000000≤N) {l:List A8} (hl:l.length≤10) {p:A1} (hc:p.cR.bulk≤16777216) (hop:5≤p.Op∧p.Op≤7) {b s:List PR} (gb:Gd l b) (gs:Gd l s) (hn:s≠[]) (hd:Cb b s):
 CY N p l b s=some (Dw l p b s):=by
 have lb:=gb.len;have ls:=gs.len;have gm:=gb.mrg gs hd;have lm:=gm.len;have hlst:=gs.lst hn;obtain⟨h0,h1,h2,hh⟩:=gs.hd hn;obtain⟨x0,hx0,e0⟩:=Ah6 hn;obtain⟨x1,hx1,_,e1⟩:=DY hn;unfold CY Dw;rw[hx0,Hu hn (by omega),hx1];simp only[Option.bind_some,EM hN (show b.length+s.length≤1000000 by omega),OW hN (show(mrg b s).length≤1000000 by omega) gm.wf,Ko hN (FM l (show(mrg b s).length<1000000 by omega) _) _ _ hc]
 by_cases h6:p.Op=6
 ·rw[if_neg (by rw[B8];simp;omega),if_pos (by rw[B8];exact decide_eq_true h6),if_pos h6];obtain⟨y1,hy1,t1⟩:=Lw (l:=l) (i:=x1.At) (by omega) (by omega);obtain⟨y0,hy0,t0⟩:=Lw (l:=l) (i:=x0.At) (by omega) (by omega);rw[hy1,hy0];simp only[Option.bind_some,Bg,t1,t0,e0,e1]
 rw[if_neg h6]
 by_cases h7:p.Op=7
 ·rw[if_neg (by rw[B8];simp;omega),if_neg (by rw[B8];simp;omega),if_pos h7];rfl
 rw[if_neg h7,if_pos (by rw[B8];simp;omega)];unfold EQ;rw[hx0];simp only[Option.bind_some];rw[e0];obtain⟨a,ha⟩:=Int.eq_ofNat_of_zero_le h0;obtain⟨n,hnn⟩:=Int.eq_ofNat_of_zero_le hlst.1;rw[ha];rw[IS (A:=Unit) (n:=n) (P:=Nk l p b s) (u:=()) 0 ?_ ?_ n a N (by omega) (by omega) (by omega),Od (by omega) (by omega) (by omega) hh hlst.2]
 ·cases Nb l p b s<;>rfl
 ·intro i _ hi
  have hil:i<l.length:=by omega
  have e:ar .add .i64 (i:Int) 1=i+1:=C4 (by omega) (by omega);rw[Hu hn (by omega),hx1];simp only[Option.bind_some];rw[if_pos (U2 (by omega)),TX hN (by omega),EF hil,EM hN (by omega)];simp only[Option.bind_some];rw[OW hN (by omega) gm.wf];simp only[Option.bind_some,e];rw[Ko hN (FM l (by omega) _) _ _ hc];simp only[Option.bind_some,N5,B8];unfold Nk;simp only[List.getElem?_eq_getElem hil];cases IZ s (i:Int)<;>by_cases ht:l[i].Typ=p.Typ<;>cases Dt (KB l (mrg b s) (i:Int)) p.Var l[i] p.cR<;>simp[ht]
 intro i hi;rw[Hu hn (by omega),hx1];simp only[Option.bind_some];rw[if_neg (P1 (by omega))]
theorem UY {N:Nat} (hN:40000000≤N) {l:List A8} (hl:l.length≤10) {p:A1} (hc:p.cR.bulk≤16777216) (hop:5≤p.Op∧p.Op≤7) {b s:List BD} (gb:Gd l (H6 b)) (gs:Gd l (H6 s)) (hn:s≠[]) (hd:Cb (H6 b) (H6 s)) (f:Bool):
 Q3 N ⟨l,f⟩ p b s=some (Dw l p (H6 b) (H6 s)):=by
 have lb:=gb.len;have ls:=gs.len
 rw[List.length_map]at lb ls
 have gm:=gb.mrg gs hd;have lm:=gm.len;have hnp:=Af9 hn;have hlst:=gs.lst hnp;obtain⟨h0,h1,h2,hh⟩:=gs.hd hnp;obtain⟨x0,hx0,e0⟩:=ZV hn;obtain⟨c,hj,ec⟩:=LJ (N:=N) (n:=l.length) (by omega) (by omega) (by omega) gb.asc gs.asc hd gb.wf.ins gs.wf.ins
 have lc:c.length≤10:=by have:=congrArg List.length ec;rw[List.length_map]at this;omega
 have wc:Sa l (H6 c):=by rw[ec];exact gm.wf
 unfold Q3 Dw;rw[hx0,Qo hn (by omega),hj];simp only[Option.bind_some,TV hN (show c.length≤1000000 by omega) wc,Qd hN (FM l (show(H6 c).length<1000000 by rw[List.length_map];omega) _) _ _ hc]
 by_cases h6:p.Op=6
 ·rw[if_pos (by rw[B8];exact decide_eq_true h6),if_pos h6];obtain⟨y1,hy1,t1⟩:=Lw (l:=l) (i:=Z0 (H6 s)) (by omega) (by omega);obtain⟨y0,hy0,t0⟩:=Lw (l:=l) (i:=x0.at_) (by omega) (by omega);rw[hy1,hy0];simp only[Option.bind_some,Bg,t1,t0,e0]
 rw[if_neg h6,if_neg (by rw[B8];simpa using h6)]
 by_cases h7:p.Op=7
 ·rw[if_pos (by rw[B8];exact decide_eq_true h7),if_pos h7,ec];rfl
 rw[if_neg h7,if_neg (by rw[B8];simpa using h7)];obtain⟨n,hnn⟩:=Int.eq_ofNat_of_zero_le hlst.1;obtain⟨a,ha⟩:=Int.eq_ofNat_of_zero_le h0;rw[e0,ha,C4 (a:=((a:Nat):Int)) (by omega) (by omega),show((a:Int)+1)=((a+1:Nat):Int) by omega];rw[IS (A:=Unit) (n:=n) (P:=Nk l p (H6 b) (H6 s)) (u:=()) 0 ?_ ?_ n (a+1) N (by omega) (by omega) (by omega),Od (by omega) (by omega) (by omega) hh hlst.2]
 ·cases Nb l p (H6 b) (H6 s)<;>rfl
 ·intro i _ hi
  have hil:i<l.length:=by omega
  have e:ar .add .i64 (i:Int) 1=i+1:=C4 (by omega) (by omega);rw[if_pos (U2 (by omega)),TU hN (by omega),EF hil,Jy hN (by omega) wc _ hc _ hil,ec];simp only[Option.bind_some,N5,B8,e];unfold Nk;simp only[List.getElem?_eq_getElem hil];cases IZ (H6 s) (i:Int)<;>by_cases ht:l[i].Typ=p.Typ<;>cases Dt (KB l (mrg (H6 b) (H6 s)) (i:Int)) p.Var l[i] p.cR<;>simp[ht]
 intro i hi;rw[if_neg (P1 (by omega))]
theorem Vx {N:Nat} (hN:40000000≤N) {a b:List PR} (ha:a.length≤1000000):Da N a b=some (decide (a=b)):=by
 unfold Da
 by_cases hlen:a.length=b.length
 ·rw [if_neg (by rw[G2,A9,A9];simp;omega)]
  have hz:(a.zip b).length=a.length:=by simp;omega
  rw [BY (l:=a.zip b) (fun q=> !(decide (q.1.Var=q.2.Var)&&decide (q.1.At=q.2.At))) (by omega) (by omega) (fun i x hx hi=>by
      have e:ar .add .i64 (i:Int) 1=i+1:=C4 (by omega) (by omega);obtain⟨hx1,hx2⟩:=List.getElem?_zip_eq_some.1 hx;rw[if_pos (P9 (by omega)),C5,hx1,C5,hx2];simp only[Option.bind_some,e,N5,K1,B8,Bool.and_true]
      split<;>rfl) (by rw[hz];simp[C1,A9])]
  have hiff:((a.zip b).any fun q=> !(decide (q.1.Var=q.2.Var)&&decide (q.1.At=q.2.At)))= !decide (a=b):=by
   induction a generalizing b with
   |nil=>cases b with
    |nil=>simp
    |cons y b=>simp at hlen
   | cons x a ih=>
    cases b with
    |nil=>simp at hlen
    |cons y b=>
     rw[List.zip_cons_cons,List.any_cons,ih (by simp at ha;omega) (by simpa using hlen) (by simp at hlen ⊢;omega)]
     have hxy:(x=y)↔(x.Var=y.Var∧x.At=y.At):=by cases x;cases y;simp
     rw[Bool.eq_iff_iff];simp only[List.cons.injEq,hxy,Bool.or_eq_true,Bool.not_eq_true',Bool.and_eq_false_iff,decide_eq_false_iff_not,not_and]
     by_cases h1:x.Var=y.Var<;>by_cases h2:x.At=y.At<;>simp[h1,h2]
  rw[hiff]
  by_cases he:a=b<;>simp[he]
 rw[if_pos (by rw[G2,A9,A9];simp;omega),decide_eq_false (fun e=>hlen (by rw[e]))]
end
end Go.Ab
namespace Go.Ab
open Classical
noncomputable section
theorem Xb {N:Nat} (hN:40000000≤N) {L:List (List PR)} {s:List PR} (hL:L.length≤1000000) (hl:∀x∈L,x.length≤1000000):S7 N L s=some (if s∈L then L else L++[s]):=by
 unfold S7
 rw [BY (l:=L) (fun x=>decide (x=s)) (by omega) (by omega) (fun i x hx hi=>by
     have e:ar .add .i64 (i:Int) 1=i+1:=C4 (by omega) (by omega);simp only[C1,A9,hi,decide_true,if_true,C5,hx,Option.bind_some,e,Vx hN (hl x (List.mem_of_getElem? hx))]
     split<;>rfl) (by simp[C1,A9])]
 have hiff:(L.any fun x=>decide (x=s))=decide (s∈L):=by
  rw[Bool.eq_iff_iff];simp
 rw[hiff]
 by_cases hs:s∈L
 ·rw[if_pos (decide_eq_true hs),if_pos hs];rfl
 rw[if_neg (by simpa using hs),if_neg hs];simp only[Option.bind_some];rw[M6 (by simp;omega)];rfl
def KQ (l:List A8)(p:A1)(b:List PR)(i:Nat):Bool:=match l[i]? with|some e=>decide (e.Typ=p.Typ)&&Dt (KB l b i) p.Var e p.cR|none=>false
theorem Vl {N:Nat} (hN:40000000≤N) {l:List A8} (hl:l.length≤10) {p:A1} (hc:p.cR.bulk≤16777216) {b:List BD} (gb:Gd l (H6 b)) (f:Bool) {i:Nat} (hi:i≤l.length):
 K0 N ⟨l,f⟩ p b (i:Int)=some (Sp (KQ l p (H6 b)) (fun j=>[(⟨p.Var,(j:Int)⟩:BD)]) (l.length - i) i):=by
 have lb:=gb.len
 rw[List.length_map]at lb
 unfold K0 S3
 have h:=Rm (β:=List BD) (A:=Unit) (n:=l.length) (T:=KQ l p (H6 b)) (g:=fun j=>[(⟨p.Var,(j:Int)⟩:BD)]) (u:=()) (step:=(fun(s1:Int)=>
  (
   if cmp .lss s1 (Ar.len (⟨l,f⟩:B3).cY)=true then
    (B6 (⟨l,f⟩:B3).cY s1).bind fun x7=>
    if cmp .eql x7.Typ p.Typ=true then
     (G9 N ⟨l,f⟩ p.cR b p.Var s1).bind fun r8=>
     if r8=true then
      N6 (some ([[(⟨p.Var,s1⟩:A0)]],())) fun _=>
      some ([],.inl (ar .add .i64 s1 1))
     else
      some ([],.inl (ar .add .i64 s1 1))
    else
     some ([],.inl (ar .add .i64 s1 1))
   else
    some ([],.inr ())
   :Option (List (List A0)×((Int) ⊕ (Unit)))))) ?_ ?_ (l.length - i) i N (by omega) (by omega)
 ·rw[h];simp[N6]
 ·intro j hj;have e:ar .add .i64 (j:Int) 1=j+1:=C4 (by omega) (by omega);rw[if_pos (U2 (by rw[A9];show(j:Int)<(l.length:Int);omega))]
  show((B6 l (j:Int)).bind _)=_
  rw[EF hj,Jy hN (by omega) gb.wf _ hc _ hj,e];simp only[Option.bind_some,B8,N6];unfold KQ;simp only[List.getElem?_eq_getElem hj]
  by_cases ht:l[j].Typ=p.Typ<;>cases Dt (KB l (H6 b) (j:Int)) p.Var l[j] p.cR<;>simp[ht]
 rw[if_neg S9]
theorem Vw {N:Nat} (hN:40000000≤N) {l:List A8} (hl:l.length≤10) {p:A1} (hc:p.cR.bulk≤16777216) {b:List PR} (gb:Gd l b) {i:Nat} (hi:i≤l.length):
 CZ N p l b (i:Int)=some (Sp (KQ l p b) (fun j=>[(⟨p.Var,(j:Int)⟩:PR)]) (l.length - i) i):=by
 have lb:=gb.len;unfold CZ;rw[Rk (β:=List PR) (n:=l.length) (mk:=fun out i=>(out,i)) (T:=KQ l p b) (g:=fun j=>[(⟨p.Var,(j:Int)⟩:PR)]) ?_ ?_ (l.length - i) i N [] (by omega) (by omega) (by simp)]
 ·rfl
 ·intro out j ho hj;have e:ar .add .i64 (j:Int) 1=j+1:=C4 (by omega) (by omega)
  dsimp only
  rw[if_pos (P9 (by omega)),EF hj,OW hN (by omega) gb.wf,e];simp only[Option.bind_some];rw[Ko hN (FM l (by omega) _) _ _ hc,M6 (by simp;omega)];simp only[Option.bind_some,B8];unfold KQ;simp only[List.getElem?_eq_getElem hj]
  by_cases ht:l[j].Typ=p.Typ<;>cases Dt (KB l b (j:Int)) p.Var l[j] p.cR<;>simp[ht]
 intro out
 dsimp only
 rw[if_neg S9]
def Sq (x:PR):List UInt8:=V6 x.Var.toNat++64::(V6 x.At.toNat++[32])
def IX (s:List PR):List UInt8:=s.flatMap Sq
def Gt (l:List UInt8):List Int:=l.map fun b=>(b.toNat:Int)
theorem Ae9 {n:Int}(h0:0≤n)(h1:n<1000):Ar.wr .i64 n=n:=An (by omega) (by omega)
theorem Ae8 {n:Int} (h0:0≤n) (h1:n<1000):Ar.wr .u64 n=n:=by
 have e:IntKind.wrap .u64 n=n % 18446744073709551616:=by
  unfold IntKind.wrap;simp[IntKind.bits,IntKind.signed]
 exact e.trans (by omega)
theorem Ka {N:Nat} {d:List Int} (hd:d.length≤1000000) {i:Int} (h0:0≤i) (h1:i<100):G1 N d i 10=some (d++Gt (V6 i.toNat)):=by
 unfold G1 Y2 V5 Fj;rw[if_neg (P1 (by omega)),Ae8 h0 (by omega),if_pos (show cmp .eql 10 10=true by rfl),if_pos (U2 h1),Ae9 h0 (by omega)]
 have hs:LY i=some ⟨(V6 i.toNat).toArray⟩:=by
  unfold LY;rw[if_pos (by simp;omega)]
 rw[hs];simp only[Option.bind_some]
 have hl:(V6 i.toNat).length≤2:=by unfold V6;split<;>simp
 rw[M6 (by simp[KH];omega)];rfl
theorem YT (x:PR):(Sq x).length≤6:=by
 have h:∀i,(V6 i).length≤2:=fun i=>by unfold V6;split<;>simp
 have:=h x.Var.toNat;have:=h x.At.toNat;simp[Sq];omega
theorem Uu :∀s:List PR,(IX s).length≤6*s.length
 |[]=>by simp[IX]
 |x::s=>by
  have:=Uu s;have:=YT x
  simp only[IX,List.flatMap_cons,List.length_append,List.length_cons]at *
  omega
theorem YW {N:Nat} (hN:40000000≤N) {l:List A8} (hl:l.length≤10) {s:List BD} (hs:s.length≤1000) (hw:Sa l (H6 s)):M3 N s=TR (Gt (IX (H6 s))):=by
 unfold M3;rw[F2 s (by omega) (mk:=fun(out:List Int) i=>(i,out)) (body:=fun out x=>(G1 N out x.cU 10).bind fun l6=>(I3 l6 [64]).bind fun l90=>(G1 N l90 x.at_ 10).bind fun l209=>(I3 l209 [32]).bind fun l290=>some (.inl l290)) (fin:=fun s=>s) (s:=[]) (by omega) ?_ ?_]
 ·obtain⟨s',h1,p,h2,h3⟩:=W5 (R:=List Int) (step:=fun out x=>(G1 N out x.cU 10).bind fun l6=>(I3 l6 [64]).bind fun l90=>(G1 N l90 x.at_ 10).bind fun l209=>(I3 l209 [32]).bind fun l290=>some (.inl l290))
   (fun r out=>∃p,p++r=s∧out=Gt (IX (H6 p))) (fun x r out ⟨p,e1,e2⟩=>by
    subst e2
    have hx:x∈s:=by rw[←e1];simp
    obtain⟨⟨v0,v1⟩,a0,a1⟩:=hw (pr x) (List.mem_map.2 ⟨x,hx,rfl⟩);have hv0:0≤x.cU:=v0;have hv1:x.cU<16:=v1;have ha0:0≤x.at_:=a0;have ha1:x.at_<l.length:=a1
    have hp:p.length≤1000:=by have:=congrArg List.length e1;simp at this;omega
    have hk:(Gt (IX (H6 p))).length≤6000:=by
     have:=Uu (H6 p)
     rw[List.length_map]at this
     simp[Gt];omega
    have hsm:∀i,(Gt (V6 i)).length≤2:=fun i=>by simp only[Gt,List.length_map];unfold V6;split<;>simp
    have:=hsm x.cU.toNat;have:=hsm x.at_.toNat;refine⟨Gt (IX (H6 p))++Gt (V6 x.cU.toNat)++[64]++Gt (V6 x.at_.toNat)++[32],?_,p++[x],by simpa using e1,?_⟩
    ·rw[Ka (by omega) hv0 (by omega)];simp only[Option.bind_some];rw[M6 (by simp only[List.length_append,List.length_cons,List.length_nil];omega)];simp only[Option.bind_some];rw[Ka (by simp only[List.length_append,List.length_cons,List.length_nil];omega) ha0 (by omega)];simp only[Option.bind_some];rw[M6 (by simp only[List.length_append,List.length_cons,List.length_nil];omega)];rfl
    simp[Gt,IX,Sq,H6,pr]) (l:=s) (s:=[]) ⟨[],rfl,rfl⟩
  rw[h1];simp only[Option.bind_some]
  rw[append_nil]at h2
  rw[h3,h2];cases TR (Gt (IX (H6 s)))<;>rfl
 ·intro out i x hx hi;have e:ar .add .i64 (i:Int) 1=i+1:=C4 (by omega) (by omega);simp only[C1,A9,hi,decide_true,if_true,C5,hx,Option.bind_some,e]
  cases G1 N out x.cU 10 with
  |none=>rfl
  | some a=>
   simp only[Option.bind_some]
   cases I3 a [64]with
   |none=>rfl
   | some b=>
    simp only[Option.bind_some]
    cases G1 N b x.at_ 10 with
    |none=>rfl
    |some c=>
     simp only[Option.bind_some];cases I3 c [32]<;>rfl
 intro s;simp[C1,A9]
theorem MF {m:UInt8}:∀{a b r q:List UInt8},m∉a→m∉b→a++m::r=b++m::q→a=b∧r=q
 |[],[],r,q,_,_,h=>⟨rfl,by simpa using h⟩
 |[],y::b,r,q,_,hb,h=>by simp at h;exact absurd h.1 (by intro e;exact hb (by simp[e]))
 |x::a,[],r,q,ha,_,h=>by simp at h;exact absurd h.1 (by intro e;exact ha (by simp[←e]))
 |x::a,y::b,r,q,ha,hb,h=>by
  simp only[List.cons_append,List.cons.injEq]at h
  have:=MF (fun e=>ha (by simp[e])) (fun e=>hb (by simp[e])) h.2;exact⟨by rw[h.1,this.1],this.2⟩
theorem EO {i:Nat}(h:i<100):(64:UInt8)∉V6 i∧(32:UInt8)∉V6 i:=by
 have:∀i<100,(64:UInt8)∉V6 i∧(32:UInt8)∉V6 i:=by decide
 exact this i h
theorem NI {i j:Nat}(hi:i<16)(hj:j<16)(h:V6 i=V6 j):i=j:=by
 have:∀i<16,∀j<16,V6 i=V6 j→i=j:=by decide
 exact this i hi j hj h
theorem Mf {l:List A8} (hl:l.length≤10):∀{a b:List PR},Sa l a→Sa l b→IX a=IX b→a=b
 |[],[],_,_,_=>rfl
 |[],y::b,_,_,h=>by simp[IX,Sq]at h
 |x::a,[],_,_,h=>by simp[IX,Sq]at h
 | x::a,y::b,ha,hb,h=>by
  obtain⟨⟨v0,v1⟩,a0,a1⟩:=ha x (by simp);obtain⟨⟨w0,w1⟩,b0,b1⟩:=hb y (by simp);obtain⟨m1,m2⟩:=EO (i:=x.Var.toNat) (by omega);obtain⟨m3,m4⟩:=EO (i:=x.At.toNat) (by omega);obtain⟨n1,n2⟩:=EO (i:=y.Var.toNat) (by omega);obtain⟨n3,n4⟩:=EO (i:=y.At.toNat) (by omega)
  simp only[IX,List.flatMap_cons,Sq,List.append_assoc,List.cons_append,List.nil_append]at h
  obtain⟨e1,e2⟩:=MF m1 n1 h;obtain⟨e3,e4⟩:=MF m4 n4 e2;have i1:=NI (by omega) (by omega) e1;have i2:=NI (by omega) (by omega) e3
  have hxy:x=y:=by
   cases x;cases y
   simp only[A2.mk.injEq]at *
   omega
  rw[hxy,Mf hl (fun z hz=>ha z (by simp[hz])) (fun z hz=>hb z (by simp[hz])) e4]
end
end Go.Ab
namespace Go.Ab
open Classical
noncomputable section
structure WfN (y:A1):Prop where
 op:0≤y.Op∧y.Op≤7
 var:y.Op=0→0≤y.Var∧y.Var<16
 a0:y.Op=0→y.cP=[]
 a1:1≤y.Op→y.Op≤3→y.cP≠[]
 a2:4≤y.Op→∃q,y.cP=[q]
 cond:y.cR.bulk≤16777216
def GG (p:A1):Prop:=∀y∈p.pre,WfN y
theorem UP {N:Nat} (hN:40000000≤N) {x:A1} (hb:x.bulk≤16777216) (h:RI N x=0):GG x∧x.pre.length≤64:=by
 unfold RI at h
 by_cases hr:O6 N x=0
 ·rw [if_neg (by simpa using hr)]at h
  by_cases ha:x.pre.any (fun y=>cmp .geq y.Op 8)=true
  ·rw[if_pos ha]at h;cases h
  obtain⟨hp,hd,hg⟩:=HP hr;refine⟨fun y hy=>?_,hp⟩;have h1:=EW x y hy;have h2:=BF y
  have hyb:y.bulk≤16777216:=by omega
  have hyl:y.cP.length≤64:=by omega
  obtain⟨ho,s,ng,hs,hc⟩:=Mx hN hyb hyl (hg y hy)
  have h7:y.Op≤7:=by
   rw[Bool.not_eq_true,List.any_eq_false]at ha
   have:=ha y hy
   rw[J1]at this
   simp at this;omega
  have hz:=Ac5 hN N y.cR (⟨0,[],0,0,0,(⟨0,0,⟨#[]⟩⟩:A5)⟩:B1) (by omega) (by omega);have h1:=Gs hN (by omega) ho.1 ho.2 hs hz
  rw[(DX hN hyb hyl).2,hg y hy]at h1
  have h1:=Option.some.inj h1
  by_cases har:s.cV≤y.cP.length∧(y.cP.length:Int)≤s.most
  ·rw[if_pos har]at h1
   unfold IL at h1
   by_cases e1:Dn s.cS y.Typ 15=true
   ·rw[if_pos e1]at h1;cases h1
   rw[if_neg e1]at h1
   by_cases e2:Dn s.cS y.Var 15=true
   ·rw[if_pos e2]at h1;cases h1
   have ht:=hs.tab
   have hop:y.Op=0∨y.Op=1∨y.Op=2∨y.Op=3∨y.Op=4∨y.Op=5∨y.Op=6∨y.Op=7:=by omega
   refine⟨⟨ho.1,h7⟩,?_,?_,?_,?_,by omega⟩
   ·intro h0
    rw[h0]at ht
    have hs:s.cS=true:=by cases ht;rfl
    rw[hs]at e2
    unfold Dn at e2
    simp at e2
    omega
   ·intro h0
    rw[h0]at ht
    have hm:s.most=0:=by cases ht;rfl
    exact List.eq_nil_of_length_eq_zero (by omega)
   ·intro h0 h3
    have hm:1≤s.cV:=by
     have:y.Op=1∨y.Op=2∨y.Op=3:=by omega
     rcases this with h|h|h<;>rw[h]at ht<;>cases ht<;>decide
    intro e
    rw[e]at har
    simp at har;omega
   intro h0
   have hm:s.cV=1∧s.most=1:=by
    have:y.Op=4∨y.Op=5∨y.Op=6∨y.Op=7:=by omega
    rcases this with h|h|h|h<;>rw[h]at ht<;>cases ht<;>decide
   have hl:y.cP.length=1:=by omega
   match he:y.cP,hl with
   |[q],_=>exact⟨q,rfl⟩
  rw[if_neg har]at h1;cases h1
 rw[if_pos (show O6 N x≠0 from hr)]at h;exact absurd h hr
theorem Ah {y : A1}:∀{l:List A1},y∈A1.pres l↔∃a∈l,y∈a.pre
 |[]=>by simp[A1.pres]
 | a :: l => by simp only[A1.pres,List.mem_append,Ah (l:=l),List.mem_cons];constructor
                ·rintro(h|⟨b,h1,h2⟩)
                 ·exact⟨a,.inl rfl,h⟩
                 exact⟨b,.inr h1,h2⟩
                rintro⟨b,rfl|h1,h2⟩
                ·exact .inl h2
                exact .inr ⟨b,h1,h2⟩
theorem GG.self {p:A1}(h:GG p):WfN p:=h p (Jx p)
theorem GG.arg {p q:A1}(h:GG p)(hq:q∈p.cP):GG q:=fun y hy=>h y (by rw[A1.pre_eq];exact List.mem_cons_of_mem _ (Ah.2 ⟨q,hq,hy⟩))
theorem GG.sub {p:A1}{r:List A1}(h:GG p)(h1:1≤p.Op)(h3:p.Op≤3)(hr:∀q∈r,q∈p.cP)(hn:r≠[]):GG {p with cP:=r}:=by
 intro y hy
 rw[A1.pre_eq]at hy
 rcases List.mem_cons.1 hy with rfl|hy
 ·exact⟨h.self.op,fun e=>by have:p.Op=0:=e;omega,fun e=>by have:p.Op=0:=e;omega,fun _ _=>hn,fun e=>by have:4≤p.Op:=e;omega,h.self.cond⟩
 obtain⟨q,hq,hy⟩:=Ah.1 hy;exact h.arg (hr q hq) y hy
inductive Sm (l:List A8):A1→List PR→Int→List PR→Prop
 |ev {p:A1} {b:List PR} {f:Int} {j:Nat}:p.Op=0→f≤j→j<l.length→KQ l p b j=true→Sm l p b f [⟨p.Var,j⟩]
 |seq1 {p q:A1} {b:List PR} {f:Int} {s:List PR}:p.Op=1→p.cP=[q]→Sm l q b f s→Sm l p b f s
 |seq {p q q':A1} {r:List A1} {b:List PR} {f:Int} {s t:List PR}:p.Op=1→p.cP=q::q'::r→Sm l q b f s→Sm l {p with cP:=q'::r} (mrg b s) (Z0 s+1) t→Sm l p b f (mrg s t)
 |alt {p q:A1} {b:List PR} {f:Int} {s:List PR}:p.Op=2→q∈p.cP→Sm l q b f s→Sm l p b f s
 |all1 {p q:A1} {b:List PR} {f:Int} {s:List PR}:p.Op=3→p.cP=[q]→Sm l q b f s→Sm l p b f s
 |all {p q:A1} {r:List A1} {b:List PR} {f:Int} {s t:List PR}:p.Op=3→p.cP=r++[q]→r≠[]→Sm l {p with cP:=r} b f s→Sm l q b f t→Cb s t→Sm l p b f (mrg s t)
 |plus1 {p q:A1} {b:List PR} {f:Int} {s:List PR}:p.Op=4→p.cP=[q]→Sm l q b f s→Sm l p b f s
 |plus {p q:A1} {b:List PR} {f:Int} {s t:List PR}:p.Op=4→p.cP=[q]→Sm l q b f s→Sm l p (mrg b s) (Z0 s+1) t→Sm l p b f (mrg s t)
 |some {p q:A1} {b:List PR} {f:Int} {s:List PR}:5≤p.Op→p.Op≤7→p.cP=[q]→Sm l q b f s→Dw l p b s=true→Sm l p b f s
theorem Sm.i0 {l:List A8} {p:A1} {b:List PR} {f:Int} {s:List PR} (h0:p.Op=0):Sm l p b f s↔∃j:Nat,f≤j∧j<l.length∧KQ l p b j=true∧s=[⟨p.Var,j⟩]:=by
 constructor
 ·intro h
  cases h with
  |ev e0 e1 e2 e3=>exact⟨_,e1,e2,e3,rfl⟩
  |_=>omega
 rintro⟨j,e1,e2,e3,rfl⟩;exact .ev h0 e1 e2 e3
theorem Sm.i1 {l:List A8} {p q:A1} {b:List PR} {f:Int} {s:List PR} (h0:p.Op=1) (ha:p.cP=[q]):Sm l p b f s↔Sm l q b f s:=by
 constructor
 ·intro h
  cases h with
  |seq1 e0 ea hs=>rw[ha]at ea;cases ea;exact hs
  |seq e0 ea hs ht=>rw[ha]at ea;cases ea
  |_=>omega
 exact .seq1 h0 ha
theorem Sm.i1c {l:List A8} {p q q':A1} {r:List A1} {b:List PR} {f:Int} {s:List PR} (h0:p.Op=1) (ha:p.cP=q::q'::r):Sm l p b f s↔∃u t,Sm l q b f u∧Sm l {p with cP:=q'::r} (mrg b u) (Z0 u+1) t∧s=mrg u t:=by
 constructor
 ·intro h
  cases h with
  |seq1 e0 ea hs=>rw[ha]at ea;cases ea
  |seq e0 ea hs ht=>rw[ha]at ea;cases ea;exact⟨_,_,hs,ht,rfl⟩
  |_=>omega
 rintro⟨u,t,hs,ht,rfl⟩;exact .seq h0 ha hs ht
theorem Sm.i2 {l:List A8} {p:A1} {b:List PR} {f:Int} {s:List PR} (h0:p.Op=2):Sm l p b f s↔∃q∈p.cP,Sm l q b f s:=by
 constructor
 ·intro h
  cases h with
  |alt e0 ea hs=>exact⟨_,ea,hs⟩
  |_=>omega
 rintro⟨q,ha,hs⟩;exact .alt h0 ha hs
theorem Sm.i3 {l:List A8} {p q:A1} {b:List PR} {f:Int} {s:List PR} (h0:p.Op=3) (ha:p.cP=[q]):Sm l p b f s↔Sm l q b f s:=by
 constructor
 ·intro h
  cases h with
  |all1 e0 ea hs=>rw[ha]at ea;cases ea;exact hs
  |all e0 ea en hs ht hd=>
   rw[ha]at ea
   exact absurd (List.append_inj_left' (s₁:=[]) ea rfl).symm en
  |_=>omega
 exact .all1 h0 ha
theorem Sm.i3c {l:List A8} {p q:A1} {r:List A1} {b:List PR} {f:Int} {s:List PR} (h0:p.Op=3) (ha:p.cP=r++[q]) (hr:r≠[]):Sm l p b f s↔∃u t,Sm l {p with cP:=r} b f u∧Sm l q b f t∧Cb u t∧s=mrg u t:=by
 constructor
 ·intro h
  cases h with
  |all1 e0 ea hs=>
   rw[ha]at ea
   exact absurd (List.append_inj_left' (s₂:=[]) ea rfl) hr
  |all e0 ea en hs ht hd=>
   rw[ha]at ea
   have e1:=List.append_inj_left' ea rfl;have e2:=List.append_inj_right' ea rfl;cases e1;cases e2;exact⟨_,_,hs,ht,hd,rfl⟩
  |_=>omega
 rintro⟨u,t,hs,ht,hd,rfl⟩;exact .all h0 ha hr hs ht hd
theorem Sm.i4 {l:List A8} {p q:A1} {b:List PR} {f:Int} {s:List PR} (h0:p.Op=4) (ha:p.cP=[q]):Sm l p b f s↔Sm l q b f s∨∃u t,Sm l q b f u∧Sm l p (mrg b u) (Z0 u+1) t∧s=mrg u t:=by
 constructor
 ·intro h
  cases h with
  |plus1 e0 ea hs=>rw[ha]at ea;cases ea;exact .inl hs
  |plus e0 ea hs ht=>rw[ha]at ea;cases ea;exact .inr ⟨_,_,hs,ht,rfl⟩
  |_=>omega
 rintro(hs|⟨u,t,hs,ht,rfl⟩)
 ·exact .plus1 h0 ha hs
 exact .plus h0 ha hs ht
theorem Sm.i5 {l:List A8} {p q:A1} {b:List PR} {f:Int} {s:List PR} (h0:5≤p.Op) (h1:p.Op≤7) (ha:p.cP=[q]):Sm l p b f s↔Sm l q b f s∧Dw l p b s=true:=by
 constructor
 ·intro h
  cases h with
  |some e0 e1 ea hs hk=>rw[ha]at ea;cases ea;exact⟨hs,hk⟩
  |_=>omega
 rintro⟨hs,hk⟩;exact .some h0 h1 ha hs hk
structure Iv (l:List A8) (b:List PR) (f:Int):Prop where
 gd:Gd l b
 lt:∀x∈b,x.At<f
 f0:0≤f
 f1:f≤l.length
structure Kd (l:List A8) (f:Int) (s:List PR):Prop where
 gd:Gd l s
 ge:∀x∈s,f≤x.At
 ne:s≠[]
theorem Iv.apart {l:List A8}{b s:List PR}{f:Int}(h:Iv l b f)(r:Kd l f s):Cb b s:=fun x hx y hy=>by have:=h.lt x hx;have:=r.ge y hy;omega
theorem Iv.next {l:List A8}{b s:List PR}{f:Int}(h:Iv l b f)(r:Kd l f s):Iv l (mrg b s) (Z0 s+1):=by
 have hl:=r.gd.lst r.ne;refine⟨h.gd.mrg r.gd (h.apart r),fun x hx=>?_,by omega,by omega⟩
 rcases CV.1 hx with hx|hx
 ·obtain⟨y,_,hy,e⟩:=DY r.ne;have:=h.lt x hx;have:=r.ge y hy;omega
 have:=Nl r.gd.asc x hx;omega
theorem Kd.seq {l:List A8} {s t:List PR} {f:Int} (r:Kd l f s) (q:Kd l (Z0 s+1) t):Kd l f (mrg s t)∧Cb s t:=by
 have ha:Cb s t:=fun x hx y hy=>by have:=Nl r.gd.asc x hx;have:=q.ge y hy;omega
 refine⟨⟨r.gd.mrg q.gd ha,fun x hx=>?_,fun e=>?_⟩,ha⟩
 ·rcases CV.1 hx with hx|hx
  ·exact r.ge x hx
  obtain⟨y,_,hy,e⟩:=DY r.ne;have:=r.ge y hy;have:=q.ge x hx;omega
 have h1:=congrArg List.length e
 rw[Ul,List.length_nil]at h1
 have:=List.length_pos_iff.2 r.ne;omega
theorem Kd.all {l:List A8}{s t:List PR}{f:Int}(r:Kd l f s)(q:Kd l f t)(ha:Cb s t):Kd l f (mrg s t):=by
 refine⟨r.gd.mrg q.gd ha,fun x hx=>(CV.1 hx).elim (r.ge x) (q.ge x),fun e=>?_⟩;have h1:=congrArg List.length e
 rw[Ul,List.length_nil]at h1
 have:=List.length_pos_iff.2 r.ne;omega
theorem Sm.res {l:List A8} {p:A1} {b:List PR} {f:Int} {s:List PR} (h:Sm l p b f s):GG p→Iv l b f→Kd l f s:=by
 induction h with
 |@ev p b f j h0 hf hj ht=>
  intro hw ho;refine⟨⟨fun x hx=>?_,List.pairwise_singleton _ _⟩,fun x hx=>?_,by simp⟩
  ·rw[List.mem_singleton.1 hx];exact⟨hw.self.var h0,by show 0≤(j:Int)∧(j:Int)<l.length;omega⟩
  rw[List.mem_singleton.1 hx];exact hf
 |seq1 h0 ha _ ih=>intro hw ho;exact ih (hw.arg (by rw[ha];simp)) ho
 |@seq p q q' r b f s t h0 ha _ _ ih1 ih2=>
  intro hw ho;have r1:=ih1 (hw.arg (by rw[ha];simp)) ho;have r2:=ih2 (hw.sub (by omega) (by omega) (fun x hx=>by rw[ha];exact List.mem_cons_of_mem _ hx) (by simp)) (ho.next r1);exact(r1.seq r2).1
 |alt h0 ha _ ih=>intro hw ho;exact ih (hw.arg ha) ho
 |all1 h0 ha _ ih=>intro hw ho;exact ih (hw.arg (by rw[ha];simp)) ho
 |@all p q r b f s t h0 ha hn _ _ hd ih1 ih2=>
  intro hw ho;exact(ih1 (hw.sub (by omega) (by omega) (fun x hx=>by rw[ha];simp[hx]) hn) ho).all (ih2 (hw.arg (by rw[ha];simp)) ho) hd
 |plus1 h0 ha _ ih=>intro hw ho;exact ih (hw.arg (by rw[ha];simp)) ho
 |@plus p q b f s t h0 ha _ _ ih1 ih2=>
  intro hw ho;have r1:=ih1 (hw.arg (by rw[ha];simp)) ho;exact(r1.seq (ih2 hw (ho.next r1))).1
 |some h0 h1 ha _ _ ih=>intro hw ho;exact ih (hw.arg (by rw[ha];simp)) ho
def Vs (p:A1)(v:Int):Prop:=∃y∈p.pre,y.Op=0∧y.Var=v
theorem Vs.arg {p q:A1}{v:Int}(hq:q∈p.cP)(h:Vs q v):Vs p v:=by
 obtain⟨y,hy,h⟩:=h;exact⟨y,by rw[A1.pre_eq];exact List.mem_cons_of_mem _ (Ah.2 ⟨q,hq,hy⟩),h⟩
theorem Vs.sub {p:A1}{r:List A1}{v:Int}(h0:p.Op≠0)(hr:∀q∈r,q∈p.cP)(h:Vs {p with cP:=r} v):Vs p v:=by
 obtain⟨y,hy,h1,h2⟩:=h
 rw[A1.pre_eq]at hy
 rcases List.mem_cons.1 hy with rfl|hy
 ·exact absurd h1 h0
 obtain⟨q,hq,hy⟩:=Ah.1 hy;exact Vs.arg (hr q hq) ⟨y,hy,h1,h2⟩
theorem Sm.vars {l:List A8} {p:A1} {b:List PR} {f:Int} {s:List PR} (h:Sm l p b f s):∀x∈s,Vs p x.Var:=by
 induction h with
 |@ev p b f j h0 hf hj ht=>intro x hx;rw[List.mem_singleton.1 hx];exact⟨p,Jx p,h0,rfl⟩
 |seq1 h0 ha _ ih=>intro x hx;exact Vs.arg (by rw[ha];simp) (ih x hx)
 |@seq p q q' r b f s t h0 ha _ _ ih1 ih2=>
  intro x hx
  rcases CV.1 hx with hx|hx
  ·exact Vs.arg (by rw[ha];simp) (ih1 x hx)
  exact Vs.sub (by omega) (fun x hx=>by rw[ha];exact List.mem_cons_of_mem _ hx) (ih2 x hx)
 |alt h0 ha _ ih=>intro x hx;exact Vs.arg ha (ih x hx)
 |all1 h0 ha _ ih=>intro x hx;exact Vs.arg (by rw[ha];simp) (ih x hx)
 |@all p q r b f s t h0 ha hn _ _ hd ih1 ih2=>
  intro x hx
  rcases CV.1 hx with hx|hx
  ·exact Vs.sub (by omega) (fun x hx=>by rw[ha];simp[hx]) (ih1 x hx)
  exact Vs.arg (by rw[ha];simp) (ih2 x hx)
 |plus1 h0 ha _ ih=>intro x hx;exact Vs.arg (by rw[ha];simp) (ih x hx)
 |@plus p q b f s t h0 ha _ _ ih1 ih2=>
  intro x hx
  rcases CV.1 hx with hx|hx
  ·exact Vs.arg (by rw[ha];simp) (ih1 x hx)
  exact ih2 x hx
 |some h0 h1 ha _ _ ih=>intro x hx;exact Vs.arg (by rw[ha];simp) (ih x hx)
end
end Go.Ab
namespace Go.Ab
open Classical
noncomputable section
def Fa (p:A1):Nat:=p.pre.countP fun y=>decide (y.Op=0)
def CQ (p:A1):Prop:=∀y∈p.pre,y.Op≠4
theorem Fp (p:A1):Fa p=(if p.Op=0 then 1 else 0)+(A1.pres p.cP).countP fun y=>decide (y.Op=0):=by
 unfold Fa;rw[A1.pre_eq,List.countP_cons]
 by_cases h:p.Op=0<;>simp[h]<;>omega
theorem JO (p:A1)(r:List A1):Fa {p with cP:=r}=(if p.Op=0 then 1 else 0)+(A1.pres r).countP fun y=>decide (y.Op=0):=Fp _
theorem Lg {q:A1}:∀{l:List A1},q∈l→Fa q≤(A1.pres l).countP fun y=>decide (y.Op=0)
 |a::l,h=>by
  simp only[A1.pres,countP_append]
  rcases List.mem_cons.1 h with rfl|h
  ·exact Nat.le_add_right _ _
  have:=Lg h;unfold Fa at *;omega
theorem Ia {p q:A1}(h:q∈p.cP):Fa q≤Fa p:=by rw[Fp p];have:=Lg h;omega
theorem CQ.arg {p q:A1}(h:CQ p)(hq:q∈p.cP):CQ q:=fun y hy=>h y (by rw[A1.pre_eq];exact List.mem_cons_of_mem _ (Ah.2 ⟨q,hq,hy⟩))
theorem CQ.sub {p:A1}{r:List A1}(h:CQ p)(hr:∀q∈r,q∈p.cP):CQ {p with cP:=r}:=by
 intro y hy
 rw[A1.pre_eq]at hy
 rcases List.mem_cons.1 hy with rfl|hy
 ·exact h p (Jx p)
 obtain⟨q,hq,hy⟩:=Ah.1 hy;exact h.arg (hr q hq) y hy
def Ji (n:Nat)(p:A1):Prop:=(Fa p+1) ^ n≤1500∨(CQ p∧2≤n∧n ^ Fa p≤1500)
theorem Ji.mono {n:Nat}{p q:A1}(h:Ji n p)(h1:Fa q≤Fa p)(h2:CQ p→CQ q):Ji n q:=by
 rcases h with h|⟨a,b,c⟩
 ·exact .inl (Nat.le_trans (Nat.pow_le_pow_left (by omega) n) h)
 exact .inr ⟨h2 a,b,Nat.le_trans (Nat.pow_le_pow_right (by omega) h1) c⟩
theorem Ji.arg {n:Nat}{p q:A1}(h:Ji n p)(hq:q∈p.cP):Ji n q:=h.mono (Ia hq) fun k=>k.arg hq
theorem Ji.tail {n:Nat}{p q:A1}{r:List A1}(h:Ji n p)(ha:p.cP=q::r):Ji n {p with cP:=r}:=by
 refine h.mono ?_ fun k=>k.sub fun x hx=>by rw[ha];exact List.mem_cons_of_mem _ hx
 rw[JO,Fp,ha];simp only[A1.pres,countP_append];omega
theorem BW :∀(r m:List A1),A1.pres (r++m)=A1.pres r++A1.pres m
 |[],m=>by simp[A1.pres]
 |a::r,m=>by simp[A1.pres,BW r m]
def HB (V:List Int):Nat→Int→List (List PR)
 |0,_=>[[]]
 |m+1,k=>HB V m (k+1)++V.flatMap fun v=>(HB V m (k+1)).map fun s=>⟨v,k⟩::s
theorem KC (V:List Int):∀(m:Nat) (k:Int),(HB V m k).length=(V.length+1) ^ m
 |0,_=>rfl
 | m+1,k=>by
  have ih:=KC V m (k+1)
  have h:(V.flatMap fun v=>(HB V m (k+1)).map fun s=>(⟨v,k⟩:PR)::s).length=V.length*(V.length+1) ^ m:=by
   clear ih;generalize hE:HB V m (k+1)=E
   have hl:E.length=(V.length+1) ^ m:=by rw[←hE];exact KC V m (k+1)
   rw[←hl];clear hl hE
   induction V with
   |nil=>simp
   |cons v V ih=>rw[List.flatMap_cons,List.length_append,ih,List.length_map,List.length_cons,Nat.succ_mul];omega
  rw[HB,List.length_append,ih,h,Nat.pow_succ];rw[Nat.mul_comm _ (V.length+1),Nat.succ_mul];omega
theorem Ib (V:List Int):∀(m:Nat) (k:Int) (s:List PR),Wu s→(∀x∈s,k≤x.At∧x.At<k+m)→(∀x∈s,x.Var∈V)→s∈HB V m k
 |0,k,[],_,_,_=>by simp[HB]
 |0,k,x::s,_,h,_=>by have:=h x (by simp);omega
 |m+1,k,[],ha,_,_=>by
  rw[HB];exact List.mem_append_left _ (Ib V m (k+1) [] ha (by simp) (by simp))
 | m+1,k,x::s,ha,h,hv=>by
  rw[HB];have ha':=ha
  unfold Wu at ha
  rw[List.pairwise_cons]at ha
  have hx:=h x (by simp)
  by_cases e:x.At=k
  ·refine List.mem_append_right _ (List.mem_flatMap.2 ⟨x.Var,hv x (by simp),List.mem_map.2 ⟨s,Ib V m (k+1) s ha.2 (fun y hy=>?_) (fun y hy=>hv y (by simp[hy])),?_⟩⟩)
   ·have:=ha.1 y hy;have:=h y (by simp[hy]);omega
   rw[←e]
  refine List.mem_append_left _ (Ib V m (k+1) (x::s) ha' (fun y hy=>?_) hv);have:=h y hy
  rcases List.mem_cons.1 hy with rfl|hy
  ·omega
  have:=ha.1 y hy;omega
def TK (p:A1):List Int:=(p.pre.filter fun y=>decide (y.Op=0)).map (·.Var)
theorem UQ (p:A1):(TK p).length=Fa p:=by unfold TK Fa;rw[List.length_map,List.countP_eq_length_filter]
theorem Vs.mem {p:A1}{v:Int}(h:Vs p v):v∈TK p:=by
 obtain⟨y,hy,h0,h1⟩:=h;exact List.mem_map.2 ⟨y,List.mem_filter.2 ⟨hy,by simpa using h0⟩,h1⟩
theorem Ao1 {l:List A8} {p:A1} {L:List (List PR)} (hn:L.Nodup) (h:∀s∈L,Gd l s∧∀x∈s,Vs p x.Var):L.length≤(Fa p+1) ^ l.length:=by
 have:=List.Nodup.length_le_of_subset hn (l₂:=HB (TK p) l.length 0) fun s hs=>by
  obtain⟨g,hv⟩:=h s hs;exact Ib _ _ _ s g.asc (fun x hx=>by have:=(g.wf x hx).2;omega) fun x hx=>(hv x hx).mem
 rwa[KC,UQ]at this
theorem Ub {α β:Type}(A B:List α)(f:α→α→β):(A.flatMap fun a=>B.map (f a)).length=A.length*B.length:=by
 induction A with
 |nil=>simp
 |cons a A ih=>rw[List.flatMap_cons,List.length_append,ih,List.length_map,List.length_cons,Nat.succ_mul];omega
theorem Uc :∀(n:Nat) (p:A1),p.pre.length≤n→GG p→1≤Fa p
 |0,p,h,_=>by rw[A1.pre_eq]at h;simp at h
 | n+1,p,h,hw=>by
  by_cases h0:p.Op=0
  ·rw[Fp,if_pos h0];omega
  have hne:∃q,q∈p.cP:=by
   by_cases h3:p.Op≤3
   ·exact List.exists_mem_of_ne_nil _ (hw.self.a1 (by have:=hw.self.op;omega) h3)
   obtain⟨q,hq⟩:=hw.self.a2 (by omega);exact⟨q,by rw[hq];simp⟩
  obtain⟨q,hq⟩:=hne;have:=Uc n q (by have:=O9 hq;omega) (hw.arg hq);have:=Ia hq;omega
theorem RW {x y:Nat} (hx:2≤x) (hy:2≤y):x+y≤x*y:=by
 obtain⟨a,rfl⟩:∃a,x=a+2:=⟨x - 2,by omega⟩;obtain⟨b,rfl⟩:∃b,y=b+2:=⟨y - 2,by omega⟩
 have:(a+2)*(b+2)=a*b+2*a+2*b+4:=by
  rw[Nat.mul_add,add_mul,add_mul];omega
 omega
theorem JA {p q:A1}{r:List A1}(ha:p.cP=q::r):({p with cP:=r}:A1).pre.length<p.pre.length:=by
 have h1:=A1.pre_eq ({p with cP:=r}:A1);have h2:=A1.pre_eq p;rw[h1,h2,ha];have:=A1.pre_eq q;simp only[A1.pres,List.length_cons,List.length_append,this];omega
theorem Xp {p q:A1}{r:List A1}(ha:p.cP=r++[q]):({p with cP:=r}:A1).pre.length<p.pre.length:=by
 have h1:=A1.pre_eq ({p with cP:=r}:A1);have h2:=A1.pre_eq p;rw[h1,h2,ha,BW];have:=A1.pre_eq q;simp only[A1.pres,List.length_cons,List.length_append,this];omega
theorem It {l:List A8} (hl:2≤l.length):∀(n:Nat) (p:A1),p.pre.length≤n→GG p→CQ p→∃C:List (List PR),C.length≤l.length ^ Fa p∧∀b f s,Sm l p b f s→s∈C
 |0,p,h,_,_=>by rw[A1.pre_eq]at h;simp at h
 | n +1,p,h,hw,hp=>by
  have hop:=hw.self.op;have hnp:=hp p (Jx p)
  have hpow:∀q:A1,GG q→2≤l.length ^ Fa q:=fun q hq=>by
   have h1:=Uc _ q (Nat.le_refl _) hq;have:=Nat.pow_le_pow_right (n:=l.length) (by omega) h1
   rw[Nat.pow_one]at this;omega
  by_cases h0:p.Op=0
  ·refine⟨(List.range l.length).map fun(j:Nat)=>[⟨p.Var,(j:Int)⟩],?_,fun b f s hs=>?_⟩
   ·rw[Fp,if_pos h0,hw.self.a0 h0,List.length_map,List.length_range];simp[A1.pres]
   obtain⟨j,_,hj,_,rfl⟩:=(Sm.i0 h0).1 hs;exact List.mem_map.2 ⟨j,List.mem_range.2 hj,rfl⟩
  by_cases h1:p.Op=1
  ·match ha:p.cP with
   |[]=>exact absurd ha (hw.self.a1 (by omega) (by omega))
   |[q]=>
    have hq:q∈p.cP:=by rw[ha];simp
    obtain⟨C,h2,h3⟩:=It hl n q (by have:=O9 hq;omega) (hw.arg hq) (hp.arg hq);refine⟨C,Nat.le_trans h2 (Nat.pow_le_pow_right (by omega) (Ia hq)),fun b f s hs=>?_⟩;exact h3 _ _ _ ((Sm.i1 h1 ha).1 hs)
   | q::q'::r=>
    have hq:q∈p.cP:=by rw[ha];simp
    obtain⟨C,h2,h3⟩:=It hl n q (by have:=O9 hq;omega) (hw.arg hq) (hp.arg hq);obtain⟨D,h4,h5⟩:=It hl n {p with cP:=q'::r} (by have:=JA ha;omega) (hw.sub (by omega) (by omega) (fun x hx=>by rw[ha];exact List.mem_cons_of_mem _ hx) (by simp)) (hp.sub fun x hx=>by rw[ha];exact List.mem_cons_of_mem _ hx);refine⟨C.flatMap fun s=>D.map (mrg s),?_,fun b f s hs=>?_⟩
    ·rw[Ub,show Fa p=Fa q+Fa {p with cP:=q'::r}from ?_,Nat.pow_add]
     ·exact Nat.mul_le_mul h2 h4
     rw[JO,Fp p,ha,if_neg h0];rw[A1.pres,countP_append];unfold Fa;omega
    obtain⟨u,t,hu,ht,rfl⟩:=(Sm.i1c h1 ha).1 hs;exact List.mem_flatMap.2 ⟨_,h3 _ _ _ hu,List.mem_map.2 ⟨_,h5 _ _ _ ht,rfl⟩⟩
  by_cases h2':p.Op=2
  ·match ha:p.cP with
   |[]=>exact absurd ha (hw.self.a1 (by omega) (by omega))
   |[q]=>
    have hq:q∈p.cP:=by rw[ha];simp
    obtain⟨C,h2,h3⟩:=It hl n q (by have:=O9 hq;omega) (hw.arg hq) (hp.arg hq);refine⟨C,Nat.le_trans h2 (Nat.pow_le_pow_right (by omega) (Ia hq)),fun b f s hs=>?_⟩;obtain⟨q',ha',hs⟩:=(Sm.i2 h2').1 hs
    rw[ha]at ha'
    rw[List.mem_singleton.1 ha']at hs
    exact h3 _ _ _ hs
   | q::q'::r=>
    have hq:q∈p.cP:=by rw[ha];simp
    have hws:GG {p with cP:=q'::r}:=hw.sub (by omega) (by omega) (fun x hx=>by rw[ha];exact List.mem_cons_of_mem _ hx) (by simp);obtain⟨C,h2,h3⟩:=It hl n q (by have:=O9 hq;omega) (hw.arg hq) (hp.arg hq);obtain⟨D,h4,h5⟩:=It hl n {p with cP:=q'::r} (by have:=JA ha;omega) hws (hp.sub fun x hx=>by rw[ha];exact List.mem_cons_of_mem _ hx);refine⟨C++D,?_,fun b f s hs=>?_⟩
    ·rw[List.length_append,show Fa p=Fa q+Fa {p with cP:=q'::r}from ?_,Nat.pow_add]
     ·have e1:=hpow q (hw.arg hq);have e2:=hpow _ hws;have:=RW e1 e2;omega
     rw[JO,Fp p,ha,if_neg h0];rw[A1.pres,countP_append];unfold Fa;omega
    obtain⟨x,ha',hs⟩:=(Sm.i2 h2').1 hs
    rw[ha]at ha'
    rcases List.mem_cons.1 ha' with e|hm
    ·rw[e]at hs;exact List.mem_append_left _ (h3 _ _ _ hs)
    exact List.mem_append_right _ (h5 _ _ _ (Sm.alt (p:={p with cP:=q'::r}) h2' hm hs))
  by_cases h3':p.Op=3
  ·rcases List.eq_nil_or_concat p.cP with ha|⟨r,q,ha⟩
   ·exact absurd ha (hw.self.a1 (by omega) (by omega))
   rw[List.concat_eq_append]at ha
   have hq:q∈p.cP:=by rw[ha];simp
   obtain⟨C,h2,h3⟩:=It hl n q (by have:=O9 hq;omega) (hw.arg hq) (hp.arg hq)
   by_cases hr:r=[]
   ·subst hr;refine⟨C,Nat.le_trans h2 (Nat.pow_le_pow_right (by omega) (Ia hq)),fun b f s hs=>?_⟩;exact h3 _ _ _ ((Sm.i3 h3' ha).1 hs)
   have hws:GG {p with cP:=r}:=hw.sub (by omega) (by omega) (fun x hx=>by rw[ha];simp[hx]) hr;obtain⟨D,h4,h5⟩:=It hl n {p with cP:=r} (by have:=Xp ha;omega) hws (hp.sub fun x hx=>by rw[ha];simp[hx]);refine⟨D.flatMap fun s=>C.map (mrg s),?_,fun b f s hs=>?_⟩
   ·rw[Ub,show Fa p=Fa {p with cP:=r}+Fa q from ?_,Nat.pow_add]
    ·exact Nat.mul_le_mul h4 h2
    rw[JO,Fp p,ha,if_neg h0,BW,countP_append];simp only[A1.pres,append_nil];unfold Fa;omega
   obtain⟨u,t,hu,ht,_,rfl⟩:=(Sm.i3c h3' ha hr).1 hs;exact List.mem_flatMap.2 ⟨_,h5 _ _ _ hu,List.mem_map.2 ⟨_,h3 _ _ _ ht,rfl⟩⟩
  obtain⟨q,ha⟩:=hw.self.a2 (by omega)
  have hq:q∈p.cP:=by rw[ha];simp
  obtain⟨C,h2,h3⟩:=It hl n q (by have:=O9 hq;omega) (hw.arg hq) (hp.arg hq);refine⟨C,Nat.le_trans h2 (Nat.pow_le_pow_right (by omega) (Ia hq)),fun b f s hs=>?_⟩;exact h3 _ _ _ ((Sm.i5 (by omega) hop.2 ha).1 hs).1
theorem card {l:List A8} {p:A1} (hw:GG p) (hs:Ji l.length p) {L:List (List PR)} (hn:L.Nodup) (h:∀s∈L,Gd l s∧∃b f,Sm l p b f s):L.length≤1500:=by
 rcases hs with hs|⟨h1,h2,h3⟩
 ·refine Nat.le_trans (Ao1 hn fun s m=>?_) hs;obtain⟨g,b,f,hm⟩:=h s m;exact⟨g,hm.vars⟩
 obtain⟨C,h4,h5⟩:=It h2 _ p (Nat.le_refl _) hw h1
 have:=List.Nodup.length_le_of_subset hn (l₂:=C) fun s m=>by
  obtain⟨g,b,f,hm⟩:=h s m;exact h5 b f s hm
 omega
end
end Go.Ab
namespace Go.Ab
open Classical
noncomputable section
theorem Fu {β σ τ:Type}{m:Option (List β×σ)}{f:σ→Option (List β×τ)}{w w':List β}{x:σ}{o:τ}(h1:m=some (w,x))(h2:f x=some (w',o)):N6 m f=some (w++w',o):=by
 unfold N6;rw[h1];simp only[Option.bind_some,h2]
theorem Mo {α β R:Type} {body:Unit→α→Option (List β×(Unit ⊕ R))} {Q:α→β→Prop}:∀{L:List α},(∀x∈L,∃w,body () x=some (w,.inl ())∧∀s,s∈w↔Q x s)→∃W,Bl body L ()=some (W,.inl ())∧∀s,s∈W↔∃x∈L,Q x s
 |[],_=>⟨[],rfl,by simp⟩
 |x::L,h=>by
  obtain⟨w,h1,h2⟩:=h x (by simp);obtain⟨W,h3,h4⟩:=Mo (L:=L) fun y hy=>h y (by simp[hy]);refine⟨w++W,by simp only[Bl,h1,h3],fun s=>?_⟩;rw[List.mem_append,h2,h4];simp
theorem NZ {α β A:Type} {L:List α} {N:Nat} (hN:L.length<N) {step:Int→Option (List β×(Int ⊕ A))} {u:A} {Q:α→β→Prop}
 (hs:∀(i:Nat) x,L[i]? =some x→(i:Int)<L.length→x∈L→∃w,step (i:Int)=some (w,.inl ((i:Int)+1))∧∀s,s∈w↔Q x s) (he:step (L.length:Int)=some ([],.inr u)):∃W,W0 step N 0=some (W,u)∧∀s,s∈W↔∃x∈L,Q x s:=by
 have key:∀(k i N:Nat),i+k=L.length→k<N→∃W,W0 step N (i:Int)=some (W,u)∧∀s,s∈W↔∃x∈L.drop i,Q x s:=by
  intro k
  induction k with
  |zero=>
   intro i N hi hN;obtain⟨N,rfl⟩:∃m,N=m+1:=⟨N - 1,by omega⟩;rw[List.drop_eq_nil_of_le (by omega),show(i:Int)=L.length by omega];exact⟨[],by simp[W0,he],by simp⟩
  |succ k ih=>
   intro i N hi hN;obtain⟨N,rfl⟩:∃m,N=m+1:=⟨N - 1,by omega⟩
   have hlt:i<L.length:=by omega
   obtain⟨w,h1,h2⟩:=hs i L[i] (by simp[hlt]) (by omega) (List.getElem_mem hlt);obtain⟨W,h3,h4⟩:=ih (i+1) N (by omega) (by omega);rw[List.drop_eq_getElem_cons hlt];refine⟨w++W,?_,fun s=>?_⟩
   ·simp only[W0,h1];rw[show((i:Int)+1)=((i+1:Nat):Int) by omega,h3]
   rw[List.mem_append,h2,h4];simp only[List.mem_cons,or_and_right,exists_or,exists_eq_left]
 simpa using key L.length 0 N (by omega) hN
def GC (s:List BD):ByteArray:=Qi (Gt (IX (H6 s)))
theorem Ys {a b:List UInt8} (h:Qi (Gt a)=Qi (Gt b)):a=b:=by
 have e0:∀(a:List UInt8) (acc:ByteArray),((Gt a).foldl (fun r n=>r.push (UInt8.ofNat n.toNat)) acc).data.toList=acc.data.toList++a:=fun a=>by
  induction a with
  |nil=>intro acc;simp[Gt]
  |cons x a ih=>
   intro acc
   simp only[Gt,List.map_cons,List.foldl_cons]at ih ⊢
   rw[ih];simp
 have e:∀a:List UInt8,(Qi (Gt a)).data.toList=a:=fun a=>by
  have:=e0 a ByteArray.empty
  simpa[Qi]using this
 rw[←e a,←e b,h]
theorem VO {l:List A8}(hl:l.length≤10){a b:List BD}(ha:Sa l (H6 a))(hb:Sa l (H6 b))(h:GC a=GC b):a=b:=HQ (Mf hl ha hb (Ys h))
theorem UX {N:Nat}(hN:40000000≤N){l:List A8}(hl:l.length≤10){s:List BD}(g:Gd l (H6 s)):M3 N s=some (GC s):=by
 have:=g.len
 rw[List.length_map]at this
 rw[YW hN hl (by omega) g.wf];rfl
def IW (out:List (List BD)):List (ByteArray×Bool):=out.map fun s=>(GC s,true)
theorem VV (out:List (List BD)) (k:ByteArray):∃b,Ja (IW out) k false=some (decide (∃s∈out,GC s=k),b):=by
 unfold Ja IW
 induction out with
 |nil=>exact⟨false,by simp⟩
 |cons x out ih=>
  obtain⟨b,ih⟩:=ih;rw[List.map_cons,List.find?_cons]
  by_cases h:GC x=k
  ·exact⟨true,by simp[h]⟩
  refine⟨b,?_⟩;simp only[h,decide_false];rw[ih];simp[h]
theorem Vm {out:List (List BD)}{s:List BD}(h:¬∃t∈out,GC t=GC s):Ie (IW out) (GC s) true=some (IW (out++[s])):=by
 unfold Ie;rw[if_neg]
 ·simp[IW]
 intro e
 rw[List.any_eq_true]at e
 obtain⟨p,hp,he⟩:=e
 simp only[IW,List.mem_map]at hp
 obtain⟨t,ht,rfl⟩:=hp;exact h ⟨t,ht,by simpa using he⟩
theorem QP {N:Nat} (hN:40000000≤N) {l:List A8} (hl:l.length≤10) {R:List (List BD)} (hR:∀s∈R,Gd l (H6 s)) (hc:∀L:List (List BD),L.Nodup→(∀s∈L,s∈R)→L.length≤4096):
 ∃ m out,H5 (fun(s11:(List (ByteArray×Bool))×(List (List A0))) (y10:(List A0))=>
  (
   (M3 N y10).bind fun r17=>
   (Ja s11.1 r17 (false:Bool)).bind fun r18=>
   if r18.1=true then
    some (.inl (s11.1,s11.2))
   else
    (Ie s11.1 r17 true).bind fun l20=>
    (I3 s11.2 ([y10])).bind fun l22=>
    ((
     if cmp .gtr (Ar.len l22) 4096=true then
      none
     else
      some ()
    ):Option (Unit)).bind fun s23=>
    if(⟨l,false⟩:B3).full=true then
     some (.inr (l20,l22))
    else
     some (.inl (l20,l22))
   :Option (((List (ByteArray×Bool))×(List (List A0))) ⊕ (((List (ByteArray×Bool))×(List (List A0))))))
  ) R (([]:List (ByteArray×Bool)),[])=some (.inl (m,out))∧out.Nodup∧∀s,s∈out↔s∈R:=by
 obtain⟨s',h1,p,out,h2,h3,h4,h5⟩:=W5 (R:=(List (ByteArray×Bool))×(List (List A0))) (step:=fun(s11:(List (ByteArray×Bool))×(List (List A0))) (y10:(List A0))=>
  (
   (M3 N y10).bind fun r17=>
   (Ja s11.1 r17 (false:Bool)).bind fun r18=>
   if r18.1=true then
    some (.inl (s11.1,s11.2))
   else
    (Ie s11.1 r17 true).bind fun l20=>
    (I3 s11.2 ([y10])).bind fun l22=>
    ((
     if cmp .gtr (Ar.len l22) 4096=true then
      none
     else
      some ()
    ):Option (Unit)).bind fun s23=>
    if(⟨l,false⟩:B3).full=true then
     some (.inr (l20,l22))
    else
     some (.inl (l20,l22))
   :Option (((List (ByteArray×Bool))×(List (List A0))) ⊕ (((List (ByteArray×Bool))×(List (List A0)))))))
  (fun r s=>∃p out,p++r=R∧s=(IW out,out)∧out.Nodup∧∀x,x∈out↔x∈p) (fun y r s ⟨p,out,e1,e2,e3,e4⟩=>by
   subst e2
   have hy:y∈R:=by rw[←e1];simp
   have hout:∀x∈out,x∈R:=fun x hx=>by rw[←e1];simp[(e4 x).1 hx]
   rw[UX hN hl (hR y hy)];simp only[Option.bind_some];obtain⟨b,hb⟩:=VV out (GC y);rw[hb];simp only[Option.bind_some];have hiff:(∃s∈out,GC s=GC y)↔y∈out:=⟨fun⟨s,hs,e⟩=>by rw[←VO hl (hR s (hout s hs)).wf (hR y hy).wf e];exact hs,fun h=>⟨y,h,rfl⟩⟩
   by_cases hm:y∈out
   ·rw[if_pos (decide_eq_true (hiff.2 hm))];refine⟨_,rfl,p++[y],out,by simpa using e1,rfl,e3,fun x=>?_⟩;rw[e4,List.mem_append,List.mem_singleton]
    constructor
    ·exact .inl
    rintro(h|rfl)
    ·exact h
    exact(e4 _).1 hm
   have hn:(out++[y]).Nodup:=by
    rw[List.nodup_append];exact⟨e3,by simp,fun a ha b hb'=>by rw[List.mem_singleton.1 hb'];intro e;exact hm (e▸ha)⟩
   have hlen:(out++[y]).length≤4096:=hc _ hn fun x hx=>by
    rcases List.mem_append.1 hx with h|h
    ·exact hout x h
    rw[List.mem_singleton.1 h];exact hy
   rw[if_neg (by simpa using fun x hx e=>hm (hiff.1 ⟨x,hx,e⟩)),Vm (fun e=>hm (hiff.1 e))];simp only[Option.bind_some];rw[M6 (by simp at hlen ⊢;omega)];simp only[Option.bind_some];rw[if_neg (N2 (by rw[A9];omega))];refine⟨_,rfl,p++[y],out++[y],by simpa using e1,rfl,hn,fun x=>?_⟩
   rw[List.mem_append,List.mem_append,e4]) (l:=R) (s:=([],[])) ⟨[],[],rfl,rfl,by simp,by simp⟩
 subst h3
 rw[append_nil]at h2
 subst h2;exact⟨_,_,h1,h4,h5⟩
def Ex (N n:Nat)(c:B3)(p:A1)(o:List BD)(f:Int):Option (List (List BD)):=
 if p.Op=0 then K0 N c p o f else if p.Op=1 then L9 N n c p o f else if p.Op=2 then M0 N n c p o f else if p.Op=3 then M1 N n c p o f else if p.Op=4 then K9 N n c p o f else E7 N n c p o f
def YF (N n:Nat)(l:List A8)(p:A1)(o:List BD)(f:Int):Prop:=∃L,C8 N n ⟨l,false⟩ p o f=some L∧L.Nodup∧∀s,s∈L↔Sm l p (H6 o) f (H6 s)
theorem Fs {l:List A8} {p:A1} (hw:GG p) (hs:Ji l.length p) {b:List PR} {f:Int} (ho:Iv l b f) {L:List (List BD)} (hn:L.Nodup) (h:∀s∈L,Sm l p b f (H6 s)):L.length≤1500:=by
 have:=card hw hs (L:=L.map H6) (by
  rw[List.Nodup,List.pairwise_map]
  exact hn.imp fun hne e=>hne (HQ e)) fun s hs=>by
   obtain⟨t,ht,rfl⟩:=List.mem_map.1 hs;exact⟨((h t ht).res hw ho).gd,b,f,h t ht⟩
 rwa[List.length_map]at this
theorem Af1 {N:Nat} (hN:40000000≤N) {l:List A8} (hl:l.length≤10) {p:A1} (hw:GG p) (hs:Ji l.length p) {o:List BD} {f:Int} (ho:Iv l (H6 o) f) {n:Nat} {R:List (List BD)} (h:Ex N n ⟨l,false⟩ p o f=some R) (hm:∀s,s∈R↔Sm l p (H6 o) f (H6 s)):YF N (n+1) l p o f:=by
 obtain⟨m,out,h1,h2,h3⟩:=QP hN hl (R:=R) (fun s hs=>(((hm s).1 hs).res hw ho).gd) fun L hL hsub=>by have:=Fs hw hs ho hL fun s hs=>(hm s).1 (hsub s hs);omega
 refine⟨out,?_,h2,fun s=>(h3 s).trans (hm s)⟩;have hop:=hw.self.op;unfold C8 AA
 have key:∀{F:List (List BD)→Option (List (List BD))},((B6 ([fun y1 y2 y3 y4=>K0 N y1 y2 y3 y4,fun y1 y2 y3 y4=>L9 N n y1 y2 y3 y4,fun y1 y2 y3 y4=>M0 N n y1 y2 y3 y4,fun y1 y2 y3 y4=>M1 N n y1 y2 y3 y4,fun y1 y2 y3 y4=>K9 N n y1 y2 y3 y4,fun y1 y2 y3 y4=>E7 N n y1 y2 y3 y4,fun y1 y2 y3 y4=>E7 N n y1 y2 y3 y4,fun y1 y2 y3 y4=>E7 N n y1 y2 y3 y4]:List (B3→A1→(List A0)→Int→Option (List (List A0)))) p.Op).bind fun f7=>(f7 ⟨l,false⟩ p o f).bind F)=F R:=by
  intro F
  have hb:∀{g:B3→A1→(List A0)→Int→Option (List (List A0))} {L:List (B3→A1→(List A0)→Int→Option (List (List A0)))} {i:Int},B6 L i=some g→g ⟨l,false⟩ p o f=some R→((B6 L i).bind fun f7=>(f7 ⟨l,false⟩ p o f).bind F)=F R:=fun e1 e2=>by rw[e1];simp only[Option.bind_some,e2]
  have hc:p.Op=0∨p.Op=1∨p.Op=2∨p.Op=3∨p.Op=4∨p.Op=5∨p.Op=6∨p.Op=7:=by omega
  unfold Ex at h
  rcases hc with e|e|e|e|e|e|e|e<;>(rw[e]at h ⊢;exact hb rfl (by simpa using h))
 simp only[Option.bind_some];rw[key,h1];rfl
end
end Go.Ab
namespace Go.Ab
open Classical
noncomputable section
theorem BH {α β A B:Type}{L:List α}{N:Nat}{step:Int→Option (List β×(Int ⊕ A))}{u:A}{f:A→Option (List β×B)}{y:B}{Q:α→β→Prop}{G:β→Prop}(hN:L.length<N)
 (hs:∀(i:Nat) x,L[i]? =some x→(i:Int)<L.length→x∈L→∃w,step (i:Int)=some (w,.inl ((i:Int)+1))∧∀s,s∈w↔Q x s) (he:step (L.length:Int)=some ([],.inr u)) (hf:f u=some ([],y)) (hG:∀s,(∃x∈L,Q x s)↔G s):∃W,N6 (W0 step N 0) f=some (W,y)∧∀s,s∈W↔G s:=by
 obtain⟨W,h1,h2⟩:=NZ hN hs he;exact⟨W++[],Fu h1 hf,fun s=>by rw[append_nil];exact(h2 s).trans (hG s)⟩
theorem Kj {β:Type}{m:Option (List β×Unit)}{G:β→Prop}(h:∃W,m=some (W,())∧∀s,s∈W↔G s):∃R,(m.bind fun q=>some q.1)=some R∧∀s,s∈R↔G s:=by
 obtain⟨W,h1,h2⟩:=h;exact⟨W,by rw[h1];rfl,h2⟩
theorem FB {β A:Type}{x:β}{o:A}{P:β→Prop}(h:∀s,s=x↔P s):∃w,N6 (some ([x],())) (fun _=>some ([],o))=some (w,o)∧∀s,s∈w↔P s:=⟨[x],rfl,fun s=>by rw[List.mem_singleton];exact h s⟩
section
variable {N:Nat}(hN:40000000≤N){l:List A8}(hl:l.length≤10)
include hN hl
theorem XS {o u:List BD}{f:Int}(ho:Iv l (H6 o) f)(r:Kd l f (H6 u)):∃c,L4 N o u=some c∧H6 c=mrg (H6 o) (H6 u):=by
 have h1:=ho.gd.len;have h2:=r.gd.len
 rw[List.length_map]at h1 h2
 exact LJ (n:=l.length) (by omega) (by omega) (by omega) ho.gd.asc r.gd.asc (ho.apart r) ho.gd.wf.ins r.gd.wf.ins
theorem XR {u t:List BD}{f g:Int}(r:Kd l f (H6 u))(q:Kd l g (H6 t))(hd:Cb (H6 u) (H6 t)):∃c,L4 N u t=some c∧H6 c=mrg (H6 u) (H6 t):=by
 have h1:=r.gd.len;have h2:=q.gd.len
 rw[List.length_map]at h1 h2
 exact LJ (n:=l.length) (by omega) (by omega) (by omega) r.gd.asc q.gd.asc hd r.gd.wf.ins q.gd.wf.ins
theorem XP {u:List BD}{f:Int}(r:Kd l f (H6 u)):K7 N u=some (Z0 (H6 u)):=by
 have h1:=r.gd.len
 rw[List.length_map]at h1
 exact Qo (fun e=>r.ne (by rw[e];rfl)) (by omega)
theorem TQ {q:A1} {o:List BD} {f:Int} {n:Nat} (wq:GG q) (sq:Ji l.length q) (ho:Iv l (H6 o) f) (hq:YF N n l q o f) {x5:List BD→Int→Option (List (List BD))} {Qr:List BD→List BD→Prop}
 (hr:∀u,Sm l q (H6 o) f (H6 u)→∀r9,H6 r9=mrg (H6 o) (H6 u)→∃T,x5 r9 (Z0 (H6 u)+1)=some T∧T.length≤4096∧∀t,t∈T↔Qr u t) (hres:∀u t,Sm l q (H6 o) f (H6 u)→Qr u t→Kd l (Z0 (H6 u)+1) (H6 t)):
 ∃R,K8 N (n+2) ⟨l,false⟩ q o f x5=some R∧∀s,s∈R↔∃u t,Sm l q (H6 o) f (H6 u)∧Qr u t∧H6 s=mrg (H6 u) (H6 t):=by
 obtain⟨L,h1,h2,h3⟩:=hq;have hc:=Fs wq sq ho h2 fun s hs=>(h3 s).1 hs;unfold K8 O3;refine Kj ?_;rw[h1];simp only[Option.bind_some];refine BH (L:=L) (u:=.inl ()) (Q:=fun u s=>∃t,Qr u t∧H6 s=mrg (H6 u) (H6 t)) (by omega) ?_ ?_ rfl ?_
 ·intro i u hu hi hm;have hsm:=(h3 u).1 hm;have r:=hsm.res wq ho;have hlst:=r.gd.lst r.ne;obtain⟨c,hc1,hc2⟩:=XS hN hl ho r;obtain⟨T,t1,t2,t3⟩:=hr u hsm c hc2;have e:ar .add .i64 (i:Int) 1=i+1:=C4 (by omega) (by omega);rw[if_pos (P9 hi),C5,hu];simp only[Option.bind_some];rw[hc1,XP hN hl r];simp only[Option.bind_some];rw[C4 (a:=Z0 (H6 u)) (by omega) (by omega),t1];simp only[Option.bind_some,e];refine BH (L:=T) (u:=.inl ()) (Q:=fun t s=>H6 s=mrg (H6 u) (H6 t)) (by omega) ?_ ?_ rfl ?_
  ·intro j t ht hj hmt;have qr:=(t3 t).1 hmt;have rt:=hres u t hsm qr;obtain⟨d,d1,d2⟩:=XR hN hl r rt (r.seq rt).2;have e:ar .add .i64 (j:Int) 1=j+1:=C4 (by omega) (by omega);rw[if_pos (P9 hj),C5,ht];simp only[Option.bind_some,Bool.false_eq_true,if_false,d1,e];exact FB fun s=>⟨fun e=>by rw[e,d2],fun e=>HQ (e.trans d2.symm)⟩
  ·rw[if_neg S9]
  intro s
  constructor
  ·rintro⟨t,ht,e⟩;exact⟨t,(t3 t).1 ht,e⟩
  rintro⟨t,ht,e⟩;exact⟨t,(t3 t).2 ht,e⟩
 ·rw[if_neg S9]
 intro s
 constructor
 ·rintro⟨u,hu,t,ht,e⟩;exact⟨u,t,(h3 u).1 hu,ht,e⟩
 rintro⟨u,t,hu,ht,e⟩;exact⟨u,(h3 u).2 hu,t,ht,e⟩
def mu (l:List A8)(p:A1)(f:Nat):Nat:=p.pre.length*(l.length+2)+(l.length - f)
omit hN hl in
theorem DK {p q:A1}{f g:Nat}(h:q.pre.length<p.pre.length):mu l q g+1≤mu l p f:=by
 unfold mu;have:=Nat.mul_le_mul_right (l.length+2) (show q.pre.length+1≤p.pre.length from h)
 rw[add_mul]at this
 omega
omit hN hl in
theorem Uj {p:A1}{f g:Nat}(h:f<g)(hg:g≤l.length):mu l p g+1≤mu l p f:=by unfold mu;omega
def IHk (N:Nat)(l:List A8)(k:Nat):Prop:=∀(p:A1) (o:List BD) (f n:Nat),mu l p f≤k→8*k+8≤n→p.pre.length≤64→GG p→Ji l.length p→Iv l (H6 o) f→YF N n l p o f
omit hN hl in
theorem LI {u:List PR}{f:Int}(r:Kd l f u)(h0:0≤f):∃g:Nat,Z0 u+1=(g:Int)∧g≤l.length∧f<g:=by
 have:=r.gd.lst r.ne;obtain⟨x,_,hx,e⟩:=DY r.ne;have:=r.ge x hx;exact⟨(Z0 u+1).toNat,by omega,by omega,by omega⟩
theorem Tj {p:A1}(hw:GG p)(h0:p.Op=0){o:List BD}{f:Nat}(ho:Iv l (H6 o) f)(n:Nat):∃R,Ex N n ⟨l,false⟩ p o f=some R∧∀s,s∈R↔Sm l p (H6 o) f (H6 s):=by
 have:=ho.f1;refine⟨_,by unfold Ex;rw[if_pos h0];exact Vl hN hl hw.self.cond ho.gd false (by omega),fun s=>?_⟩;rw[LG,Sm.i0 h0]
 constructor
 ·rintro⟨j,h1,h2,h3,rfl⟩;exact⟨j,by omega,by omega,h3,rfl⟩
 rintro⟨j,h1,h2,h3,e⟩;exact⟨j,by omega,by omega,h3,HQ (e.trans rfl)⟩
theorem UR {L:List (List BD)}(hL:L.length≤1000000):∃R,O1 N L=some R∧∀s,s∈R↔s∈L:=by
 unfold O1 E5;refine Kj ?_;refine BH (L:=L) (u:=()) (Q:=fun x s=>s=x) (by omega) ?_ ?_ rfl ?_
 ·intro i u hu hi hm;have e:ar .add .i64 (i:Int) 1=i+1:=C4 (by omega) (by omega);rw[if_pos (P9 hi),C5,hu];simp only[Option.bind_some,e];exact FB fun s=>Iff.rfl
 ·rw[if_neg S9]
 intro s;simp
theorem Yh {k:Nat} (ih:IHk N l k) {p:A1} (hw:GG p) (hp:p.pre.length≤64) (hs:Ji l.length p) (h0:p.Op=1) {o:List BD} {f:Nat} (ho:Iv l (H6 o) f) {n:Nat} (hmu:mu l p f≤k+1) (hn:8*k+15≤n):∃R,Ex N n ⟨l,false⟩ p o f=some R∧∀s,s∈R↔Sm l p (H6 o) f (H6 s):=by
 unfold Ex;rw[if_neg (by omega),if_pos h0];obtain⟨n,rfl⟩:∃m,n=m+1:=⟨n - 1,by omega⟩;unfold L9
 match ha:p.cP with
 |[]=>exact absurd ha (hw.self.a1 (by omega) (by omega))
 |[q]=>
  have hq:q∈p.cP:=by rw[ha];simp
  have:=DK (l:=l) (f:=f) (g:=f) (O9 hq);obtain⟨L,h1,h2,h3⟩:=ih q o f n (by omega) (by omega) (by have:=O9 hq;omega) (hw.arg hq) (hs.arg hq) ho;have hc:=Fs (hw.arg hq) (hs.arg hq) ho h2 fun s hs=>(h3 s).1 hs;obtain⟨R,h4,h5⟩:=UR hN hl (L:=L) (by omega);rw[if_pos (show cmp .eql (Ar.len [q]) 1=true from rfl),Hv];simp only[Option.bind_some];rw[h1];simp only[Option.bind_some];rw[h4];exact⟨R,rfl,fun s=>(h5 s).trans ((h3 s).trans (Sm.i1 h0 ha).symm)⟩
 | q::q'::r=>
  have hq:q∈p.cP:=by rw[ha];simp
  have hwr:GG {p with cP:=q'::r}:=hw.sub (by omega) (by omega) (fun x hx=>by rw[ha];exact List.mem_cons_of_mem _ hx) (by simp);have hsr:Ji l.length {p with cP:=q'::r}:=hs.tail ha;rw[if_neg (by rw[B8,A9];simp;omega),Cx,Hv];simp only[Option.bind_some];obtain⟨n,rfl⟩:∃m,n=m+2:=⟨n - 2,by omega⟩;have m1:=DK (l:=l) (f:=f) (g:=f) (O9 hq)
  obtain⟨R,h1,h2⟩:=TQ hN hl (hw.arg hq) (hs.arg hq) ho (ih q o f n (by omega) (by omega) (by have:=O9 hq;omega) (hw.arg hq) (hs.arg hq) ho) (x5:=fun y1 y2=>J9 N (n+2) y1 y2 ⟨l,false⟩ {p with cP:=q'::r})
   (Qr:=fun u t=>Sm l {p with cP:=q'::r} (mrg (H6 o) (H6 u)) (Z0 (H6 u)+1) (H6 t)) (fun u hu r9 e9=>by
    have ru:=hu.res (hw.arg hq) ho;obtain⟨g,hg,hgl,hfg⟩:=LI ru ho.f0
    have ho':Iv l (H6 r9) (g:Int):=by rw[e9,←hg];exact ho.next ru
    have m2:=DK (l:=l) (f:=f) (g:=g) (JA ha);obtain⟨T,t1,t2,t3⟩:=ih {p with cP:=q'::r} r9 g (n+1) (by omega) (by omega) (by have:=JA ha;omega) hwr hsr ho';have hc:=Fs hwr hsr ho' t2 fun s hs=>(t3 s).1 hs;refine⟨T,?_,by omega,fun t=>?_⟩
    ·unfold J9;rw[hg,t1];rfl
    rw[t3,e9,hg]) (fun u t hu ht=>ht.res hwr (ho.next (hu.res (hw.arg hq) ho)))
  rw[h1];refine⟨R,rfl,fun s=>(h2 s).trans ?_⟩;rw[Sm.i1c h0 ha]
  constructor
  ·rintro⟨u,t,a,b,c⟩;exact⟨H6 u,H6 t,a,b,c⟩
  rintro⟨u,t,a,b,c⟩;exact⟨u.map Ju,t.map Ju,by rw[P7];exact a,by simp only[P7];exact b,by rw[P7,P7];exact c⟩
end
end
end Go.Ab
namespace Go.Ab
open Classical
noncomputable section
section
variable {N:Nat}(hN:40000000≤N){l:List A8}(hl:l.length≤10)
include hN hl
theorem Yi {k:Nat} (ih:IHk N l k) {p:A1} (hw:GG p) (hp:p.pre.length≤64) (hs:Ji l.length p) (h0:p.Op=2) {o:List BD} {f:Nat} (ho:Iv l (H6 o) f) {n:Nat} (hmu:mu l p f≤k+1) (hn:8*k+15≤n):∃R,Ex N n ⟨l,false⟩ p o f=some R∧∀s,s∈R↔Sm l p (H6 o) f (H6 s):=by
 unfold Ex;rw[if_neg (by omega),if_neg (by omega),if_pos h0];obtain⟨n,rfl⟩:∃m,n=m+2:=⟨n - 2,by omega⟩;unfold M0 Q4;have hal:=BF p;refine Kj ?_;refine BH (L:=p.cP) (u:=()) (Q:=fun q s=>Sm l q (H6 o) f (H6 s)) (by omega) ?_ ?_ rfl ?_
 ·intro i q hu hi hq;have:=DK (l:=l) (f:=f) (g:=f) (O9 hq);obtain⟨L,h1,h2,h3⟩:=ih q o f n (by omega) (by omega) (by have:=O9 hq;omega) (hw.arg hq) (hs.arg hq) ho;have hc:=Fs (hw.arg hq) (hs.arg hq) ho h2 fun s hs=>(h3 s).1 hs;have e:ar .add .i64 (i:Int) 1=i+1:=C4 (by omega) (by omega);rw[if_pos (P9 hi),C5,hu];simp only[Option.bind_some,e];rw[h1];simp only[Option.bind_some];refine BH (L:=L) (u:=()) (Q:=fun x s=>s=x) (by omega) ?_ ?_ rfl ?_
  ·intro j u hu hj hm;have e:ar .add .i64 (j:Int) 1=j+1:=C4 (by omega) (by omega);rw[if_pos (P9 hj),C5,hu];simp only[Option.bind_some,e];exact FB fun s=>Iff.rfl
  ·rw[if_neg S9]
  intro s
  constructor
  ·rintro⟨x,hx,rfl⟩;exact(h3 _).1 hx
  intro h;exact⟨s,(h3 s).2 h,rfl⟩
 ·rw[if_neg S9]
 intro s;exact(Sm.i2 h0).symm
theorem VZ {k:Nat} (ih:IHk N l k) {p:A1} (hw:GG p) (hp:p.pre.length≤64) (hs:Ji l.length p) (h0:5≤p.Op) {o:List BD} {f:Nat} (ho:Iv l (H6 o) f) {n:Nat} (hmu:mu l p f≤k+1) (hn:8*k+15≤n):∃R,Ex N n ⟨l,false⟩ p o f=some R∧∀s,s∈R↔Sm l p (H6 o) f (H6 s):=by
 unfold Ex;rw[if_neg (by omega),if_neg (by omega),if_neg (by omega),if_neg (by omega),if_neg (by omega)];obtain⟨n,rfl⟩:∃m,n=m+2:=⟨n - 2,by omega⟩;unfold E7 O4;obtain⟨q,ha⟩:=hw.self.a2 (by omega);have hop:=hw.self.op
 have hq:q∈p.cP:=by rw[ha];simp
 have:=DK (l:=l) (f:=f) (g:=f) (O9 hq);obtain⟨L,h1,h2,h3⟩:=ih q o f n (by omega) (by omega) (by have:=O9 hq;omega) (hw.arg hq) (hs.arg hq) ho;have hc:=Fs (hw.arg hq) (hs.arg hq) ho h2 fun s hs=>(h3 s).1 hs;refine Kj ?_;rw[ha,Hv];simp only[Option.bind_some];rw[h1];simp only[Option.bind_some];refine BH (L:=L) (u:=()) (Q:=fun x s=>Dw l p (H6 o) (H6 x)=true∧s=x) (by omega) ?_ ?_ rfl ?_
 ·intro j u hu hj hm;have ru:=((h3 u).1 hm).res (hw.arg hq) ho;have e:ar .add .i64 (j:Int) 1=j+1:=C4 (by omega) (by omega);rw[if_pos (P9 hj),C5,hu];simp only[Option.bind_some,e];rw[UY hN hl hw.self.cond ⟨h0,hop.2⟩ ho.gd ru.gd (fun e=>ru.ne (by rw[e];rfl)) (ho.apart ru)];simp only[Option.bind_some]
  by_cases hk:Dw l p (H6 o) (H6 u)=true
  ·rw[if_pos hk];exact FB fun s=>⟨fun e=>⟨hk,e⟩,fun e=>e.2⟩
  rw[if_neg hk];exact⟨[],rfl,fun s=>⟨fun h=>absurd h List.not_mem_nil,fun h=>absurd h.1 hk⟩⟩
 ·rw[if_neg S9]
 intro s;rw[Sm.i5 h0 hop.2 ha]
 constructor
 ·rintro⟨x,hx,hk,rfl⟩;exact⟨(h3 _).1 hx,hk⟩
 rintro⟨h,hk⟩;exact⟨s,(h3 s).2 h,hk,rfl⟩
theorem Wa {k:Nat} (ih:IHk N l k) {p:A1} (hw:GG p) (hp:p.pre.length≤64) (hs:Ji l.length p) (h0:p.Op=4) {o:List BD} {f:Nat} (ho:Iv l (H6 o) f) {n:Nat} (hmu:mu l p f≤k+1) (hn:8*k+15≤n):∃R,Ex N n ⟨l,false⟩ p o f=some R∧∀s,s∈R↔Sm l p (H6 o) f (H6 s):=by
 unfold Ex;rw[if_neg (by omega),if_neg (by omega),if_neg (by omega),if_neg (by omega),if_pos h0];obtain⟨n,rfl⟩:∃m,n=m+2:=⟨n - 2,by omega⟩;unfold K9 O5;obtain⟨q,ha⟩:=hw.self.a2 (by omega)
 have hq:q∈p.cP:=by rw[ha];simp
 have m1:=DK (l:=l) (f:=f) (g:=f) (O9 hq);obtain⟨L,h1,h2,h3⟩:=ih q o f n (by omega) (by omega) (by have:=O9 hq;omega) (hw.arg hq) (hs.arg hq) ho;have hc:=Fs (hw.arg hq) (hs.arg hq) ho h2 fun s hs=>(h3 s).1 hs
 have hi:B6 p.cP 0=some q:=by rw[ha];rfl
 rw[hi];simp only[Option.bind_some];rw[h1];simp only[Option.bind_some];obtain⟨n,rfl⟩:∃m,n=m+2:=⟨n - 2,by omega⟩
 obtain⟨R,r1,r2⟩:=TQ hN hl (hw.arg hq) (hs.arg hq) ho (ih q o f n (by omega) (by omega) (by have:=O9 hq;omega) (hw.arg hq) (hs.arg hq) ho) (x5:=fun y1 y2=>I1 N (n+2) y1 y2 ⟨l,false⟩ p)
  (Qr:=fun u t=>Sm l p (mrg (H6 o) (H6 u)) (Z0 (H6 u)+1) (H6 t)) (fun u hu r9 e9=>by
   have ru:=hu.res (hw.arg hq) ho;obtain⟨g,hg,hgl,hfg⟩:=LI ru ho.f0
   have ho':Iv l (H6 r9) (g:Int):=by rw[e9,←hg];exact ho.next ru
   have m2:=Uj (p:=p) (show f<g by omega) hgl;obtain⟨T,t1,t2,t3⟩:=ih p r9 g (n+1) (by omega) (by omega) hp hw hs ho';have hc:=Fs hw hs ho' t2 fun s hs=>(t3 s).1 hs;refine⟨T,?_,by omega,fun t=>?_⟩
   ·unfold I1;rw[hg,t1];rfl
   rw[t3,e9,hg]) (fun u t hu ht=>ht.res hw (ho.next (hu.res (hw.arg hq) ho)))
 obtain ⟨W, w1,w2⟩:=NZ (L:=L) (N:=N) (A:=Unit ⊕ Unit) (u:=.inl ()) (Q:=fun x s=>s=x) (step:=fun(s3:Int)=>
         (
          if cmp .lss s3 (Ar.len L)=true then
           (B6 L s3).bind fun x9=>
           if(⟨l,false⟩:B3).full=true then
            some ([],.inr (.inr ()))
           else
            N6 (some ([x9],())) fun _=>
            some ([],.inl (ar .add .i64 s3 1))
          else
           some ([],.inr (.inl ()))
          :Option (List (List A0)×((Int) ⊕ (Unit ⊕ Unit))))) (by omega) (fun j u hu hj hm=>by
  have e:ar .add .i64 (j:Int) 1=j+1:=C4 (by omega) (by omega);rw[if_pos (P9 hj),C5,hu];simp only[Option.bind_some,e,Bool.false_eq_true,if_false]
  exact FB fun s=>Iff.rfl) (by rw[if_neg S9])
 obtain ⟨V,v1,v2⟩:=Mo (L:=R) (R:=Unit) (Q:=fun x s=>s=x) (body:=fun(_:Unit) (y15:(List A0))=>
         (
          N6 (some ([y15],())) fun _=>
          some ([],.inl ())
          :Option (List (List A0)×(Unit ⊕ Unit)))) fun x hx=>FB fun s=>Iff.rfl
 refine⟨W++(V++[]),?_,fun s=>?_⟩
 ·refine(congrArg (fun m:Option (List (List BD)×Unit)=>m.bind fun q=>some q.1) (Fu (o:=()) (w':=V++[]) w1 ?_)).trans rfl
  dsimp only
  rw[r1];simp only[Option.bind_some];exact Fu v1 rfl
 rw[append_nil,List.mem_append,w2,v2,Sm.i4 h0 ha];refine or_congr ?_ ?_
 ·constructor
  ·rintro⟨x,hx,rfl⟩;exact(h3 _).1 hx
  intro h;exact⟨s,(h3 s).2 h,rfl⟩
 constructor
 ·rintro⟨x,hx,rfl⟩;obtain⟨u,t,a,b,c⟩:=(r2 _).1 hx;exact⟨H6 u,H6 t,a,b,c⟩
 rintro⟨u,t,a,b,c⟩;exact⟨s,(r2 s).2 ⟨u.map Ju,t.map Ju,by rw[P7];exact a,by simp only[P7];exact b,by rw[P7,P7];exact c⟩,rfl⟩
def Wx :List (List (List BD))→List PR→List PR→Prop
 |[],w,s=>s=w
 |L::r,w,s=>∃u∈L,Cb w (H6 u)∧Wx r (mrg w (H6 u)) s
omit hN hl in
theorem Wx.snoc :∀{P:List (List (List BD))} {L:List (List BD)} {w s:List PR},Wx (P++[L]) w s↔∃t,Wx P w t∧∃u∈L,Cb t (H6 u)∧s=mrg t (H6 u)
 |[],L,w,s=>by simp[Wx]
 |M::P,L,w,s=>by
  show(∃u∈M,Cb w (H6 u)∧Wx (P++[L]) (mrg w (H6 u)) s)↔_
  constructor
  ·rintro⟨u,hu,ha,h⟩;obtain⟨t,ht,h⟩:=Wx.snoc.1 h;exact⟨t,⟨u,hu,ha,ht⟩,h⟩
  rintro⟨t,⟨u,hu,ha,ht⟩,h⟩;exact⟨u,hu,ha,Wx.snoc.2 ⟨t,ht,h⟩⟩
theorem Rg {f:Int}:∀{P:List (List (List BD))} {w:List BD} {n:Nat},P.length<n→(∀L∈P,L.length≤4096∧∀u∈L,Kd l f (H6 u))→Gd l (H6 w)→∃R,S6 N n P w=some R∧∀s,s∈R↔Wx P (H6 w) (H6 s)
 |[],w,n,hn,_,_=>by
  obtain⟨n,rfl⟩:∃m,n=m+1:=⟨n - 1,by omega⟩;unfold S6;refine⟨[w],by rw[if_pos (show cmp .eql (Ar.len ([]:List (List (List BD)))) 0=true from rfl)];rfl,fun s=>?_⟩;rw[List.mem_singleton];exact⟨fun e=>by rw[e];rfl,fun e=>HQ e⟩
 | L::P,w,n,hn,hP,gw=>by
  obtain⟨n,rfl⟩:∃m,n=m+1:=⟨n - 1,by omega⟩;unfold S6;have hwl:=gw.len
  rw[List.length_map]at hwl
  obtain⟨hLl,hL⟩:=hP L (by simp);refine Kj ?_;rw[if_neg (by rw[B8,A9];simp;omega),Hv];simp only[Option.bind_some];refine BH (L:=L) (u:=()) (Q:=fun u s=>Cb (H6 w) (H6 u)∧Wx P (mrg (H6 w) (H6 u)) (H6 s)) (by omega) ?_ ?_ rfl ?_
  ·intro i u hu hi hm;have ru:=hL u hm;have hul:=ru.gd.len
   rw[List.length_map]at hul
   have e:ar .add .i64 (i:Int) 1=i+1:=C4 (by omega) (by omega);rw[if_pos (P9 hi),C5,hu];simp only[Option.bind_some,e];rw[UV hN (by omega) (by omega),Cx];simp only[Option.bind_some]
   by_cases ha:Cb (H6 w) (H6 u)
   ·rw[Ku.2 ha,if_pos (show nt false=true from rfl)];obtain⟨c,c1,c2⟩:=LJ (N:=N) (n:=l.length) (by omega) (by omega) (by omega) gw.asc ru.gd.asc ha gw.wf.ins ru.gd.wf.ins;obtain⟨R,r1,r2⟩:=Rg (P:=P) (w:=c) (n:=n) (by simp at hn;omega) (fun L hL=>hP L (by simp[hL])) (by rw[c2];exact gw.mrg ru.gd ha);rw[c1];simp only[Option.bind_some];rw[r1];refine⟨R++[],Fu rfl rfl,fun s=>?_⟩;rw[append_nil,r2,c2];exact⟨fun h=>⟨ha,h⟩,fun h=>h.2⟩
   have:CF (H6 w) (H6 u)=true:=by
    cases h:CF (H6 w) (H6 u)with
    |true=>rfl
    |false=>exact absurd (Ku.1 h) ha
   rw[this,if_neg (show¬nt true=true by decide)];exact⟨[],rfl,fun s=>⟨fun h=>absurd h List.not_mem_nil,fun h=>absurd h.1 ha⟩⟩
  ·rw[if_neg S9]
  intro s
  constructor
  ·rintro⟨u,hu,ha,h⟩;exact⟨u,hu,ha,h⟩
  rintro⟨u,hu,ha,h⟩;exact⟨u,hu,ha,h⟩
omit hN hl in
theorem Ag9 {G:A1→List (List BD)} {b:List PR} {f:Int}:∀(n:Nat) {r:List A1} {p:A1},r.length≤n→p.Op=3→p.cP=r→r≠[]→(∀q∈r,∀s,s∈G q↔Sm l q b f (H6 s))→∀s,Wx (r.map G) [] s↔Sm l p b f s:=by
 intro n
 induction n with
 |zero=>intro r p hl _ _ hn;exact absurd (List.eq_nil_of_length_eq_zero (by omega)) hn
 | succ n ih=>
  intro r p hln h0 ha hn hG s
  rcases List.eq_nil_or_concat r with rfl|⟨m,q,rfl⟩
  ·exact absurd rfl hn
  rw[List.concat_eq_append]at *
  rw[List.map_append,List.map_cons,List.map_nil,Wx.snoc]
  by_cases hm:m=[]
  ·subst hm;rw[Sm.i3 h0 ha]
   constructor
   ·rintro⟨t,ht,u,hu,_,e⟩;have ht:t=[]:=ht;rw[e,ht,Gj];exact(hG q (by simp) u).1 hu
   intro h;refine⟨[],rfl,s.map Ju,(hG q (by simp) _).2 (by rw[P7];exact h),fun x hx=>absurd hx List.not_mem_nil,?_⟩;rw[P7,Gj]
  rw[Sm.i3c h0 ha hm];have ih':=fun t=>ih (r:=m) (p:={p with cP:=m}) (by simp at hln;omega) h0 rfl hm (fun q hq=>hG q (by simp[hq])) t
  constructor
  ·rintro⟨t,ht,u,hu,hd,e⟩;exact⟨t,H6 u,(ih' t).1 ht,(hG q (by simp) u).1 hu,hd,e⟩
  rintro⟨t,u,ht,hu,hd,e⟩;exact⟨t,(ih' t).2 ht,u.map Ju,(hG q (by simp) _).2 (by rw[P7];exact hu),by rw[P7];exact hd,by rw[P7];exact e⟩
theorem Yj {k:Nat} (ih:IHk N l k) {p:A1} (hw:GG p) (hp:p.pre.length≤64) (hs:Ji l.length p) (h0:p.Op=3) {o:List BD} {f:Nat} (ho:Iv l (H6 o) f) {n:Nat} (hmu:mu l p f≤k+1) (hn:8*k+15≤n):∃R,Ex N n ⟨l,false⟩ p o f=some R∧∀s,s∈R↔Sm l p (H6 o) f (H6 s):=by
 unfold Ex;rw[if_neg (by omega),if_neg (by omega),if_neg (by omega),if_pos h0];obtain⟨n,rfl⟩:∃m,n=m+2:=⟨n - 2,by omega⟩;unfold M1 Q5;have hal:=BF p
 let G:A1→List (List BD):=fun q=>(C8 N n ⟨l,false⟩ q o f).getD []
 have hG:∀q∈p.cP,C8 N n ⟨l,false⟩ q o f=some (G q)∧(∀s,s∈G q↔Sm l q (H6 o) f (H6 s))∧(G q).length≤1500:=fun q hq=>by
  have:=DK (l:=l) (f:=f) (g:=f) (O9 hq);obtain⟨L,h1,h2,h3⟩:=ih q o f n (by omega) (by omega) (by have:=O9 hq;omega) (hw.arg hq) (hs.arg hq) ho;have hc:=Fs (hw.arg hq) (hs.arg hq) ho h2 fun s hs=>(h3 s).1 hs
  have e:G q=L:=by show(C8 N n ⟨l,false⟩ q o f).getD []=L;rw[h1];rfl
  exact⟨by rw[e];exact h1,by rw[e];exact h3,by rw[e];exact hc⟩
 have key:∀(k i M:Nat) (acc:List (List (List BD))),i+k=p.cP.length→k<M→acc.length≤i→W0 (fun(s1:(List (List (List A0)))×Int)=>
  (
   if cmp .lss s1.2 (Ar.len p.cP)=true then
    (B6 p.cP s1.2).bind fun x8=>
    (C8 N n ⟨l,false⟩ x8 o f).bind fun r9=>
    (I3 s1.1 ([r9])).bind fun l11=>
    some ([],.inl (l11,ar .add .i64 s1.2 1))
   else
    some ([],.inr s1.1)
   :Option (List (List A0)×(((List (List (List A0)))×Int) ⊕ (((List (List (List A0))))))))) M (acc,(i:Int))=some ([],acc++(p.cP.drop i).map G):=by
  intro k
  induction k with
  |zero=>
   intro i M acc hi hM _;obtain⟨M,rfl⟩:∃m,M=m+1:=⟨M - 1,by omega⟩;rw[List.drop_eq_nil_of_le (by omega)];unfold W0
   dsimp only
   rw[if_neg (P1 (by rw[A9];omega))];simp
  |succ k ihk=>
   intro i M acc hi hM hacc;obtain⟨M,rfl⟩:∃m,M=m+1:=⟨M - 1,by omega⟩
   have hlt:i<p.cP.length:=by omega
   have e:ar .add .i64 (i:Int) 1=i+1:=C4 (by omega) (by omega);rw[List.drop_eq_getElem_cons hlt];unfold W0
   dsimp only
   rw[if_pos (P9 (by omega)),C5,List.getElem?_eq_getElem hlt];simp only[Option.bind_some];rw[(hG _ (List.getElem_mem hlt)).1];simp only[Option.bind_some];rw[M6 (by simp;omega)];simp only[Option.bind_some,e];rw[show((i:Int)+1)=((i+1:Nat):Int) by omega,ihk (i+1) M _ (by omega) (by omega) (by simp;omega),List.map_cons,List.append_assoc];rfl
 have hk:=key p.cP.length 0 N [] (by omega) (by omega) (by simp)
 simp only[List.drop_zero,List.nil_append]at hk
 have hk':((0:Nat):Int)=0:=rfl
 rw[hk']at hk
 obtain⟨R,r1,r2⟩:=Rg hN hl (f:=f) (P:=p.cP.map G) (w:=[]) (n:=N) (by simp;omega) (fun L hL=>by
  obtain⟨q,hq,rfl⟩:=List.mem_map.1 hL;obtain⟨_,h2,h3⟩:=hG q hq
  exact⟨by omega,fun u hu=>((h2 u).1 hu).res (hw.arg hq) ho⟩) (Gd.nil l)
 refine Kj ⟨[]++(R++[]),Fu hk ?_,fun s=>?_⟩
 ·rw[if_pos (show nt (⟨l,false⟩:B3).full=true from rfl),r1];simp only[Option.bind_some];exact Fu rfl rfl
 rw[List.nil_append,append_nil,r2];exact Ag9 _ (Nat.le_refl _) h0 rfl (hw.self.a1 (by omega) (by omega)) (fun q hq=>(hG q hq).2.1) _
theorem Vq :∀k,IHk N l k:=by
 intro k
 induction k with
 |zero=>
  intro p o f n hmu;exfalso;have h1:=A1.pre_eq p
  have:1≤p.pre.length:=by rw[h1];simp
  unfold mu at hmu
  have:=Nat.mul_le_mul_right (l.length+2) this;omega
 | succ k ih=>
  intro p o f n hmu hn hp hw hs ho;obtain⟨n,rfl⟩:∃m,n=m+1:=⟨n - 1,by omega⟩;have hop:=hw.self.op
  have hf:∃R,Ex N n ⟨l,false⟩ p o f=some R∧∀s,s∈R↔Sm l p (H6 o) f (H6 s):=by
   by_cases h0:p.Op=0
   ·exact Tj hN hl hw h0 ho n
   by_cases h1:p.Op=1
   ·exact Yh hN hl ih hw hp hs h1 ho hmu (by omega)
   by_cases h2:p.Op=2
   ·exact Yi hN hl ih hw hp hs h2 ho hmu (by omega)
   by_cases h3:p.Op=3
   ·exact Yj hN hl ih hw hp hs h3 ho hmu (by omega)
   by_cases h4:p.Op=4
   ·exact Wa hN hl ih hw hp hs h4 ho hmu (by omega)
   exact VZ hN hl ih hw hp hs (by omega) ho hmu (by omega)
  obtain⟨R,h1,h2⟩:=hf;exact Af1 hN hl hw hs ho h1 h2
end
end
end Go.Ab
