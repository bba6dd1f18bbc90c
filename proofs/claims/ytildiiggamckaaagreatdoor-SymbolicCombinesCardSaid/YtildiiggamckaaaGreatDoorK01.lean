/- . -/
import Derived.RangeFuncLeaves
import Derived.Below
import Derived.Laws.OwnMore
import Derived.Laws.CopyRow
import Derived.Laws.StructEq
import Derived.Laws.Strings
set_option linter.all false
namespace Go.Ab
open Go.RowKit
abbrev Bgn(N:Nat):Prop:=40000000≤N
def A5:=@Option.bind_some
def B2:=@decide_eq_true_eq
def A1:=@if_pos
def B7:=@Result.andThen_ok
def A3:=@if_neg
def D5:=@List.getElem?_eq_getElem
def B9:=@Sem.run_bind
def C4:=@Sem.run_pure
def G1:=@List.mem_of_getElem?
def E8:=@Option.some.injEq
def E2:=@Bool.false_eq_true
def F6:=@List.append_assoc
def D3:=@Nat.le_refl
def M7:=@Array.getD_eq_getD_getElem?
def J7:=@Nat.mul_le_mul_right
def I8:=@List.length_append
def G2:=@List.map_cons
def H7:=@Bool.and_eq_true
def G9:=@List.append_nil
def D1:=@if_true
def K0:=@Int.toNat_natCast
def L8:=@List.getElem?_of_mem
def J4:=@Option.map_some
def G6:=@Nat.lt_or_ge
def D7:=@if_false
def G5:=@Nat.add_mul
def M6:=@List.mem_singleton
def P2:=@List.take_of_length_le
def Q1:=@List.getElem?_toArray
def J3:=@List.map_nil
def O0:=@List.getElem?_set
def N3:=@List.length_cons
def N2:=@List.length_map
def R6:=@List.mem_append_left
def N1:=@List.nil_append
def Ak:=@Array.getElem?_eq_getElem
def Aj:=@List.drop_eq_getElem_cons
def M5:=@Bool.not_true
def Bz:=@List.take_append_drop
def Ai:=@List.getElem?_cons_succ
def Y5:=@List.mem_cons_of_mem
def AN:=@List.getElem?_cons_zero
def Bx:=@List.getElem?_append_left
def V8:=@List.getElem?_map
def V7:=@Bool.not_eq_true'
def J6:=@and_true
def Bw:=@Nat.eq_of_beq_eq_true
def AM:=@List.getElem_of_mem
def Ct:=@Go.MapKept.run_getObj_map
def O9:=@Int.le_refl
def R5:=@Nat.lt_irrefl
def V6:=@List.length_nil
def V5:=@List.cons.injEq
def Y4:=@List.length_take
def Y3:=@List.map_toArray
def Ah:=@List.length_range
def Cs:=@decide_eq_false_iff_not
def V4:=@Bool.not_false
def V3:=@Nat.mul_le_mul
def Y2:=@Bool.or_eq_true
def EV:=@Array.getElem?_setIfInBounds
def Cr:=@Array.getElem?_toList
def Cq:=@List.getElem?_append
def V2:=@Nat.le_trans
def V1:=@Nat.zero_add
def Bv:=@List.ext_getElem?
def Cp:=@List.map_congr_left
def AL:=@List.map_append
def AK:=@List.mem_append
def EU:=@List.mem_of_find?_eq_some
def Co:=@List.getElem?_take
def Bu:=@Option.getD_some
def Bt:=@List.getElem_mem
def V0:=@Sem.run_ite
def U9:=@decide_true
def Cn:=@List.take_add_one
def Bs:=@Bool.eq_iff_iff
def Dy:=@List.replicate_succ
def U8:=@Below.refl
def AJ:=@Prod.mk.injEq
def GM:=@List.getD_eq_getElem?_getD
def AI:=@Oper.semAt_eq
def GL:=@List.getElem?_append_right
def Q0:=@congrArg
def Cm:=@Option.getD_none
def Cl:=@List.take_length
def ET:=@List.mem_append_right
def ES:=@List.getElem?_eq_none
def Ck:=@Option.some.inj
def Dx:=@List.flatMap_cons
def Dw:=@of_decide_eq_true
def Br:=@Nat.add_assoc
def Iv:=@List.take_append_of_le_length
def Iu:=@List.eq_nil_of_length_eq_zero
def GK:=@List.getElem?_eraseIdx
def Bq:=@Nat.add_zero
def EQ:=@Option.isSome_none
def GJ:=@List.length_singleton
def OW:=@Nat.div_lt_iff_lt_mul
def GI:=@Array.getElem?_append
def FO:=@Nat.le_of_ble_eq_true
def FN:=@List.length_filter_le
def Cw:=@decide_eq_false
def DU:=@List.nodup_append
def Bl:=@Nat.sub_mul
def AA:=@Nat.one_mul
def DT:=@List.cons_append
def DS:=@List.all_eq_true
def DR:=@Array.mem_append
def DQ:=@List.mem_flatMap
def DP:=@List.any_eq_true
def FM:=@List.getElem?_range
def FL:=@List.getElem?_drop
def DO:=@Nat.mod_lt
def JN:=@List.eq_nil_iff_forall_not_mem
def FK:=@List.size_toArray
def FJ:=@DataW.trod_struct
def Hz:=@Array.getElem?_modify
def DN:=@World.alloc_eq
def DM:=@List.mem_range
def FI:=@List.mem_toArray
def FH:=@Nat.lt_succ_self
def FG:=@List.filter_cons
def JM:=@List.nodup_iff_pairwise_ne
def Cv:=@Nat.zero_le
def Hy:=@Array.length_toList
def Hx:=@Array.toList_filter
def FF:=@List.find?_some
def JL:=@List.pairwise_iff_getElem
def DL:=@Int.sub_zero
def JK:=@List.Pairwise.imp_of_mem
def Cu:=@beq_iff_eq
def FE:=@List.drop_drop
def FD:=@decide_eq_true
def JJ:=@Nat.le_mul_of_pos_right
def Hv:=@Nat.le_of_succ_le
def Hu:=@not_true_eq_false
def Ht:=@Array.any_eq_true
def DK:=@Nat.le_succ
def FC:=@List.mem_cons
def Hs:=@Int.natCast_zero
def Hr:=@Nat.lt_of_not_le
def Hq:=@List.drop_length
def NU:=@List.replicate_append_replicate
def FB:=@decide_false
def Hp:=@World.size_drew
def JI:=@Array.getElem_toList
def FA:=@List.mem_map
def NT:=@Array.eq_empty_of_size_eq_zero
def JH:=@Array.getElem_modify
def Ho:=@List.nodup_cons
def JG:=@List.getD_cons_zero
def JF:=@List.take_succ_cons
def Hn:=@Bool.false_and
def As6:=@List.pairwise_cons
def JE:=@List.append_of_mem
def Hm:=@Bool.false_or
def Hl:=@World.drew_eq
def NS:=@Array.getElem?_eq_none_iff
def JD:=@Array.size_append
def JC:=@World.cells?_some
def JA:=@List.pairwise_map
def NR:=@List.getElem?_eq_none_iff
def Jz:=@Nat.le_add_right
def Hk:=@Nat.mul_comm
def Jy:=@List.range'_succ
def Jx:=@Nat.div_eq_of_lt
def Jw:=@List.ext_getElem
def NQ:=@Array.setIfInBounds_comm
def Hj:=@List.map_map
def Jv:=@List.perm_middle
def NP:=@List.pairwise_mergeSort
def Ju:=@Nat.min_eq_left
def NO:=@Nat.div_add_mod
def Fz:=@Array.ext
def Jt:=@Option.map_none
def Js:=@Operand.tmp.inj
def Jr:=@Nat.not_lt_zero
def NN:=@Array.getElem?_extract
def NM:=@List.drop_of_length_le
def NL:=@List.pairwise_lt_range
def NK:=@List.drop_eq_nil_of_le
def Jq:=@List.drop_zero
def Jp:=@List.nodup_nil
def NJ:=@List.length_replicate
def Jo:=@World.mk.injEq
def NI:=@List.length_mergeSort
def NH:=@List.perm_append_comm
def NG:=@List.eq_nil_or_concat
def NF:=@List.concat_eq_append
def Jn:=@List.map_drop
def Jm:=@List.map_take
def Jl:=@Bool.and_self
def Jk:=@List.sum_cons
def Jj:=@Bool.true_and
def Ji:=@Nat.sub_self
def Jh:=@Nat.add_comm
def Jg:=@Int.zero_add
inductive D2 where
 |nil
 |full
 |ro
 |tok (t:Nat)
inductive V where
 |bad
 |bool (b:Bool)
 |int (k:IntKind) (n:Int)
 |str (s:ByteArray)
 |nilp
 |ref (id off:Nat)
 |eref (cs:List V) (off:Nat)
 |sl (xs:List V) (t:D2)
 |own (id:Nat) (lo n:Int)
 |elem (id:Nat) (i:Int) (sz off:Nat)
 |func (fn:Fn) (first cap:List V)
 |nilf
 |iface (t:TypeId) (v:V)
 |nili
 |agg (cs:List V)
 |tup (vs:List V)
 |map (id:Nat)
 |nilmap
 |fmap (ks:List Int) (xs:List V)
 |yield (id:Nat)
instance :Inhabited V:=⟨.bad⟩
def V.cells:V→List V
 | .agg cs=>cs
 |v=>[v]
def V.one:V→Bool
 | .bad=>false
 | .tup _=>false
 |_=>true
structure LpI where
 nt:Nat
 s:Nat→V
 st:LoopState
 pe:Option Code
 ps:Array Tmp
 asg:Code
 body:Code
inductive Dh where
 |cells (cs:List V)
 |spare
 |obj (o:Obj)
 |loop (L:LpI)
 |arr (sz:Nat) (xs:List V)
 |iter (mid since:Nat) (seen:Array Nat) (c0:Nat)
 |fm (ks:List Int) (xs:List V)
 |vm (ks:List Value) (xs:List V)
abbrev A4:=Nat→Option Dh
def upd (H:A4)(id:Nat)(b:Option Dh):A4:=fun x=>if x=id then b else H x
class L6 where
 gl:Nat→V
structure Hd where
 o:Nat
 cap:Nat
 sz:Nat
structure Gh where
 mu:Nat→Option Nat
 ow:Nat→Hd
 tk:Nat→Option (Nat×Nat×Nat)
 fz:Nat→Nat→Prop
 nx:Nat
 base:Nat
def Gm (g:Gh)(b o sz n cap:Nat):D2→Prop
 | .nil=>False
 | .full=>cap=n
 | .ro=>True
 | .tok t=>0<n∧∃lim,g.tk t=some (b,o+n*sz,lim)∧o+cap*sz≤lim
def D2.plain:D2→Bool
 | .tok _=>false
 |_=>true
inductive VR (g:Gh) (w:World):Value→V→Prop
 |bad (v:Value):VR g w v .bad
 |bool (b:Bool):VR g w (.bool b) (.bool b)
 |int (k:IntKind) (n:Int):VR g w (.int k n) (.int k n)
 |str (s:ByteArray):VR g w (.string s) (.str s)
 |nilp:VR g w (.pointer none) .nilp
 |nilf:VR g w .nilFunc .nilf
 |nili:VR g w .nilIface .nili
 |nilmap:VR g w (.map none) .nilmap
 |map {id b:Nat} (h:g.mu id=some b):VR g w (.map (some b)) (.map id)
 |ref {id b off:Nat} (h:g.mu id=some b):VR g w (.pointer (some ⟨b,off,none⟩)) (.ref id off)
 |own {id b:Nat} {lo n:Int} {p:Option Addr} (h:g.mu id=some b) (h0:0≤lo) (h1:0≤n) (h2:lo+n≤(g.ow id).cap) (hp:lo<(g.ow id).cap→p=some ⟨b,(g.ow id).o+lo.toNat*(g.ow id).sz,none⟩):
  VR g w (.slice p n.toNat ((g.ow id).cap-lo.toNat)) (.own id lo n)
 |elem {id b sz off:Nat} {i:Int} (h:g.mu id=some b) (hs:(g.ow id).sz=sz):VR g w (.pointer (some ⟨b,(g.ow id).o+i.toNat*sz+off,none⟩)) (.elem id i sz off)
 |eref {b o off:Nat} {cs:List V} (vs:Nat→Value) (hf:∀j,j<cs.length→g.fz b (o+j))
  (hw:∀j,j<cs.length→w.cell? ⟨b,o+j,none⟩=some (vs j)) (h1:∀j,j<cs.length→(vs j).oneCell'=true)
  (hv:∀j,j<cs.length→VR g w (vs j) (cs.getD j .bad)):VR g w (.pointer (some ⟨b,o+off,none⟩)) (.eref cs off)
 |sl0 {t:D2} (ht:t.plain=true):VR g w (.slice none 0 0) (.sl [] t)
 |sle {a:Addr} {cap:Nat} {t:D2} (ht:t= .ro∨(t= .full∧cap=0)):VR g w (.slice (some a) 0 cap) (.sl [] t)
 |sl {b o sz n cap:Nat} {xs:List V} {t:D2} (vs:Nat→Nat→Value) (hn:xs.length=n) (hc:n≤cap)
  (hz:∀i,i<n→(xs.getD i .bad).cells.length=sz) (hf:∀i j,i<n→j<sz→g.fz b (o+i*sz+j))
  (hw:∀i j,i<n→j<sz→w.cell? ⟨b,o+i*sz+j,none⟩=some (vs i j)) (h1:∀i j,i<n→j<sz→(vs i j).oneCell'=true)
  (hv:∀i j,i<n→j<sz→VR g w (vs i j) ((xs.getD i .bad).cells.getD j .bad)) (ht:Gm g b o sz n cap t):
  VR g w (.slice (some ⟨b,o,none⟩) n cap) (.sl xs t)
 |func {fn:Fn} {fs cs:Array Value} {F C:List V} (hl:fs.size=F.length) (hv:∀i,i<F.length→VR g w (fs.getD i undef) (F.getD i .bad))
  (hl':cs.size=C.length) (hv':∀i,i<C.length→VR g w (cs.getD i undef) (C.getD i .bad)):VR g w (.func fn fs cs) (.func fn F C)
 |fmap {b:Nat} {es:Array MapEntry} {clock:Nat} {ks:List Int} {xs:List V} (hb:b<g.base) (hw:w.heap[b]? =some (.map es clock)) (hk:es.toList.map (·.key)=ks.map (Value.int .i64)) (hn:ks.Nodup) (hl:xs.length=ks.length)
  (hv:∀i e,es[i]? =some e→VR g w e.val (xs.getD i .bad)):VR g w (.map (some b)) (.fmap ks xs)
 |yield {id b:Nat} (h:g.mu id=some b):VR g w (.func (.yield b) #[] #[]) (.yield id)
 |iface {t:TypeId} {v:Value} {V:V} (h:VR g w v V):VR g w (.iface t v) (.iface t V)
 |agg {vs:Array Value} {cs:List V} (hl:vs.size=cs.length) (h1:∀i,i<cs.length→(vs.getD i undef).oneCell'=true)
  (hv:∀i,i<cs.length→VR g w (vs.getD i undef) (cs.getD i .bad)):VR g w (.agg vs) (.agg cs)
 |tup {vs:Array Value} {cs:List V} (hl:vs.size=cs.length) (hv:∀i,i<cs.length→VR g w (vs.getD i undef) (cs.getD i .bad)):
  VR g w (.tuple vs) (.tup cs)
def VR.und (g:Gh)(w:World):VR g w undef (.tup []):=.tup rfl fun i hi=>by simp at hi
structure U3 (g:Gh) (w:World) (g':Gh) (w':World):Prop where
 mu:∀id b,g.mu id=some b→g'.mu id=some b
 tk:∀t x,g.tk t=some x→g'.tk t=some x
 fz:∀b o,g.fz b o→g'.fz b o
 base:g'.base=g.base
 cell:∀b o,g.fz b o→w'.cell? ⟨b,o,none⟩=w.cell? ⟨b,o,none⟩
 low:Below g.base w w'
 ow:∀id b,g.mu id=some b→g'.ow id=g.ow id
 dr:w.drawn≤w'.drawn
theorem U3.refl (g:Gh)(w:World):U3 g w g w:=⟨fun _ _ h=>h,fun _ _ h=>h,fun _ _ h=>h,rfl,fun _ _ _=>rfl,Below.refl _ _,fun _ _ _=>rfl,Nat.le_refl _⟩
def U3.trans {g g' g'':Gh} {w w' w'':World} (h:U3 g w g' w') (k:U3 g' w' g'' w''):U3 g w g'' w'':=
 ⟨fun id b e=>k.mu id b (h.mu id b e),fun t x e=>k.tk t x (h.tk t x e),fun b o e=>k.fz b o (h.fz b o e),k.base.trans h.base,
  fun b o e=>(k.cell b o (h.fz b o e)).trans (h.cell b o e),h.low.trans (h.base▸k.low),fun id b e=>(k.ow id b (h.mu id b e)).trans (h.ow id b e),V2 h.dr k.dr⟩
def Gm.mono {g g':Gh}{b o sz n cap:Nat}{t:D2}(h:Gm g b o sz n cap t)(ht:∀t x,g.tk t=some x→g'.tk t=some x):
 Gm g' b o sz n cap t:=by
 cases t with
 |tok t=>grind[Gm]
 |nil=>exact h
 |full=>exact h
 |ro=>exact h
def VR.mono {g g':Gh} {w w':World} (s:U3 g w g' w') {v:Value} {V:V} (h:VR g w v V):VR g' w' v V:=by
 induction h with
 |bad v=>exact .bad v
 |bool b=>exact .bool b
 |int k n=>exact .int k n
 |str s=>exact .str s
 |nilp=>exact .nilp
 |nilf=>exact .nilf
 |nili=>exact .nili
 |nilmap=>exact .nilmap
 |map h=>exact .map (s.mu _ _ h)
 |fmap hb hw hk hn hl hv ih=>exact .fmap (by rw[s.base];exact hb) ((s.low.block _ hb).trans hw) hk hn hl ih
 |ref h=>exact .ref (s.mu _ _ h)
 |own h h0 h1 h2 hp=>
  have e:=s.ow _ _ h
  rw[←e]at h2 hp ⊢
  exact .own (s.mu _ _ h) h0 h1 h2 hp
 |elem h hs=>
  have e:=s.ow _ _ h
  rw[←e]at hs ⊢
  exact .elem (s.mu _ _ h) hs
 |eref vs hf hw h1 hv ih=>exact .eref vs (fun j hj=>s.fz _ _ (hf j hj)) (fun j hj=>(s.cell _ _ (hf j hj)).trans (hw j hj)) h1 ih
 |sl0 ht=>exact .sl0 ht
 |sle ht=>exact .sle ht
 |sl vs hn hc hz hf hw h1 hv ht ih=>
  exact .sl vs hn hc hz (fun i j hi hj=>s.fz _ _ (hf i j hi hj)) (fun i j hi hj=>(s.cell _ _ (hf i j hi hj)).trans (hw i j hi hj)) h1 ih (ht.mono s.tk)
 |func hl hv hl' hv' ih ih'=>exact .func hl ih hl' ih'
 |yield h=>exact .yield (s.mu _ _ h)
 |iface h ih=>exact .iface ih
 |agg hl h1 hv ih=>exact .agg hl h1 ih
 |tup hl hv ih=>exact .tup hl ih
def Gh.at (g:Gh)(H:A4)(id:Nat):Option Nat:=
 match H id with
 |some .spare=>(g.tk id).map (·.1)
 |some (.arr _ xs)=>if xs.length=0 then none else g.mu id
 |some _=>g.mu id
 |none=>none
def Obj.isCells:Obj→Bool
 | .cells .. =>true
 |_=>false
def Ci (g:Gh) (w:World) (id:Nat):Dh→Prop
 | .cells cs=>∃b c T,g.mu id=some b∧g.base≤b∧w.heap[b]? =some (.cells c T (0,0))∧c.size=cs.length∧
  (∀j,j<cs.length→(c.getD j undef).oneCell'=true∧VR g w (c.getD j undef) (cs.getD j .bad))∧∀o,¬g.fz b o
 | .spare=>∃b e lim c T,g.tk id=some (b,e,lim)∧g.base≤b∧w.heap[b]? =some (.cells c T (0,0))∧e≤lim∧c.size=lim∧∀o,e≤o→¬g.fz b o
 | .arr sz xs=>∃b,g.mu id=some b∧(g.ow id).sz=sz∧(g.ow id).cap=xs.length∧(∀i,i<xs.length→(xs.getD i .bad).cells.length=sz)∧
  (xs.length=0∨∃c T,g.base≤b∧w.heap[b]? =some (.cells c T (0,0))∧(g.ow id).o+xs.length*sz≤c.size∧
   (∀i j,i<xs.length→j<sz→(c.getD ((g.ow id).o+i*sz+j) undef).oneCell'=true∧VR g w (c.getD ((g.ow id).o+i*sz+j) undef) ((xs.getD i .bad).cells.getD j .bad))∧
   ∀o,(g.ow id).o≤o→¬g.fz b o)
 | .obj o=>∃b,g.mu id=some b∧g.base≤b∧w.heap[b]? =some o∧Obj.isCells o=false
 | .fm ks xs=>∃b es clock,g.mu id=some b∧g.base≤b∧w.heap[b]? =some (.map es clock)∧es.toList.map (·.key)=ks.map (Value.int .i64)∧ks.Nodup∧xs.length=ks.length∧∀i e,es[i]? =some e→VR g w e.val (xs.getD i .bad)
 | .vm ks xs=>∃b es clock,g.mu id=some b∧g.base≤b∧w.heap[b]? =some (.map es clock)∧es.toList.map (·.key)=ks∧ks.Nodup∧xs.length=ks.length∧∀i e,es[i]? =some e→VR g w e.val (xs.getD i .bad)
 | .iter mid since seen c0=>∃b bm,g.mu id=some b∧g.base≤b∧g.mu mid=some bm∧w.heap[b]? =some (.mapIter (some bm) since seen c0)
 | .loop L=>∃b r,g.mu id=some b∧g.base≤b∧w.heap[b]? =some (.loop r)∧r.state=L.st∧r.pending=L.pe∧r.params=L.ps∧r.assign=L.asg∧r.body=L.body∧r.tmps.size=L.nt∧
  ∀t,VR g w (r.tmps.getD t undef) (L.s t)
structure Rl [L6] (g:Gh) (H:A4) (w:World):Prop where
 blk:∀id b,H id=some b→Ci g w id b
 inj:∀id id' b,g.at H id=some b→g.at H id'=some b→id=id'
 frz:∀b o,g.fz b o→∃v,w.cell? ⟨b,o,none⟩=some v
 nxt:∀id,g.nx≤id→g.mu id=none∧g.tk id=none∧H id=none
 bnd:g.base≤w.heap.size
 glb:∀n,VR g w (.pointer (some ⟨n,0,none⟩)) (L6.gl n)
structure Fr where
 s:Nat→V
 df:List Nat
def Fr.put (fr:Fr)(d:Option Tmp)(v:V):Fr:=
 match d with
 |some d=>{fr with s:=fun t=>if t=d then v else fr.s t}
 |none=>fr
structure FR (nt:Nat) (g:Gh) (w:World) (a:Act) (fr:Fr):Prop where
 size:a.tmps.size=nt
 s:∀t,VR g w (a.tmps.getD t undef) (fr.s t)
 df:∃bs:List Nat,bs.length=fr.df.length∧(∀i,i<bs.length→g.mu (fr.df.getD i 0)=some (bs.getD i 0))∧a.defers=bs.map fun b=>{target:=.collected b,args:= #[]}
def FR.mono {nt:Nat}{g g':Gh}{w w':World}{a:Act}{fr:Fr}(h:FR nt g w a fr)(s:U3 g w g' w'):FR nt g' w' a fr:=by
 refine⟨h.size,fun t=>(h.s t).mono s,?_⟩;obtain⟨bs,h1,h2,h3⟩:=h.df;exact⟨bs,h1,fun i hi=>s.mu _ _ (h2 i hi),h3⟩
theorem FR.put {nt:Nat} {g:Gh} {w:World} {a:Act} {fr:Fr} (h:FR nt g w a fr) {d:Option Tmp} {v:Value} {V:V} (hd:∀t,d=some t→t<nt) (hv:VR g w v V):
 FR nt g w (a.put d v) (fr.put d V):=by
 cases d with
 |none=>exact h
 | some d=>
  have hlt:=hd d rfl;refine⟨by simp[Act.put,h.size],fun t=>?_,h.df⟩;have hs:=h.s t;simp only[Act.put,Fr.put]
  by_cases e:t=d
  ·subst e
   have:(a.tmps.setIfInBounds t v).getD t undef=v:=by
    simp[Array.getD,h.size,hlt]
   rw[this];grind
  have:(a.tmps.setIfInBounds d v).getD t undef=a.tmps.getD t undef:=by
   simp only[M7,EV];rw[A3 (by omega)]
  rw[this];simp_all
end Go.Ab
namespace Go.Ab
open Go.RowKit
variable [L6]
theorem D6 (H:A4)(id:Nat)(b:Option Dh):upd H id b id=b:=by simp[upd]
theorem C3 (H:A4){id x:Nat}(b:Option Dh)(h:x≠id):upd H id b x=H x:=by simp[upd,h]
theorem Z1 (H:A4)(id:Nat)(a b:Option Dh):upd (upd H id a) id b=upd H id b:=by
 funext x;simp_all[upd]
def ZH (H:A4)(id:Nat)(h:H id=none):upd H id none=H:=by
 funext x;simp_all[upd]
def Tx (H:A4)(id:Nat)(b:Option Dh)(h:H id=none):upd (upd H id b) id none=H:=by rw[Z1,ZH H id h]
def ZG (H:A4)(id:Nat)(b:Option Dh)(h:H id=b):upd H id b=H:=by
 funext x;simp_all[upd]
def Ap {H:A4}{id x:Nat}{b:Dh}(h:H id=none)(hx:H x=some b):x≠id:=by
 grind
def Ci.mono {g g':Gh} {w w':World} {H:A4} {id:Nat} {k:Dh} (hk:H id=some k) (s:U3 g w g' w') (h:Ci g w id k)
 (hh:∀b,g.at H id=some b→w'.heap[b]? =w.heap[b]? ∧∀o,g'.fz b o→g.fz b o):Ci g' w' id k:=by
 cases k with
 |cells cs=>
  obtain⟨b,c,T,h1,h2,h3,h4,h5,h6⟩:=h;have hb:=hh b (by simp_all[Gh.at]);exact⟨b,c,T,s.mu _ _ h1,s.base▸h2,hb.1.trans h3,h4,fun j hj=>⟨(h5 j hj).1,(h5 j hj).2.mono s⟩,fun o ho=>h6 o (hb.2 o ho)⟩
 |spare=>
  obtain⟨b,e,lim,c,T,h1,h2,h3,h4,h5,h6⟩:=h;have hb:=hh b (by simp_all[Gh.at]);exact⟨b,e,lim,c,T,s.tk _ _ h1,s.base▸h2,hb.1.trans h3,h4,h5,fun o ho hf=>h6 o ho (hb.2 o hf)⟩
 |obj o=>
  obtain⟨b,h1,h2,h3,h4⟩:=h;have hb:=hh b (by simp_all[Gh.at]);exact⟨b,s.mu _ _ h1,s.base▸h2,hb.1.trans h3,h4⟩
 |iter mid since seen c0=>
  obtain⟨b,bm,h1,h2,h3,h4⟩:=h;have hb:=hh b (by simp_all[Gh.at]);exact⟨b,bm,s.mu _ _ h1,s.base▸h2,s.mu _ _ h3,hb.1.trans h4⟩
 |fm ks xs=>
  obtain⟨b,es,clock,h1,h2,h3,h4,h5,h6,h7⟩:=h;have hb:=hh b (by simp_all[Gh.at]);exact⟨b,es,clock,s.mu _ _ h1,s.base▸h2,hb.1.trans h3,h4,h5,h6,fun i e hi=>(h7 i e hi).mono s⟩
 |vm ks xs=>
  obtain⟨b,es,clock,h1,h2,h3,h4,h5,h6,h7⟩:=h;have hb:=hh b (by simp_all[Gh.at]);exact⟨b,es,clock,s.mu _ _ h1,s.base▸h2,hb.1.trans h3,h4,h5,h6,fun i e hi=>(h7 i e hi).mono s⟩
 |loop L=>
  obtain⟨b,r,h1,h2,h3,h4,h5,h6,h7,h8,h9,h10⟩:=h;have hb:=hh b (by simp_all[Gh.at]);exact⟨b,r,s.mu _ _ h1,s.base▸h2,hb.1.trans h3,h4,h5,h6,h7,h8,h9,fun t=>(h10 t).mono s⟩
 |arr sz xs=>
  obtain⟨b,h1,hs,h2,h3,h4⟩:=h;have e:=s.ow _ _ h1;refine⟨b,s.mu _ _ h1,by rw[e];exact hs,by rw[e];exact h2,h3,?_⟩;rw[e]
  rcases h4 with h4|⟨c,T,k1,k2,k3,k4,k5⟩
  ·omega
  by_cases h0:xs.length=0
  ·omega
  have hb:=hh b (by simp_all[Gh.at]);exact .inr ⟨c,T,s.base▸k1,hb.1.trans k2,k3,fun i j hi hj=>⟨(k4 i j hi hj).1,(k4 i j hi hj).2.mono s⟩,fun o ho hf=>k5 o ho (hb.2 o hf)⟩
def Ci.lt {g:Gh} {w:World} {H:A4} {id b:Nat} {k:Dh} (hk:H id=some k) (h:Ci g w id k) (hb:g.at H id=some b):b<w.heap.size:=by
 have lt_of:∀{b:Nat} {o:Obj},w.heap[b]? =some o→b<w.heap.size:=by
  grind
 cases k with
 |cells cs=>
  grind[Gh.at,Ci]
 |spare=>
  grind[Gh.at,Ci]
 |obj o=>
  grind[Gh.at,Ci]
 |fm ks xs=>
  grind[Gh.at,Ci]
 |vm ks xs=>
  grind[Gh.at,Ci]
 |loop L=>
  grind[Gh.at,Ci]
 |iter mid since seen c0=>
  grind[Gh.at,Ci]
 |arr sz xs=>
  grind[Gh.at,Ci]
def Rl.lt {g:Gh}{H:A4}{w:World}(h:Rl g H w){id b:Nat}(hb:g.at H id=some b):b<w.heap.size:=by
 cases hk:H id with
 |none=>simp_all[Gh.at]
 |some k=>exact(h.blk id k hk).lt hk hb
def Rl.fz_lt {g:Gh}{H:A4}{w:World}(h:Rl g H w){b o:Nat}(hf:g.fz b o):b<w.heap.size:=by
 obtain⟨v,hv⟩:=h.frz b o hf;exact World.block_lt_of_cell? w (a:=⟨b,o,none⟩) hv
def Rl.less {g:Gh} {H H':A4} {w:World} (h:Rl g H w) (hl:∀id b,H' id=some b→H id=some b):Rl g H' w:=by
 have hat:∀id b,g.at H' id=some b→g.at H id=some b:=by
  grind[Gh.at]
 refine⟨fun id b hb=>h.blk id b (hl _ _ hb),fun id id' b h1 h2=>h.inj id id' b (hat _ _ h1) (hat _ _ h2),h.frz,fun id hi=>⟨(h.nxt id hi).1,(h.nxt id hi).2.1,?_⟩,h.bnd,h.glb⟩
 cases hk:H' id with
 |none=>rfl
 |some k=>have:=hl _ _ hk;rw[(h.nxt id hi).2.2]at this;cases this
def CM {w:World}{o:Obj}{b i:Nat}(h:b<w.heap.size):(w.alloc o).cell? ⟨b,i,none⟩=w.cell? ⟨b,i,none⟩:=
 World.cell?_alloc_lt w (a:=⟨b,i,none⟩) (o:=o) h
def MO {w:World} {c:Array Value} {T:TypeId} {i:Nat}:(w.alloc (.cells c T)).cell? ⟨w.heap.size,i,none⟩=c[i]? :=by
 have h:(w.alloc (.cells c T)).heap[w.heap.size]? =some (.cells c T):=by
  show(w.heap.push _)[w.heap.size]? =_
  simp
 simp_all
def Gh.new (g:Gh)(w:World)(F:Prop)(n:Nat):Gh:=
 {g with mu:=fun x=>if x=g.nx then some w.heap.size else g.mu x,nx:=g.nx+1,fz:=fun b o=>g.fz b o∨(F∧b=w.heap.size∧o<n)}
theorem U3.new {g:Gh}{H:A4}{w:World}(h:Rl g H w)(o:Obj)(F:Prop)(n:Nat):U3 g w (g.new w F n) (w.alloc o):=by
 refine⟨fun id b e=>?_,fun t x e=>e,fun b o e=>.inl e,rfl,fun b i e=>CM (h.fz_lt e),(U8 _ _).alloc h.bnd _,fun _ _ _=>rfl,D3 _⟩;simp only[Gh.new]
 split
 ·next e'=>subst e';rw[(h.nxt _ (D3 _)).1]at e;cases e
 exact e
def heap_alloc {w:World}{o:Obj}{b:Nat}(h:b<w.heap.size):(w.alloc o).heap[b]? =w.heap[b]? :=Below.heap_alloc w o b h
def AE {w:World}{o:Obj}:(w.alloc o).heap[w.heap.size]? =some o:=by
 show(w.heap.push _)[w.heap.size]? =_
 simp
def MQ {g g':Gh}{H H':A4}{id:Nat}(h:H' id=H id)(hm:g'.mu id=g.mu id)(ht:g'.tk id=g.tk id)(ho:g'.ow id=g.ow id:=by rfl):g'.at H' id=g.at H id:=by
 simp_all[Gh.at]
def Rl.newNamed {g:Gh} {H:A4} {w:World} (h:Rl g H w) (o:Obj) (k:Dh) (hk:k≠ .spare)
 (hok:Ci (g.new w False 0) (w.alloc o) g.nx k) (hk2:∀sz xs,k≠ .arr sz xs:=by intro _ _ h;cases h):Rl (g.new w False 0) (upd H g.nx (some k)) (w.alloc o):=by
 have s:=U3.new h o False 0;have hnx:=h.nxt g.nx (D3 _)
 have hne:∀id,id≠g.nx→(g.new w False 0).at (upd H g.nx (some k)) id=g.at H id:=fun id hi=>
  MQ (C3 _ _ hi) (by grind[Gh.new]) rfl
 have hat:(g.new w False 0).at (upd H g.nx (some k)) g.nx=some w.heap.size:=by
  cases k<;>simp_all[Gh.at,D6,Gh.new]
 refine⟨fun id b hb=>?_,fun id id' b h1 h2=>?_,fun b o hf=>?_,fun id hi=>?_,?_,fun n=>(h.glb n).mono s⟩
 ·by_cases hi:id=g.nx
  ·grind[upd]
  rw[C3 _ _ hi]at hb
  refine(h.blk id b hb).mono hb s fun b' hb'=>⟨heap_alloc (h.lt hb'),fun o ho=>?_⟩
  grind[Gh.new]
 ·by_cases hi:id=g.nx<;>by_cases hi':id'=g.nx
  ·rw[hi,hi']
  ·subst hi;rw[hat]at h1;rw[hne _ hi']at h2;cases h1;exact absurd (h.lt h2) (R5 _)
  ·subst hi';rw[hat]at h2;rw[hne _ hi]at h1;cases h2;exact absurd (h.lt h1) (R5 _)
  rw[hne _ hi]at h1;rw[hne _ hi']at h2;exact h.inj _ _ _ h1 h2
 ·rcases hf with hf|⟨hF,_⟩
  ·obtain⟨v,hv⟩:=h.frz b o hf;exact⟨v,(CM (h.fz_lt hf)).trans hv⟩
  omega
 ·have hi':g.nx≤id:=Hv hi
  have hne':id≠g.nx:=fun e=>by grind[Gh.new]
  obtain⟨a1,a2,a3⟩:=h.nxt id hi'
  grind[Gh.new,upd]
 have:=h.bnd;simp[Gh.new];omega
def Rl.newFrozen {g:Gh} {H:A4} {w:World} (h:Rl g H w) (c:Array Value) (T:TypeId) (n:Nat) (hn:n≤c.size):
 Rl (g.new w True n) H (w.alloc (.cells c T)):=by
 have s:=U3.new h (.cells c T) True n
 have hat:∀id b,(g.new w True n).at H id=some b→g.at H id=some b:=by
  intro id b hb
  cases hk:H id with
  |none=>simp_all[Gh.at]
  |some k=>
   have hne:id≠g.nx:=fun e=>by subst e;rw[(h.nxt _ (D3 _)).2.2]at hk;cases hk
   rwa[MQ (g:=g) (g':=g.new w True n) (H:=H) (H':=H) rfl (by grind[Gh.new]) rfl]at hb
 refine⟨fun id b hb=>?_,fun id id' b h1 h2=>h.inj _ _ _ (hat _ _ h1) (hat _ _ h2),fun b o hf=>?_,fun id hi=>?_,?_,fun n=>(h.glb n).mono s⟩
 ·refine(h.blk id b hb).mono hb s fun b' hb'=>⟨heap_alloc (h.lt hb'),fun o ho=>?_⟩
  rcases ho with ho|⟨_,e,_⟩
  ·exact ho
  subst e;exact absurd (h.lt hb') (R5 _)
 ·rcases hf with hf|⟨_,e,ho⟩
  ·obtain⟨v,hv⟩:=h.frz b o hf;exact⟨v,(CM (h.fz_lt hf)).trans hv⟩
  subst e
  have:o<c.size:=by omega
  simp_all
 ·have hi':g.nx≤id:=Hv hi
  have hne':id≠g.nx:=fun e=>by grind[Gh.new]
  obtain⟨a1,a2,a3⟩:=h.nxt id hi'
  simp_all[Gh.new]
 have:=h.bnd;simp[Gh.new];omega
def SL {w:World}{b:Nat}{o:Obj}(h:w.heap[b]? =some o):b<w.heap.size:=by
 grind
def P1 (w:World)(g:Nat)(cs:Array Value)(k:Nat)(h:k≠g):(w.setRow g cs).heap[k]? =w.heap[k]? :=by
 simp only[World.setRow,Hz];rw[A3 (by omega)]
theorem Ce (w:World)(b:Nat)(cs:Array Value)(k o:Nat)(h:k≠b):(w.setRow b cs).cell? ⟨k,o,none⟩=w.cell? ⟨k,o,none⟩:=
 World.cell?_of_block (w:=w) (a:=⟨k,o,none⟩) (P1 w b cs k h)
def GC {B:Nat}(w:World)(b:Nat)(cs:Array Value)(h:B≤b):Below B w (w.setRow b cs):=
 ⟨rfl,rfl,rfl,by simp_all,fun k hk=>P1 w b cs k (by omega)⟩
def Rl.setNamed {g:Gh} {H:A4} {w:World} (h:Rl g H w) {id b:Nat} {cs cs':List V} {c c':Array Value} {T:TypeId} (hk:H id=some (.cells cs)) (hb:g.mu id=some b)
 (hw:w.heap[b]? =some (.cells c T (0,0))) (hsz:c'.size=c.size) (hl:cs'.length=cs.length)
 (hv:∀j,j<cs'.length→(c'.getD j undef).oneCell'=true∧VR g w (c'.getD j undef) (cs'.getD j .bad)):
 U3 g w g (w.setRow b c')∧Rl g (upd H id (some (.cells cs'))) (w.setRow b c'):=by
 obtain⟨b',c0,T0,h1,h2,h3,h4,h5,h6⟩:=h.blk id _ hk
 have e:b'=b:=by rw[hb]at h1;simp_all
 subst e
 rw[hw]at h3
 have e2:c0=c:=by grind
 subst e2
 have s:U3 g w g (w.setRow b' c'):=by
  refine⟨fun _ _ e=>e,fun _ _ e=>e,fun _ _ e=>e,rfl,fun b o hf=>?_,GC w b' c' h2,fun _ _ _=>rfl,D3 _⟩
  have hne:b≠b':=fun e=>by simp_all
  grind[Ce]
 have hat:∀x,g.at (upd H id (some (.cells cs'))) x=g.at H x:=by
  grind[Gh.at,upd]
 have hid:g.at H id=some b':=by simp_all[Gh.at]
 refine⟨s,fun x k hx=>?_,fun x x' y h1 h2=>h.inj x x' y (hat x▸h1) (hat x'▸h2),fun y o hf=>?_,fun x hx=>?_,?_,fun n=>(h.glb n).mono s⟩
 ·by_cases hxe:x=id
  ·subst hxe;rw[D6]at hx;cases hx
   refine⟨b',c',T,hb,h2,setRow_heap w b' c0 c' T (0,0) hw,by omega,fun j hj=>⟨(hv j hj).1,(hv j hj).2.mono s⟩,h6⟩
  rw[C3 _ _ hxe]at hx
  refine(h.blk x k hx).mono hx s fun y hy=>⟨P1 w b' c' y fun e=>?_,fun _ ho=>ho⟩;subst e;exact hxe (h.inj _ _ _ hy hid)
 ·obtain⟨v,hv'⟩:=h.frz y o hf;exact⟨v,(s.cell y o hf).trans hv'⟩
 ·obtain⟨a1,a2,a3⟩:=h.nxt x hx
  have hne:x≠id:=fun e=>by simp_all
  simp_all[upd]
 have:=h.bnd;simp_all
def Rl.freeze {g:Gh} {H:A4} {w:World} (h:Rl g H w) {id:Nat} {cs:List V} (hk:H id=some (.cells cs)):
 ∃g',U3 g w g' w∧Rl g' (upd H id none) w∧∀v off,VR g w v (.ref id off)→VR g' w v (.eref cs off):=by
 obtain⟨b,c,T,h1,h2,h3,h4,h5,h6⟩:=h.blk id _ hk
 let g':Gh:={g with fz:=fun x o=>g.fz x o∨(x=b∧o<c.size)}
 have s:U3 g w g' w:=⟨fun _ _ e=>e,fun _ _ e=>e,fun _ _ e=>.inl e,rfl,fun _ _ _=>rfl,U8 _ _,fun _ _ _=>rfl,D3 _⟩
 have hid:g.at H id=some b:=by simp_all[Gh.at]
 have hcell:∀o,w.cell? ⟨b,o,none⟩=c[o]? :=fun o=>by simp[World.cell?,h3]
 have hat:∀x y,g'.at (upd H id none) x=some y→x≠id∧g.at H x=some y:=by
  grind[Gh.at,upd]
 refine⟨g',s,⟨fun x k hx=>?_,fun x x' y h1 h2=>h.inj _ _ _ (hat _ _ h1).2 (hat _ _ h2).2,fun y o hf=>?_,fun x hx=>?_,h.bnd,fun n=>(h.glb n).mono s⟩,fun v off hv=>?_⟩
 ·have hxe:x≠id:=fun e=>by simp_all[upd]
  rw[C3 _ _ hxe]at hx
  refine(h.blk x k hx).mono hx s fun y hy=>⟨rfl,fun o ho=>?_⟩
  rcases ho with ho|⟨e,_⟩
  ·exact ho
  subst e;exact absurd (h.inj _ _ _ hy hid) hxe
 ·rcases hf with hf|⟨e,ho⟩
  ·exact h.frz y o hf
  simp_all
 ·obtain⟨a1,a2,a3⟩:=h.nxt x hx
  have hne:x≠id:=fun e=>by simp_all
  grind[upd]
 cases hv with
 | ref hm=>
  rw[h1]at hm;cases hm
  have:=VR.eref (g:=g') (w:=w) (b:=b) (o:=0) (off:=off) (cs:=cs) (fun j=>c.getD j undef) (fun j hj=>.inr ⟨rfl,by omega⟩)
   (fun j hj=>by rw[hcell];simp_all) (fun j hj=>(h5 j hj).1) (fun j hj=>(h5 j hj).2.mono s)
  simp_all
def Ar8:TypeDesc→Bool
 | .struct _=>true
 | .array _ _=>true
 |_=>false
def Eh (P:Program)(t:TypeId):Option Nat:=(P.info? t).map (·.size)
def Ny (P:Program)(t:TypeId):Option Nat:=(P.info? t).map (·.bytes)
def Vq (P:Program)(t:TypeId):Option Bool:=(P.underlying t).map Ar8
def EO (P:Program)(t:TypeId):Option TypeId:=
 match P.underlying t with
 |some (.slice e)=>some e
 |_=>none
def arO (P:Program)(t:TypeId):Option (Nat×TypeId):=
 match P.underlying t with
 |some (.array n e)=>some (n,e)
 |_=>none
def Sg (P:Program)(t:TypeId):Bool:=
 match P.underlying t with
 |some .string=>true
 |_=>false
def ifO (P:Program)(t:TypeId):Bool:=
 match P.underlying t with
 |some (.interface _)=>true
 |none=>true
 |_=>false
def fdO (P:Program) (t:TypeId) (f:Nat):Option (Nat×TypeId):=
 match P.underlying t with
 |some (.struct fs)=>
  match fs[f]? with
  |some x=>if(Eh P x.type).getD 0=0 then none else some (x.offset,x.type)
  |none=>none
 |_=>none
def cv1:Value→V
 | .bool b=>.bool b
 | .int k n=>.int k n
 | .string s=>.str s
 | .pointer none=>.nilp
 | .slice none 0 0=>.sl [] .nil
 | .map none=>.nilmap
 | .nilFunc=>.nilf
 | .nilIface=>.nili
 |_=>.bad
def cv:Value→V
 | .agg cs=>if cs.all Value.oneCell' then .agg (cs.toList.map cv1)else .bad
 | .func (.func f) fs cs=>if fs.size=0∧cs.size=0 then .func (.func f) [] []else .bad
 |v=>cv1 v
def HA (P:Program)(t:TypeId):Option V:=((P.info? t).bind (·.zero)).map cv
theorem XI (g:Gh)(w:World)(v:Value):VR g w v (cv1 v):=by
 unfold cv1
 split<;>first|exact .sl0 rfl|constructor
theorem DJ (g:Gh) (w:World) (v:Value):VR g w v (cv v):=by
 unfold cv
 split
 ·next cs=>
  split
  ·next h=>
   have h':∀i,i<cs.size→(cs.getD i undef).oneCell'=true:=fun i hi=>by
    have:=(Array.all_eq_true.1 h) i hi
    simp_all
   refine .agg (by simp) (fun i hi=>h' i (by grind)) fun i hi=>?_
   have hi':i<cs.size:=by grind
   have:(cs.toList.map cv1).getD i .bad=cv1 (cs.getD i undef):=by
    simp_all
   rw[this];grind[XI]
  exact .bad _
 ·split
  ·next f fs cs h=>exact .func (by grind) (fun i hi=>by simp at hi) (by grind) (fun i hi=>by simp at hi)
  exact .bad _
 grind[XI]
def ev (fr:Fr):Operand→V
 | .tmp t=>fr.s t
 | .const v=>cv v
 | .global n=>L6.gl n
 | .func f=>.func (.func f) [] []
def ER (g:Gh)(w:World)(a:Act)(fr:Fr):Prop:=∀t,VR g w (a.tmps.getD t undef) (fr.s t)
theorem E6 {g:Gh}{w:World}{H:A4}{a:Act}{fr:Fr}(hR:Rl g H w)(h:ER g w a fr)(x:Operand):VR g w (a.eval x) (ev fr x):=by
 cases x with
 |tmp t=>exact h t
 |const v=>exact DJ g w v
 |global n=>exact hR.glb n
 |func f=>exact .func rfl (fun i hi=>by simp at hi) rfl (fun i hi=>by simp at hi)
def ER.mono {g g':Gh}{w w':World}{a:Act}{fr:Fr}(h:ER g w a fr)(s:U3 g w g' w'):ER g' w' a fr:=fun t=>(h t).mono s
def H6 (P:Program)(K:Value→World→Prop):Result Next→Prop
 | .ok (.value v) w=>K v w
 | .ok .skip w=>K undef w
 | .ok (.enter f args) w=>CallsIn Fence.wide 0 P f args w fun e w'=>∃v,e= .returned v∧K v w'
 | .ok (.round l f tmps assign body) w=>RoundIn Fence.wide 0 P l f tmps assign body w fun e w'=>∃v,e= .returned v∧K v w'
 |_=>False
def L4 (g:Gh)(w:World)(K:V→A4→Prop)(v:Value)(w':World):Prop:=
 ∃g' x H',U3 g w g' w'∧Rl g' H' w'∧VR g' w' v x∧K x H'
def I7 (P:Program)(o:Oper)(fr:Fr)(H:A4)(K:V→A4→Prop):Prop:=
 ∀g w a,Rl g H w→ER g w a fr→H6 P (L4 g w K) ((execOp a.eval o).run P w)
theorem L4.here {g:Gh}{H:A4}{w:World}{K:V→A4→Prop}{v:Value}{x:V}(hR:Rl g H w)(hv:VR g w v x)(h:K x H):L4 g w K v w:=
 ⟨g,x,H,U3.refl _ _,hR,hv,h⟩
section
variable {P:Program}{o:Oper}{fr:Fr}{H:A4}{K:V→A4→Prop}
theorem TI {x:Operand}(ho:o.op= .move x)(h:K (ev fr x) H):I7 P o fr H K:=by
 intro g w a hR hE;unfold execOp;rw[ho];exact L4.here hR (E6 hR hE x) h
theorem Pp {x:Operand}(ho:o.op= .assign x)(h:K (ev fr x) H):I7 P o fr H K:=by
 intro g w a hR hE;unfold execOp;rw[ho];exact L4.here hR (E6 hR hE x) h
theorem ZU {c x y:Operand}{t:Bool}(ho:o.op= .pick c x y)(hc:ev fr c= .bool t)(h:K (if t then ev fr x else ev fr y) H):I7 P o fr H K:=by
 intro g w a hR hE;have hb:=E6 hR hE c
 rw[hc]at hb
 have e:a.eval c= .bool t:=by generalize a.eval c=v at hb;cases hb;rfl
 unfold execOp;rw[ho];simp only[e,asBool,B9,C4,B7,H6];cases t
 ·exact L4.here hR (E6 hR hE y) h
 exact L4.here hR (E6 hR hE x) h
def VR.int_inv {g:Gh}{w:World}{v:Value}{k:IntKind}{n:Int}(h:VR g w v (.int k n)):v= .int k n:=by cases h;rfl
def VR.bool_inv {g:Gh}{w:World}{v:Value}{b:Bool}(h:VR g w v (.bool b)):v= .bool b:=by cases h;rfl
def VR.str_inv {g:Gh}{w:World}{v:Value}{s:ByteArray}(h:VR g w v (.str s)):v= .string s:=by cases h;rfl
theorem VR.cells {g:Gh} {w:World} {v:Value} {x:V} (h:VR g w v x) (h1:x.one=true):
 v.cells.size=x.cells.length∧∀j,j<x.cells.length→(v.cells.getD j undef).oneCell'=true∧VR g w (v.cells.getD j undef) (x.cells.getD j .bad):=by
 cases h with
 |agg hl h1' hv=>exact⟨hl,fun j hj=>⟨h1' j hj,hv j hj⟩⟩
 |bad v=>simp[V.one]at h1
 |tup hl hv=>simp[V.one]at h1
 | _=>
  refine⟨rfl,fun j hj=>?_⟩
  have:j=0:=by simpa[V.cells]using hj
  subst this;refine⟨rfl,?_⟩;simp only[V.cells,Value.cells,JG]
  first
   |exact .bool _|exact .int _ _|exact .str _|exact .nilp|exact .nilf|exact .nili|exact .nilmap
   |(constructor<;>assumption)
   |(exact .sl0 (by assumption))
   |(exact .sl _ (by assumption) (by assumption) (by assumption) (by assumption) (by assumption) (by assumption) (by assumption) (by assumption))
   |(exact .func (by assumption) (by assumption) (by assumption) (by assumption))
   |(exact .eref _ (by assumption) (by assumption) (by assumption) (by assumption))
end
def Gr (ag:Bool)(sz:Nat)(cs:List V)(off:Nat):Option V:=
 if ag then(if off+sz≤cs.length then some (.agg ((cs.drop off).take sz))else none)else cs[off]?
def T5 (cs:List V)(off:Nat)(xs:List V):List V:=cs.take off++(xs++cs.drop (off+xs.length))
def HG (P:Program) (H:A4) (t:TypeId) (v:V):Option V:=
 match Vq P t,Eh P t,v with
 |some ag,some sz,.eref cs off=>Gr ag sz cs off
 |some ag,some sz,.ref id off=>
  match H id with
  |some (.cells cs)=>Gr ag sz cs off
  |_=>none
 |_,_,_=>none
def LA (P:Program) (H:A4) (t:TypeId) (v x:V):Option A4:=
 match Eh P t,v with
 |some sz,.ref id off=>
  match H id with
  |some (.cells cs)=>if x.one=true∧x.cells.length=sz∧off+sz≤cs.length then some (upd H id (some (.cells (T5 cs off x.cells))))else none
  |_=>none
 |_,_=>none
def Ti (g:Gh)(w:World)(b o:Nat)(cs:List V):Prop:=
 ∀j,j<cs.length→∃v,w.cell? ⟨b,o+j,none⟩=some v∧v.oneCell'=true∧VR g w v (cs.getD j .bad)
theorem Y9 (b o n:Nat):(⟨b,o,none⟩:Addr).add n=⟨b,o+n,none⟩:=by
 unfold Addr.add;split<;>simp_all
section
variable {P:Program}{o:Oper}{fr:Fr}{H:A4}{K:V→A4→Prop}
def JY {t:TypeId} {ag:Bool} (h:Vq P t=some ag) (w:World):(isAgg t).run P w= .ok ag w:=by
 unfold Vq at h
 cases hu:P.underlying t with
 |none=>grind
 |some d=>
  simp only[hu,J4,E8]at h
  unfold isAgg;rw[B9,run_underlying hu w];subst h;cases d<;>rfl
def O4 {t:TypeId}{sz:Nat}(h:Eh P t=some sz)(w:World):(sizeOf t).run P w= .ok sz w:=by
 unfold Eh at h
 cases hi:P.info? t with
 |none=>grind
 |some i=>simp[hi]at h;simp[sizeOf,typeInfo,hi,h]
def GX {g:Gh} {w:World} {b q:Nat} {cs:List V} (hc:Ti g w b q cs) {t:TypeId} {ag:Bool} {sz off:Nat} {x:V} (ha:Vq P t=some ag) (hs:Eh P t=some sz)
 (hp:Gr ag sz cs off=some x):∃v,(loadVar t ⟨b,q+off,none⟩).run P w= .ok v w∧VR g w v x:=by
 unfold loadVar;rw[B9,JY ha w];simp only[B7]
 cases ag with
 | true=>
  simp only[Gr,D1]at hp
  split at hp
  ·next hle=>
   cases hp
   have hf:∀j,j<sz→w.cell? ((⟨b,q+off,none⟩:Addr).add j)=some ((w.cell? ⟨b,q+off+j,none⟩).getD undef):=by
    intro j hj;obtain⟨v,hv,_⟩:=hc (off+j) (by omega);rw[Y9,show q+off+j=q+(off+j) by omega,hv];rfl
   refine⟨.agg ((List.range sz).map fun j=>(w.cell? ⟨b,q+off+j,none⟩).getD undef).toArray,?_,?_⟩
   ·simp_all[O4,run_loadCells]
   refine .agg ?_ (fun i hi=>?_) fun i hi=>?_
   ·simp;omega
   ·have hi':i<sz:=by grind
    obtain⟨v,hv,h1,_⟩:=hc (off+i) (by omega)
    have:(((List.range sz).map fun j=>(w.cell? ⟨b,q+off+j,none⟩).getD undef).toArray).getD i undef=v:=by
     simp[Array.getD,hi',show q+off+i=q+(off+i) by omega,hv]
    rw[this];exact h1
   have hi':i<sz:=by grind
   obtain⟨v,hv,_,h2⟩:=hc (off+i) (by omega)
   have:(((List.range sz).map fun j=>(w.cell? ⟨b,q+off+j,none⟩).getD undef).toArray).getD i undef=v:=by
    simp[Array.getD,hi',show q+off+i=q+(off+i) by omega,hv]
   rw[this]
   have e:((cs.drop off).take sz).getD i .bad=cs.getD (off+i) .bad:=by
    grind
   rw[e];exact h2
  cases hp
 | false=>
  simp only[Gr,E2,D7]at hp
  have hlt:off<cs.length:=by
   grind
  obtain⟨v,hv,_,h2⟩:=hc off hlt
  simp_all
def Oy {g:Gh}{w:World}{id b:Nat}{cs:List V}(hR:Rl g H w)(hk:H id=some (.cells cs))(hb:g.mu id=some b):Ti g w b 0 cs:=by
 obtain⟨b',c,T,h1,h2,h3,h4,h5,h6⟩:=hR.blk id _ hk
 rw[hb]at h1;cases h1
 intro j hj
 have hj':j<c.size:=by omega
 refine⟨c.getD j undef,?_,(h5 j hj).1,(h5 j hj).2⟩;simp[World.cell?,h3,Array.getD,hj']
theorem Aa0 {t:TypeId} {y:Operand} {x:V} (ho:o.op= .load t y) (hl:HG P H t (ev fr y)=some x) (h:K x H):I7 P o fr H K:=by
 intro g w a hR hE;have hv:=E6 hR hE y
 unfold HG at hl
 split at hl
 ·next ag sz cs off ha hs he=>
  rw[he]at hv
  generalize hav:a.eval y=v at hv
  cases hv with
  |eref vs hf hw h1 hvv=>
   rename_i b q;obtain⟨u,hu,hr⟩:=GX (P:=P) (g:=g) (w:=w) (b:=b) (q:=q) (cs:=cs) (fun j hj=>⟨vs j,hw j hj,h1 j hj,hvv j hj⟩) ha hs hl;unfold execOp;rw[ho];simp only[hav,Instr.loadAt,Instr.sureAddr,B9,C4,B7,hu,H6]
   grind[L4.here]
 ·next ag sz id off ha hs he=>
  rw[he]at hv
  generalize hav:a.eval y=v at hv
  cases hv with
  | ref hm=>
   rename_i b
   split at hl
   ·next cs hk=>
    obtain⟨u,hu,hr⟩:=GX (P:=P) (Oy hR hk hm) ha hs hl
    rw[V1]at hu
    unfold execOp;rw[ho];simp only[hav,Instr.loadAt,Instr.sureAddr,B9,C4,B7,hu,H6]
    grind[L4.here]
   cases hl
 cases hl
theorem AT {cs xs:List V}{off:Nat}(h:off+xs.length≤cs.length):(T5 cs off xs).length=cs.length:=by
 grind[T5]
def HK {cs xs:List V}{off j:Nat}(h:off+xs.length≤cs.length):
 (T5 cs off xs).getD j .bad=if off≤j∧j<off+xs.length then xs.getD (j-off) .bad else cs.getD j .bad:=by
 grind[T5]
def Rg {t:TypeId} {y z:Operand} {zV:V} {H':A4} (ho:o.op= .store t y z) (hw:∀g w v,VR g w v (ev fr z)→VR g w v zV) (hl:LA P H t (ev fr y) zV=some H') (h:K .bad H'):I7 P o fr H K:=by
 intro g w a hR hE;have hv:=E6 hR hE y;have hz:=hw _ _ _ (E6 hR hE z)
 unfold LA at hl
 split at hl
 ·next sz id off hs he=>
  rw[he]at hv
  generalize hav:a.eval y=v at hv
  cases hv with
  | ref hm=>
   rename_i b
   split at hl
   ·next cs hk=>
    split at hl
    ·next hcond=>
     obtain⟨hone,hlen,hfit⟩:=hcond;cases hl;obtain⟨hcs,hcv⟩:=hz.cells hone;obtain⟨b',c,T,h1,h2,h3,h4,h5,h6⟩:=hR.blk id _ hk
     rw[hm]at h1;cases h1
     have hsz:(a.eval z).cells.size=sz:=by rw[hcs,hlen]
     have hmem:∀v∈(a.eval z).cells.toList,v.oneCell'=true:=by
      intro v hv;obtain⟨j,hj,rfl⟩:=AM hv
      have hj':j<(a.eval z).cells.size:=by omega
      have:=(hcv j (by omega)).1
      simp_all
     have hst:=run_storeCells_at P b off T (a.eval z).cells.toList 0 c w h3 (by simp;omega) hmem
     have hset:=hR.setNamed (cs':=T5 cs off zV.cells) (c':=(c.toList.take (off+0)++(a.eval z).cells.toList++c.toList.drop (off+0+(a.eval z).cells.toList.length)).toArray)
      hk hm h3 (by simp;omega) (AT (by omega)) (fun j hj=>by
       rw[AT (by omega)]at hj
       rw[HK (by omega)]
       have hc:((c.toList.take (off+0)++(a.eval z).cells.toList++c.toList.drop (off+0+(a.eval z).cells.toList.length)).toArray).getD j undef=
        if off≤j∧j<off+zV.cells.length then(a.eval z).cells.getD (j-off) undef else c.getD j undef:=by
        have hlt:j<c.size:=by omega
        simp only[Bq,M7,Q1,F6];rw[Cq,Cq];simp only[Y4,Hy,Ju (show off≤c.size by omega),Co,FL,Cr]
        by_cases q1:j<off
        ·rw[A1 q1,A1 q1,A3 (by omega)]
        grind
       rw[hc]
       grind)
     unfold execOp;rw[ho];simp only[hav,Instr.storeAt,Instr.sureAddr,storeVar,B9,C4,B7,O4 hs w,hsz,ne_eq,Hu,D7,hst,H6];exact⟨g,.bad,_,hset.1,hset.2,.bad _,h⟩
    cases hl
   cases hl
 cases hl
end
def Zj (v:V)(n:Nat):Option V:=
 match v with
 | .eref cs off=>some (.eref cs (off+n))
 | .ref id off=>some (.ref id (off+n))
 | .elem id i sz off=>some (.elem id i sz (off+n))
 |_=>none
def GZ (P:Program)(t:TypeId)(v:V)(f:Nat):Option V:=
 match fdO P t f with
 |some (off,_)=>Zj v off
 |none=>none
def Qg (P:Program) (t:TypeId) (v:V) (f:Nat):Option V:=
 match fdO P t f,v with
 |some (off,ft),.agg cs=>
  match Vq P ft,Eh P ft with
  |some ag,some sz=>Gr ag sz cs off
  |_,_=>none
 |_,_=>none
def DG (P:Program)(t:TypeId)(v:V)(i:Int):Option V:=
 match EO P t,arO P t,v with
 |some e,_,.sl xs _=>if(0≤i∧i<xs.length)∧Eh P e=some (xs.getD i.toNat .bad).cells.length then some (.eref (xs.getD i.toNat .bad).cells 0)else none
 |none,some (n,e),v=>if 0≤i∧i<n then(Eh P e).bind fun sz=>Zj v (i.toNat*sz)else none
 |_,_,_=>none
def No (P:Program) (t:TypeId) (v:V) (i:Int):Option V:=
 match arO P t,v with
 | some (n,e),.agg cs=>
  if 0≤i∧i<n then
   match Vq P e,Eh P e with
   |some ag,some sz=>Gr ag sz cs (i.toNat*sz)
   |_,_=>none
  else none
 |none,.str s=>if Sg P t=true∧0≤i then(s[i.toNat]?).map fun b=>.int .u8 b.toNat else none
 |_,_=>none
section
variable {P:Program}{o:Oper}{fr:Fr}{H:A4}{K:V→A4→Prop}
def Vr {g:Gh} {w:World} {v:Value} {x y:V} {n:Nat} (h:VR g w v x) (hy:Zj x n=some y):
 ∃b q,v= .pointer (some ⟨b,q,none⟩)∧VR g w (.pointer (some ⟨b,q+n,none⟩)) y:=by
 unfold Zj at hy
 split at hy
 ·cases hy
  cases h with
  |eref vs hf hw h1 hv=>exact⟨_,_,rfl,by rw[Br];exact .eref vs hf hw h1 hv⟩
 ·cases hy
  cases h with
  |ref hm=>exact⟨_,_,rfl,.ref hm⟩
 ·cases hy
  cases h with
  |elem hm hs=>exact⟨_,_,rfl,by rw[Br];exact .elem hm hs⟩
 cases hy
theorem QN {t:TypeId} {y:Operand} {f:Nat} {x:V} (ho:o.op= .fieldAddr t y f) (hl:GZ P t (ev fr y) f=some x) (h:K x H):I7 P o fr H K:=by
 intro g w a hR hE;have hv:=E6 hR hE y
 unfold GZ at hl
 split at hl
 ·next off ft hfd=>
  obtain⟨b,q,hav,hr⟩:=Vr hv hl
  unfold fdO at hfd
  split at hfd
  ·next fs hu=>
   split at hfd
   ·next x' hx=>
    split at hfd
    ·cases hfd
    next hne=>
    cases hfd
    cases hs:Eh P x'.type with
    |none=>simp_all
    |some sz=>
     have hne':sz≠0:=by simp_all
     unfold execOp;rw[ho];simp only[hav,Instr.fieldAt,Instr.sureAddr,fieldPlace,B9,C4,B7,run_underlying hu,hx,O4 hs,hne',D7,H6,Y9]
     grind[L4.here]
   cases hfd
  cases hfd
 cases hl
def Ul {g:Gh} {w:World} {vs:Array Value} {cs:List V} {x:V} {t:TypeId} {ag:Bool} {sz off:Nat} (hv:VR g w (.agg vs) (.agg cs)) (ha:Vq P t=some ag) (hs:Eh P t=some sz)
 (hp:Gr ag sz cs off=some x):∃v,(part t vs off).run P w= .ok v w∧VR g w v x:=by
 cases hv with
 | agg hl h1 hv=>
  unfold part;rw[B9,JY ha w];simp only[B7]
  cases ag with
  | true=>
   simp only[Gr,D1]at hp
   split at hp
   ·next hle=>
    cases hp;refine⟨.agg (vs.extract off (off+sz)),by simp_all[O4],.agg (by simp;omega) (fun i hi=>?_) fun i hi=>?_⟩
    all_goals
     have hi':i<sz:=by simp at hi;omega
     have e1:(vs.extract off (off+sz)).getD i undef=vs.getD (off+i) undef:=by
      simp only[M7,NN];rw[A1 (by omega)]
     have e2:((cs.drop off).take sz).getD i .bad=cs.getD (off+i) .bad:=by
      simp[List.getD,FL,hi']
    ·rw[e1];grind
    grind
   cases hp
  | false=>
   simp only[Gr,E2,D7]at hp
   have hlt:off<cs.length:=by
    grind
   have hlt':off<vs.size:=by omega
   refine⟨vs.getD off undef,by simp_all,?_⟩;have e:=hv off hlt
   have:cs.getD off .bad=x:=by simp_all
   rw[this]at e;exact e
theorem Yh {t:TypeId} {y:Operand} {f:Nat} {x:V} (ho:o.op= .field t y f) (hl:Qg P t (ev fr y) f=some x) (h:K x H):I7 P o fr H K:=by
 intro g w a hR hE;have hv:=E6 hR hE y
 unfold Qg at hl
 split at hl
 ·next off ft cs hfd he=>
  split at hl
  ·next ag sz ha hs=>
   rw[he]at hv
   generalize hav:a.eval y=v at hv
   cases hv with
   | agg hl' h1 hvv=>
    rename_i vs;obtain⟨u,hu,hr⟩:=Ul (P:=P) (VR.agg hl' h1 hvv) ha hs hl
    unfold fdO at hfd
    split at hfd
    ·next fs hun=>
     split at hfd
     ·next x' hx=>
      split at hfd
      ·cases hfd
      cases hfd;unfold execOp;rw[ho];simp only[hav,Instr.field,asAgg,B9,C4,B7,run_underlying hun,hx,hu,H6]
      grind[L4.here]
     cases hfd
    cases hfd
  cases hl
 cases hl
def P0 {t e:TypeId}(h:EO P t=some e):P.underlying t=some (.slice e):=by
 grind[EO]
def MR {t e:TypeId}{n:Nat}(h:arO P t=some (n,e)):P.underlying t=some (.array n e):=by
 grind[arO]
theorem QM {t:TypeId} {y z:Operand} {k:IntKind} {i:Int} {x:V} (ho:o.op= .indexAddr t y z) (hz:ev fr z= .int k i) (hl:DG P t (ev fr y) i=some x) (h:K x H):
 I7 P o fr H K:=by
 intro g w a hR hE;have hv:=E6 hR hE y;have hi:=E6 hR hE z
 rw[hz]at hi
 have hi:=hi.int_inv
 unfold DG at hl
 split at hl
 ·next e _ xs tl hse he=>
  have hu:=P0 hse
  split at hl
  ·next hc=>
   obtain⟨⟨h0,h1⟩,hs⟩:=hc;cases hl
   rw[he]at hv
   generalize hav:a.eval y=v at hv
   cases hv with
   |sl0 ht=>grind
   |sle ht=>grind
   |sl vs hn hc hzz hf hw h1' hvv ht=>
    rename_i b q sz n cap
    have hlt:i.toNat<n:=by omega
    have hsz:sz=(xs.getD i.toNat .bad).cells.length:=(hzz _ hlt).symm;unfold execOp;rw[ho]
    have h1'':i<(n:Int):=by omega
    simp only[hav,hi,Instr.indexAt,asIntOf,B9,C4,B7,run_underlying hu,h0,h1'',and_self,D1,O4 hs,H6,Y9];refine L4.here hR ?_ h;rw[←hsz];refine VR.eref (o:=q+i.toNat*sz) (off:=0) (vs i.toNat) (fun j hj=>hf _ j hlt (by omega)) (fun j hj=>hw _ j hlt (by omega)) (fun j hj=>h1' _ j hlt (by omega)) fun j hj=>hvv _ j hlt (by omega)
  cases hl
 ·rename_i n e hse hae;have hu:=MR hae
  split at hl
  ·next hc=>
   cases hs:Eh P e with
   |none=>grind
   |some sz=>
    simp only[hs,A5]at hl
    obtain⟨b,q,hav,hr⟩:=Vr hv hl;unfold execOp;rw[ho];simp only[hav,hi,Instr.indexAt,Instr.sureAddr,asIntOf,B9,C4,B7,run_underlying hu,hc.1,hc.2,and_self,D1,O4 hs,H6,Y9]
    grind[L4.here]
  cases hl
 cases hl
theorem Yg {t:TypeId} {y z:Operand} {k:IntKind} {i:Int} {x:V} (ho:o.op= .index t y z) (hz:ev fr z= .int k i) (hl:No P t (ev fr y) i=some x) (h:K x H):
 I7 P o fr H K:=by
 intro g w a hR hE;have hv:=E6 hR hE y;have hi:=E6 hR hE z
 rw[hz]at hi
 have hi:=hi.int_inv
 unfold No at hl
 split at hl
 ·next n e cs hae he=>
  have hu:=MR hae
  split at hl
  ·next hc=>
   split at hl
   ·next ag sz ha hs=>
    rw[he]at hv
    generalize hav:a.eval y=v at hv
    cases hv with
    |agg hl' h1 hvv=>
     obtain⟨u,hu',hr⟩:=Ul (P:=P) (VR.agg hl' h1 hvv) ha hs hl;unfold execOp;rw[ho];simp only[hav,hi,Instr.index,asIntOf,B9,C4,B7,run_underlying hu,hc.1,hc.2,and_self,D1,O4 hs,hu',H6]
     grind[L4.here]
   cases hl
  cases hl
 ·next s hae he=>
  split at hl
  ·next hc=>
   rw[he]at hv
   have hav:=hv.str_inv
   cases hb:s[i.toNat]? with
   |none=>grind
   | some c=>
    simp only[hb,J4,E8]at hl
    subst hl
    have hu:P.underlying t=some .string:=by
     have:=hc.1
     grind[Sg]
    unfold execOp;rw[ho];simp only[hav,hi,Instr.index,asIntOf,B9,C4,B7,run_underlying hu,hc.2,D1,hb,H6];exact L4.here hR (.int _ _) h
  cases hl
 cases hl
theorem TN {y:Operand} {n:Nat} {cs:List V} {x:V} (ho:o.op= .extract y n) (he:ev fr y= .tup cs) (hl:cs[n]? =some x) (h:K x H):I7 P o fr H K:=by
 intro g w a hR hE;have hv:=E6 hR hE y
 rw[he]at hv
 generalize hav:a.eval y=v at hv
 cases hv with
 | tup hs hvv=>
  rename_i vs
  have hlt:n<cs.length:=by
   grind
  have hlt':n<vs.size:=by omega
  unfold execOp;rw[ho];simp only[hav,Instr.extract,Ak hlt',B9,C4,B7,H6];have e:=hvv n hlt
  have e1:vs.getD n undef=vs[n]:=by simp_all
  have e2:cs.getD n .bad=x:=by simp_all
  rw[e1,e2]at e
  grind[L4.here]
def HN {g:Gh} {w:World} (hR:Rl g H w) {v:Value} {x:V} (T:TypeId) (hv:VR g w v x) (h1:x.one=true):
 ∃g' id,H id=none∧U3 g w g' (w.alloc (.cells v.cells T))∧Rl g' (upd H id (some (.cells x.cells))) (w.alloc (.cells v.cells T))∧
  VR g' (w.alloc (.cells v.cells T)) (.pointer (some ⟨w.heap.size,0,none⟩)) (.ref id 0):=by
 have s:=U3.new hR (.cells v.cells T) False 0;obtain⟨hc1,hc2⟩:=hv.cells h1;refine⟨g.new w False 0,g.nx,(hR.nxt _ (D3 _)).2.2,s,hR.newNamed _ _ (by simp) ?_,.ref (by simp[Gh.new])⟩;refine⟨w.heap.size,v.cells,T,by simp[Gh.new],hR.bnd,AE,hc1,fun j hj=>⟨(hc2 j hj).1,(hc2 j hj).2.mono s⟩,fun o ho=>?_⟩
 rcases ho with ho|⟨hF,_⟩
 ·exact absurd (hR.fz_lt ho) (R5 _)
 exact hF
def Tg {g:Gh} {w:World} (hR:Rl g H w) {v:Value} {x:V} (T:TypeId) (hv:VR g w v x) (h1:x.one=true):
 ∃g',U3 g w g' (w.alloc (.cells v.cells T))∧Rl g' H (w.alloc (.cells v.cells T))∧
  VR g' (w.alloc (.cells v.cells T)) (.pointer (some ⟨w.heap.size,0,none⟩)) (.eref x.cells 0):=by
 have s:=U3.new hR (.cells v.cells T) True v.cells.size;obtain⟨hc1,hc2⟩:=hv.cells h1;refine⟨g.new w True v.cells.size,s,hR.newFrozen v.cells T v.cells.size (D3 _),?_⟩
 have:=VR.eref (g:=g.new w True v.cells.size) (w:=w.alloc (.cells v.cells T)) (b:=w.heap.size) (o:=0) (off:=0) (cs:=x.cells) (fun j=>v.cells.getD j undef)
  (fun j hj=>.inr ⟨trivial,rfl,by omega⟩) (fun j hj=>by rw[MO];simp_all)
  (fun j hj=>(hc2 j hj).1) (fun j hj=>(hc2 j hj).2.mono s)
 omega
theorem JX {t:TypeId}{y:Operand}(ho:o.op= .box t y)(h1:(ev fr y).one=true)(h:K (.eref (ev fr y).cells 0) H):I7 P o fr H K:=by
 intro g w a hR hE;obtain⟨g',s,hR',hv'⟩:=Tg hR t (E6 hR hE y) h1;unfold execOp;rw[ho];exact⟨g',_,_,s,hR',hv',h⟩
theorem QO {t:TypeId}{y:Operand}(ho:o.op= .box t y)(h1:(ev fr y).one=true)(h:∀id,H id=none→K (.ref id 0) (upd H id (some (.cells (ev fr y).cells)))):I7 P o fr H K:=by
 intro g w a hR hE;obtain⟨g',id,hid,s,hR',hv'⟩:=HN hR t (E6 hR hE y) h1;unfold execOp;rw[ho];exact⟨g',_,_,s,hR',hv',h id hid⟩
def CS {t:TypeId} {z:V} (h:HA P t=some z):∃v,z=cv v∧∀w,(zeroValue t).run P w= .ok v w:=by
 unfold HA at h
 cases hi:P.info? t with
 |none=>grind
 | some i=>
  cases hz:i.zero with
  |none=>simp_all
  |some v=>
   simp[hi,hz]at h
   exact⟨v,h.symm,fun w=>by simp[zeroValue,typeInfo,hi,hz]⟩
def Ym {t:TypeId}{z:V}(ho:o.op= .alloc t)(hz:HA P t=some z)(h1:z.one=true)(h:∀id,H id=none→K (.ref id 0) (upd H id (some (.cells z.cells)))):I7 P o fr H K:=by
 intro g w a hR hE;obtain⟨v,e,hv⟩:=CS hz
 have hr:VR g w v z:=by rw[e];simp[DJ]
 obtain⟨g',id,hid,s,hR',hv'⟩:=HN hR t hr h1;unfold execOp;rw[ho];simp only[Instr.alloc,B9,hv,B7,H6];exact⟨g',_,_,s,hR',hv',h id hid⟩
end
def KD (place:Nat→Option (Nat×Nat)) (cs:List V):List (Nat×V)→Option (List V)
 |[]=>some cs
 |(i,v)::rest=>
  match place i with
  |none=>none
  |some (off,size)=>if v.one=true∧v.cells.length=size∧off+size≤cs.length then KD place (T5 cs off v.cells) rest else none
def Mq (P:Program)(t:TypeId):Option (List (Nat×Nat)):=
 match P.underlying t with
 |some (.struct fields)=>fields.toList.mapM (fun f=>(P.info? f.type).map fun i=>(f.offset,i.size))
 |_=>none
def Nz (P:Program) (t:TypeId) (parts:List (Nat×V)):Option V:=
 match arO P t,Mq P t,HA P t with
 |some (_,e),_,some (.agg cs)=>
  match Eh P e with
  |some sz=>(KD (fun i=>some (i*sz,sz)) cs parts).map .agg
  |none=>none
 |none,some pl,some (.agg cs)=>(KD (pl[·]?) cs parts).map .agg
 |_,_,_=>none
def CC (sz:Nat):Nat→List (Nat×V)→Bool
 |_,[]=>true
 |k,(i,v)::rest=>i==k&&v.one&&v.cells.length==sz&&CC sz (k+1) rest
def AH (P:Program) (t:TypeId) (n:Nat) (parts:List (Nat×V)):Option V:=
 match EO P t with
 |some e=>
  match Eh P e,HA P e with
  |some sz,some _=>if n*sz≤16777216∧parts.length=n∧CC sz 0 parts=true then some (.sl (parts.map (fun q=>q.2)) .full)else none
  |_,_=>none
 |none=>none
section
variable {P:Program}{o:Oper}{fr:Fr}{H:A4}{K:V→A4→Prop}
def Om (off:Nat):∀(l:List Value) (k:Nat) (c:Array Value),off+k+l.length≤c.size→
 let R:=(l.zipIdx k).foldl (fun cs (x:Value×Nat)=>cs.setIfInBounds (off+x.2) x.1) c
 R.size=c.size∧∀j,R.getD j undef=if off+k≤j∧j<off+k+l.length then l.getD (j-(off+k)) undef else c.getD j undef
 |[],k,c,_=>⟨rfl,fun j=>by rw[A3 (by simp_all)];rfl⟩
 | v::l,k,c,h=>by
  have hl:off+(k+1)+l.length≤(c.setIfInBounds (off+k) v).size:=by grind
  have ih:=Om off l (k+1) (c.setIfInBounds (off+k) v) hl
  simp only[List.zipIdx_cons,List.foldl_cons]at ih ⊢
  refine⟨ih.1.trans (by simp),fun j=>?_⟩;rw[ih.2 j];simp only[N3]
  by_cases h1:off+(k+1)≤j∧j<off+(k+1)+l.length
  ·rw[A1 h1,A1 (by omega),show j-(off+k)=(j-(off+(k+1)))+1 by omega];rfl
  rw[A3 h1]
  by_cases h2:j=off+k
  ·subst h2;rw[A1 (by omega)]
   simp at h
   simp[Array.getD,show off+k<c.size by omega]
  rw[A3 (by omega)];simp only[M7,EV];rw[A3 (by omega)]
def ME (off:Nat) (v:Value) (c:Array Value) (h:off+v.cells.size≤c.size):
 let R:=v.cells.zipIdx.foldl (fun cs (x:Value×Nat)=>cs.setIfInBounds (off+x.2) x.1) c
 R.size=c.size∧∀j,R.getD j undef=if off≤j∧j<off+v.cells.size then v.cells.getD (j-off) undef else c.getD j undef:=by
 have:=Om off v.cells.toList 0 c (by omega)
 simp only[Bq,Hy]at this
 have e:v.cells.zipIdx.foldl (fun cs (x:Value×Nat)=>cs.setIfInBounds (off+x.2) x.1) c=
  (v.cells.toList.zipIdx 0).foldl (fun cs (x:Value×Nat)=>cs.setIfInBounds (off+x.2) x.1) c:=by
  rw[←Array.foldl_toList];simp
 simp_all
def OD (g:Gh)(w:World)(c:Array Value)(cs:List V):Prop:=
 c.size=cs.length∧∀j,j<cs.length→(c.getD j undef).oneCell'=true∧VR g w (c.getD j undef) (cs.getD j .bad)
def VR.row {g:Gh}{w:World}{v:Value}{cs:List V}(h:VR g w v (.agg cs)):∃c,v= .agg c∧OD g w c cs:=by
 cases h with
 |agg hl h1 hv=>simp_all[OD]
def OD.agg {g:Gh}{w:World}{c:Array Value}{cs:List V}(h:OD g w c cs):VR g w (.agg c) (.agg cs):=
 .agg h.1 (fun j hj=>(h.2 j hj).1) fun j hj=>(h.2 j hj).2
inductive NC (g:Gh) (w:World):List (Nat×Value)→List (Nat×V)→Prop
 |nil:NC g w [] []
 |cons {i:Nat} {v:Value} {x:V} {l:List (Nat×Value)} {m:List (Nat×V)} (h:VR g w v x) (r:NC g w l m):NC g w ((i,v)::l) ((i,x)::m)
def VZ {g:Gh}{w:World}{H:A4}{a:Act}(hR:Rl g H w)(hE:ER g w a fr):∀l:List (Nat×Operand),NC g w (l.map fun x=>(x.1,a.eval x.2)) (l.map fun x=>(x.1,ev fr x.2))
 |[]=>.nil
 |x::l=>.cons (E6 hR hE x.2) (VZ hR hE l)
def US {g:Gh} {w:World} {place:Nat→Option (Nat×Nat)} {l:List (Nat×Value)} {m:List (Nat×V)} (hp:NC g w l m):∀{c:Array Value} {cs ds:List V},OD g w c cs→KD place cs m=some ds→
 ∃d,Instr.fill place c l=some d∧OD g w d ds:=by
 induction hp with
 |nil=>intro c cs ds hr h;simp only[KD,E8]at h;subst h;exact⟨c,rfl,hr⟩
 | @cons i v x l m hv _ ih=>
  intro c cs ds hr h
  simp only[KD]at h
  cases hpl:place i with
  |none=>grind
  | some p=>
   obtain⟨off,size⟩:=p
   simp only[hpl]at h
   split at h
   ·next hc=>
    obtain⟨h1,h2,h3⟩:=hc;obtain⟨k1,k2⟩:=hv.cells h1;have hf:=ME off v c (by rw[k1,hr.1];omega)
    have hrow:OD g w (v.cells.zipIdx.foldl (fun cs (x:Value×Nat)=>cs.setIfInBounds (off+x.2) x.1) c) (T5 cs off x.cells):=by
     refine⟨by rw[hf.1,AT (by omega),hr.1],fun j hj=>?_⟩
     rw[AT (by omega)]at hj
     rw[hf.2 j,HK (by omega),k1]
     split
     ·grind
     exact hr.2 j hj
    obtain⟨d,hd,hdr⟩:=ih hrow h;refine⟨d,?_,hdr⟩;simp only[Instr.fill,hpl];rw[A3]
    ·exact hd
    simp only[k1,h2,hr.1,ne_eq,Hu,FB,Hm,B2];omega
   cases h
def Tn {t:TypeId} {z:V} (h:HA P t=some z):∃i v,P.info? t=some i∧i.zero=some v∧z=cv v:=by
 unfold HA at h
 cases hi:P.info? t with
 |none=>grind
 |some i=>
  cases hz:i.zero with
  |none=>simp_all
  |some v=>simp_all
theorem Yk {t:TypeId} {parts:Array (Nat×Operand)} {x:V} (ho:o.op= .build t parts) (hl:Nz P t (parts.toList.map fun(p:Nat×Operand)=>(p.1,ev fr p.2))=some x) (h:K x H):I7 P o fr H K:=by
 intro g w a hR hE;have hp:=VZ hR hE parts.toList
 have hpe:(parts.map fun(x:Nat×Operand)=>(x.1,a.eval x.2)).toList=parts.toList.map fun x=>(x.1,a.eval x.2):=by simp
 have key:∃d cs,P.built t (parts.toList.map fun x=>(x.1,a.eval x.2))=some d∧x= .agg cs∧OD g w d cs:=by
  unfold Nz at hl
  split at hl
  ·rename_i e cs hae hze;have hu:=MR hae
   split at hl
   ·next sz hs=>
    obtain⟨i,v,hi,hz,hv⟩:=Tn hze
    have hrow:VR g w v (.agg cs):=by rw[hv];simp[DJ]
    obtain⟨c,rfl,hrow'⟩:=hrow.row
    unfold Eh at hs
    cases hie:P.info? e with
    |none=>simp_all
    | some ie=>
     simp[hie]at hs
     cases hff:KD (fun i=>some (i*sz,sz)) cs (parts.toList.map fun(p:Nat×Operand)=>(p.1,ev fr p.2))with
     |none=>simp_all
     |some ds=>
      simp only[hff,J4,E8]at hl
      obtain⟨d,hd,hdr⟩:=US hp hrow' hff;exact⟨d,ds,by simp[Program.built,hi,hu,hz,hie,hs,Value.cells,hd],hl.symm,hdr⟩
   cases hl
  ·next pl cs hae hpl hze=>
   unfold Mq at hpl
   split at hpl
   ·next fields hu=>
    obtain⟨i,v,hi,hz,hv⟩:=Tn hze
    have hrow:VR g w v (.agg cs):=by rw[hv];simp[DJ]
    obtain⟨c,rfl,hrow'⟩:=hrow.row
    cases hff:KD (pl[·]?) cs (parts.toList.map fun(p:Nat×Operand)=>(p.1,ev fr p.2))with
    |none=>simp_all
    |some ds=>
     simp only[hff,J4,E8]at hl
     obtain⟨d,hd,hdr⟩:=US hp hrow' hff
     have hplace:(fun i:Nat=>(pl.toArray)[i]?)=(fun i:Nat=>pl[i]?):=by funext i;simp
     exact⟨d,ds,by simp only[Program.built,hi,hu,hz,hpl,Value.cells,hplace,hd],hl.symm,hdr⟩
   cases hpl
  cases hl
 obtain⟨d,cs,hb,rfl,hrow⟩:=key;unfold execOp;rw[ho];have:=run_build (P:=P) w t (parts.map fun(x:Nat×Operand)=>(x.1,a.eval x.2)) d (by rw[hpe];exact hb);simp only[B9,this,B7,C4,H6];exact L4.here hR hrow.agg h
def Ag7 {g:Gh} {w:World} {sz:Nat} {l:List (Nat×Value)} {m:List (Nat×V)} (hp:NC g w l m):∀{c:Array Value} {k:Nat},(k+m.length)*sz≤c.size→CC sz k m=true→
 ∃d,Instr.fill (fun i=>some (i*sz,sz)) c l=some d∧d.size=c.size∧(∀j,j<k*sz→d.getD j undef=c.getD j undef)∧
  ∀i j,i<m.length→j<sz→((m.getD i (0,.bad)).2.cells.length=sz)∧(d.getD ((k+i)*sz+j) undef).oneCell'=true∧VR g w (d.getD ((k+i)*sz+j) undef) ((m.getD i (0,.bad)).2.cells.getD j .bad):=by
 induction hp with
 |nil=>intro c k hc _;exact⟨c,rfl,rfl,fun _ _=>rfl,fun i j hi=>by simp at hi⟩
 | @cons i v x l m hv _ ih=>
  intro c k hc hs
  simp only[CC,H7,Cu]at hs
  obtain⟨⟨⟨rfl,h1⟩,h2⟩,h3⟩:=hs;obtain⟨k1,k2⟩:=hv.cells h1
  have hmul:(i+(m.length+1))*sz=i*sz+sz+m.length*sz:=by rw[G5,G5];omega
  have hmul2:(i+1+m.length)*sz=i*sz+sz+m.length*sz:=by rw[G5,G5];omega
  simp only[N3]at hc
  rw[hmul]at hc
  have hf:=ME (i*sz) v c (by rw[k1,h2];omega);obtain⟨d,hd,hdz,hdl,hdv⟩:=ih (c:=v.cells.zipIdx.foldl (fun cs (x:Value×Nat)=>cs.setIfInBounds (i*sz+x.2) x.1) c) (k:=i+1) (by rw[hf.1,hmul2];omega) h3;refine⟨d,?_,hdz.trans hf.1,fun j hj=>?_,fun i' j hi' hj=>?_⟩
  ·simp only[Instr.fill];rw[A3]
   ·exact hd
   grind
  ·rw[hdl j (by rw[G5];omega),hf.2 j,A3 (by omega)]
  cases i' with
  |zero=>
   simp_all[G5]
  |succ i'=>
   grind
def JZ {g:Gh} {w:World} {a:Act} (hR:Rl g H w) (hE:ER g w a fr) {t:TypeId} {n:Nat} {parts:Array (Nat×Operand)} {x:V} (hl:AH P t n (parts.toList.map fun(p:Nat×Operand)=>(p.1,ev fr p.2))=some x):
 ∃e sz z,EO P t=some e∧Eh P e=some sz∧HA P e=some z∧x= .sl ((parts.toList.map fun(p:Nat×Operand)=>(p.1,ev fr p.2)).map fun(q:Nat×V)=>q.2) .full∧(parts.toList.map fun(p:Nat×Operand)=>(p.1,ev fr p.2)).length=n∧CC sz 0 (parts.toList.map fun(p:Nat×Operand)=>(p.1,ev fr p.2))=true∧
 ∃ d:Array Value,(Instr.buildSlice t n (parts.map fun(x:Nat×Operand)=>(x.1,a.eval x.2))).run P w= .ok (.slice (some ⟨w.heap.size,0,none⟩) n n) (w.alloc (.cells d e))∧d.size=n*sz∧
  ∀i j,i<n→j<sz→(((parts.toList.map fun(p:Nat×Operand)=>(p.1,ev fr p.2)).getD i (0,.bad)).2.cells.length=sz)∧(d.getD (i*sz+j) undef).oneCell'=true∧
   VR g w (d.getD (i*sz+j) undef) (((parts.toList.map fun(p:Nat×Operand)=>(p.1,ev fr p.2)).getD i (0,.bad)).2.cells.getD j .bad):=by
 have hp:=VZ hR hE parts.toList
 have hpe:(parts.map fun(x:Nat×Operand)=>(x.1,a.eval x.2)).toList=parts.toList.map fun x=>(x.1,a.eval x.2):=by simp
 unfold AH at hl
 split at hl
 ·next e hse=>
  have hu:=P0 hse
  split at hl
  ·next sz z hs hze=>
   split at hl
   ·next hc=>
    obtain⟨hlim,hn,hseq⟩:=hc;cases hl;obtain⟨v0,_,hv0⟩:=CS hze
    have hfill:∀c0:Array Value,c0.size=n*sz→∃d,Instr.fill (fun i=>some (i*sz,sz)) c0 (parts.toList.map fun x=>(x.1,a.eval x.2))=some d∧d.size=n*sz∧
     ∀i j,i<n→j<sz→(((parts.toList.map fun(p:Nat×Operand)=>(p.1,ev fr p.2)).getD i (0,.bad)).2.cells.length=sz)∧(d.getD (i*sz+j) undef).oneCell'=true∧
      VR g w (d.getD (i*sz+j) undef) (((parts.toList.map fun(p:Nat×Operand)=>(p.1,ev fr p.2)).getD i (0,.bad)).2.cells.getD j .bad):=by
     intro c0 hc0;obtain⟨d,hd,hdz,_,hdv⟩:=Ag7 (sz:=sz) hp (c:=c0) (k:=0) (by rw[hn,V1,hc0];omega) hseq
     grind
    have hrun:∃d:Array Value,(Instr.buildSlice t n (parts.map fun(x:Nat×Operand)=>(x.1,a.eval x.2))).run P w= .ok (.slice (some ⟨w.heap.size,0,none⟩) n n) (w.alloc (.cells d e))∧d.size=n*sz∧
     ∀i j,i<n→j<sz→(((parts.toList.map fun(p:Nat×Operand)=>(p.1,ev fr p.2)).getD i (0,.bad)).2.cells.length=sz)∧(d.getD (i*sz+j) undef).oneCell'=true∧
      VR g w (d.getD (i*sz+j) undef) (((parts.toList.map fun(p:Nat×Operand)=>(p.1,ev fr p.2)).getD i (0,.bad)).2.cells.getD j .bad):=by
     by_cases h0:n*sz=0
     ·obtain⟨d,hd,hdz,hdv⟩:=hfill ((Array.range (n*sz)).map ((#[]:Array Value)[· % (#[]:Array Value).size]!)) (by simp);refine⟨d,?_,hdz,hdv⟩
      rw[←hpe]at hd
      have h0':¬(n*sz>2 ^ 24):=by omega
      simp only[Instr.buildSlice,B9,run_underlying hu,B7,O4 hs,V0,A3 h0',C4,A1 h0,hd,newRow,run_newObj];rfl
     obtain⟨d,hd,hdz,hdv⟩:=hfill ((Array.range (n*sz)).map (v0.cells[· % v0.cells.size]!)) (by simp);refine⟨d,?_,hdz,hdv⟩
     rw[←hpe]at hd
     have h0':¬(n*sz>2 ^ 24):=by omega
     simp only[Instr.buildSlice,B9,run_underlying hu,B7,O4 hs,V0,A3 h0',C4,A3 h0,hv0,hd,newRow,run_newObj];rfl
    simp_all
   cases hl
  cases hl
 cases hl
theorem Po {t:TypeId} {n:Nat} {parts:Array (Nat×Operand)} {x:V} (ho:o.op= .buildSlice t n parts) (hl:AH P t n (parts.toList.map fun(p:Nat×Operand)=>(p.1,ev fr p.2))=some x) (h:K x H):
 I7 P o fr H K:=by
 intro g w a hR hE;obtain⟨e,sz,z,hse,hs,hze,rfl,hn,hseq,d,hrun,hdz,hdv⟩:=JZ hR hE hl;have s:=U3.new hR (.cells d e) True d.size;unfold execOp;rw[ho];simp only[B9,hrun,B7,C4,H6]
 have hget:∀i,((parts.toList.map fun(p:Nat×Operand)=>(p.1,ev fr p.2)).map (fun(q:Nat×V)=>q.2)).getD i .bad=((parts.toList.map fun(p:Nat×Operand)=>(p.1,ev fr p.2)).getD i (0,.bad)).2:=by
  grind
 have hin:∀i j,i<n→j<sz→i*sz+j<d.size:=by
  intro i j hi hj;have:(i+1)*sz≤n*sz:=J7 _ (by omega)
  rw[G5]at this
  omega
 by_cases hsz:sz=0
 ·subst hsz
  have hz:∀i,i<n→((((parts.toList.map fun(p:Nat×Operand)=>(p.1,ev fr p.2)).map (fun(q:Nat×V)=>q.2)).getD i .bad).cells.length=0):=by
   intro i hi
   have:∀(m:List (Nat×V)) (k i:Nat),CC 0 k m=true→i<m.length→(m.getD i (0,.bad)).2.cells.length=0:=by
    intro m
    induction m with
    |nil=>simp_all
    |cons y m ih=>
     grind[CC]
   rw[hget];grind
  exact⟨_,_,_,s,hR.newFrozen d e d.size (D3 _),.sl (sz:=0) (fun _ _=>undef) (by grind) (D3 _) hz (fun i j _ hj=>by omega) (fun i j _ hj=>by omega) (fun i j _ hj=>by omega)
   (fun i j _ hj=>by omega) (t:=.full) rfl,h⟩
 refine⟨_,_,_,s,hR.newFrozen d e d.size (D3 _),.sl (sz:=sz) (fun i j=>d.getD (i*sz+j) undef) (by grind) (D3 _) (fun i hi=>?_) (fun i j hi hj=>.inr ⟨trivial,rfl,?_⟩)
  (fun i j hi hj=>?_) (fun i j hi hj=>(hdv i j hi hj).2.1) (fun i j hi hj=>?_) (t:=.full) rfl,h⟩
 ·rw[hget];exact(hdv i 0 hi (by omega)).1
 ·have:=hin i j hi hj;omega
 ·have:=hin i j hi hj;rw[MO];simp_all
 rw[hget];exact(hdv i j hi hj).2.2.mono s
end
def BX:Option V→Option (Option Int)
 |none=>some none
 |some (.int _ i)=>some (some i)
 |some _=>none
def Fy (l h n:Nat) (mx:Option Int) (t:D2):D2:=
 match mx with
 |some m=>if m=h then .full else .ro
 | none=>
  if h=n then
   match t with
   | .full=>.full
   | .nil=>.nil
   | .tok t=>if l<h then .tok t else .ro
   | .ro=>.ro
  else .ro
def Pl (P:Program) (t:TypeId) (v:V) (lo hi mx:Option Int):Option V:=
 match EO P t,v with
 | some e,.sl xs tl=>
  match Eh P e with
  | some sz=>
   if 0≤lo.getD 0∧lo.getD 0≤hi.getD xs.length∧hi.getD xs.length≤mx.getD xs.length∧mx.getD xs.length≤xs.length∧(mx.isSome=true→hi.isSome=true)∧
    (lo.getD 0≤0∨xs.all (fun x=>x.cells.length==sz)=true)then
    some (.sl ((xs.drop (lo.getD 0).toNat).take ((hi.getD xs.length).toNat-(lo.getD 0).toNat)) (Fy (lo.getD 0).toNat (hi.getD xs.length).toNat xs.length mx tl))
   else none
  |none=>none
 |none,.str s=>
  if Sg P t=true∧mx=none∧0≤lo.getD 0∧lo.getD 0≤hi.getD s.size∧hi.getD s.size≤s.size then some (.str (s.extract (lo.getD 0).toNat (hi.getD s.size).toNat))else none
 |_,_=>none
section
variable {P:Program}{o:Oper}{fr:Fr}{H:A4}{K:V→A4→Prop}
theorem Ps (isSlice:Bool) (len cap:Nat) (lo hi mx:Option Value) (l h m:Nat) (w:World) (hl:(lo=none∧l=0)∨∃k,lo=some (.int k l)) (hh:(hi=none∧mx=none∧h=len)∨∃k,hi=some (.int k h))
 (hm:(mx=none∧m=cap)∨∃k,mx=some (.int k m)) (h1:l≤h) (h2:h≤m) (h3:m≤cap):(Instr.sliceBounds isSlice len cap lo hi mx).run P w= .ok (l,h,m) w:=by
 rcases hm with⟨rfl,rfl⟩|⟨km,rfl⟩<;>rcases hh with⟨rfl,hx,rfl⟩|⟨kh,rfl⟩<;>rcases hl with⟨rfl,rfl⟩|⟨kl,rfl⟩<;>
  first
   |(cases hx;done)
   |simp[Instr.sliceBounds,Instr.sliceBound,asIntOf,C4,h1,h2,h3]
def Fb {g:Gh} {w:World} {H:A4} {a:Act} (hR:Rl g H w) (hE:ER g w a fr) {x:Option Operand} {i:Option Int} (h:BX (x.map (ev fr))=some i):
 (x.map a.eval=none∧i=none)∨∃k j,x.map a.eval=some (.int k j)∧i=some j:=by
 cases x with
 |none=>simp_all[BX]
 |some x=>
  have hv:=E6 hR hE x
  simp only[J4]at h ⊢
  generalize ev fr x=X at h hv
  cases X<;>simp[BX]at h
  rename_i k j;have:=hv.int_inv
  grind
theorem Yb {t:TypeId} {y:Operand} {lo hi mx:Option Operand} {il ih im:Option Int} {x:V} (ho:o.op= .slice t y lo hi mx) (hlo:BX (lo.map (ev fr))=some il) (hhi:BX (hi.map (ev fr))=some ih)
 (hmx:BX (mx.map (ev fr))=some im) (hl:Pl P t (ev fr y) il ih im=some x) (h:K x H):I7 P o fr H K:=by
 intro g w a hR hE;have hv:=E6 hR hE y;have hrl:=Fb hR hE hlo;have hrh:=Fb hR hE hhi;have hrm:=Fb hR hE hmx
 have hb:∀(isSlice:Bool) (len cap:Nat),0≤il.getD 0→il.getD 0≤ih.getD len→ih.getD len≤im.getD cap→im.getD cap≤cap→(im.isSome=true→ih.isSome=true)→
  (Instr.sliceBounds isSlice len cap (lo.map a.eval) (hi.map a.eval) (mx.map a.eval)).run P w= .ok ((il.getD 0).toNat,(ih.getD len).toNat,(im.getD cap).toNat) w:=by
  grind[Ps]
 unfold Pl at hl
 split at hl
 ·rename_i e xs tl hse he;have hu:=P0 hse
  split at hl
  ·rename_i sz hs
   split at hl
   ·rename_i hc;obtain⟨c1,c2,c3,c4,c5,c6⟩:=hc;cases hl
    rw[he]at hv
    generalize hav:a.eval y=v at hv
    unfold execOp;rw[ho]
    cases hv with
    | sl0 ht=>
     simp only[V6,Hs]at c2 c3 c4
     have e1:(il.getD 0).toNat=0:=by omega
     have e2:(ih.getD 0).toNat=0:=by omega
     have e3:(im.getD 0).toNat=0:=by omega
     have hb0:=hb true 0 0 c1 (by omega) (by omega) (by omega) c5
     simp only[Hs]at hb0
     simp only[hav,Instr.sliceAt,Instr.slice,B9,run_underlying hu,B7,hb0,O4 hs,C4,H6,e1,e2,e3];refine L4.here hR ?_ h;simp only[List.drop_nil,List.take_nil];refine .sl0 ?_;unfold Fy
     cases im with
     |some m=>dsimp only;split<;>rfl
     |none=>
      dsimp only
      split
      ·cases tl<;>first|rfl|cases ht
      rfl
    |@sle ad cap _ ht=>
     simp only[V6,Hs]at c2 c3 c4
     have e1:(il.getD 0).toNat=0:=by omega
     have e2:(ih.getD 0).toNat=0:=by omega
     have e3:(im.getD 0).toNat=0:=by omega
     have hcap0:(0:Int)≤(cap:Nat):=by omega
     have hc6:im.getD (cap:Nat)≤(cap:Nat)∧0≤im.getD (cap:Nat):=by cases im<;>simp at c3 c4 ⊢ <;>omega
     have hb0:=hb true 0 cap c1 (by omega) (by grind) hc6.1 c5
     simp only[Hs]at hb0
     simp only[hav,Instr.sliceAt,Instr.slice,B9,run_underlying hu,B7,hb0,O4 hs,C4,H6,e1,e2,Ji,Nat.sub_zero,Nat.zero_mul];refine L4.here hR ?_ h;simp only[List.drop_nil,List.take_nil,J4,Addr.add,D1,ite_self];refine .sle ?_
     grind[Fy]
    | sl vs hn hcc hz hf hw h1 hvv ht=>
     rename_i b q sz' n cap
     rw[hn]at c2 c3 c4 h
     have c4':im.getD cap≤cap:=by
      grind
     have c3':ih.getD n≤im.getD cap:=by
      grind
     have hb1:=hb true n cap c1 c2 c3' c4' c5;simp only[hav,Instr.sliceAt,Instr.slice,B9,run_underlying hu,B7,hb1,O4 hs,C4,H6];refine L4.here hR ?_ h
     generalize hL:(il.getD 0).toNat=L at *
     generalize hHH:(ih.getD (n:Int)).toNat=HH at *
     generalize hM:(im.getD (cap:Int)).toNat=M at *
     have b1:L≤HH:=by omega
     have b2:HH≤n:=by
      omega
     have b3:HH≤M:=by omega
     have b4:M≤cap:=by omega
     have hget:∀i,i<HH-L→((xs.drop L).take (HH-L)).getD i .bad=xs.getD (L+i) .bad:=by
      simp_all
     have hlen:((xs.drop L).take (HH-L)).length=HH-L:=by simp;omega
     have htail:∀q',(HH-L=0∨q'=q+L*sz')→(L=0→q'=q)→Gm g b q' sz' (HH-L) (M-L) (Fy L HH n im tl):=by
      intro q' hq' hq0;unfold Fy
      cases im with
      |some m=>
       grind[Gm]
      | none=>
       dsimp only
       have hMc:M=cap:=by simp_all
       split
       ·rename_i hHn
        cases tl with
        |full=>simp_all[Gm]
        |nil=>exact ht.elim
        |ro=>trivial
        | tok t=>
         dsimp only
         split
         ·rename_i hL0;obtain⟨t0,lim,t1,t2⟩:=ht
          rcases hq' with hq'|rfl
          ·omega
          have e1:q+L*sz'+(n-L)*sz'=q+n*sz':=by rw[Br,←G5];grind
          have e2:q+L*sz'+(cap-L)*sz'=q+cap*sz':=by rw[Br,←G5];grind
          exact⟨by omega,lim,by rw[t1,hHn,e1],by rw[hMc,e2];exact t2⟩
         trivial
       trivial
     by_cases hML:M=L
     ·rw[A1 hML]
      have hz0:HH-L=0:=by omega
      refine .sl (sz:=sz') (fun i j=>undef) hlen (by omega) (fun i hi=>by omega) (fun i j hi=>by omega) (fun i j hi=>by omega) (fun i j hi=>by omega) (fun i j hi=>by omega) (htail q (.inl hz0) fun _=>rfl)
     rw[A3 hML];simp only[J4,Y9]
     by_cases hn0:HH-L=0
     ·refine .sl (sz:=sz') (fun i j=>undef) hlen (by omega) (fun i hi=>by omega) (fun i j hi=>by omega) (fun i j hi=>by omega) (fun i j hi=>by omega) (fun i j hi=>by omega)
       (htail _ (.inl hn0) fun hL0=>by rw[hL0];simp)
     have hszz:L*sz=L*sz':=by
      rcases c6 with c6|c6
      ·have:L=0:=by omega
       simp_all
      have h0:0<xs.length:=by omega
      have:=(List.all_eq_true.1 c6) (xs.getD 0 .bad) (by simp_all);have h2:=hz 0 (by omega)
      have:sz'=sz:=by rw[←h2];simp_all
      rw[this]
     rw[hszz]
     refine .sl (sz:=sz') (fun i j=>vs (L+i) j) hlen (by omega) (fun i hi=>by rw[hget i hi];grind)
      (fun i j hi hj=>by have:=hf (L+i) j (by omega) hj;rw[G5]at this;rw[show q+L*sz'+i*sz'+j=q+(L*sz'+i*sz')+j by omega];exact this)
      (fun i j hi hj=>by have:=hw (L+i) j (by omega) hj;rw[G5]at this;rw[show q+L*sz'+i*sz'+j=q+(L*sz'+i*sz')+j by omega];exact this)
      (fun i j hi hj=>h1 _ j (by omega) hj) (fun i j hi hj=>by rw[hget i hi];grind) (htail _ (.inr rfl) fun hL0=>by rw[hL0];simp)
   cases hl
  cases hl
 ·rename_i s hse he
  split at hl
  ·rename_i hc;obtain⟨c0,rfl,c1,c2,c3⟩:=hc;cases hl
   rw[he]at hv
   have hav:=hv.str_inv
   have hu:P.underlying t=some .string:=by
    grind[Sg]
   rcases hrm with⟨e2,_⟩|⟨k,j,e2,e3⟩
   ·have hbs:=hb false s.size s.size c1 c2 (by grind) (by simp) (by simp)
    rw[e2]at hbs
    unfold execOp;rw[ho];simp only[hav,e2,Instr.sliceAt,Instr.slice,B9,run_underlying hu,B7,hbs,EQ,E2,D7,C4,H6];exact L4.here hR (.str _) h
   cases e3
  cases hl
 cases hl
theorem Sq {fn:Fn} {fs cs:Array Operand} (ho:o.op= .makeFunc fn fs cs) (h:K (.func fn (fs.toList.map (ev fr)) (cs.toList.map (ev fr))) H):I7 P o fr H K:=by
 intro g w a hR hE
 have hmap:∀l:Array Operand,(l.map a.eval).size=(l.toList.map (ev fr)).length∧∀i,i<(l.toList.map (ev fr)).length→VR g w ((l.map a.eval).getD i undef) ((l.toList.map (ev fr)).getD i .bad):=by
  intro l;refine⟨by simp,fun i hi=>?_⟩
  have hi':i<l.size:=by grind
  have e1:(l.map a.eval).getD i undef=a.eval l[i]:=by simp_all
  have e2:(l.toList.map (ev fr)).getD i .bad=ev fr l[i]:=by simp_all
  rw[e1,e2];grind[E6]
 unfold execOp;rw[ho];exact L4.here hR (.func (hmap fs).1 (hmap fs).2 (hmap cs).1 (hmap cs).2) h
theorem Mm {t:TypeId} {y:Operand} (ho:o.op= .makeInterface t y) (hi:ifO P t=false) (h:K (.iface t (ev fr y)) H):I7 P o fr H K:=by
 intro g w a hR hE;unfold execOp;rw[ho]
 unfold ifO at hi
 cases hu:P.underlying t with
 |none=>grind
 | some d=>
  simp only[hu]at hi
  cases d<;>first
   |(simp only[Instr.makeInterface,B9,run_underlying hu,B7,C4,H6];exact L4.here hR (.iface (E6 hR hE y)) h)
   |cases hi
def Xh:V→Bool
 | .ref _ _=>true
 | .eref _ _=>true
 | .elem _ _ _ _=>true
 | .func (.func _) _ _=>true
 | .func (.yield _) _ _=>true
 |_=>false
theorem Sn {y:Operand}(ho:o.op= .nilCheck y)(hn:Xh (ev fr y)=true)(h:K (ev fr y) H):I7 P o fr H K:=by
 intro g w a hR hE;have hv:=E6 hR hE y;unfold execOp;rw[ho]
 generalize hx:ev fr y=X at hn hv
 rw[hx]at h
 generalize hav:a.eval y=v at hv
 cases hv<;>simp[Xh]at hn
 ·rename_i id b off hm;simp only[hav,C4,H6];exact L4.here hR (.ref hm) h
 ·rename_i hm hs;simp only[hav,C4,H6];exact L4.here hR (.elem hm hs) h
 ·rename_i b q off cs vs hf hw h1 hvv;simp only[hav,C4,H6];exact L4.here hR (.eref vs hf hw h1 hvv) h
 rename_i fn fs cs F C h1 h2 h3 h4
 cases fn<;>simp at hn
 ·simp only[hav,C4,H6];exact L4.here hR (.func h1 h2 h3 h4) h
 simp only[hav,C4,H6];exact L4.here hR (.func h1 h2 h3 h4) h
end
def Ii:V→V→Option Bool
 | .int k a,.int k' b=>if k=k' then some (a==b)else none
 | .str a,.str b=>some (a.toList==b.toList)
 | .bool a,.bool b=>some (a==b)
 |_,_=>none
def As:List V→List V→Option Bool
 |[],[]=>some true
 |x::xs,y::ys=>
  match Ii x y,As xs ys with
  |some a,some b=>some (a&&b)
  |_,_=>none
 |_,_=>none
def kd:V→Nat
 | .int _ _=>0
 | .bool _=>1
 | .str _=>2
 |_=>9
def LQ (P:Program) (q:TypeId→Option (List Nat)):List Field→Nat→Option (List Nat)
 |[],_=>some []
 | f::fs,n=>
  if f.name≠ "_" ∧f.offset=n then
   match q f.type with
   |some k=>(LQ P q fs (n+k.length)).map (k++ ·)
   |none=>none
  else none
def Gi (P:Program):Nat→TypeId→Option (List Nat)
 |0,_=>none
 | d+1,t=>
  match P.underlying t with
  |some .bool=>some [1]
  |some (.int _)=>some [0]
  |some .string=>some [2]
  | some (.struct fs)=>
   if P.stoodInHeld t=false∧P.eqGuardType P.depth t=false then
    match LQ P (Gi P d) fs.toList 0 with
    |some n=>if Eh P t=some n.length then some n else none
    |none=>none
   else none
  |_=>none
def Ky (op:BinOp)(k:IntKind)(a b:Int):Option V:=
 match op with
 | .add=>some (.int k (k.wrap (a+b)))
 | .sub=>some (.int k (k.wrap (a-b)))
 | .mul=>some (.int k (k.wrap (a*b)))
 | .quo=>if b=0 then none else some (.int k (k.wrap (a.tdiv b)))
 | .rem=>if b=0 then none else some (.int k (a.tmod b))
 | .and=>some (.int k (k.wrap (BitVec.ofInt k.bits a&&&BitVec.ofInt k.bits b).toNat))
 | .or=>some (.int k (k.wrap (BitVec.ofInt k.bits a|||BitVec.ofInt k.bits b).toNat))
 | .xor=>some (.int k (k.wrap (BitVec.ofInt k.bits a ^^^ BitVec.ofInt k.bits b).toNat))
 | .andNot=>some (.int k (k.wrap (BitVec.ofInt k.bits a&&& ~~~(BitVec.ofInt k.bits b)).toNat))
 | .eql=>some (.bool (a==b))
 | .neq=>some (.bool (a !=b))
 | .lss=>some (.bool (a<b))
 | .leq=>some (.bool (a≤b))
 | .gtr=>some (.bool (a>b))
 | .geq=>some (.bool (a≥b))
 |_=>none
def Ph (op:BinOp)(x y:ByteArray):Option V:=
 match op with
 | .add=>if((x.size+y.size:Nat):Int)>9223372036854775807 then none else some (.str (x++y))
 | .eql=>some (.bool (x.toList==y.toList))
 | .neq=>some (.bool (!(x.toList==y.toList)))
 | .lss=>some (.bool (Op.bytesLess x.toList y.toList))
 | .leq=>some (.bool (Op.bytesLess x.toList y.toList||x.toList==y.toList))
 | .gtr=>some (.bool (!(Op.bytesLess x.toList y.toList||x.toList==y.toList)))
 | .geq=>some (.bool (!Op.bytesLess x.toList y.toList))
 |_=>none
def Pr (op:BinOp) (k:IntKind) (a b:Int):Option V:=
 if b<0 then none else
  match op with
  | .shl=>some (.int k (k.wrap (a*2 ^ (min b.toNat k.bits))))
  | .shr=>some (.int k (a.fdiv (2 ^ (min b.toNat k.bits))))
  |_=>none
def HJ:BinOp→Bool
 | .shl=>true
 | .shr=>true
 |_=>false
def XL:Option TypeDesc→Bool
 |some .bool=>true
 |_=>false
def OB (P:Program) (op:BinOp) (t:TypeId) (x y:V):Option V:=
 match x,y with
 | .int k a,.int k' b=>if HJ op then Pr op k a b else if k=k' then Ky op k a b else none
 | .str a,.str b=>Ph op a b
 | .bool a,.bool b=>
  if XL (P.underlying t)=true then
   match op with
   | .eql=>some (.bool (a==b))
   | .neq=>some (.bool (!(a==b)))
   |_=>none
  else none
 | .agg xs,.agg ys=>
  if Vq P t=some true∧Gi P 9 t=some (xs.map kd)∧ys.map kd=xs.map kd then
   match op,As xs ys with
   | .eql,some b=>some (.bool b)
   | .neq,some b=>some (.bool (!b))
   |_,_=>none
  else none
 |_,_=>none
def unV (op:UnOp)(x:V):Option V:=
 match op,x with
 | .not,.bool b=>some (.bool (!b))
 | .neg,.int k n=>some (.int k (k.wrap (0-n)))
 |_,_=>none
def RQ (P:Program)(s d:TypeId)(x:V):Option V:=
 match P.underlying s,P.underlying d,x with
 |some (.int _),some (.int k),.int _ n=>some (.int k (k.wrap n))
 |some .string,some .string,.str b=>some (.str b)
 |_,_,_=>none
section
variable {P:Program}{o:Oper}{fr:Fr}{H:A4}{K:V→A4→Prop}
def Ss {g:Gh} {w:World} {v v':Value} {x y:V} {b:Bool} {t:TypeId} {d:Nat} (hv:VR g w v x) (hv':VR g w v' y) (h:Ii x y=some b)
 (hu:match P.underlying t with|some .bool=>kd x=1|some (.int _)=>kd x=0|some .string=>kd x=2|_=>False):(Op.equalIn (d+1) t v v').run P w= .ok b w:=by
 unfold Ii at h
 split at h
 ·rename_i k a k' c
  split at h
  ·rename_i e;subst e;cases h;rw[hv.int_inv,hv'.int_inv]
   split at hu<;>simp[kd]at hu
   grind[run_equalIn_int]
  cases h
 ·cases h;rw[hv.str_inv,hv'.str_inv]
  split at hu<;>simp[kd]at hu
  grind[run_equalIn_string]
 ·cases h;rw[hv.bool_inv,hv'.bool_inv]
  split at hu<;>simp[kd]at hu
  grind[run_equalIn_bool']
 cases h
def KE:∀(a b c d:List V) (r:Bool),a.length=c.length→As (a++b) (c++d)=some r→∃p q,As a c=some p∧As b d=some q∧r=(p&&q)
 |[],b,[],d,r,_,h=>⟨true,r,rfl,h,by simp⟩
 | x::a,b,y::c,d,r,hl,h=>by
  simp only[DT,As]at h
  cases h1:Ii x y with
  |none=>grind
  | some s=>
   cases h2:As (a++b) (c++d)with
   |none=>simp_all
   |some u=>
    simp only[h1,h2,E8]at h
    obtain⟨p,q,e1,e2,e3⟩:=KE a b c d u (by grind) h2
    grind[As]
 |[],_,_::_,_,_,hl,_=>by simp at hl
 |_::_,_,[],_,_,hl,_=>by simp at hl
def Nd (cs:List V)(off k n:Nat):(cs.drop off).take (k+n)=(cs.drop off).take k++(cs.drop (off+k)).take n:=by
 rw[List.take_add,FE]
def EqAt (P:Program) (w:World) (d:Nat) (t:TypeId) (xs ys:Array Value) (cs ds:List V) (ks:List Nat):Prop:=
 ∀off b,off+ks.length≤cs.length→((cs.drop off).take ks.length).map kd=ks→As ((cs.drop off).take ks.length) ((ds.drop off).take ks.length)=some b→
  ∃a a',(part t xs off).run P w= .ok a w∧(part t ys off).run P w= .ok a' w∧(Op.equalIn d t a a').run P w= .ok b w
def MG {w:World} {d:Nat} {q:TypeId→Option (List Nat)} {xs ys:Array Value} {cs ds:List V} (hl:cs.length=ds.length)
 (hq:∀t ks,q t=some ks→EqAt P w d t xs ys cs ds ks):∀(fs:List Field) (n:Nat) (ks:List Nat),LQ P q fs n=some ks→n+ks.length≤cs.length→∀b,((cs.drop n).take ks.length).map kd=ks→
  As ((cs.drop n).take ks.length) ((ds.drop n).take ks.length)=some b→(Op.eqFields d xs ys fs).run P w= .ok b w
 |[],n,ks,h,_,b,_,hb=>by
  simp only[LQ,E8]at h
  subst h
  simp[As]at hb
  subst hb;rfl
 | f ::fs,n,ks,h,hle,b,hkd,hb=>by
  simp only[LQ]at h
  split at h
  ·rename_i hc;obtain⟨hname,hoff⟩:=hc
   cases hk:q f.type with
   |none=>grind
   | some k=>
    simp only[hk]at h
    cases hr:LQ P q fs (n+k.length)with
    |none=>grind
    |some m=>
     simp only[hr,J4,E8]at h
     subst h
     simp only[I8]at hle hkd hb
     rw[Nd]at hkd
     rw[Nd,Nd]at hb
     simp only[AL]at hkd
     have hkl:(((cs.drop n).take k.length).map kd).length=k.length:=by simp;omega
     have hk1:=List.append_inj_left hkd hkl;have hk2:=List.append_inj_right hkd hkl;obtain⟨p,r,e1,e2,rfl⟩:=KE _ _ _ _ b (by simp;omega) hb;obtain⟨a,a',h1,h2,h3⟩:=hq _ _ hk n p (by omega) hk1 e1;have ih:=MG hl hq fs (n+k.length) m hr (by omega) r hk2 e2;simp only[Op.eqFields,A1 hname,hoff,B9,h1,h2,h3,B7,V0,C4,ih];cases p<;>rfl
  cases h
def Qf {g:Gh} {w:World} {xs ys:Array Value} {cs ds:List V} (hx:OD g w xs cs) (hy:OD g w ys ds) (hl:cs.length=ds.length):∀(e d:Nat) (t:TypeId) (ks:List Nat),Gi P d t=some ks→EqAt P w (d+e) t xs ys cs ds ks
 |e,0,t,ks,h=>by simp[Gi]at h
 | e, d +1,t,ks,h=>by
  intro off b hle hkd hb
  have scal:∀i,(match P.underlying t with|some .bool=>i=1|some (.int _)=>i=0|some .string=>i=2|_=>False)→ks=[i]→
   ∃a a',(part t xs off).run P w= .ok a w∧(part t ys off).run P w= .ok a' w∧(Op.equalIn (d+1+e) t a a').run P w= .ok b w:=by
   intro i hi hks;subst hks
   simp only[GJ]at hle hkd hb
   have hoc:off<cs.length:=by omega
   have hod:off<ds.length:=by omega
   have e1:(cs.drop off).take 1=[cs.getD off .bad]:=by rw[Aj hoc,JF,List.take_zero];simp_all
   have e2:(ds.drop off).take 1=[ds.getD off .bad]:=by rw[Aj hod,JF,List.take_zero];simp_all
   rw[e1]at hkd
   rw[e1,e2]at hb
   simp only[G2,J3,V5,J6]at hkd
   have hs:Ii (cs.getD off .bad) (ds.getD off .bad)=some b:=by
    grind[As]
   have hag:Vq P t=some false:=by
    grind[Vq,Ar8]
   have hpart:∀(zs:Array Value),off<zs.size→(part t zs off).run P w= .ok (zs.getD off undef) w:=by
    intro zs hz;unfold part;rw[B9,JY hag w]
    simp_all
   have hoxs:off<xs.size:=by rw[hx.1];exact hoc
   have hoys:off<ys.size:=by rw[hy.1];exact hod
   refine⟨_,_,hpart xs hoxs,hpart ys hoys,?_⟩;rw[show d+1+e=(d+e)+1 by omega];refine Ss (hx.2 off hoc).2 (hy.2 off hod).2 hs ?_
   split<;>rename_i hu<;>simp only[hu]at hi<;>first|exact hkd.trans hi|exact hi
  simp only[Gi]at h
  split at h
  ·simp_all
  ·simp_all
  ·simp_all
  ·rename_i fs hu
   split at h
   ·rename_i hst
    cases hf:LQ P (Gi P d) fs.toList 0 with
    |none=>grind
    | some n=>
     simp only[hf]at h
     split at h
     ·rename_i hs;cases h
      have hag:Vq P t=some true:=by grind[Vq,Ar8]
      have hsub:∀(zs:Array Value) (es:List V),OD g w zs es→off+ks.length≤es.length→(part t zs off).run P w= .ok (.agg (zs.extract off (off+ks.length))) w∧OD g w (zs.extract off (off+ks.length)) ((es.drop off).take ks.length):=by
       intro zs es hz hze;refine⟨?_,?_,fun i hi=>?_⟩
       ·unfold part;rw[B9,JY hag w]
        simp_all[O4]
       ·have:=hz.1;simp;omega
       have hi':i<ks.length:=by grind
       have q1:(zs.extract off (off+ks.length)).getD i undef=zs.getD (off+i) undef:=by
        have:=hz.1;simp only[M7,NN];rw[A1 (by omega)]
       have q2:((es.drop off).take ks.length).getD i .bad=es.getD (off+i) .bad:=by
        grind
       rw[q1,q2];exact hz.2 _ (by omega)
      obtain⟨p1,r1⟩:=hsub xs cs hx hle;obtain⟨p2,r2⟩:=hsub ys ds hy (by omega);refine⟨_,_,p1,p2,?_⟩;rw[show d+1+e=(d+e)+1 by omega]
      have hfo:P.fieldsOf t=fs:=by simp[Program.fieldsOf,hu]
      rw[run_equalIn_struct w (d+e) t _ _ (by rw[hfo];exact hu) hst.1,hfo]
      have hlen:((cs.drop off).take ks.length).length=ks.length:=by simp;omega
      refine MG (by simp;omega) (fun t' ks' hq=>Qf r1 r2 (by simp;omega) e d t' ks' hq) fs.toList 0 ks hf (by simp;omega) b ?_ ?_
      ·simp_all
      grind
     cases h
   cases h
  cases h
theorem ZT {op:UnOp} {t:TypeId} {y:Operand} {x:V} (ho:o.op= .unOp op t y) (hl:unV op (ev fr y)=some x) (h:K x H):I7 P o fr H K:=by
 intro g w a hR hE;have hv:=E6 hR hE y;unfold execOp;rw[ho]
 unfold unV at hl
 split at hl
 ·rename_i b he;cases hl
  rw[he]at hv
  simp only[hv.bool_inv,Op.unary,B9,C4,B7,H6];exact L4.here hR (.bool _) h
 ·rename_i k n he;cases hl
  rw[he]at hv
  simp only[hv.int_inv,Op.unary,Op.intArith,B9,C4,B7,H6];exact L4.here hR (.int _ _) h
 cases hl
theorem TO {s d:TypeId} {y:Operand} {x:V} (ho:o.op= .convert s d y) (hl:RQ P s d (ev fr y)=some x) (h:K x H):I7 P o fr H K:=by
 intro g w a hR hE;have hv:=E6 hR hE y;unfold execOp;rw[ho]
 unfold RQ at hl
 split at hl
 ·rename_i k0 k k' n hs hd he;cases hl
  rw[he]at hv
  simp only[hv.int_inv,convert,B9,run_underlying hs,run_underlying hd,Conv.intToInt,C4,B7,H6];exact L4.here hR (.int _ _) h
 ·rename_i b hs hd he;cases hl
  rw[he]at hv
  simp only[hv.str_inv,convert,B9,run_underlying hs,run_underlying hd,C4,B7,H6];exact L4.here hR (.str _) h
 cases hl
def IP (op:BinOp)(t:TypeId)(p q:Operand)(u v:Value)(w:World)(h:(∃k a,u= .int k a)∨(∃s,u= .string s)∨∃b,u= .bool b):(eqGuard op t p q u v).run P w= .ok () w:=by
 rcases h with⟨k,a,rfl⟩|⟨s,rfl⟩|⟨b,rfl⟩<;>cases op<;>simp[eqGuard]
def VO {op:BinOp} {t:TypeId} {k k':IntKind} {m n:Int} {x:V} (hs:HJ op=true) (h:Pr op k m n=some x) (w:World):
 ∃v,(binOp op t (.int k m) (.int k' n)).run P w= .ok v w∧∀g,VR g w v x:=by
 unfold Pr at h
 split at h
 ·cases h
 rename_i hneg
 cases op<;>simp[HJ]at hs
 ·simp only[E8]at h;subst h
  exact⟨_,by simp[binOp,Op.shift,hneg],fun g=>.int _ _⟩
 simp only[E8]at h;subst h
 exact⟨_,by simp[binOp,Op.shift,hneg],fun g=>.int _ _⟩
def VP {op:BinOp} {t:TypeId} {k:IntKind} {m n:Int} {x:V} (hs:HJ op=false) (h:Ky op k m n=some x) (w:World):
 ∃v,(binOp op t (.int k m) (.int k n)).run P w= .ok v w∧∀g,VR g w v x:=by
 have one:∀r:Int,(binOp op t (.int k m) (.int k n)).run P w= .ok (.int k r) w→x= .int k r→∃v,(binOp op t (.int k m) (.int k n)).run P w= .ok v w∧∀g,VR g w v x:=
  fun r h1 h2=>⟨_,h1,fun g=>h2▸ .int _ _⟩
 have two:∀r:Bool,(binOp op t (.int k m) (.int k n)).run P w= .ok (.bool r) w→x= .bool r→∃v,(binOp op t (.int k m) (.int k n)).run P w= .ok v w∧∀g,VR g w v x:=
  fun r h1 h2=>⟨_,h1,fun g=>h2▸ .bool _⟩
 cases op<;>simp[HJ]at hs<;>simp only[Ky]at h
 ·simp only[E8]at h;exact one _ (by simp[binOp,Op.intArith]) h.symm
 ·simp only[E8]at h;exact one _ (by simp[binOp,Op.intArith]) h.symm
 ·simp only[E8]at h;exact one _ (by simp[binOp,Op.intArith]) h.symm
 ·split at h
  ·cases h
  rename_i h0;simp only[E8]at h;exact one _ (by simp[binOp,Op.intDiv,h0]) h.symm
 ·split at h
  ·cases h
  rename_i h0;simp only[E8]at h;exact one _ (by simp[binOp,Op.intDiv,h0]) h.symm
 ·simp only[E8]at h;exact one _ (by simp[binOp,Op.intBits]) h.symm
 ·simp only[E8]at h;exact one _ (by simp[binOp,Op.intBits]) h.symm
 ·simp only[E8]at h;exact one _ (by simp[binOp,Op.intBits]) h.symm
 ·simp only[E8]at h;exact one _ (by simp[binOp,Op.intBits]) h.symm
 all_goals (simp only[E8]at h;exact two _ (by simp[binOp,Op.intCmp]) h.symm)
def VN {op:BinOp} {t:TypeId} {m n:ByteArray} {x:V} (h:Ph op m n=some x) (w:World):
 ∃v,(binOp op t (.string m) (.string n)).run P w= .ok v w∧∀g,VR g w v x:=by
 have two:∀r:Bool,(binOp op t (.string m) (.string n)).run P w= .ok (.bool r) w→x= .bool r→∃v,(binOp op t (.string m) (.string n)).run P w= .ok v w∧∀g,VR g w v x:=
  fun r h1 h2=>⟨_,h1,fun g=>h2▸ .bool _⟩
 cases op<;>simp only[Ph]at h
 ·split at h
  ·cases h
  rename_i h0
  simp only[E8]at h
  have h1:¬(((m.size+n.size:Nat):Int)>IntKind.i64.max):=h0;subst h;exact⟨.string (m++n),by simp only[binOp,Op.stringOp,A3 h1,C4],fun g=>.str _⟩
 all_goals
  first
   |(cases h;done)
   |(simp only[E8]at h;exact two _ (by simp[binOp,Op.stringOp]) h.symm)
theorem Yl {op:BinOp} {t ty:TypeId} {y z:Operand} {x:V} (ho:o.op= .binOp op t y z ty) (hl:OB P op t (ev fr y) (ev fr z)=some x) (h:K x H):I7 P o fr H K:=by
 intro g w a hR hE;have hv:=E6 hR hE y;have hz:=E6 hR hE z;unfold execOp;rw[ho];simp only[B9]
 unfold OB at hl
 split at hl
 ·rename_i k m k' n he hf
  rw[he]at hv;rw[hf]at hz
  rw[hv.int_inv,hz.int_inv,IP op t y z _ _ w (.inl ⟨k,m,rfl⟩)];simp only[B7]
  split at hl
  ·rename_i hsh;obtain⟨v,h1,h2⟩:=VO (P:=P) (t:=t) (k':=k') hsh hl w;rw[h1];simp only[B7,C4,H6];exact L4.here hR (h2 g) h
  rename_i hsh
  split at hl
  ·rename_i hk;subst hk;obtain⟨v,h1,h2⟩:=VP (P:=P) (t:=t) (by grind) hl w;rw[h1];simp only[B7,C4,H6];exact L4.here hR (h2 g) h
  cases hl
 ·rename_i s1 s2 he hf
  rw[he]at hv;rw[hf]at hz
  rw[hv.str_inv,hz.str_inv,IP op t y z _ _ w (.inr (.inl ⟨_,rfl⟩))];simp only[B7];obtain⟨v,h1,h2⟩:=VN (P:=P) (t:=t) hl w;rw[h1];simp only[B7,C4,H6];exact L4.here hR (h2 g) h
 ·rename_i b1 b2 he hf
  rw[he]at hv;rw[hf]at hz
  split at hl
  ·rename_i hb
   have hu:P.underlying t=some .bool:=by
    grind[XL]
   rw[hv.bool_inv,hz.bool_inv,IP op t y z _ _ w (.inr (.inr ⟨_,rfl⟩))];simp only[B7];have heq:(Op.equal t (.bool b1) (.bool b2)).run P w= .ok (b1==b2) w:=run_equalIn_bool' w 9999 t b1 b2 hu
   cases op<;>simp only[E8,reduceCtorEq]at hl<;>subst hl<;>
    (simp only[binOp,B9,heq,B7,C4,H6];exact L4.here hR (.bool _) h)
  cases hl
 ·rename_i cs ds he hf
  rw[he]at hv;rw[hf]at hz
  split at hl
  ·rename_i hc;obtain⟨hag,hk,hkd⟩:=hc;obtain⟨c,hc,hrc⟩:=hv.row;obtain⟨d,hd,hrd⟩:=hz.row;rw[hc,hd]
   have hlen:cs.length=ds.length:=by have:=Q0 List.length hkd;grind
   cases heq:As cs ds with
   |none=>cases op<;>simp[heq]at hl
   | some b=>
    obtain⟨u,u',p1,p2,p3⟩:=Qf (P:=P) hrc hrd hlen (10000-9) 9 t _ hk 0 b (by simp) (by simp) (by
     rw[N2,Jq,Jq,P2 (D3 _),P2 (by omega)];exact heq)
    have hs:Eh P t=some cs.length∧P.eqGuardType P.depth t=false:=by
     grind[Gi,Vq,Ar8]
    unfold part at p1 p2
    rw[B9,JY hag w]at p1 p2
    simp only[B7,D1,B9,O4 hs.1,C4,V1,Result.ok.injEq,J6]at p1 p2
    have q1:c.extract 0 cs.length=c:=by rw[←hrc.1];simp
    have q2:d.extract 0 cs.length=d:=by rw[hlen,←hrd.1];simp
    rw[q1]at p1;rw[q2]at p2
    subst p1;subst p2;rw[run_eqGuard_agg w op t y z c d hs.2];simp only[B7];have p3':(Op.equalIn 10000 t (.agg c) (.agg d)).run P w= .ok b w:=p3
    cases op<;>simp only[heq,E8,reduceCtorEq]at hl<;>subst hl
    ·rw[run_eql_struct,p3'];exact L4.here hR (.bool _) h
    rw[run_neq_struct,p3'];exact L4.here hR (.bool _) h
  cases hl
 cases hl
end
def EN (H:A4):D2→Prop
 | .nil=>True
 | .full=>True
 | .tok t=>H t=some .spare
 | .ro=>False
def G0 (H:A4):D2→A4
 | .tok t=>upd H t none
 |_=>H
def YM (P:Program)(t:TypeId)(v:V):Option V:=
 match EO P t,arO P t,v with
 |some _,_,.sl xs _=>some (.int .i64 xs.length)
 |none,some (n,_),_=>some (.int .i64 n)
 |none,none,.str s=>if Sg P t=true then some (.int .i64 s.size)else none
 |_,_,_=>none
section
variable {P:Program}{o:Oper}{fr:Fr}{H:A4}{K:V→A4→Prop}
def P5 {a:Act}{w:World}{b:Builtin}{xs:Array Operand}{ts:Array TypeId}(ho:o.op= .call {callee:=.builtin b,args:=xs,argTypes:=ts}):
 (execOp a.eval o).run P w=(builtin b ts o.type (xs.map fun| .const _=>true|_=>false) (xs.map a.eval)).run P w:=by
 unfold execOp;rw[ho];simp only[resolve,B9,C4,B7,invoke];rfl
def KN {t:TypeId}(h:Sg P t=true):P.underlying t=some .string:=by
 grind[Sg]
theorem Al5 {y:Operand} {t:TypeId} {x:V} (ho:o.op= .call {callee:=.builtin .len,args:= #[y],argTypes:= #[t]}) (hl:YM P t (ev fr y)=some x) (h:K x H):I7 P o fr H K:=by
 intro g w a hR hE;have hv:=E6 hR hE y;rw[P5 ho];simp only[builtin,Y3,G2,J3,B9]
 unfold YM at hl
 split at hl
 ·rename_i e xs tl hse he;cases hl;have hu:=P0 hse
  rw[he]at hv
  generalize hav:a.eval y=v at hv
  cases hv with
  |sl0 ht=>simp[Builtin.len_,run_underlying hu,goInt];exact L4.here hR (.int _ _) h
  |sle ht=>simp[Builtin.len_,run_underlying hu,goInt];exact L4.here hR (.int _ _) h
  |sl vs hn hc hz hf hw h1 hvv ht=>
   subst hn;simp[Builtin.len_,run_underlying hu,goInt];exact L4.here hR (.int _ _) h
 ·rename_i n e hse hae;cases hl;have hu:=MR hae;simp[Builtin.len_,run_underlying hu,goInt];exact L4.here hR (.int _ _) h
 ·rename_i s hse hae he
  split at hl
  ·rename_i hs;cases hl
   rw[he]at hv
   simp[hv.str_inv,Builtin.len_,run_underlying (KN hs),goInt];exact L4.here hR (.int _ _) h
  cases hl
 cases hl
def DW {g:Gh} {w:World} {v:Value} {xs:List V} {tl:D2} {sz:Nat} (h:VR g w v (.sl xs tl)) (hall:xs.all (fun x=>x.cells.length==sz)=true):
 ∃ (base:Option Addr) (cap:Nat) (vs:Nat→Nat→Value),v= .slice base xs.length cap∧xs.length≤cap∧
  (∀i j,i<xs.length→j<sz→(vs i j).oneCell'=true∧VR g w (vs i j) ((xs.getD i .bad).cells.getD j .bad))∧
  (∀w':World,(∀b o,w'.cell? ⟨b,o,none⟩=w.cell? ⟨b,o,none⟩)→(Builtin.firstCells sz xs.length v).run P w'= .ok ((List.range (xs.length*sz)).map fun k=>vs (k / sz) (k % sz)).toArray w')∧
  ((xs=[]∧(cap=0∨tl= .ro)∧tl.plain=true)∨∃b q,base=some ⟨b,q,none⟩∧(∀i j,i<xs.length→j<sz→g.fz b (q+i*sz+j)∧w.cell? ⟨b,q+i*sz+j,none⟩=some (vs i j))∧
   (∀i,i<xs.length→(xs.getD i .bad).cells.length=sz)∧∃sz',(0<xs.length→sz'=sz)∧Gm g b q sz' xs.length cap tl):=by
 cases h with
 |sl0 ht=>exact⟨none,0,fun _ _=>undef,rfl,D3 _,fun i j hi=>by simp at hi,fun _ _=>by simp[Builtin.firstCells],.inl ⟨rfl,.inl rfl,ht⟩⟩
 |sle ht=>exact⟨_,_,fun _ _=>undef,rfl,Cv _,fun i j hi=>by simp at hi,fun _ _=>by simp[Builtin.firstCells,loadCells,loadCellsFrom],.inl ⟨rfl,by grind,by rcases ht with h|⟨h,_⟩<;>subst h<;>rfl⟩⟩
 | sl vs hn hc hz hf hw h1 hv ht=>
  rename_i b q sz' n cap;subst hn
  have hsz:0<xs.length→sz'=sz:=by
   grind
  refine⟨some ⟨b,q,none⟩,cap,vs,rfl,hc,fun i j hi hj=>?_,?_,.inr ⟨b,q,rfl,fun i j hi hj=>?_,fun i hi=>?_,sz',hsz,ht⟩⟩
  ·have:=hsz (by omega);simp_all
  ·intro w' hw';simp only[Builtin.firstCells]
   grind[run_loadCells,Nat.div_lt_iff_lt_mul,Nat.mod_lt,Y9,Nat.div_add_mod]
  ·have:=hsz (by omega);simp_all
  simp_all
def Gh.tok (g:Gh)(b e0 e lim:Nat):Gh:=
 {g with tk:=fun x=>if x=g.nx then some (b,e,lim)else g.tk x,nx:=g.nx+1,fz:=fun b' o=>g.fz b' o∨(b'=b∧e0≤o∧o<e)}
theorem U3.tok {g:Gh}{H:A4}{w w':World}(h:Rl g H w)(b e0 e lim:Nat)(hc:∀b o,g.fz b o→w'.cell? ⟨b,o,none⟩=w.cell? ⟨b,o,none⟩)(hl:Below g.base w w')(hd:w.drawn≤w'.drawn:=by first|exact Nat.le_refl _|exact Nat.le_succ _|exact Nat.le_add_right _ _):
 U3 g w (g.tok b e0 e lim) w':=by
 refine⟨fun _ _ e=>e,fun t x e=>?_,fun _ _ e=>.inl e,rfl,hc,hl,fun _ _ _=>rfl,hd⟩;simp only[Gh.tok]
 split
 ·next e'=>subst e';rw[(h.nxt _ (D3 _)).2.1]at e;cases e
 exact e
end
end Go.Ab
