/- . -/
import Derived.RangeFuncLeaves
import Derived.Below
import Derived.Laws.OwnMore
import Derived.Laws.CopyRow
import Derived.Laws.StructEq
import Derived.Laws.Strings
import Derived.Laws.Runes
import Derived.Lib.SliceRun
import Derived.WalkSpells
import Derived.MapKept
import Derived.DeepKeys4
set_option linter.all false
namespace Go.Ab
open Go.RowKit
abbrev Bgn(N:Nat):Prop:=40000000≤N
def A4:=@Option.bind_some
def A1:=@if_neg
def A2:=@if_pos
def C1:=@Result.andThen_ok
def C8:=@decide_eq_true_eq
def E3:=@List.getElem?_eq_getElem
def D6:=@Bool.false_eq_true
def C6:=@Sem.run_bind
def D1:=@Sem.run_pure
def D5:=@Nat.le_refl
def E6:=@Option.some.injEq
def B4:=@if_true
def G1:=@List.append_assoc
def C7:=@if_false
def G7:=@List.getElem_mem
def E9:=@List.map_cons
def O3:=@Array.getD_eq_getD_getElem?
def K5:=@Nat.mul_le_mul_right
def M7:=@List.mem_of_getElem?
def S3:=@List.drop_eq_getElem_cons
def S2:=@List.take_of_length_le
def K4:=@Option.map_some
def L4:=@List.append_nil
def M6:=@Bool.and_eq_true
def S1:=@decide_eq_false_iff_not
def I1:=@Nat.add_mul
def J3:=@List.map_nil
def L9:=@List.nil_append
def P1:=@Bool.not_eq_true'
def Bn:=@List.getElem?_of_mem
def Ad:=@List.take_append_drop
def P0:=@Bool.or_eq_true
def V3:=@List.getElem?_toArray
def L8:=@Nat.zero_add
def K3:=@decide_true
def Q7:=@List.length_map
def AC:=@List.getElem_of_mem
def U0:=@List.length_cons
def Cd:=@List.getD_eq_getElem?_getD
def Bm:=@List.getElem?_cons_zero
def R3:=@Bool.not_true
def W9:=@List.getElem?_set
def Ac:=@List.length_append
def Q6:=@Nat.lt_or_ge
def Cc:=@Nat.eq_of_beq_eq_true
def V2:=@decide_eq_false
def Cb:=@List.getElem?_cons_succ
def Aa:=@List.getElem?_map
def CK:=@Array.getElem?_eq_getElem
def CJ:=@Go.MapKept.run_getObj_map
def T9:=@Nat.lt_irrefl
def W8:=@List.cons.injEq
def Z9:=@List.map_toArray
def CI:=@List.take_add_one
def S0:=@Int.le_refl
def RI:=@List.pairwise_iff_getElem
def Fo:=@Array.getElem?_setIfInBounds
def Z8:=@Nat.mul_le_mul
def CH:=@List.getElem?_append
def Ca:=@not_true_eq_false
def Q0:=@and_true
def P9:=@congrArg
def DR:=@List.map_congr_left
def Bl:=@Option.some.inj
def Bk:=@Bool.eq_iff_iff
def DQ:=@Array.getElem?_toList
def Z7:=@Nat.le_trans
def BZ:=@List.length_take
def W7:=@Sem.run_ite
def Bj:=@Bool.not_false
def CG:=@List.length_range
def BY:=@List.map_append
def W6:=@Below.refl
def DP:=@List.ext_getElem?
def Ke:=@List.take_append_of_le_length
def BX:=@Nat.add_zero
def Fm:=@Option.isSome_none
def DO:=@List.foldl_cons
def RH:=@Nat.div_lt_iff_lt_mul
def HC:=@Array.getElem?_append
def HB:=@Nat.le_of_ble_eq_true
def CF:=@Nat.add_assoc
def Kd:=@List.getElem?_append_right
def Fk:=@Int.toNat_natCast
def Fj:=@DataW.trod_struct
def Kb:=@List.range_eq_range'
def HA:=@List.mem_cons_of_mem
def Ka:=@List.getElem?_append_left
def BW:=@Nat.zero_le
def CE:=@Nat.sub_mul
def BV:=@Nat.one_mul
def Fi:=@Option.getD_some
def JZ:=@List.range'_succ
def Zp:=@List.take_succ_eq_append_getElem
def Hz:=@List.getElem?_range
def DN:=@Bool.false_or
def Hy:=@List.getElem?_take
def Hx:=@List.getElem?_drop
def Fh:=@Nat.mod_lt
def Hv:=@List.size_toArray
def IC:=@Array.getElem?_modify
def IB:=@List.length_singleton
def Eg:=@World.alloc_eq
def Gs:=@List.cons_append
def Gr:=@List.all_eq_true
def Gq:=@List.mem_toArray
def Gp:=@Nat.lt_succ_self
def Gn:=@List.take_length
def Gm:=@List.drop_length
def Ef:=@Oper.semAt_eq
def IA:=@Array.length_toList
def Iz:=@Array.toList_filter
def Gl:=@Nat.min_eq_left
def Ee:=@List.mem_map
def Gk:=@List.drop_drop
def Gj:=@List.mem_range
def LP:=@Nat.le_mul_of_pos_right
def Iy:=@Nat.le_of_succ_le
def Ix:=@List.flatMap_cons
def Ed:=@Nat.le_succ
def LO:=@List.getElem?_eraseIdx
def LN:=@List.drop_eq_nil_of_le
def AS1:=@List.findIdx?_eq_some_iff_getElem
def Gi:=@List.mem_cons
def Gg:=@Bool.true_and
def Iw:=@Int.natCast_zero
def Iv:=@Nat.lt_of_not_le
def Iu:=@Option.getD_none
def It:=@Array.mem_append
def QC:=@List.replicate_append_replicate
def Ir:=@World.size_drew
def LM:=@Array.getElem_toList
def LL:=@List.mem_append_left
def LK:=@Array.getElem_modify
def Iq:=@List.length_set
def Gf:=@List.map_map
def QB:=@List.eq_nil_of_length_eq_zero
def LJ:=@List.getD_cons_zero
def Ip:=@List.drop_zero
def AS0:=@List.pairwise_cons
def LI:=@List.append_of_mem
def Io:=@World.drew_eq
def Im:=@List.all_cons
def Il:=@List.sum_cons
def LH:=@Array.size_append
def LG:=@List.nodup_append
def LF:=@Array.any_eq_true
def LE:=@World.cells?_some
def LD:=@List.foldl_append
def Ge:=@beq_iff_eq
def QA:=@List.mem_of_find?_eq_some
def LB:=@Nat.le_add_right
def LA:=@List.not_mem_nil
def Lz:=@List.ext_getElem
def Lw:=@List.any_eq_true
def Qz:=@List.perm_middle
def Ik:=@Int.sub_zero
def Qy:=@List.pairwise_mergeSort
def Lv:=@List.length_nil
def Qx:=@Nat.div_add_mod
def Gc:=@Array.ext
def Lt:=@Option.map_none
def Lr:=@Operand.tmp.inj
def Qw:=@Array.getElem?_extract
def Qv:=@List.drop_of_length_le
def Qu:=@List.pairwise_lt_range
def Qt:=@List.length_replicate
def Lq:=@World.mk.injEq
def Qs:=@List.perm_append_comm
def Lp:=@decide_eq_true
def Qr:=@List.eq_nil_or_concat
def Qq:=@List.concat_eq_append
def Lo:=@Prod.mk.injEq
def Ln:=@List.map_drop
def Lm:=@List.map_take
def Ll:=@decide_false
def Lk:=@Int.zero_add
inductive E7 where
 |nil
 |full
 |ro
 |tok (t:Nat)
inductive V where
 |bad
 |bool (b:Bool)
 |int (k:IntKind) (n:Int)
 |str (s:ByteArray)
 |nilp
 |ref (id off:Nat)
 |eref (cs:List V) (off:Nat)
 |sl (xs:List V) (t:E7)
 |own (id:Nat) (lo n:Int)
 |elem (id:Nat) (i:Int) (sz off:Nat)
 |func (fn:Fn) (first cap:List V)
 |nilf
 |iface (t:TypeId) (v:V)
 |nili
 |agg (cs:List V)
 |tup (vs:List V)
 |map (id:Nat)
 |nilmap
 |fmap (ks:List Int) (xs:List V)
 |yield (id:Nat)
instance :Inhabited V:=⟨.bad⟩
def V.cells:V→List V
 | .agg cs=>cs
 |v=>[v]
def V.one:V→Bool
 | .bad=>false
 | .tup _=>false
 |_=>true
structure LpI where
 nt:Nat
 s:Nat→V
 st:LoopState
 pe:Option Code
 ps:Array Tmp
 asg:Code
 body:Code
inductive Ds where
 |cells (cs:List V)
 |spare
 |obj (o:Obj)
 |loop (L:LpI)
 |arr (sz:Nat) (xs:List V)
 |iter (mid since:Nat) (seen:Array Nat) (c0:Nat)
 |fm (ks:List Int) (xs:List V)
 |vm (ks:List Value) (xs:List V)
abbrev A5:=Nat→Option Ds
def upd (H:A5)(id:Nat)(b:Option Ds):A5:=fun x=>if x=id then b else H x
class N9 where
 gl:Nat→V
structure Hd where
 o:Nat
 cap:Nat
 sz:Nat
structure Gh where
 mu:Nat→Option Nat
 ow:Nat→Hd
 tk:Nat→Option (Nat×Nat×Nat)
 fz:Nat→Nat→Prop
 nx:Nat
 base:Nat
def GP (g:Gh)(b o sz n cap:Nat):E7→Prop
 | .nil=>False
 | .full=>cap=n
 | .ro=>True
 | .tok t=>0<n∧∃lim,g.tk t=some (b,o+n*sz,lim)∧o+cap*sz≤lim
def E7.plain:E7→Bool
 | .tok _=>false
 |_=>true
inductive VR (g:Gh) (w:World):Value→V→Prop
 |bad (v:Value):VR g w v .bad
 |bool (b:Bool):VR g w (.bool b) (.bool b)
 |int (k:IntKind) (n:Int):VR g w (.int k n) (.int k n)
 |str (s:ByteArray):VR g w (.string s) (.str s)
 |nilp:VR g w (.pointer none) .nilp
 |nilf:VR g w .nilFunc .nilf
 |nili:VR g w .nilIface .nili
 |nilmap:VR g w (.map none) .nilmap
 |map {id b:Nat} (h:g.mu id=some b):VR g w (.map (some b)) (.map id)
 |ref {id b off:Nat} (h:g.mu id=some b):VR g w (.pointer (some ⟨b,off,none⟩)) (.ref id off)
 |own {id b:Nat} {lo n:Int} {p:Option Addr} (h:g.mu id=some b) (h0:0≤lo) (h1:0≤n) (h2:lo+n≤(g.ow id).cap) (hp:lo<(g.ow id).cap→p=some ⟨b,(g.ow id).o+lo.toNat*(g.ow id).sz,none⟩):
  VR g w (.slice p n.toNat ((g.ow id).cap-lo.toNat)) (.own id lo n)
 |elem {id b sz off:Nat} {i:Int} (h:g.mu id=some b) (hs:(g.ow id).sz=sz):VR g w (.pointer (some ⟨b,(g.ow id).o+i.toNat*sz+off,none⟩)) (.elem id i sz off)
 |eref {b o off:Nat} {cs:List V} (vs:Nat→Value) (hf:∀j,j<cs.length→g.fz b (o+j))
  (hw:∀j,j<cs.length→w.cell? ⟨b,o+j,none⟩=some (vs j)) (h1:∀j,j<cs.length→(vs j).oneCell'=true)
  (hv:∀j,j<cs.length→VR g w (vs j) (cs.getD j .bad)):VR g w (.pointer (some ⟨b,o+off,none⟩)) (.eref cs off)
 |sl0 {t:E7} (ht:t.plain=true):VR g w (.slice none 0 0) (.sl [] t)
 |sle {a:Addr} {cap:Nat} {t:E7} (ht:t= .ro∨(t= .full∧cap=0)):VR g w (.slice (some a) 0 cap) (.sl [] t)
 |sl {b o sz n cap:Nat} {xs:List V} {t:E7} (vs:Nat→Nat→Value) (hn:xs.length=n) (hc:n≤cap)
  (hz:∀i,i<n→(xs.getD i .bad).cells.length=sz) (hf:∀i j,i<n→j<sz→g.fz b (o+i*sz+j))
  (hw:∀i j,i<n→j<sz→w.cell? ⟨b,o+i*sz+j,none⟩=some (vs i j)) (h1:∀i j,i<n→j<sz→(vs i j).oneCell'=true)
  (hv:∀i j,i<n→j<sz→VR g w (vs i j) ((xs.getD i .bad).cells.getD j .bad)) (ht:GP g b o sz n cap t):
  VR g w (.slice (some ⟨b,o,none⟩) n cap) (.sl xs t)
 |func {fn:Fn} {fs cs:Array Value} {F C:List V} (hl:fs.size=F.length) (hv:∀i,i<F.length→VR g w (fs.getD i undef) (F.getD i .bad))
  (hl':cs.size=C.length) (hv':∀i,i<C.length→VR g w (cs.getD i undef) (C.getD i .bad)):VR g w (.func fn fs cs) (.func fn F C)
 |fmap {b:Nat} {es:Array MapEntry} {clock:Nat} {ks:List Int} {xs:List V} (hb:b<g.base) (hw:w.heap[b]? =some (.map es clock)) (hk:es.toList.map (·.key)=ks.map (Value.int .i64)) (hn:ks.Nodup) (hl:xs.length=ks.length)
  (hv:∀i e,es[i]? =some e→VR g w e.val (xs.getD i .bad)):VR g w (.map (some b)) (.fmap ks xs)
 |yield {id b:Nat} (h:g.mu id=some b):VR g w (.func (.yield b) #[] #[]) (.yield id)
 |iface {t:TypeId} {v:Value} {V:V} (h:VR g w v V):VR g w (.iface t v) (.iface t V)
 |agg {vs:Array Value} {cs:List V} (hl:vs.size=cs.length) (h1:∀i,i<cs.length→(vs.getD i undef).oneCell'=true)
  (hv:∀i,i<cs.length→VR g w (vs.getD i undef) (cs.getD i .bad)):VR g w (.agg vs) (.agg cs)
 |tup {vs:Array Value} {cs:List V} (hl:vs.size=cs.length) (hv:∀i,i<cs.length→VR g w (vs.getD i undef) (cs.getD i .bad)):
  VR g w (.tuple vs) (.tup cs)
def VR.und (g:Gh)(w:World):VR g w undef (.tup []):=.tup rfl fun i hi=>by simp at hi
structure W1 (g:Gh) (w:World) (g':Gh) (w':World):Prop where
 mu:∀id b,g.mu id=some b→g'.mu id=some b
 tk:∀t x,g.tk t=some x→g'.tk t=some x
 fz:∀b o,g.fz b o→g'.fz b o
 base:g'.base=g.base
 cell:∀b o,g.fz b o→w'.cell? ⟨b,o,none⟩=w.cell? ⟨b,o,none⟩
 low:Below g.base w w'
 ow:∀id b,g.mu id=some b→g'.ow id=g.ow id
 dr:w.drawn≤w'.drawn
theorem W1.refl (g:Gh)(w:World):W1 g w g w:=⟨fun _ _ h=>h,fun _ _ h=>h,fun _ _ h=>h,rfl,fun _ _ _=>rfl,Below.refl _ _,fun _ _ _=>rfl,Nat.le_refl _⟩
def W1.trans {g g' g'':Gh} {w w' w'':World} (h:W1 g w g' w') (k:W1 g' w' g'' w''):W1 g w g'' w'':=
 ⟨fun id b e=>k.mu id b (h.mu id b e),fun t x e=>k.tk t x (h.tk t x e),fun b o e=>k.fz b o (h.fz b o e),k.base.trans h.base,
  fun b o e=>(k.cell b o (h.fz b o e)).trans (h.cell b o e),h.low.trans (h.base▸k.low),fun id b e=>(k.ow id b (h.mu id b e)).trans (h.ow id b e),Z7 h.dr k.dr⟩
def GP.mono {g g':Gh}{b o sz n cap:Nat}{t:E7}(h:GP g b o sz n cap t)(ht:∀t x,g.tk t=some x→g'.tk t=some x):
 GP g' b o sz n cap t:=by
 cases t with
 |tok t=>grind[GP]
 |nil=>exact h
 |full=>exact h
 |ro=>exact h
def VR.mono {g g':Gh} {w w':World} (s:W1 g w g' w') {v:Value} {V:V} (h:VR g w v V):VR g' w' v V:=by
 induction h with
 |bad v=>exact .bad v
 |bool b=>exact .bool b
 |int k n=>exact .int k n
 |str s=>exact .str s
 |nilp=>exact .nilp
 |nilf=>exact .nilf
 |nili=>exact .nili
 |nilmap=>exact .nilmap
 |map h=>exact .map (s.mu _ _ h)
 |fmap hb hw hk hn hl hv ih=>exact .fmap (by rw[s.base];exact hb) ((s.low.block _ hb).trans hw) hk hn hl ih
 |ref h=>exact .ref (s.mu _ _ h)
 |own h h0 h1 h2 hp=>
  have e:=s.ow _ _ h
  rw[←e]at h2 hp ⊢
  exact .own (s.mu _ _ h) h0 h1 h2 hp
 |elem h hs=>
  have e:=s.ow _ _ h
  rw[←e]at hs ⊢
  exact .elem (s.mu _ _ h) hs
 |eref vs hf hw h1 hv ih=>exact .eref vs (fun j hj=>s.fz _ _ (hf j hj)) (fun j hj=>(s.cell _ _ (hf j hj)).trans (hw j hj)) h1 ih
 |sl0 ht=>exact .sl0 ht
 |sle ht=>exact .sle ht
 |sl vs hn hc hz hf hw h1 hv ht ih=>
  exact .sl vs hn hc hz (fun i j hi hj=>s.fz _ _ (hf i j hi hj)) (fun i j hi hj=>(s.cell _ _ (hf i j hi hj)).trans (hw i j hi hj)) h1 ih (ht.mono s.tk)
 |func hl hv hl' hv' ih ih'=>exact .func hl ih hl' ih'
 |yield h=>exact .yield (s.mu _ _ h)
 |iface h ih=>exact .iface ih
 |agg hl h1 hv ih=>exact .agg hl h1 ih
 |tup hl hv ih=>exact .tup hl ih
def Gh.at (g:Gh)(H:A5)(id:Nat):Option Nat:=
 match H id with
 |some .spare=>(g.tk id).map (·.1)
 |some (.arr _ xs)=>if xs.length=0 then none else g.mu id
 |some _=>g.mu id
 |none=>none
def Obj.isCells:Obj→Bool
 | .cells .. =>true
 |_=>false
def CC (g:Gh) (w:World) (id:Nat):Ds→Prop
 | .cells cs=>∃b c T,g.mu id=some b∧g.base≤b∧w.heap[b]? =some (.cells c T (0,0))∧c.size=cs.length∧
  (∀j,j<cs.length→(c.getD j undef).oneCell'=true∧VR g w (c.getD j undef) (cs.getD j .bad))∧∀o,¬g.fz b o
 | .spare=>∃b e lim c T,g.tk id=some (b,e,lim)∧g.base≤b∧w.heap[b]? =some (.cells c T (0,0))∧e≤lim∧c.size=lim∧∀o,e≤o→¬g.fz b o
 | .arr sz xs=>∃b,g.mu id=some b∧(g.ow id).sz=sz∧(g.ow id).cap=xs.length∧(∀i,i<xs.length→(xs.getD i .bad).cells.length=sz)∧
  (xs.length=0∨∃c T,g.base≤b∧w.heap[b]? =some (.cells c T (0,0))∧(g.ow id).o+xs.length*sz≤c.size∧
   (∀i j,i<xs.length→j<sz→(c.getD ((g.ow id).o+i*sz+j) undef).oneCell'=true∧VR g w (c.getD ((g.ow id).o+i*sz+j) undef) ((xs.getD i .bad).cells.getD j .bad))∧
   ∀o,(g.ow id).o≤o→¬g.fz b o)
 | .obj o=>∃b,g.mu id=some b∧g.base≤b∧w.heap[b]? =some o∧Obj.isCells o=false
 | .fm ks xs=>∃b es clock,g.mu id=some b∧g.base≤b∧w.heap[b]? =some (.map es clock)∧es.toList.map (·.key)=ks.map (Value.int .i64)∧ks.Nodup∧xs.length=ks.length∧∀i e,es[i]? =some e→VR g w e.val (xs.getD i .bad)
 | .vm ks xs=>∃b es clock,g.mu id=some b∧g.base≤b∧w.heap[b]? =some (.map es clock)∧es.toList.map (·.key)=ks∧ks.Nodup∧xs.length=ks.length∧∀i e,es[i]? =some e→VR g w e.val (xs.getD i .bad)
 | .iter mid since seen c0=>∃b bm,g.mu id=some b∧g.base≤b∧g.mu mid=some bm∧w.heap[b]? =some (.mapIter (some bm) since seen c0)
 | .loop L=>∃b r,g.mu id=some b∧g.base≤b∧w.heap[b]? =some (.loop r)∧r.state=L.st∧r.pending=L.pe∧r.params=L.ps∧r.assign=L.asg∧r.body=L.body∧r.tmps.size=L.nt∧
  ∀t,VR g w (r.tmps.getD t undef) (L.s t)
structure Rl [N9] (g:Gh) (H:A5) (w:World):Prop where
 blk:∀id b,H id=some b→CC g w id b
 inj:∀id id' b,g.at H id=some b→g.at H id'=some b→id=id'
 frz:∀b o,g.fz b o→∃v,w.cell? ⟨b,o,none⟩=some v
 nxt:∀id,g.nx≤id→g.mu id=none∧g.tk id=none∧H id=none
 bnd:g.base≤w.heap.size
 glb:∀n,VR g w (.pointer (some ⟨n,0,none⟩)) (N9.gl n)
structure Fr where
 s:Nat→V
 df:List Nat
def Fr.put (fr:Fr)(d:Option Tmp)(v:V):Fr:=
 match d with
 |some d=>{fr with s:=fun t=>if t=d then v else fr.s t}
 |none=>fr
structure FR (nt:Nat) (g:Gh) (w:World) (a:Act) (fr:Fr):Prop where
 size:a.tmps.size=nt
 s:∀t,VR g w (a.tmps.getD t undef) (fr.s t)
 df:∃bs:List Nat,bs.length=fr.df.length∧(∀i,i<bs.length→g.mu (fr.df.getD i 0)=some (bs.getD i 0))∧a.defers=bs.map fun b=>{target:=.collected b,args:= #[]}
def FR.mono {nt:Nat}{g g':Gh}{w w':World}{a:Act}{fr:Fr}(h:FR nt g w a fr)(s:W1 g w g' w'):FR nt g' w' a fr:=by
 refine⟨h.size,fun t=>(h.s t).mono s,?_⟩;obtain⟨bs,h1,h2,h3⟩:=h.df;exact⟨bs,h1,fun i hi=>s.mu _ _ (h2 i hi),h3⟩
theorem FR.put {nt:Nat} {g:Gh} {w:World} {a:Act} {fr:Fr} (h:FR nt g w a fr) {d:Option Tmp} {v:Value} {V:V} (hd:∀t,d=some t→t<nt) (hv:VR g w v V):
 FR nt g w (a.put d v) (fr.put d V):=by
 cases d with
 |none=>exact h
 | some d=>
  have hlt:=hd d rfl;refine⟨by simp[Act.put,h.size],fun t=>?_,h.df⟩;have hs:=h.s t;simp only[Act.put,Fr.put]
  by_cases e:t=d
  ·subst e
   have:(a.tmps.setIfInBounds t v).getD t undef=v:=by
    simp[Array.getD,h.size,hlt]
   rw[this];grind
  have:(a.tmps.setIfInBounds d v).getD t undef=a.tmps.getD t undef:=by
   simp only[O3,Fo];rw[A1 (by omega)]
  rw[this];simp_all
end Go.Ab
namespace Go.Ab
open Go.RowKit
variable [N9]
theorem E4 (H:A5)(id:Nat)(b:Option Ds):upd H id b id=b:=by simp[upd]
theorem D2 (H:A5){id x:Nat}(b:Option Ds)(h:x≠id):upd H id b x=H x:=by simp[upd,h]
theorem Al (H:A5)(id:Nat)(a b:Option Ds):upd (upd H id a) id b=upd H id b:=by
 funext x;simp_all[upd]
def Aw8 (H:A5)(id:Nat)(h:H id=none):upd H id none=H:=by
 funext x;simp_all[upd]
def WU (H:A5)(id:Nat)(b:Option Ds)(h:H id=none):upd (upd H id b) id none=H:=by rw[Al,Aw8 H id h]
def Aw7 (H:A5)(id:Nat)(b:Option Ds)(h:H id=b):upd H id b=H:=by
 funext x;simp_all[upd]
def AH {H:A5}{id x:Nat}{b:Ds}(h:H id=none)(hx:H x=some b):x≠id:=by
 grind
def CC.mono {g g':Gh} {w w':World} {H:A5} {id:Nat} {k:Ds} (hk:H id=some k) (s:W1 g w g' w') (h:CC g w id k)
 (hh:∀b,g.at H id=some b→w'.heap[b]? =w.heap[b]? ∧∀o,g'.fz b o→g.fz b o):CC g' w' id k:=by
 cases k with
 |cells cs=>
  obtain⟨b,c,T,h1,h2,h3,h4,h5,h6⟩:=h;have hb:=hh b (by simp_all[Gh.at]);exact⟨b,c,T,s.mu _ _ h1,s.base▸h2,hb.1.trans h3,h4,fun j hj=>⟨(h5 j hj).1,(h5 j hj).2.mono s⟩,fun o ho=>h6 o (hb.2 o ho)⟩
 |spare=>
  obtain⟨b,e,lim,c,T,h1,h2,h3,h4,h5,h6⟩:=h;have hb:=hh b (by simp_all[Gh.at]);exact⟨b,e,lim,c,T,s.tk _ _ h1,s.base▸h2,hb.1.trans h3,h4,h5,fun o ho hf=>h6 o ho (hb.2 o hf)⟩
 |obj o=>
  obtain⟨b,h1,h2,h3,h4⟩:=h;have hb:=hh b (by simp_all[Gh.at]);exact⟨b,s.mu _ _ h1,s.base▸h2,hb.1.trans h3,h4⟩
 |iter mid since seen c0=>
  obtain⟨b,bm,h1,h2,h3,h4⟩:=h;have hb:=hh b (by simp_all[Gh.at]);exact⟨b,bm,s.mu _ _ h1,s.base▸h2,s.mu _ _ h3,hb.1.trans h4⟩
 |fm ks xs=>
  obtain⟨b,es,clock,h1,h2,h3,h4,h5,h6,h7⟩:=h;have hb:=hh b (by simp_all[Gh.at]);exact⟨b,es,clock,s.mu _ _ h1,s.base▸h2,hb.1.trans h3,h4,h5,h6,fun i e hi=>(h7 i e hi).mono s⟩
 |vm ks xs=>
  obtain⟨b,es,clock,h1,h2,h3,h4,h5,h6,h7⟩:=h;have hb:=hh b (by simp_all[Gh.at]);exact⟨b,es,clock,s.mu _ _ h1,s.base▸h2,hb.1.trans h3,h4,h5,h6,fun i e hi=>(h7 i e hi).mono s⟩
 |loop L=>
  obtain⟨b,r,h1,h2,h3,h4,h5,h6,h7,h8,h9,h10⟩:=h;have hb:=hh b (by simp_all[Gh.at]);exact⟨b,r,s.mu _ _ h1,s.base▸h2,hb.1.trans h3,h4,h5,h6,h7,h8,h9,fun t=>(h10 t).mono s⟩
 |arr sz xs=>
  obtain⟨b,h1,hs,h2,h3,h4⟩:=h;have e:=s.ow _ _ h1;refine⟨b,s.mu _ _ h1,by rw[e];exact hs,by rw[e];exact h2,h3,?_⟩;rw[e]
  rcases h4 with h4|⟨c,T,k1,k2,k3,k4,k5⟩
  ·omega
  by_cases h0:xs.length=0
  ·omega
  have hb:=hh b (by simp_all[Gh.at]);exact .inr ⟨c,T,s.base▸k1,hb.1.trans k2,k3,fun i j hi hj=>⟨(k4 i j hi hj).1,(k4 i j hi hj).2.mono s⟩,fun o ho hf=>k5 o ho (hb.2 o hf)⟩
def CC.lt {g:Gh} {w:World} {H:A5} {id b:Nat} {k:Ds} (hk:H id=some k) (h:CC g w id k) (hb:g.at H id=some b):b<w.heap.size:=by
 have lt_of:∀{b:Nat} {o:Obj},w.heap[b]? =some o→b<w.heap.size:=by
  grind
 cases k with
 |cells cs=>
  grind[Gh.at,CC]
 |spare=>
  grind[Gh.at,CC]
 |obj o=>
  grind[Gh.at,CC]
 |fm ks xs=>
  grind[Gh.at,CC]
 |vm ks xs=>
  grind[Gh.at,CC]
 |loop L=>
  grind[Gh.at,CC]
 |iter mid since seen c0=>
  grind[Gh.at,CC]
 |arr sz xs=>
  grind[Gh.at,CC]
def Rl.lt {g:Gh}{H:A5}{w:World}(h:Rl g H w){id b:Nat}(hb:g.at H id=some b):b<w.heap.size:=by
 cases hk:H id with
 |none=>simp_all[Gh.at]
 |some k=>exact(h.blk id k hk).lt hk hb
def Rl.fz_lt {g:Gh}{H:A5}{w:World}(h:Rl g H w){b o:Nat}(hf:g.fz b o):b<w.heap.size:=by
 obtain⟨v,hv⟩:=h.frz b o hf;exact World.block_lt_of_cell? w (a:=⟨b,o,none⟩) hv
def Rl.less {g:Gh} {H H':A5} {w:World} (h:Rl g H w) (hl:∀id b,H' id=some b→H id=some b):Rl g H' w:=by
 have hat:∀id b,g.at H' id=some b→g.at H id=some b:=by
  grind[Gh.at]
 refine⟨fun id b hb=>h.blk id b (hl _ _ hb),fun id id' b h1 h2=>h.inj id id' b (hat _ _ h1) (hat _ _ h2),h.frz,fun id hi=>⟨(h.nxt id hi).1,(h.nxt id hi).2.1,?_⟩,h.bnd,h.glb⟩
 cases hk:H' id with
 |none=>rfl
 |some k=>have:=hl _ _ hk;rw[(h.nxt id hi).2.2]at this;cases this
def Db {w:World}{o:Obj}{b i:Nat}(h:b<w.heap.size):(w.alloc o).cell? ⟨b,i,none⟩=w.cell? ⟨b,i,none⟩:=
 World.cell?_alloc_lt w (a:=⟨b,i,none⟩) (o:=o) h
def Ps {w:World} {c:Array Value} {T:TypeId} {i:Nat}:(w.alloc (.cells c T)).cell? ⟨w.heap.size,i,none⟩=c[i]? :=by
 have h:(w.alloc (.cells c T)).heap[w.heap.size]? =some (.cells c T):=by
  show(w.heap.push _)[w.heap.size]? =_
  simp
 simp_all
def Gh.new (g:Gh)(w:World)(F:Prop)(n:Nat):Gh:=
 {g with mu:=fun x=>if x=g.nx then some w.heap.size else g.mu x,nx:=g.nx+1,fz:=fun b o=>g.fz b o∨(F∧b=w.heap.size∧o<n)}
theorem W1.new {g:Gh}{H:A5}{w:World}(h:Rl g H w)(o:Obj)(F:Prop)(n:Nat):W1 g w (g.new w F n) (w.alloc o):=by
 refine⟨fun id b e=>?_,fun t x e=>e,fun b o e=>.inl e,rfl,fun b i e=>Db (h.fz_lt e),(W6 _ _).alloc h.bnd _,fun _ _ _=>rfl,D5 _⟩;simp only[Gh.new]
 split
 ·next e'=>subst e';rw[(h.nxt _ (D5 _)).1]at e;cases e
 exact e
def heap_alloc {w:World}{o:Obj}{b:Nat}(h:b<w.heap.size):(w.alloc o).heap[b]? =w.heap[b]? :=Below.heap_alloc w o b h
def BK {w:World}{o:Obj}:(w.alloc o).heap[w.heap.size]? =some o:=by
 show(w.heap.push _)[w.heap.size]? =_
 simp
def Pw {g g':Gh}{H H':A5}{id:Nat}(h:H' id=H id)(hm:g'.mu id=g.mu id)(ht:g'.tk id=g.tk id)(ho:g'.ow id=g.ow id:=by rfl):g'.at H' id=g.at H id:=by
 simp_all[Gh.at]
def Rl.newNamed {g:Gh} {H:A5} {w:World} (h:Rl g H w) (o:Obj) (k:Ds) (hk:k≠ .spare)
 (hok:CC (g.new w False 0) (w.alloc o) g.nx k) (hk2:∀sz xs,k≠ .arr sz xs:=by intro _ _ h;cases h):Rl (g.new w False 0) (upd H g.nx (some k)) (w.alloc o):=by
 have s:=W1.new h o False 0;have hnx:=h.nxt g.nx (D5 _)
 have hne:∀id,id≠g.nx→(g.new w False 0).at (upd H g.nx (some k)) id=g.at H id:=fun id hi=>
  Pw (D2 _ _ hi) (by grind[Gh.new]) rfl
 have hat:(g.new w False 0).at (upd H g.nx (some k)) g.nx=some w.heap.size:=by
  cases k<;>simp_all[Gh.at,E4,Gh.new]
 refine⟨fun id b hb=>?_,fun id id' b h1 h2=>?_,fun b o hf=>?_,fun id hi=>?_,?_,fun n=>(h.glb n).mono s⟩
 ·by_cases hi:id=g.nx
  ·grind[upd]
  rw[D2 _ _ hi]at hb
  refine(h.blk id b hb).mono hb s fun b' hb'=>⟨heap_alloc (h.lt hb'),fun o ho=>?_⟩
  grind[Gh.new]
 ·by_cases hi:id=g.nx<;>by_cases hi':id'=g.nx
  ·rw[hi,hi']
  ·subst hi;rw[hat]at h1;rw[hne _ hi']at h2;cases h1;exact absurd (h.lt h2) (T9 _)
  ·subst hi';rw[hat]at h2;rw[hne _ hi]at h1;cases h2;exact absurd (h.lt h1) (T9 _)
  rw[hne _ hi]at h1;rw[hne _ hi']at h2;exact h.inj _ _ _ h1 h2
 ·rcases hf with hf|⟨hF,_⟩
  ·obtain⟨v,hv⟩:=h.frz b o hf;exact⟨v,(Db (h.fz_lt hf)).trans hv⟩
  omega
 ·have hi':g.nx≤id:=Iy hi
  have hne':id≠g.nx:=fun e=>by grind[Gh.new]
  obtain⟨a1,a2,a3⟩:=h.nxt id hi'
  grind[Gh.new,upd]
 have:=h.bnd;simp[Gh.new];omega
def Rl.newFrozen {g:Gh} {H:A5} {w:World} (h:Rl g H w) (c:Array Value) (T:TypeId) (n:Nat) (hn:n≤c.size):
 Rl (g.new w True n) H (w.alloc (.cells c T)):=by
 have s:=W1.new h (.cells c T) True n
 have hat:∀id b,(g.new w True n).at H id=some b→g.at H id=some b:=by
  intro id b hb
  cases hk:H id with
  |none=>simp_all[Gh.at]
  |some k=>
   have hne:id≠g.nx:=fun e=>by subst e;rw[(h.nxt _ (D5 _)).2.2]at hk;cases hk
   rwa[Pw (g:=g) (g':=g.new w True n) (H:=H) (H':=H) rfl (by grind[Gh.new]) rfl]at hb
 refine⟨fun id b hb=>?_,fun id id' b h1 h2=>h.inj _ _ _ (hat _ _ h1) (hat _ _ h2),fun b o hf=>?_,fun id hi=>?_,?_,fun n=>(h.glb n).mono s⟩
 ·refine(h.blk id b hb).mono hb s fun b' hb'=>⟨heap_alloc (h.lt hb'),fun o ho=>?_⟩
  rcases ho with ho|⟨_,e,_⟩
  ·exact ho
  subst e;exact absurd (h.lt hb') (T9 _)
 ·rcases hf with hf|⟨_,e,ho⟩
  ·obtain⟨v,hv⟩:=h.frz b o hf;exact⟨v,(Db (h.fz_lt hf)).trans hv⟩
  subst e
  have:o<c.size:=by omega
  simp_all
 ·have hi':g.nx≤id:=Iy hi
  have hne':id≠g.nx:=fun e=>by grind[Gh.new]
  obtain⟨a1,a2,a3⟩:=h.nxt id hi'
  simp_all[Gh.new]
 have:=h.bnd;simp[Gh.new];omega
def Wd {w:World}{b:Nat}{o:Obj}(h:w.heap[b]? =some o):b<w.heap.size:=by
 grind
def R0 (w:World)(g:Nat)(cs:Array Value)(k:Nat)(h:k≠g):(w.setRow g cs).heap[k]? =w.heap[k]? :=by
 simp only[World.setRow,IC];rw[A1 (by omega)]
theorem CB (w:World)(b:Nat)(cs:Array Value)(k o:Nat)(h:k≠b):(w.setRow b cs).cell? ⟨k,o,none⟩=w.cell? ⟨k,o,none⟩:=
 World.cell?_of_block (w:=w) (a:=⟨k,o,none⟩) (R0 w b cs k h)
def Hk {B:Nat}(w:World)(b:Nat)(cs:Array Value)(h:B≤b):Below B w (w.setRow b cs):=
 ⟨rfl,rfl,rfl,by simp_all,fun k hk=>R0 w b cs k (by omega)⟩
def Rl.setNamed {g:Gh} {H:A5} {w:World} (h:Rl g H w) {id b:Nat} {cs cs':List V} {c c':Array Value} {T:TypeId} (hk:H id=some (.cells cs)) (hb:g.mu id=some b)
 (hw:w.heap[b]? =some (.cells c T (0,0))) (hsz:c'.size=c.size) (hl:cs'.length=cs.length)
 (hv:∀j,j<cs'.length→(c'.getD j undef).oneCell'=true∧VR g w (c'.getD j undef) (cs'.getD j .bad)):
 W1 g w g (w.setRow b c')∧Rl g (upd H id (some (.cells cs'))) (w.setRow b c'):=by
 obtain⟨b',c0,T0,h1,h2,h3,h4,h5,h6⟩:=h.blk id _ hk
 have e:b'=b:=by rw[hb]at h1;simp_all
 subst e
 rw[hw]at h3
 have e2:c0=c:=by grind
 subst e2
 have s:W1 g w g (w.setRow b' c'):=by
  refine⟨fun _ _ e=>e,fun _ _ e=>e,fun _ _ e=>e,rfl,fun b o hf=>?_,Hk w b' c' h2,fun _ _ _=>rfl,D5 _⟩
  have hne:b≠b':=fun e=>by simp_all
  grind[CB]
 have hat:∀x,g.at (upd H id (some (.cells cs'))) x=g.at H x:=by
  grind[Gh.at,upd]
 have hid:g.at H id=some b':=by simp_all[Gh.at]
 refine⟨s,fun x k hx=>?_,fun x x' y h1 h2=>h.inj x x' y (hat x▸h1) (hat x'▸h2),fun y o hf=>?_,fun x hx=>?_,?_,fun n=>(h.glb n).mono s⟩
 ·by_cases hxe:x=id
  ·subst hxe;rw[E4]at hx;cases hx
   refine⟨b',c',T,hb,h2,setRow_heap w b' c0 c' T (0,0) hw,by omega,fun j hj=>⟨(hv j hj).1,(hv j hj).2.mono s⟩,h6⟩
  rw[D2 _ _ hxe]at hx
  refine(h.blk x k hx).mono hx s fun y hy=>⟨R0 w b' c' y fun e=>?_,fun _ ho=>ho⟩;subst e;exact hxe (h.inj _ _ _ hy hid)
 ·obtain⟨v,hv'⟩:=h.frz y o hf;exact⟨v,(s.cell y o hf).trans hv'⟩
 ·obtain⟨a1,a2,a3⟩:=h.nxt x hx
  have hne:x≠id:=fun e=>by simp_all
  simp_all[upd]
 have:=h.bnd;simp_all
def Rl.freeze {g:Gh} {H:A5} {w:World} (h:Rl g H w) {id:Nat} {cs:List V} (hk:H id=some (.cells cs)):
 ∃g',W1 g w g' w∧Rl g' (upd H id none) w∧∀v off,VR g w v (.ref id off)→VR g' w v (.eref cs off):=by
 obtain⟨b,c,T,h1,h2,h3,h4,h5,h6⟩:=h.blk id _ hk
 let g':Gh:={g with fz:=fun x o=>g.fz x o∨(x=b∧o<c.size)}
 have s:W1 g w g' w:=⟨fun _ _ e=>e,fun _ _ e=>e,fun _ _ e=>.inl e,rfl,fun _ _ _=>rfl,W6 _ _,fun _ _ _=>rfl,D5 _⟩
 have hid:g.at H id=some b:=by simp_all[Gh.at]
 have hcell:∀o,w.cell? ⟨b,o,none⟩=c[o]? :=fun o=>by simp[World.cell?,h3]
 have hat:∀x y,g'.at (upd H id none) x=some y→x≠id∧g.at H x=some y:=by
  grind[Gh.at,upd]
 refine⟨g',s,⟨fun x k hx=>?_,fun x x' y h1 h2=>h.inj _ _ _ (hat _ _ h1).2 (hat _ _ h2).2,fun y o hf=>?_,fun x hx=>?_,h.bnd,fun n=>(h.glb n).mono s⟩,fun v off hv=>?_⟩
 ·have hxe:x≠id:=fun e=>by simp_all[upd]
  rw[D2 _ _ hxe]at hx
  refine(h.blk x k hx).mono hx s fun y hy=>⟨rfl,fun o ho=>?_⟩
  rcases ho with ho|⟨e,_⟩
  ·exact ho
  subst e;exact absurd (h.inj _ _ _ hy hid) hxe
 ·rcases hf with hf|⟨e,ho⟩
  ·exact h.frz y o hf
  simp_all
 ·obtain⟨a1,a2,a3⟩:=h.nxt x hx
  have hne:x≠id:=fun e=>by simp_all
  grind[upd]
 cases hv with
 | ref hm=>
  rw[h1]at hm;cases hm
  have:=VR.eref (g:=g') (w:=w) (b:=b) (o:=0) (off:=off) (cs:=cs) (fun j=>c.getD j undef) (fun j hj=>.inr ⟨rfl,by omega⟩)
   (fun j hj=>by rw[hcell];simp_all) (fun j hj=>(h5 j hj).1) (fun j hj=>(h5 j hj).2.mono s)
  simp_all
def AR0:TypeDesc→Bool
 | .struct _=>true
 | .array _ _=>true
 |_=>false
def Ev (P:Program)(t:TypeId):Option Nat:=(P.info? t).map (·.size)
def Qj (P:Program)(t:TypeId):Option Nat:=(P.info? t).map (·.bytes)
def Zj (P:Program)(t:TypeId):Option Bool:=(P.underlying t).map AR0
def Fd (P:Program)(t:TypeId):Option TypeId:=
 match P.underlying t with
 |some (.slice e)=>some e
 |_=>none
def arO (P:Program)(t:TypeId):Option (Nat×TypeId):=
 match P.underlying t with
 |some (.array n e)=>some (n,e)
 |_=>none
def VA (P:Program)(t:TypeId):Bool:=
 match P.underlying t with
 |some .string=>true
 |_=>false
def ifO (P:Program)(t:TypeId):Bool:=
 match P.underlying t with
 |some (.interface _)=>true
 |none=>true
 |_=>false
def fdO (P:Program) (t:TypeId) (f:Nat):Option (Nat×TypeId):=
 match P.underlying t with
 |some (.struct fs)=>
  match fs[f]? with
  |some x=>if(Ev P x.type).getD 0=0 then none else some (x.offset,x.type)
  |none=>none
 |_=>none
def cv1:Value→V
 | .bool b=>.bool b
 | .int k n=>.int k n
 | .string s=>.str s
 | .pointer none=>.nilp
 | .slice none 0 0=>.sl [] .nil
 | .map none=>.nilmap
 | .nilFunc=>.nilf
 | .nilIface=>.nili
 |_=>.bad
def cv:Value→V
 | .agg cs=>if cs.all Value.oneCell' then .agg (cs.toList.map cv1)else .bad
 | .func (.func f) fs cs=>if fs.size=0∧cs.size=0 then .func (.func f) [] []else .bad
 |v=>cv1 v
def ID (P:Program)(t:TypeId):Option V:=((P.info? t).bind (·.zero)).map cv
theorem Ak6 (g:Gh)(w:World)(v:Value):VR g w v (cv1 v):=by
 unfold cv1
 split<;>first|exact .sl0 rfl|constructor
theorem Ec (g:Gh) (w:World) (v:Value):VR g w v (cv v):=by
 unfold cv
 split
 ·next cs=>
  split
  ·next h=>
   have h':∀i,i<cs.size→(cs.getD i undef).oneCell'=true:=fun i hi=>by
    have:=(Array.all_eq_true.1 h) i hi
    simp_all
   refine .agg (by simp) (fun i hi=>h' i (by grind)) fun i hi=>?_
   have hi':i<cs.size:=by grind
   have:(cs.toList.map cv1).getD i .bad=cv1 (cs.getD i undef):=by
    simp_all
   rw[this];grind[Ak6]
  exact .bad _
 ·split
  ·next f fs cs h=>exact .func (by grind) (fun i hi=>by simp at hi) (by grind) (fun i hi=>by simp at hi)
  exact .bad _
 grind[Ak6]
def ev (fr:Fr):Operand→V
 | .tmp t=>fr.s t
 | .const v=>cv v
 | .global n=>N9.gl n
 | .func f=>.func (.func f) [] []
def ER (g:Gh)(w:World)(a:Act)(fr:Fr):Prop:=∀t,VR g w (a.tmps.getD t undef) (fr.s t)
theorem E8 {g:Gh}{w:World}{H:A5}{a:Act}{fr:Fr}(hR:Rl g H w)(h:ER g w a fr)(x:Operand):VR g w (a.eval x) (ev fr x):=by
 cases x with
 |tmp t=>exact h t
 |const v=>exact Ec g w v
 |global n=>exact hR.glb n
 |func f=>exact .func rfl (fun i hi=>by simp at hi) rfl (fun i hi=>by simp at hi)
def ER.mono {g g':Gh}{w w':World}{a:Act}{fr:Fr}(h:ER g w a fr)(s:W1 g w g' w'):ER g' w' a fr:=fun t=>(h t).mono s
def H9 (P:Program)(K:Value→World→Prop):Result Next→Prop
 | .ok (.value v) w=>K v w
 | .ok .skip w=>K undef w
 | .ok (.enter f args) w=>CallsIn Fence.wide 0 P f args w fun e w'=>∃v,e= .returned v∧K v w'
 | .ok (.round l f tmps assign body) w=>RoundIn Fence.wide 0 P l f tmps assign body w fun e w'=>∃v,e= .returned v∧K v w'
 |_=>False
def N5 (g:Gh)(w:World)(K:V→A5→Prop)(v:Value)(w':World):Prop:=
 ∃g' x H',W1 g w g' w'∧Rl g' H' w'∧VR g' w' v x∧K x H'
def J2 (P:Program)(o:Oper)(fr:Fr)(H:A5)(K:V→A5→Prop):Prop:=
 ∀g w a,Rl g H w→ER g w a fr→H9 P (N5 g w K) ((execOp a.eval o).run P w)
theorem N5.here {g:Gh}{H:A5}{w:World}{K:V→A5→Prop}{v:Value}{x:V}(hR:Rl g H w)(hv:VR g w v x)(h:K x H):N5 g w K v w:=
 ⟨g,x,H,W1.refl _ _,hR,hv,h⟩
section
variable {P:Program}{o:Oper}{fr:Fr}{H:A5}{K:V→A5→Prop}
theorem Xf {x:Operand}(ho:o.op= .move x)(h:K (ev fr x) H):J2 P o fr H K:=by
 intro g w a hR hE;unfold execOp;rw[ho];exact N5.here hR (E8 hR hE x) h
theorem Se {x:Operand}(ho:o.op= .assign x)(h:K (ev fr x) H):J2 P o fr H K:=by
 intro g w a hR hE;unfold execOp;rw[ho];exact N5.here hR (E8 hR hE x) h
theorem Ax9 {c x y:Operand}{t:Bool}(ho:o.op= .pick c x y)(hc:ev fr c= .bool t)(h:K (if t then ev fr x else ev fr y) H):J2 P o fr H K:=by
 intro g w a hR hE;have hb:=E8 hR hE c
 rw[hc]at hb
 have e:a.eval c= .bool t:=by generalize a.eval c=v at hb;cases hb;rfl
 unfold execOp;rw[ho];simp only[e,asBool,C6,D1,C1,H9];cases t
 ·exact N5.here hR (E8 hR hE y) h
 exact N5.here hR (E8 hR hE x) h
def VR.int_inv {g:Gh}{w:World}{v:Value}{k:IntKind}{n:Int}(h:VR g w v (.int k n)):v= .int k n:=by cases h;rfl
def VR.bool_inv {g:Gh}{w:World}{v:Value}{b:Bool}(h:VR g w v (.bool b)):v= .bool b:=by cases h;rfl
def VR.str_inv {g:Gh}{w:World}{v:Value}{s:ByteArray}(h:VR g w v (.str s)):v= .string s:=by cases h;rfl
theorem VR.cells {g:Gh} {w:World} {v:Value} {x:V} (h:VR g w v x) (h1:x.one=true):
 v.cells.size=x.cells.length∧∀j,j<x.cells.length→(v.cells.getD j undef).oneCell'=true∧VR g w (v.cells.getD j undef) (x.cells.getD j .bad):=by
 cases h with
 |agg hl h1' hv=>exact⟨hl,fun j hj=>⟨h1' j hj,hv j hj⟩⟩
 |bad v=>simp[V.one]at h1
 |tup hl hv=>simp[V.one]at h1
 | _=>
  refine⟨rfl,fun j hj=>?_⟩
  have:j=0:=by simpa[V.cells]using hj
  subst this;refine⟨rfl,?_⟩;simp only[V.cells,Value.cells,LJ]
  first
   |exact .bool _|exact .int _ _|exact .str _|exact .nilp|exact .nilf|exact .nili|exact .nilmap
   |(constructor<;>assumption)
   |(exact .sl0 (by assumption))
   |(exact .sl _ (by assumption) (by assumption) (by assumption) (by assumption) (by assumption) (by assumption) (by assumption) (by assumption))
   |(exact .func (by assumption) (by assumption) (by assumption) (by assumption))
   |(exact .eref _ (by assumption) (by assumption) (by assumption) (by assumption))
end
def GT (ag:Bool)(sz:Nat)(cs:List V)(off:Nat):Option V:=
 if ag then(if off+sz≤cs.length then some (.agg ((cs.drop off).take sz))else none)else cs[off]?
def V4 (cs:List V)(off:Nat)(xs:List V):List V:=cs.take off++(xs++cs.drop (off+xs.length))
def IY (P:Program) (H:A5) (t:TypeId) (v:V):Option V:=
 match Zj P t,Ev P t,v with
 |some ag,some sz,.eref cs off=>GT ag sz cs off
 |some ag,some sz,.ref id off=>
  match H id with
  |some (.cells cs)=>GT ag sz cs off
  |_=>none
 |_,_,_=>none
def ND (P:Program) (H:A5) (t:TypeId) (v x:V):Option A5:=
 match Ev P t,v with
 |some sz,.ref id off=>
  match H id with
  |some (.cells cs)=>if x.one=true∧x.cells.length=sz∧off+sz≤cs.length then some (upd H id (some (.cells (V4 cs off x.cells))))else none
  |_=>none
 |_,_=>none
def WI (g:Gh)(w:World)(b o:Nat)(cs:List V):Prop:=
 ∀j,j<cs.length→∃v,w.cell? ⟨b,o+j,none⟩=some v∧v.oneCell'=true∧VR g w v (cs.getD j .bad)
theorem Aj (b o n:Nat):(⟨b,o,none⟩:Addr).add n=⟨b,o+n,none⟩:=by
 unfold Addr.add;split<;>simp_all
section
variable {P:Program}{o:Oper}{fr:Fr}{H:A5}{K:V→A5→Prop}
def Md {t:TypeId} {ag:Bool} (h:Zj P t=some ag) (w:World):(isAgg t).run P w= .ok ag w:=by
 unfold Zj at h
 cases hu:P.underlying t with
 |none=>grind
 |some d=>
  simp only[hu,K4,E6]at h
  unfold isAgg;rw[C6,run_underlying hu w];subst h;cases d<;>rfl
def Q3 {t:TypeId}{sz:Nat}(h:Ev P t=some sz)(w:World):(sizeOf t).run P w= .ok sz w:=by
 unfold Ev at h
 cases hi:P.info? t with
 |none=>grind
 |some i=>simp[hi]at h;simp[sizeOf,typeInfo,hi,h]
def HP {g:Gh} {w:World} {b q:Nat} {cs:List V} (hc:WI g w b q cs) {t:TypeId} {ag:Bool} {sz off:Nat} {x:V} (ha:Zj P t=some ag) (hs:Ev P t=some sz)
 (hp:GT ag sz cs off=some x):∃v,(loadVar t ⟨b,q+off,none⟩).run P w= .ok v w∧VR g w v x:=by
 unfold loadVar;rw[C6,Md ha w];simp only[C1]
 cases ag with
 | true=>
  simp only[GT,B4]at hp
  split at hp
  ·next hle=>
   cases hp
   have hf:∀j,j<sz→w.cell? ((⟨b,q+off,none⟩:Addr).add j)=some ((w.cell? ⟨b,q+off+j,none⟩).getD undef):=by
    intro j hj;obtain⟨v,hv,_⟩:=hc (off+j) (by omega);rw[Aj,show q+off+j=q+(off+j) by omega,hv];rfl
   refine⟨.agg ((List.range sz).map fun j=>(w.cell? ⟨b,q+off+j,none⟩).getD undef).toArray,?_,?_⟩
   ·simp_all[Q3,run_loadCells]
   refine .agg ?_ (fun i hi=>?_) fun i hi=>?_
   ·simp;omega
   ·have hi':i<sz:=by grind
    obtain⟨v,hv,h1,_⟩:=hc (off+i) (by omega)
    have:(((List.range sz).map fun j=>(w.cell? ⟨b,q+off+j,none⟩).getD undef).toArray).getD i undef=v:=by
     simp[Array.getD,hi',show q+off+i=q+(off+i) by omega,hv]
    rw[this];exact h1
   have hi':i<sz:=by grind
   obtain⟨v,hv,_,h2⟩:=hc (off+i) (by omega)
   have:(((List.range sz).map fun j=>(w.cell? ⟨b,q+off+j,none⟩).getD undef).toArray).getD i undef=v:=by
    simp[Array.getD,hi',show q+off+i=q+(off+i) by omega,hv]
   rw[this]
   have e:((cs.drop off).take sz).getD i .bad=cs.getD (off+i) .bad:=by
    grind
   rw[e];exact h2
  cases hp
 | false=>
  simp only[GT,D6,C7]at hp
  have hlt:off<cs.length:=by
   grind
  obtain⟨v,hv,_,h2⟩:=hc off hlt
  simp_all
def Rc {g:Gh}{w:World}{id b:Nat}{cs:List V}(hR:Rl g H w)(hk:H id=some (.cells cs))(hb:g.mu id=some b):WI g w b 0 cs:=by
 obtain⟨b',c,T,h1,h2,h3,h4,h5,h6⟩:=hR.blk id _ hk
 rw[hb]at h1;cases h1
 intro j hj
 have hj':j<c.size:=by omega
 refine⟨c.getD j undef,?_,(h5 j hj).1,(h5 j hj).2⟩;simp[World.cell?,h3,Array.getD,hj']
theorem Ay5 {t:TypeId} {y:Operand} {x:V} (ho:o.op= .load t y) (hl:IY P H t (ev fr y)=some x) (h:K x H):J2 P o fr H K:=by
 intro g w a hR hE;have hv:=E8 hR hE y
 unfold IY at hl
 split at hl
 ·next ag sz cs off ha hs he=>
  rw[he]at hv
  generalize hav:a.eval y=v at hv
  cases hv with
  |eref vs hf hw h1 hvv=>
   rename_i b q;obtain⟨u,hu,hr⟩:=HP (P:=P) (g:=g) (w:=w) (b:=b) (q:=q) (cs:=cs) (fun j hj=>⟨vs j,hw j hj,h1 j hj,hvv j hj⟩) ha hs hl;unfold execOp;rw[ho];simp only[hav,Instr.loadAt,Instr.sureAddr,C6,D1,C1,hu,H9]
   grind[N5.here]
 ·next ag sz id off ha hs he=>
  rw[he]at hv
  generalize hav:a.eval y=v at hv
  cases hv with
  | ref hm=>
   rename_i b
   split at hl
   ·next cs hk=>
    obtain⟨u,hu,hr⟩:=HP (P:=P) (Rc hR hk hm) ha hs hl
    rw[L8]at hu
    unfold execOp;rw[ho];simp only[hav,Instr.loadAt,Instr.sureAddr,C6,D1,C1,hu,H9]
    grind[N5.here]
   cases hl
 cases hl
theorem Bq {cs xs:List V}{off:Nat}(h:off+xs.length≤cs.length):(V4 cs off xs).length=cs.length:=by
 grind[V4]
def Jb {cs xs:List V}{off j:Nat}(h:off+xs.length≤cs.length):
 (V4 cs off xs).getD j .bad=if off≤j∧j<off+xs.length then xs.getD (j-off) .bad else cs.getD j .bad:=by
 grind[V4]
def Uw {t:TypeId} {y z:Operand} {zV:V} {H':A5} (ho:o.op= .store t y z) (hw:∀g w v,VR g w v (ev fr z)→VR g w v zV) (hl:ND P H t (ev fr y) zV=some H') (h:K .bad H'):J2 P o fr H K:=by
 intro g w a hR hE;have hv:=E8 hR hE y;have hz:=hw _ _ _ (E8 hR hE z)
 unfold ND at hl
 split at hl
 ·next sz id off hs he=>
  rw[he]at hv
  generalize hav:a.eval y=v at hv
  cases hv with
  | ref hm=>
   rename_i b
   split at hl
   ·next cs hk=>
    split at hl
    ·next hcond=>
     obtain⟨hone,hlen,hfit⟩:=hcond;cases hl;obtain⟨hcs,hcv⟩:=hz.cells hone;obtain⟨b',c,T,h1,h2,h3,h4,h5,h6⟩:=hR.blk id _ hk
     rw[hm]at h1;cases h1
     have hsz:(a.eval z).cells.size=sz:=by rw[hcs,hlen]
     have hmem:∀v∈(a.eval z).cells.toList,v.oneCell'=true:=by
      intro v hv;obtain⟨j,hj,rfl⟩:=AC hv
      have hj':j<(a.eval z).cells.size:=by omega
      have:=(hcv j (by omega)).1
      simp_all
     have hst:=run_storeCells_at P b off T (a.eval z).cells.toList 0 c w h3 (by simp;omega) hmem
     have hset:=hR.setNamed (cs':=V4 cs off zV.cells) (c':=(c.toList.take (off+0)++(a.eval z).cells.toList++c.toList.drop (off+0+(a.eval z).cells.toList.length)).toArray)
      hk hm h3 (by simp;omega) (Bq (by omega)) (fun j hj=>by
       rw[Bq (by omega)]at hj
       rw[Jb (by omega)]
       have hc:((c.toList.take (off+0)++(a.eval z).cells.toList++c.toList.drop (off+0+(a.eval z).cells.toList.length)).toArray).getD j undef=
        if off≤j∧j<off+zV.cells.length then(a.eval z).cells.getD (j-off) undef else c.getD j undef:=by
        have hlt:j<c.size:=by omega
        simp only[BX,O3,V3,G1];rw[CH,CH];simp only[BZ,IA,Gl (show off≤c.size by omega),Hy,Hx,DQ]
        by_cases q1:j<off
        ·rw[A2 q1,A2 q1,A1 (by omega)]
        grind
       rw[hc]
       grind)
     unfold execOp;rw[ho];simp only[hav,Instr.storeAt,Instr.sureAddr,storeVar,C6,D1,C1,Q3 hs w,hsz,ne_eq,Ca,C7,hst,H9];exact⟨g,.bad,_,hset.1,hset.2,.bad _,h⟩
    cases hl
   cases hl
 cases hl
end
def At9 (v:V)(n:Nat):Option V:=
 match v with
 | .eref cs off=>some (.eref cs (off+n))
 | .ref id off=>some (.ref id (off+n))
 | .elem id i sz off=>some (.elem id i sz (off+n))
 |_=>none
def HU (P:Program)(t:TypeId)(v:V)(f:Nat):Option V:=
 match fdO P t f with
 |some (off,_)=>At9 v off
 |none=>none
def Th (P:Program) (t:TypeId) (v:V) (f:Nat):Option V:=
 match fdO P t f,v with
 |some (off,ft),.agg cs=>
  match Zj P ft,Ev P ft with
  |some ag,some sz=>GT ag sz cs off
  |_,_=>none
 |_,_=>none
def DZ (P:Program)(t:TypeId)(v:V)(i:Int):Option V:=
 match Fd P t,arO P t,v with
 |some e,_,.sl xs _=>if(0≤i∧i<xs.length)∧Ev P e=some (xs.getD i.toNat .bad).cells.length then some (.eref (xs.getD i.toNat .bad).cells 0)else none
 |none,some (n,e),v=>if 0≤i∧i<n then(Ev P e).bind fun sz=>At9 v (i.toNat*sz)else none
 |_,_,_=>none
def Qe (P:Program) (t:TypeId) (v:V) (i:Int):Option V:=
 match arO P t,v with
 | some (n,e),.agg cs=>
  if 0≤i∧i<n then
   match Zj P e,Ev P e with
   |some ag,some sz=>GT ag sz cs (i.toNat*sz)
   |_,_=>none
  else none
 |none,.str s=>if VA P t=true∧0≤i then(s[i.toNat]?).map fun b=>.int .u8 b.toNat else none
 |_,_=>none
section
variable {P:Program}{o:Oper}{fr:Fr}{H:A5}{K:V→A5→Prop}
def Zk {g:Gh} {w:World} {v:Value} {x y:V} {n:Nat} (h:VR g w v x) (hy:At9 x n=some y):
 ∃b q,v= .pointer (some ⟨b,q,none⟩)∧VR g w (.pointer (some ⟨b,q+n,none⟩)) y:=by
 unfold At9 at hy
 split at hy
 ·cases hy
  cases h with
  |eref vs hf hw h1 hv=>exact⟨_,_,rfl,by rw[CF];exact .eref vs hf hw h1 hv⟩
 ·cases hy
  cases h with
  |ref hm=>exact⟨_,_,rfl,.ref hm⟩
 ·cases hy
  cases h with
  |elem hm hs=>exact⟨_,_,rfl,by rw[CF];exact .elem hm hs⟩
 cases hy
theorem TW {t:TypeId} {y:Operand} {f:Nat} {x:V} (ho:o.op= .fieldAddr t y f) (hl:HU P t (ev fr y) f=some x) (h:K x H):J2 P o fr H K:=by
 intro g w a hR hE;have hv:=E8 hR hE y
 unfold HU at hl
 split at hl
 ·next off ft hfd=>
  obtain⟨b,q,hav,hr⟩:=Zk hv hl
  unfold fdO at hfd
  split at hfd
  ·next fs hu=>
   split at hfd
   ·next x' hx=>
    split at hfd
    ·cases hfd
    next hne=>
    cases hfd
    cases hs:Ev P x'.type with
    |none=>simp_all
    |some sz=>
     have hne':sz≠0:=by simp_all
     unfold execOp;rw[ho];simp only[hav,Instr.fieldAt,Instr.sureAddr,fieldPlace,C6,D1,C1,run_underlying hu,hx,Q3 hs,hne',C7,H9,Aj]
     grind[N5.here]
   cases hfd
  cases hfd
 cases hl
def XJ {g:Gh} {w:World} {vs:Array Value} {cs:List V} {x:V} {t:TypeId} {ag:Bool} {sz off:Nat} (hv:VR g w (.agg vs) (.agg cs)) (ha:Zj P t=some ag) (hs:Ev P t=some sz)
 (hp:GT ag sz cs off=some x):∃v,(part t vs off).run P w= .ok v w∧VR g w v x:=by
 cases hv with
 | agg hl h1 hv=>
  unfold part;rw[C6,Md ha w];simp only[C1]
  cases ag with
  | true=>
   simp only[GT,B4]at hp
   split at hp
   ·next hle=>
    cases hp;refine⟨.agg (vs.extract off (off+sz)),by simp_all[Q3],.agg (by simp;omega) (fun i hi=>?_) fun i hi=>?_⟩
    all_goals
     have hi':i<sz:=by simp at hi;omega
     have e1:(vs.extract off (off+sz)).getD i undef=vs.getD (off+i) undef:=by
      simp only[O3,Qw];rw[A2 (by omega)]
     have e2:((cs.drop off).take sz).getD i .bad=cs.getD (off+i) .bad:=by
      simp[List.getD,Hx,hi']
    ·rw[e1];grind
    grind
   cases hp
  | false=>
   simp only[GT,D6,C7]at hp
   have hlt:off<cs.length:=by
    grind
   have hlt':off<vs.size:=by omega
   refine⟨vs.getD off undef,by simp_all,?_⟩;have e:=hv off hlt
   have:cs.getD off .bad=x:=by simp_all
   rw[this]at e;exact e
theorem An5 {t:TypeId} {y:Operand} {f:Nat} {x:V} (ho:o.op= .field t y f) (hl:Th P t (ev fr y) f=some x) (h:K x H):J2 P o fr H K:=by
 intro g w a hR hE;have hv:=E8 hR hE y
 unfold Th at hl
 split at hl
 ·next off ft cs hfd he=>
  split at hl
  ·next ag sz ha hs=>
   rw[he]at hv
   generalize hav:a.eval y=v at hv
   cases hv with
   | agg hl' h1 hvv=>
    rename_i vs;obtain⟨u,hu,hr⟩:=XJ (P:=P) (VR.agg hl' h1 hvv) ha hs hl
    unfold fdO at hfd
    split at hfd
    ·next fs hun=>
     split at hfd
     ·next x' hx=>
      split at hfd
      ·cases hfd
      cases hfd;unfold execOp;rw[ho];simp only[hav,Instr.field,asAgg,C6,D1,C1,run_underlying hun,hx,hu,H9]
      grind[N5.here]
     cases hfd
    cases hfd
  cases hl
 cases hl
def Q9 {t e:TypeId}(h:Fd P t=some e):P.underlying t=some (.slice e):=by
 grind[Fd]
def Px {t e:TypeId}{n:Nat}(h:arO P t=some (n,e)):P.underlying t=some (.array n e):=by
 grind[arO]
theorem TV {t:TypeId} {y z:Operand} {k:IntKind} {i:Int} {x:V} (ho:o.op= .indexAddr t y z) (hz:ev fr z= .int k i) (hl:DZ P t (ev fr y) i=some x) (h:K x H):
 J2 P o fr H K:=by
 intro g w a hR hE;have hv:=E8 hR hE y;have hi:=E8 hR hE z
 rw[hz]at hi
 have hi:=hi.int_inv
 unfold DZ at hl
 split at hl
 ·next e _ xs tl hse he=>
  have hu:=Q9 hse
  split at hl
  ·next hc=>
   obtain⟨⟨h0,h1⟩,hs⟩:=hc;cases hl
   rw[he]at hv
   generalize hav:a.eval y=v at hv
   cases hv with
   |sl0 ht=>grind
   |sle ht=>grind
   |sl vs hn hc hzz hf hw h1' hvv ht=>
    rename_i b q sz n cap
    have hlt:i.toNat<n:=by omega
    have hsz:sz=(xs.getD i.toNat .bad).cells.length:=(hzz _ hlt).symm;unfold execOp;rw[ho]
    have h1'':i<(n:Int):=by omega
    simp only[hav,hi,Instr.indexAt,asIntOf,C6,D1,C1,run_underlying hu,h0,h1'',and_self,B4,Q3 hs,H9,Aj];refine N5.here hR ?_ h;rw[←hsz];refine VR.eref (o:=q+i.toNat*sz) (off:=0) (vs i.toNat) (fun j hj=>hf _ j hlt (by omega)) (fun j hj=>hw _ j hlt (by omega)) (fun j hj=>h1' _ j hlt (by omega)) fun j hj=>hvv _ j hlt (by omega)
  cases hl
 ·rename_i n e hse hae;have hu:=Px hae
  split at hl
  ·next hc=>
   cases hs:Ev P e with
   |none=>grind
   |some sz=>
    simp only[hs,A4]at hl
    obtain⟨b,q,hav,hr⟩:=Zk hv hl;unfold execOp;rw[ho];simp only[hav,hi,Instr.indexAt,Instr.sureAddr,asIntOf,C6,D1,C1,run_underlying hu,hc.1,hc.2,and_self,B4,Q3 hs,H9,Aj]
    grind[N5.here]
  cases hl
 cases hl
theorem An4 {t:TypeId} {y z:Operand} {k:IntKind} {i:Int} {x:V} (ho:o.op= .index t y z) (hz:ev fr z= .int k i) (hl:Qe P t (ev fr y) i=some x) (h:K x H):
 J2 P o fr H K:=by
 intro g w a hR hE;have hv:=E8 hR hE y;have hi:=E8 hR hE z
 rw[hz]at hi
 have hi:=hi.int_inv
 unfold Qe at hl
 split at hl
 ·next n e cs hae he=>
  have hu:=Px hae
  split at hl
  ·next hc=>
   split at hl
   ·next ag sz ha hs=>
    rw[he]at hv
    generalize hav:a.eval y=v at hv
    cases hv with
    |agg hl' h1 hvv=>
     obtain⟨u,hu',hr⟩:=XJ (P:=P) (VR.agg hl' h1 hvv) ha hs hl;unfold execOp;rw[ho];simp only[hav,hi,Instr.index,asIntOf,C6,D1,C1,run_underlying hu,hc.1,hc.2,and_self,B4,Q3 hs,hu',H9]
     grind[N5.here]
   cases hl
  cases hl
 ·next s hae he=>
  split at hl
  ·next hc=>
   rw[he]at hv
   have hav:=hv.str_inv
   cases hb:s[i.toNat]? with
   |none=>grind
   | some c=>
    simp only[hb,K4,E6]at hl
    subst hl
    have hu:P.underlying t=some .string:=by
     have:=hc.1
     grind[VA]
    unfold execOp;rw[ho];simp only[hav,hi,Instr.index,asIntOf,C6,D1,C1,run_underlying hu,hc.2,B4,hb,H9];exact N5.here hR (.int _ _) h
  cases hl
 cases hl
theorem Xk {y:Operand} {n:Nat} {cs:List V} {x:V} (ho:o.op= .extract y n) (he:ev fr y= .tup cs) (hl:cs[n]? =some x) (h:K x H):J2 P o fr H K:=by
 intro g w a hR hE;have hv:=E8 hR hE y
 rw[he]at hv
 generalize hav:a.eval y=v at hv
 cases hv with
 | tup hs hvv=>
  rename_i vs
  have hlt:n<cs.length:=by
   grind
  have hlt':n<vs.size:=by omega
  unfold execOp;rw[ho];simp only[hav,Instr.extract,CK hlt',C6,D1,C1,H9];have e:=hvv n hlt
  have e1:vs.getD n undef=vs[n]:=by simp_all
  have e2:cs.getD n .bad=x:=by simp_all
  rw[e1,e2]at e
  grind[N5.here]
def Jk {g:Gh} {w:World} (hR:Rl g H w) {v:Value} {x:V} (T:TypeId) (hv:VR g w v x) (h1:x.one=true):
 ∃g' id,H id=none∧W1 g w g' (w.alloc (.cells v.cells T))∧Rl g' (upd H id (some (.cells x.cells))) (w.alloc (.cells v.cells T))∧
  VR g' (w.alloc (.cells v.cells T)) (.pointer (some ⟨w.heap.size,0,none⟩)) (.ref id 0):=by
 have s:=W1.new hR (.cells v.cells T) False 0;obtain⟨hc1,hc2⟩:=hv.cells h1;refine⟨g.new w False 0,g.nx,(hR.nxt _ (D5 _)).2.2,s,hR.newNamed _ _ (by simp) ?_,.ref (by simp[Gh.new])⟩;refine⟨w.heap.size,v.cells,T,by simp[Gh.new],hR.bnd,BK,hc1,fun j hj=>⟨(hc2 j hj).1,(hc2 j hj).2.mono s⟩,fun o ho=>?_⟩
 rcases ho with ho|⟨hF,_⟩
 ·exact absurd (hR.fz_lt ho) (T9 _)
 exact hF
def WH {g:Gh} {w:World} (hR:Rl g H w) {v:Value} {x:V} (T:TypeId) (hv:VR g w v x) (h1:x.one=true):
 ∃g',W1 g w g' (w.alloc (.cells v.cells T))∧Rl g' H (w.alloc (.cells v.cells T))∧
  VR g' (w.alloc (.cells v.cells T)) (.pointer (some ⟨w.heap.size,0,none⟩)) (.eref x.cells 0):=by
 have s:=W1.new hR (.cells v.cells T) True v.cells.size;obtain⟨hc1,hc2⟩:=hv.cells h1;refine⟨g.new w True v.cells.size,s,hR.newFrozen v.cells T v.cells.size (D5 _),?_⟩
 have:=VR.eref (g:=g.new w True v.cells.size) (w:=w.alloc (.cells v.cells T)) (b:=w.heap.size) (o:=0) (off:=0) (cs:=x.cells) (fun j=>v.cells.getD j undef)
  (fun j hj=>.inr ⟨trivial,rfl,by omega⟩) (fun j hj=>by rw[Ps];simp_all)
  (fun j hj=>(hc2 j hj).1) (fun j hj=>(hc2 j hj).2.mono s)
 omega
theorem Ma {t:TypeId}{y:Operand}(ho:o.op= .box t y)(h1:(ev fr y).one=true)(h:K (.eref (ev fr y).cells 0) H):J2 P o fr H K:=by
 intro g w a hR hE;obtain⟨g',s,hR',hv'⟩:=WH hR t (E8 hR hE y) h1;unfold execOp;rw[ho];exact⟨g',_,_,s,hR',hv',h⟩
theorem TX {t:TypeId}{y:Operand}(ho:o.op= .box t y)(h1:(ev fr y).one=true)(h:∀id,H id=none→K (.ref id 0) (upd H id (some (.cells (ev fr y).cells)))):J2 P o fr H K:=by
 intro g w a hR hE;obtain⟨g',id,hid,s,hR',hv'⟩:=Jk hR t (E8 hR hE y) h1;unfold execOp;rw[ho];exact⟨g',_,_,s,hR',hv',h id hid⟩
def Dg {t:TypeId} {z:V} (h:ID P t=some z):∃v,z=cv v∧∀w,(zeroValue t).run P w= .ok v w:=by
 unfold ID at h
 cases hi:P.info? t with
 |none=>grind
 | some i=>
  cases hz:i.zero with
  |none=>simp_all
  |some v=>
   simp[hi,hz]at h
   exact⟨v,h.symm,fun w=>by simp[zeroValue,typeInfo,hi,hz]⟩
def Ao0 {t:TypeId}{z:V}(ho:o.op= .alloc t)(hz:ID P t=some z)(h1:z.one=true)(h:∀id,H id=none→K (.ref id 0) (upd H id (some (.cells z.cells)))):J2 P o fr H K:=by
 intro g w a hR hE;obtain⟨v,e,hv⟩:=Dg hz
 have hr:VR g w v z:=by rw[e];simp[Ec]
 obtain⟨g',id,hid,s,hR',hv'⟩:=Jk hR t hr h1;unfold execOp;rw[ho];simp only[Instr.alloc,C6,hv,C1,H9];exact⟨g',_,_,s,hR',hv',h id hid⟩
end
def MD (place:Nat→Option (Nat×Nat)) (cs:List V):List (Nat×V)→Option (List V)
 |[]=>some cs
 |(i,v)::rest=>
  match place i with
  |none=>none
  |some (off,size)=>if v.one=true∧v.cells.length=size∧off+size≤cs.length then MD place (V4 cs off v.cells) rest else none
def OL (P:Program)(t:TypeId):Option (List (Nat×Nat)):=
 match P.underlying t with
 |some (.struct fields)=>fields.toList.mapM (fun f=>(P.info? f.type).map fun i=>(f.offset,i.size))
 |_=>none
def Ql (P:Program) (t:TypeId) (parts:List (Nat×V)):Option V:=
 match arO P t,OL P t,ID P t with
 |some (_,e),_,some (.agg cs)=>
  match Ev P e with
  |some sz=>(MD (fun i=>some (i*sz,sz)) cs parts).map .agg
  |none=>none
 |none,some pl,some (.agg cs)=>(MD (pl[·]?) cs parts).map .agg
 |_,_,_=>none
def CM (sz:Nat):Nat→List (Nat×V)→Bool
 |_,[]=>true
 |k,(i,v)::rest=>i==k&&v.one&&v.cells.length==sz&&CM sz (k+1) rest
def Bh (P:Program) (t:TypeId) (n:Nat) (parts:List (Nat×V)):Option V:=
 match Fd P t with
 |some e=>
  match Ev P e,ID P e with
  |some sz,some _=>if n*sz≤16777216∧parts.length=n∧CM sz 0 parts=true then some (.sl (parts.map (fun q=>q.2)) .full)else none
  |_,_=>none
 |none=>none
section
variable {P:Program}{o:Oper}{fr:Fr}{H:A5}{K:V→A5→Prop}
def QV (off:Nat):∀(l:List Value) (k:Nat) (c:Array Value),off+k+l.length≤c.size→
 let R:=(l.zipIdx k).foldl (fun cs (x:Value×Nat)=>cs.setIfInBounds (off+x.2) x.1) c
 R.size=c.size∧∀j,R.getD j undef=if off+k≤j∧j<off+k+l.length then l.getD (j-(off+k)) undef else c.getD j undef
 |[],k,c,_=>⟨rfl,fun j=>by rw[A1 (by simp_all)];rfl⟩
 | v::l,k,c,h=>by
  have hl:off+(k+1)+l.length≤(c.setIfInBounds (off+k) v).size:=by grind
  have ih:=QV off l (k+1) (c.setIfInBounds (off+k) v) hl
  simp only[List.zipIdx_cons,DO]at ih ⊢
  refine⟨ih.1.trans (by simp),fun j=>?_⟩;rw[ih.2 j];simp only[U0]
  by_cases h1:off+(k+1)≤j∧j<off+(k+1)+l.length
  ·rw[A2 h1,A2 (by omega),show j-(off+k)=(j-(off+(k+1)))+1 by omega];rfl
  rw[A1 h1]
  by_cases h2:j=off+k
  ·subst h2;rw[A2 (by omega)]
   simp at h
   simp[Array.getD,show off+k<c.size by omega]
  rw[A1 (by omega)];simp only[O3,Fo];rw[A1 (by omega)]
def Pi (off:Nat) (v:Value) (c:Array Value) (h:off+v.cells.size≤c.size):
 let R:=v.cells.zipIdx.foldl (fun cs (x:Value×Nat)=>cs.setIfInBounds (off+x.2) x.1) c
 R.size=c.size∧∀j,R.getD j undef=if off≤j∧j<off+v.cells.size then v.cells.getD (j-off) undef else c.getD j undef:=by
 have:=QV off v.cells.toList 0 c (by omega)
 simp only[BX,IA]at this
 have e:v.cells.zipIdx.foldl (fun cs (x:Value×Nat)=>cs.setIfInBounds (off+x.2) x.1) c=
  (v.cells.toList.zipIdx 0).foldl (fun cs (x:Value×Nat)=>cs.setIfInBounds (off+x.2) x.1) c:=by
  rw[←Array.foldl_toList];simp
 simp_all
def Ro (g:Gh)(w:World)(c:Array Value)(cs:List V):Prop:=
 c.size=cs.length∧∀j,j<cs.length→(c.getD j undef).oneCell'=true∧VR g w (c.getD j undef) (cs.getD j .bad)
def VR.row {g:Gh}{w:World}{v:Value}{cs:List V}(h:VR g w v (.agg cs)):∃c,v= .agg c∧Ro g w c cs:=by
 cases h with
 |agg hl h1 hv=>simp_all[Ro]
def Ro.agg {g:Gh}{w:World}{c:Array Value}{cs:List V}(h:Ro g w c cs):VR g w (.agg c) (.agg cs):=
 .agg h.1 (fun j hj=>(h.2 j hj).1) fun j hj=>(h.2 j hj).2
inductive Qn (g:Gh) (w:World):List (Nat×Value)→List (Nat×V)→Prop
 |nil:Qn g w [] []
 |cons {i:Nat} {v:Value} {x:V} {l:List (Nat×Value)} {m:List (Nat×V)} (h:VR g w v x) (r:Qn g w l m):Qn g w ((i,v)::l) ((i,x)::m)
def ZX {g:Gh}{w:World}{H:A5}{a:Act}(hR:Rl g H w)(hE:ER g w a fr):∀l:List (Nat×Operand),Qn g w (l.map fun x=>(x.1,a.eval x.2)) (l.map fun x=>(x.1,ev fr x.2))
 |[]=>.nil
 |x::l=>.cons (E8 hR hE x.2) (ZX hR hE l)
def YB {g:Gh} {w:World} {place:Nat→Option (Nat×Nat)} {l:List (Nat×Value)} {m:List (Nat×V)} (hp:Qn g w l m):∀{c:Array Value} {cs ds:List V},Ro g w c cs→MD place cs m=some ds→
 ∃d,Instr.fill place c l=some d∧Ro g w d ds:=by
 induction hp with
 |nil=>intro c cs ds hr h;simp only[MD,E6]at h;subst h;exact⟨c,rfl,hr⟩
 | @cons i v x l m hv _ ih=>
  intro c cs ds hr h
  simp only[MD]at h
  cases hpl:place i with
  |none=>grind
  | some p=>
   obtain⟨off,size⟩:=p
   simp only[hpl]at h
   split at h
   ·next hc=>
    obtain⟨h1,h2,h3⟩:=hc;obtain⟨k1,k2⟩:=hv.cells h1;have hf:=Pi off v c (by rw[k1,hr.1];omega)
    have hrow:Ro g w (v.cells.zipIdx.foldl (fun cs (x:Value×Nat)=>cs.setIfInBounds (off+x.2) x.1) c) (V4 cs off x.cells):=by
     refine⟨by rw[hf.1,Bq (by omega),hr.1],fun j hj=>?_⟩
     rw[Bq (by omega)]at hj
     rw[hf.2 j,Jb (by omega),k1]
     split
     ·grind
     exact hr.2 j hj
    obtain⟨d,hd,hdr⟩:=ih hrow h;refine⟨d,?_,hdr⟩;simp only[Instr.fill,hpl];rw[A1]
    ·exact hd
    simp only[k1,h2,hr.1,ne_eq,Ca,Ll,DN,C8];omega
   cases h
def WK {t:TypeId} {z:V} (h:ID P t=some z):∃i v,P.info? t=some i∧i.zero=some v∧z=cv v:=by
 unfold ID at h
 cases hi:P.info? t with
 |none=>grind
 |some i=>
  cases hz:i.zero with
  |none=>simp_all
  |some v=>simp_all
theorem An8 {t:TypeId} {parts:Array (Nat×Operand)} {x:V} (ho:o.op= .build t parts) (hl:Ql P t (parts.toList.map fun(p:Nat×Operand)=>(p.1,ev fr p.2))=some x) (h:K x H):J2 P o fr H K:=by
 intro g w a hR hE;have hp:=ZX hR hE parts.toList
 have hpe:(parts.map fun(x:Nat×Operand)=>(x.1,a.eval x.2)).toList=parts.toList.map fun x=>(x.1,a.eval x.2):=by simp
 have key:∃d cs,P.built t (parts.toList.map fun x=>(x.1,a.eval x.2))=some d∧x= .agg cs∧Ro g w d cs:=by
  unfold Ql at hl
  split at hl
  ·rename_i e cs hae hze;have hu:=Px hae
   split at hl
   ·next sz hs=>
    obtain⟨i,v,hi,hz,hv⟩:=WK hze
    have hrow:VR g w v (.agg cs):=by rw[hv];simp[Ec]
    obtain⟨c,rfl,hrow'⟩:=hrow.row
    unfold Ev at hs
    cases hie:P.info? e with
    |none=>simp_all
    | some ie=>
     simp[hie]at hs
     cases hff:MD (fun i=>some (i*sz,sz)) cs (parts.toList.map fun(p:Nat×Operand)=>(p.1,ev fr p.2))with
     |none=>simp_all
     |some ds=>
      simp only[hff,K4,E6]at hl
      obtain⟨d,hd,hdr⟩:=YB hp hrow' hff;exact⟨d,ds,by simp[Program.built,hi,hu,hz,hie,hs,Value.cells,hd],hl.symm,hdr⟩
   cases hl
  ·next pl cs hae hpl hze=>
   unfold OL at hpl
   split at hpl
   ·next fields hu=>
    obtain⟨i,v,hi,hz,hv⟩:=WK hze
    have hrow:VR g w v (.agg cs):=by rw[hv];simp[Ec]
    obtain⟨c,rfl,hrow'⟩:=hrow.row
    cases hff:MD (pl[·]?) cs (parts.toList.map fun(p:Nat×Operand)=>(p.1,ev fr p.2))with
    |none=>simp_all
    |some ds=>
     simp only[hff,K4,E6]at hl
     obtain⟨d,hd,hdr⟩:=YB hp hrow' hff
     have hplace:(fun i:Nat=>(pl.toArray)[i]?)=(fun i:Nat=>pl[i]?):=by funext i;simp
     exact⟨d,ds,by simp only[Program.built,hi,hu,hz,hpl,Value.cells,hplace,hd],hl.symm,hdr⟩
   cases hpl
  cases hl
 obtain⟨d,cs,hb,rfl,hrow⟩:=key;unfold execOp;rw[ho];have:=run_build (P:=P) w t (parts.map fun(x:Nat×Operand)=>(x.1,a.eval x.2)) d (by rw[hpe];exact hb);simp only[C6,this,C1,D1,H9];exact N5.here hR hrow.agg h
def AF1 {g:Gh} {w:World} {sz:Nat} {l:List (Nat×Value)} {m:List (Nat×V)} (hp:Qn g w l m):∀{c:Array Value} {k:Nat},(k+m.length)*sz≤c.size→CM sz k m=true→
 ∃d,Instr.fill (fun i=>some (i*sz,sz)) c l=some d∧d.size=c.size∧(∀j,j<k*sz→d.getD j undef=c.getD j undef)∧
  ∀i j,i<m.length→j<sz→((m.getD i (0,.bad)).2.cells.length=sz)∧(d.getD ((k+i)*sz+j) undef).oneCell'=true∧VR g w (d.getD ((k+i)*sz+j) undef) ((m.getD i (0,.bad)).2.cells.getD j .bad):=by
 induction hp with
 |nil=>intro c k hc _;exact⟨c,rfl,rfl,fun _ _=>rfl,fun i j hi=>by simp at hi⟩
 | @cons i v x l m hv _ ih=>
  intro c k hc hs
  simp only[CM,M6,Ge]at hs
  obtain⟨⟨⟨rfl,h1⟩,h2⟩,h3⟩:=hs;obtain⟨k1,k2⟩:=hv.cells h1
  have hmul:(i+(m.length+1))*sz=i*sz+sz+m.length*sz:=by rw[I1,I1];omega
  have hmul2:(i+1+m.length)*sz=i*sz+sz+m.length*sz:=by rw[I1,I1];omega
  simp only[U0]at hc
  rw[hmul]at hc
  have hf:=Pi (i*sz) v c (by rw[k1,h2];omega);obtain⟨d,hd,hdz,hdl,hdv⟩:=ih (c:=v.cells.zipIdx.foldl (fun cs (x:Value×Nat)=>cs.setIfInBounds (i*sz+x.2) x.1) c) (k:=i+1) (by rw[hf.1,hmul2];omega) h3;refine⟨d,?_,hdz.trans hf.1,fun j hj=>?_,fun i' j hi' hj=>?_⟩
  ·simp only[Instr.fill];rw[A1]
   ·exact hd
   grind
  ·rw[hdl j (by rw[I1];omega),hf.2 j,A1 (by omega)]
  cases i' with
  |zero=>
   simp_all[I1]
  |succ i'=>
   grind
def Me {g:Gh} {w:World} {a:Act} (hR:Rl g H w) (hE:ER g w a fr) {t:TypeId} {n:Nat} {parts:Array (Nat×Operand)} {x:V} (hl:Bh P t n (parts.toList.map fun(p:Nat×Operand)=>(p.1,ev fr p.2))=some x):
 ∃e sz z,Fd P t=some e∧Ev P e=some sz∧ID P e=some z∧x= .sl ((parts.toList.map fun(p:Nat×Operand)=>(p.1,ev fr p.2)).map fun(q:Nat×V)=>q.2) .full∧(parts.toList.map fun(p:Nat×Operand)=>(p.1,ev fr p.2)).length=n∧CM sz 0 (parts.toList.map fun(p:Nat×Operand)=>(p.1,ev fr p.2))=true∧
 ∃ d:Array Value,(Instr.buildSlice t n (parts.map fun(x:Nat×Operand)=>(x.1,a.eval x.2))).run P w= .ok (.slice (some ⟨w.heap.size,0,none⟩) n n) (w.alloc (.cells d e))∧d.size=n*sz∧
  ∀i j,i<n→j<sz→(((parts.toList.map fun(p:Nat×Operand)=>(p.1,ev fr p.2)).getD i (0,.bad)).2.cells.length=sz)∧(d.getD (i*sz+j) undef).oneCell'=true∧
   VR g w (d.getD (i*sz+j) undef) (((parts.toList.map fun(p:Nat×Operand)=>(p.1,ev fr p.2)).getD i (0,.bad)).2.cells.getD j .bad):=by
 have hp:=ZX hR hE parts.toList
 have hpe:(parts.map fun(x:Nat×Operand)=>(x.1,a.eval x.2)).toList=parts.toList.map fun x=>(x.1,a.eval x.2):=by simp
 unfold Bh at hl
 split at hl
 ·next e hse=>
  have hu:=Q9 hse
  split at hl
  ·next sz z hs hze=>
   split at hl
   ·next hc=>
    obtain⟨hlim,hn,hseq⟩:=hc;cases hl;obtain⟨v0,_,hv0⟩:=Dg hze
    have hfill:∀c0:Array Value,c0.size=n*sz→∃d,Instr.fill (fun i=>some (i*sz,sz)) c0 (parts.toList.map fun x=>(x.1,a.eval x.2))=some d∧d.size=n*sz∧
     ∀i j,i<n→j<sz→(((parts.toList.map fun(p:Nat×Operand)=>(p.1,ev fr p.2)).getD i (0,.bad)).2.cells.length=sz)∧(d.getD (i*sz+j) undef).oneCell'=true∧
      VR g w (d.getD (i*sz+j) undef) (((parts.toList.map fun(p:Nat×Operand)=>(p.1,ev fr p.2)).getD i (0,.bad)).2.cells.getD j .bad):=by
     intro c0 hc0;obtain⟨d,hd,hdz,_,hdv⟩:=AF1 (sz:=sz) hp (c:=c0) (k:=0) (by rw[hn,L8,hc0];omega) hseq
     grind
    have hrun:∃d:Array Value,(Instr.buildSlice t n (parts.map fun(x:Nat×Operand)=>(x.1,a.eval x.2))).run P w= .ok (.slice (some ⟨w.heap.size,0,none⟩) n n) (w.alloc (.cells d e))∧d.size=n*sz∧
     ∀i j,i<n→j<sz→(((parts.toList.map fun(p:Nat×Operand)=>(p.1,ev fr p.2)).getD i (0,.bad)).2.cells.length=sz)∧(d.getD (i*sz+j) undef).oneCell'=true∧
      VR g w (d.getD (i*sz+j) undef) (((parts.toList.map fun(p:Nat×Operand)=>(p.1,ev fr p.2)).getD i (0,.bad)).2.cells.getD j .bad):=by
     by_cases h0:n*sz=0
     ·obtain⟨d,hd,hdz,hdv⟩:=hfill ((Array.range (n*sz)).map ((#[]:Array Value)[· % (#[]:Array Value).size]!)) (by simp);refine⟨d,?_,hdz,hdv⟩
      rw[←hpe]at hd
      have h0':¬(n*sz>2 ^ 24):=by omega
      simp only[Instr.buildSlice,C6,run_underlying hu,C1,Q3 hs,W7,A1 h0',D1,A2 h0,hd,newRow,run_newObj];rfl
     obtain⟨d,hd,hdz,hdv⟩:=hfill ((Array.range (n*sz)).map (v0.cells[· % v0.cells.size]!)) (by simp);refine⟨d,?_,hdz,hdv⟩
     rw[←hpe]at hd
     have h0':¬(n*sz>2 ^ 24):=by omega
     simp only[Instr.buildSlice,C6,run_underlying hu,C1,Q3 hs,W7,A1 h0',D1,A1 h0,hv0,hd,newRow,run_newObj];rfl
    simp_all
   cases hl
  cases hl
 cases hl
theorem Sd {t:TypeId} {n:Nat} {parts:Array (Nat×Operand)} {x:V} (ho:o.op= .buildSlice t n parts) (hl:Bh P t n (parts.toList.map fun(p:Nat×Operand)=>(p.1,ev fr p.2))=some x) (h:K x H):
 J2 P o fr H K:=by
 intro g w a hR hE;obtain⟨e,sz,z,hse,hs,hze,rfl,hn,hseq,d,hrun,hdz,hdv⟩:=Me hR hE hl;have s:=W1.new hR (.cells d e) True d.size;unfold execOp;rw[ho];simp only[C6,hrun,C1,D1,H9]
 have hget:∀i,((parts.toList.map fun(p:Nat×Operand)=>(p.1,ev fr p.2)).map (fun(q:Nat×V)=>q.2)).getD i .bad=((parts.toList.map fun(p:Nat×Operand)=>(p.1,ev fr p.2)).getD i (0,.bad)).2:=by
  grind
 have hin:∀i j,i<n→j<sz→i*sz+j<d.size:=by
  intro i j hi hj;have:(i+1)*sz≤n*sz:=K5 _ (by omega)
  rw[I1]at this
  omega
 by_cases hsz:sz=0
 ·subst hsz
  have hz:∀i,i<n→((((parts.toList.map fun(p:Nat×Operand)=>(p.1,ev fr p.2)).map (fun(q:Nat×V)=>q.2)).getD i .bad).cells.length=0):=by
   intro i hi
   have:∀(m:List (Nat×V)) (k i:Nat),CM 0 k m=true→i<m.length→(m.getD i (0,.bad)).2.cells.length=0:=by
    intro m
    induction m with
    |nil=>simp_all
    |cons y m ih=>
     grind[CM]
   rw[hget];grind
  exact⟨_,_,_,s,hR.newFrozen d e d.size (D5 _),.sl (sz:=0) (fun _ _=>undef) (by grind) (D5 _) hz (fun i j _ hj=>by omega) (fun i j _ hj=>by omega) (fun i j _ hj=>by omega)
   (fun i j _ hj=>by omega) (t:=.full) rfl,h⟩
 refine⟨_,_,_,s,hR.newFrozen d e d.size (D5 _),.sl (sz:=sz) (fun i j=>d.getD (i*sz+j) undef) (by grind) (D5 _) (fun i hi=>?_) (fun i j hi hj=>.inr ⟨trivial,rfl,?_⟩)
  (fun i j hi hj=>?_) (fun i j hi hj=>(hdv i j hi hj).2.1) (fun i j hi hj=>?_) (t:=.full) rfl,h⟩
 ·rw[hget];exact(hdv i 0 hi (by omega)).1
 ·have:=hin i j hi hj;omega
 ·have:=hin i j hi hj;rw[Ps];simp_all
 rw[hget];exact(hdv i j hi hj).2.2.mono s
end
def Cu:Option V→Option (Option Int)
 |none=>some none
 |some (.int _ i)=>some (some i)
 |some _=>none
def Jf (l h n:Nat) (mx:Option Int) (t:E7):E7:=
 match mx with
 |some m=>if m=h then .full else .ro
 | none=>
  if h=n then
   match t with
   | .full=>.full
   | .nil=>.nil
   | .tok t=>if l<h then .tok t else .ro
   | .ro=>.ro
  else .ro
def Sa (P:Program) (t:TypeId) (v:V) (lo hi mx:Option Int):Option V:=
 match Fd P t,v with
 | some e,.sl xs tl=>
  match Ev P e with
  | some sz=>
   if 0≤lo.getD 0∧lo.getD 0≤hi.getD xs.length∧hi.getD xs.length≤mx.getD xs.length∧mx.getD xs.length≤xs.length∧(mx.isSome=true→hi.isSome=true)∧
    (lo.getD 0≤0∨xs.all (fun x=>x.cells.length==sz)=true)then
    some (.sl ((xs.drop (lo.getD 0).toNat).take ((hi.getD xs.length).toNat-(lo.getD 0).toNat)) (Jf (lo.getD 0).toNat (hi.getD xs.length).toNat xs.length mx tl))
   else none
  |none=>none
 |none,.str s=>
  if VA P t=true∧mx=none∧0≤lo.getD 0∧lo.getD 0≤hi.getD s.size∧hi.getD s.size≤s.size then some (.str (s.extract (lo.getD 0).toNat (hi.getD s.size).toNat))else none
 |_,_=>none
section
variable {P:Program}{o:Oper}{fr:Fr}{H:A5}{K:V→A5→Prop}
theorem Sh (isSlice:Bool) (len cap:Nat) (lo hi mx:Option Value) (l h m:Nat) (w:World) (hl:(lo=none∧l=0)∨∃k,lo=some (.int k l)) (hh:(hi=none∧mx=none∧h=len)∨∃k,hi=some (.int k h))
 (hm:(mx=none∧m=cap)∨∃k,mx=some (.int k m)) (h1:l≤h) (h2:h≤m) (h3:m≤cap):(Instr.sliceBounds isSlice len cap lo hi mx).run P w= .ok (l,h,m) w:=by
 rcases hm with⟨rfl,rfl⟩|⟨km,rfl⟩<;>rcases hh with⟨rfl,hx,rfl⟩|⟨kh,rfl⟩<;>rcases hl with⟨rfl,rfl⟩|⟨kl,rfl⟩<;>
  first
   |(cases hx;done)
   |simp[Instr.sliceBounds,Instr.sliceBound,asIntOf,D1,h1,h2,h3]
def FB {g:Gh} {w:World} {H:A5} {a:Act} (hR:Rl g H w) (hE:ER g w a fr) {x:Option Operand} {i:Option Int} (h:Cu (x.map (ev fr))=some i):
 (x.map a.eval=none∧i=none)∨∃k j,x.map a.eval=some (.int k j)∧i=some j:=by
 cases x with
 |none=>simp_all[Cu]
 |some x=>
  have hv:=E8 hR hE x
  simp only[K4]at h ⊢
  generalize ev fr x=X at h hv
  cases X<;>simp[Cu]at h
  rename_i k j;have:=hv.int_inv
  grind
theorem Am9 {t:TypeId} {y:Operand} {lo hi mx:Option Operand} {il ih im:Option Int} {x:V} (ho:o.op= .slice t y lo hi mx) (hlo:Cu (lo.map (ev fr))=some il) (hhi:Cu (hi.map (ev fr))=some ih)
 (hmx:Cu (mx.map (ev fr))=some im) (hl:Sa P t (ev fr y) il ih im=some x) (h:K x H):J2 P o fr H K:=by
 intro g w a hR hE;have hv:=E8 hR hE y;have hrl:=FB hR hE hlo;have hrh:=FB hR hE hhi;have hrm:=FB hR hE hmx
 have hb:∀(isSlice:Bool) (len cap:Nat),0≤il.getD 0→il.getD 0≤ih.getD len→ih.getD len≤im.getD cap→im.getD cap≤cap→(im.isSome=true→ih.isSome=true)→
  (Instr.sliceBounds isSlice len cap (lo.map a.eval) (hi.map a.eval) (mx.map a.eval)).run P w= .ok ((il.getD 0).toNat,(ih.getD len).toNat,(im.getD cap).toNat) w:=by
  grind[Sh]
 unfold Sa at hl
 split at hl
 ·rename_i e xs tl hse he;have hu:=Q9 hse
  split at hl
  ·rename_i sz hs
   split at hl
   ·rename_i hc;obtain⟨c1,c2,c3,c4,c5,c6⟩:=hc;cases hl
    rw[he]at hv
    generalize hav:a.eval y=v at hv
    unfold execOp;rw[ho]
    cases hv with
    | sl0 ht=>
     simp only[Lv,Iw]at c2 c3 c4
     have e1:(il.getD 0).toNat=0:=by omega
     have e2:(ih.getD 0).toNat=0:=by omega
     have e3:(im.getD 0).toNat=0:=by omega
     have hb0:=hb true 0 0 c1 (by omega) (by omega) (by omega) c5
     simp only[Iw]at hb0
     simp only[hav,Instr.sliceAt,Instr.slice,C6,run_underlying hu,C1,hb0,Q3 hs,D1,H9,e1,e2,e3];refine N5.here hR ?_ h;simp only[List.drop_nil,List.take_nil];refine .sl0 ?_;unfold Jf
     cases im with
     |some m=>dsimp only;split<;>rfl
     |none=>
      dsimp only
      split
      ·cases tl<;>first|rfl|cases ht
      rfl
    |@sle ad cap _ ht=>
     simp only[Lv,Iw]at c2 c3 c4
     have e1:(il.getD 0).toNat=0:=by omega
     have e2:(ih.getD 0).toNat=0:=by omega
     have e3:(im.getD 0).toNat=0:=by omega
     have hcap0:(0:Int)≤(cap:Nat):=by omega
     have hc6:im.getD (cap:Nat)≤(cap:Nat)∧0≤im.getD (cap:Nat):=by cases im<;>simp at c3 c4 ⊢ <;>omega
     have hb0:=hb true 0 cap c1 (by omega) (by grind) hc6.1 c5
     simp only[Iw]at hb0
     simp only[hav,Instr.sliceAt,Instr.slice,C6,run_underlying hu,C1,hb0,Q3 hs,D1,H9,e1,e2,Nat.sub_self,Nat.sub_zero,Nat.zero_mul];refine N5.here hR ?_ h;simp only[List.drop_nil,List.take_nil,K4,Addr.add,B4,ite_self];refine .sle ?_
     grind[Jf]
    | sl vs hn hcc hz hf hw h1 hvv ht=>
     rename_i b q sz' n cap
     rw[hn]at c2 c3 c4 h
     have c4':im.getD cap≤cap:=by
      grind
     have c3':ih.getD n≤im.getD cap:=by
      grind
     have hb1:=hb true n cap c1 c2 c3' c4' c5;simp only[hav,Instr.sliceAt,Instr.slice,C6,run_underlying hu,C1,hb1,Q3 hs,D1,H9];refine N5.here hR ?_ h
     generalize hL:(il.getD 0).toNat=L at *
     generalize hHH:(ih.getD (n:Int)).toNat=HH at *
     generalize hM:(im.getD (cap:Int)).toNat=M at *
     have b1:L≤HH:=by omega
     have b2:HH≤n:=by
      omega
     have b3:HH≤M:=by omega
     have b4:M≤cap:=by omega
     have hget:∀i,i<HH-L→((xs.drop L).take (HH-L)).getD i .bad=xs.getD (L+i) .bad:=by
      simp_all
     have hlen:((xs.drop L).take (HH-L)).length=HH-L:=by simp;omega
     have htail:∀q',(HH-L=0∨q'=q+L*sz')→(L=0→q'=q)→GP g b q' sz' (HH-L) (M-L) (Jf L HH n im tl):=by
      intro q' hq' hq0;unfold Jf
      cases im with
      |some m=>
       grind[GP]
      | none=>
       dsimp only
       have hMc:M=cap:=by simp_all
       split
       ·rename_i hHn
        cases tl with
        |full=>simp_all[GP]
        |nil=>exact ht.elim
        |ro=>trivial
        | tok t=>
         dsimp only
         split
         ·rename_i hL0;obtain⟨t0,lim,t1,t2⟩:=ht
          rcases hq' with hq'|rfl
          ·omega
          have e1:q+L*sz'+(n-L)*sz'=q+n*sz':=by rw[CF,←I1];grind
          have e2:q+L*sz'+(cap-L)*sz'=q+cap*sz':=by rw[CF,←I1];grind
          exact⟨by omega,lim,by rw[t1,hHn,e1],by rw[hMc,e2];exact t2⟩
         trivial
       trivial
     by_cases hML:M=L
     ·rw[A2 hML]
      have hz0:HH-L=0:=by omega
      refine .sl (sz:=sz') (fun i j=>undef) hlen (by omega) (fun i hi=>by omega) (fun i j hi=>by omega) (fun i j hi=>by omega) (fun i j hi=>by omega) (fun i j hi=>by omega) (htail q (.inl hz0) fun _=>rfl)
     rw[A1 hML];simp only[K4,Aj]
     by_cases hn0:HH-L=0
     ·refine .sl (sz:=sz') (fun i j=>undef) hlen (by omega) (fun i hi=>by omega) (fun i j hi=>by omega) (fun i j hi=>by omega) (fun i j hi=>by omega) (fun i j hi=>by omega)
       (htail _ (.inl hn0) fun hL0=>by rw[hL0];simp)
     have hszz:L*sz=L*sz':=by
      rcases c6 with c6|c6
      ·have:L=0:=by omega
       simp_all
      have h0:0<xs.length:=by omega
      have:=(List.all_eq_true.1 c6) (xs.getD 0 .bad) (by simp_all);have h2:=hz 0 (by omega)
      have:sz'=sz:=by rw[←h2];simp_all
      rw[this]
     rw[hszz]
     refine .sl (sz:=sz') (fun i j=>vs (L+i) j) hlen (by omega) (fun i hi=>by rw[hget i hi];grind)
      (fun i j hi hj=>by have:=hf (L+i) j (by omega) hj;rw[I1]at this;rw[show q+L*sz'+i*sz'+j=q+(L*sz'+i*sz')+j by omega];exact this)
      (fun i j hi hj=>by have:=hw (L+i) j (by omega) hj;rw[I1]at this;rw[show q+L*sz'+i*sz'+j=q+(L*sz'+i*sz')+j by omega];exact this)
      (fun i j hi hj=>h1 _ j (by omega) hj) (fun i j hi hj=>by rw[hget i hi];grind) (htail _ (.inr rfl) fun hL0=>by rw[hL0];simp)
   cases hl
  cases hl
 ·rename_i s hse he
  split at hl
  ·rename_i hc;obtain⟨c0,rfl,c1,c2,c3⟩:=hc;cases hl
   rw[he]at hv
   have hav:=hv.str_inv
   have hu:P.underlying t=some .string:=by
    grind[VA]
   rcases hrm with⟨e2,_⟩|⟨k,j,e2,e3⟩
   ·have hbs:=hb false s.size s.size c1 c2 (by grind) (by simp) (by simp)
    rw[e2]at hbs
    unfold execOp;rw[ho];simp only[hav,e2,Instr.sliceAt,Instr.slice,C6,run_underlying hu,C1,hbs,Fm,D6,C7,D1,H9];exact N5.here hR (.str _) h
   cases e3
  cases hl
 cases hl
theorem VJ {fn:Fn} {fs cs:Array Operand} (ho:o.op= .makeFunc fn fs cs) (h:K (.func fn (fs.toList.map (ev fr)) (cs.toList.map (ev fr))) H):J2 P o fr H K:=by
 intro g w a hR hE
 have hmap:∀l:Array Operand,(l.map a.eval).size=(l.toList.map (ev fr)).length∧∀i,i<(l.toList.map (ev fr)).length→VR g w ((l.map a.eval).getD i undef) ((l.toList.map (ev fr)).getD i .bad):=by
  intro l;refine⟨by simp,fun i hi=>?_⟩
  have hi':i<l.size:=by grind
  have e1:(l.map a.eval).getD i undef=a.eval l[i]:=by simp_all
  have e2:(l.toList.map (ev fr)).getD i .bad=ev fr l[i]:=by simp_all
  rw[e1,e2];grind[E8]
 unfold execOp;rw[ho];exact N5.here hR (.func (hmap fs).1 (hmap fs).2 (hmap cs).1 (hmap cs).2) h
theorem OF {t:TypeId} {y:Operand} (ho:o.op= .makeInterface t y) (hi:ifO P t=false) (h:K (.iface t (ev fr y)) H):J2 P o fr H K:=by
 intro g w a hR hE;unfold execOp;rw[ho]
 unfold ifO at hi
 cases hu:P.underlying t with
 |none=>grind
 | some d=>
  simp only[hu]at hi
  cases d<;>first
   |(simp only[Instr.makeInterface,C6,run_underlying hu,C1,D1,H9];exact N5.here hR (.iface (E8 hR hE y)) h)
   |cases hi
def Ah8:V→Bool
 | .ref _ _=>true
 | .eref _ _=>true
 | .elem _ _ _ _=>true
 | .func (.func _) _ _=>true
 | .func (.yield _) _ _=>true
 |_=>false
theorem VG {y:Operand}(ho:o.op= .nilCheck y)(hn:Ah8 (ev fr y)=true)(h:K (ev fr y) H):J2 P o fr H K:=by
 intro g w a hR hE;have hv:=E8 hR hE y;unfold execOp;rw[ho]
 generalize hx:ev fr y=X at hn hv
 rw[hx]at h
 generalize hav:a.eval y=v at hv
 cases hv<;>simp[Ah8]at hn
 ·rename_i id b off hm;simp only[hav,D1,H9];exact N5.here hR (.ref hm) h
 ·rename_i hm hs;simp only[hav,D1,H9];exact N5.here hR (.elem hm hs) h
 ·rename_i b q off cs vs hf hw h1 hvv;simp only[hav,D1,H9];exact N5.here hR (.eref vs hf hw h1 hvv) h
 rename_i fn fs cs F C h1 h2 h3 h4
 cases fn<;>simp at hn
 ·simp only[hav,D1,H9];exact N5.here hR (.func h1 h2 h3 h4) h
 simp only[hav,D1,H9];exact N5.here hR (.func h1 h2 h3 h4) h
end
def JK:V→V→Option Bool
 | .int k a,.int k' b=>if k=k' then some (a==b)else none
 | .str a,.str b=>some (a.toList==b.toList)
 | .bool a,.bool b=>some (a==b)
 |_,_=>none
def AO:List V→List V→Option Bool
 |[],[]=>some true
 |x::xs,y::ys=>
  match JK x y,AO xs ys with
  |some a,some b=>some (a&&b)
  |_,_=>none
 |_,_=>none
def kd:V→Nat
 | .int _ _=>0
 | .bool _=>1
 | .str _=>2
 |_=>9
def NZ (P:Program) (q:TypeId→Option (List Nat)):List Field→Nat→Option (List Nat)
 |[],_=>some []
 | f::fs,n=>
  if f.name≠ "_" ∧f.offset=n then
   match q f.type with
   |some k=>(NZ P q fs (n+k.length)).map (k++ ·)
   |none=>none
  else none
def GM (P:Program):Nat→TypeId→Option (List Nat)
 |0,_=>none
 | d+1,t=>
  match P.underlying t with
  |some .bool=>some [1]
  |some (.int _)=>some [0]
  |some .string=>some [2]
  | some (.struct fs)=>
   if P.stoodInHeld t=false∧P.eqGuardType P.depth t=false then
    match NZ P (GM P d) fs.toList 0 with
    |some n=>if Ev P t=some n.length then some n else none
    |none=>none
   else none
  |_=>none
def Mx (op:BinOp)(k:IntKind)(a b:Int):Option V:=
 match op with
 | .add=>some (.int k (k.wrap (a+b)))
 | .sub=>some (.int k (k.wrap (a-b)))
 | .mul=>some (.int k (k.wrap (a*b)))
 | .quo=>if b=0 then none else some (.int k (k.wrap (a.tdiv b)))
 | .rem=>if b=0 then none else some (.int k (a.tmod b))
 | .and=>some (.int k (k.wrap (BitVec.ofInt k.bits a&&&BitVec.ofInt k.bits b).toNat))
 | .or=>some (.int k (k.wrap (BitVec.ofInt k.bits a|||BitVec.ofInt k.bits b).toNat))
 | .xor=>some (.int k (k.wrap (BitVec.ofInt k.bits a ^^^ BitVec.ofInt k.bits b).toNat))
 | .andNot=>some (.int k (k.wrap (BitVec.ofInt k.bits a&&& ~~~(BitVec.ofInt k.bits b)).toNat))
 | .eql=>some (.bool (a==b))
 | .neq=>some (.bool (a !=b))
 | .lss=>some (.bool (a<b))
 | .leq=>some (.bool (a≤b))
 | .gtr=>some (.bool (a>b))
 | .geq=>some (.bool (a≥b))
 |_=>none
def RW (op:BinOp)(x y:ByteArray):Option V:=
 match op with
 | .add=>if((x.size+y.size:Nat):Int)>9223372036854775807 then none else some (.str (x++y))
 | .eql=>some (.bool (x.toList==y.toList))
 | .neq=>some (.bool (!(x.toList==y.toList)))
 | .lss=>some (.bool (Op.bytesLess x.toList y.toList))
 | .leq=>some (.bool (Op.bytesLess x.toList y.toList||x.toList==y.toList))
 | .gtr=>some (.bool (!(Op.bytesLess x.toList y.toList||x.toList==y.toList)))
 | .geq=>some (.bool (!Op.bytesLess x.toList y.toList))
 |_=>none
def Sf (op:BinOp) (k:IntKind) (a b:Int):Option V:=
 if b<0 then none else
  match op with
  | .shl=>some (.int k (k.wrap (a*2 ^ (min b.toNat k.bits))))
  | .shr=>some (.int k (a.fdiv (2 ^ (min b.toNat k.bits))))
  |_=>none
def IZ:BinOp→Bool
 | .shl=>true
 | .shr=>true
 |_=>false
def Al0:Option TypeDesc→Bool
 |some .bool=>true
 |_=>false
def Rm (P:Program) (op:BinOp) (t:TypeId) (x y:V):Option V:=
 match x,y with
 | .int k a,.int k' b=>if IZ op then Sf op k a b else if k=k' then Mx op k a b else none
 | .str a,.str b=>RW op a b
 | .bool a,.bool b=>
  if Al0 (P.underlying t)=true then
   match op with
   | .eql=>some (.bool (a==b))
   | .neq=>some (.bool (!(a==b)))
   |_=>none
  else none
 | .agg xs,.agg ys=>
  if Zj P t=some true∧GM P 9 t=some (xs.map kd)∧ys.map kd=xs.map kd then
   match op,AO xs ys with
   | .eql,some b=>some (.bool b)
   | .neq,some b=>some (.bool (!b))
   |_,_=>none
  else none
 |_,_=>none
def unV (op:UnOp)(x:V):Option V:=
 match op,x with
 | .not,.bool b=>some (.bool (!b))
 | .neg,.int k n=>some (.int k (k.wrap (0-n)))
 |_,_=>none
def Vh (P:Program)(s d:TypeId)(x:V):Option V:=
 match P.underlying s,P.underlying d,x with
 |some (.int _),some (.int k),.int _ n=>some (.int k (k.wrap n))
 |some .string,some .string,.str b=>some (.str b)
 |_,_,_=>none
section
variable {P:Program}{o:Oper}{fr:Fr}{H:A5}{K:V→A5→Prop}
def VL {g:Gh} {w:World} {v v':Value} {x y:V} {b:Bool} {t:TypeId} {d:Nat} (hv:VR g w v x) (hv':VR g w v' y) (h:JK x y=some b)
 (hu:match P.underlying t with|some .bool=>kd x=1|some (.int _)=>kd x=0|some .string=>kd x=2|_=>False):(Op.equalIn (d+1) t v v').run P w= .ok b w:=by
 unfold JK at h
 split at h
 ·rename_i k a k' c
  split at h
  ·rename_i e;subst e;cases h;rw[hv.int_inv,hv'.int_inv]
   split at hu<;>simp[kd]at hu
   grind[run_equalIn_int]
  cases h
 ·cases h;rw[hv.str_inv,hv'.str_inv]
  split at hu<;>simp[kd]at hu
  grind[run_equalIn_string]
 ·cases h;rw[hv.bool_inv,hv'.bool_inv]
  split at hu<;>simp[kd]at hu
  grind[run_equalIn_bool']
 cases h
def ME:∀(a b c d:List V) (r:Bool),a.length=c.length→AO (a++b) (c++d)=some r→∃p q,AO a c=some p∧AO b d=some q∧r=(p&&q)
 |[],b,[],d,r,_,h=>⟨true,r,rfl,h,by simp⟩
 | x::a,b,y::c,d,r,hl,h=>by
  simp only[Gs,AO]at h
  cases h1:JK x y with
  |none=>grind
  | some s=>
   cases h2:AO (a++b) (c++d)with
   |none=>simp_all
   |some u=>
    simp only[h1,h2,E6]at h
    obtain⟨p,q,e1,e2,e3⟩:=ME a b c d u (by grind) h2
    grind[AO]
 |[],_,_::_,_,_,hl,_=>by simp at hl
 |_::_,_,[],_,_,hl,_=>by simp at hl
def PN (cs:List V)(off k n:Nat):(cs.drop off).take (k+n)=(cs.drop off).take k++(cs.drop (off+k)).take n:=by
 rw[List.take_add,Gk]
def EqAt (P:Program) (w:World) (d:Nat) (t:TypeId) (xs ys:Array Value) (cs ds:List V) (ks:List Nat):Prop:=
 ∀off b,off+ks.length≤cs.length→((cs.drop off).take ks.length).map kd=ks→AO ((cs.drop off).take ks.length) ((ds.drop off).take ks.length)=some b→
  ∃a a',(part t xs off).run P w= .ok a w∧(part t ys off).run P w= .ok a' w∧(Op.equalIn d t a a').run P w= .ok b w
def Pl {w:World} {d:Nat} {q:TypeId→Option (List Nat)} {xs ys:Array Value} {cs ds:List V} (hl:cs.length=ds.length)
 (hq:∀t ks,q t=some ks→EqAt P w d t xs ys cs ds ks):∀(fs:List Field) (n:Nat) (ks:List Nat),NZ P q fs n=some ks→n+ks.length≤cs.length→∀b,((cs.drop n).take ks.length).map kd=ks→
  AO ((cs.drop n).take ks.length) ((ds.drop n).take ks.length)=some b→(Op.eqFields d xs ys fs).run P w= .ok b w
 |[],n,ks,h,_,b,_,hb=>by
  simp only[NZ,E6]at h
  subst h
  simp[AO]at hb
  subst hb;rfl
 | f ::fs,n,ks,h,hle,b,hkd,hb=>by
  simp only[NZ]at h
  split at h
  ·rename_i hc;obtain⟨hname,hoff⟩:=hc
   cases hk:q f.type with
   |none=>grind
   | some k=>
    simp only[hk]at h
    cases hr:NZ P q fs (n+k.length)with
    |none=>grind
    |some m=>
     simp only[hr,K4,E6]at h
     subst h
     simp only[Ac]at hle hkd hb
     rw[PN]at hkd
     rw[PN,PN]at hb
     simp only[BY]at hkd
     have hkl:(((cs.drop n).take k.length).map kd).length=k.length:=by simp;omega
     have hk1:=List.append_inj_left hkd hkl;have hk2:=List.append_inj_right hkd hkl;obtain⟨p,r,e1,e2,rfl⟩:=ME _ _ _ _ b (by simp;omega) hb;obtain⟨a,a',h1,h2,h3⟩:=hq _ _ hk n p (by omega) hk1 e1;have ih:=Pl hl hq fs (n+k.length) m hr (by omega) r hk2 e2;simp only[Op.eqFields,A2 hname,hoff,C6,h1,h2,h3,C1,W7,D1,ih];cases p<;>rfl
  cases h
def Tg {g:Gh} {w:World} {xs ys:Array Value} {cs ds:List V} (hx:Ro g w xs cs) (hy:Ro g w ys ds) (hl:cs.length=ds.length):∀(e d:Nat) (t:TypeId) (ks:List Nat),GM P d t=some ks→EqAt P w (d+e) t xs ys cs ds ks
 |e,0,t,ks,h=>by simp[GM]at h
 | e, d +1,t,ks,h=>by
  intro off b hle hkd hb
  have scal:∀i,(match P.underlying t with|some .bool=>i=1|some (.int _)=>i=0|some .string=>i=2|_=>False)→ks=[i]→
   ∃a a',(part t xs off).run P w= .ok a w∧(part t ys off).run P w= .ok a' w∧(Op.equalIn (d+1+e) t a a').run P w= .ok b w:=by
   intro i hi hks;subst hks
   simp only[IB]at hle hkd hb
   have hoc:off<cs.length:=by omega
   have hod:off<ds.length:=by omega
   have e1:(cs.drop off).take 1=[cs.getD off .bad]:=by rw[S3 hoc,List.take_succ_cons,List.take_zero];simp_all
   have e2:(ds.drop off).take 1=[ds.getD off .bad]:=by rw[S3 hod,List.take_succ_cons,List.take_zero];simp_all
   rw[e1]at hkd
   rw[e1,e2]at hb
   simp only[E9,J3,W8,Q0]at hkd
   have hs:JK (cs.getD off .bad) (ds.getD off .bad)=some b:=by
    grind[AO]
   have hag:Zj P t=some false:=by
    grind[Zj,AR0]
   have hpart:∀(zs:Array Value),off<zs.size→(part t zs off).run P w= .ok (zs.getD off undef) w:=by
    intro zs hz;unfold part;rw[C6,Md hag w]
    simp_all
   have hoxs:off<xs.size:=by rw[hx.1];exact hoc
   have hoys:off<ys.size:=by rw[hy.1];exact hod
   refine⟨_,_,hpart xs hoxs,hpart ys hoys,?_⟩;rw[show d+1+e=(d+e)+1 by omega];refine VL (hx.2 off hoc).2 (hy.2 off hod).2 hs ?_
   split<;>rename_i hu<;>simp only[hu]at hi<;>first|exact hkd.trans hi|exact hi
  simp only[GM]at h
  split at h
  ·simp_all
  ·simp_all
  ·simp_all
  ·rename_i fs hu
   split at h
   ·rename_i hst
    cases hf:NZ P (GM P d) fs.toList 0 with
    |none=>grind
    | some n=>
     simp only[hf]at h
     split at h
     ·rename_i hs;cases h
      have hag:Zj P t=some true:=by grind[Zj,AR0]
      have hsub:∀(zs:Array Value) (es:List V),Ro g w zs es→off+ks.length≤es.length→(part t zs off).run P w= .ok (.agg (zs.extract off (off+ks.length))) w∧Ro g w (zs.extract off (off+ks.length)) ((es.drop off).take ks.length):=by
       intro zs es hz hze;refine⟨?_,?_,fun i hi=>?_⟩
       ·unfold part;rw[C6,Md hag w]
        simp_all[Q3]
       ·have:=hz.1;simp;omega
       have hi':i<ks.length:=by grind
       have q1:(zs.extract off (off+ks.length)).getD i undef=zs.getD (off+i) undef:=by
        have:=hz.1;simp only[O3,Qw];rw[A2 (by omega)]
       have q2:((es.drop off).take ks.length).getD i .bad=es.getD (off+i) .bad:=by
        grind
       rw[q1,q2];exact hz.2 _ (by omega)
      obtain⟨p1,r1⟩:=hsub xs cs hx hle;obtain⟨p2,r2⟩:=hsub ys ds hy (by omega);refine⟨_,_,p1,p2,?_⟩;rw[show d+1+e=(d+e)+1 by omega]
      have hfo:P.fieldsOf t=fs:=by simp[Program.fieldsOf,hu]
      rw[run_equalIn_struct w (d+e) t _ _ (by rw[hfo];exact hu) hst.1,hfo]
      have hlen:((cs.drop off).take ks.length).length=ks.length:=by simp;omega
      refine Pl (by simp;omega) (fun t' ks' hq=>Tg r1 r2 (by simp;omega) e d t' ks' hq) fs.toList 0 ks hf (by simp;omega) b ?_ ?_
      ·simp_all
      grind
     cases h
   cases h
  cases h
theorem Ax8 {op:UnOp} {t:TypeId} {y:Operand} {x:V} (ho:o.op= .unOp op t y) (hl:unV op (ev fr y)=some x) (h:K x H):J2 P o fr H K:=by
 intro g w a hR hE;have hv:=E8 hR hE y;unfold execOp;rw[ho]
 unfold unV at hl
 split at hl
 ·rename_i b he;cases hl
  rw[he]at hv
  simp only[hv.bool_inv,Op.unary,C6,D1,C1,H9];exact N5.here hR (.bool _) h
 ·rename_i k n he;cases hl
  rw[he]at hv
  simp only[hv.int_inv,Op.unary,Op.intArith,C6,D1,C1,H9];exact N5.here hR (.int _ _) h
 cases hl
theorem Xl {s d:TypeId} {y:Operand} {x:V} (ho:o.op= .convert s d y) (hl:Vh P s d (ev fr y)=some x) (h:K x H):J2 P o fr H K:=by
 intro g w a hR hE;have hv:=E8 hR hE y;unfold execOp;rw[ho]
 unfold Vh at hl
 split at hl
 ·rename_i k0 k k' n hs hd he;cases hl
  rw[he]at hv
  simp only[hv.int_inv,convert,C6,run_underlying hs,run_underlying hd,Conv.intToInt,D1,C1,H9];exact N5.here hR (.int _ _) h
 ·rename_i b hs hd he;cases hl
  rw[he]at hv
  simp only[hv.str_inv,convert,C6,run_underlying hs,run_underlying hd,D1,C1,H9];exact N5.here hR (.str _) h
 cases hl
def KL (op:BinOp)(t:TypeId)(p q:Operand)(u v:Value)(w:World)(h:(∃k a,u= .int k a)∨(∃s,u= .string s)∨∃b,u= .bool b):(eqGuard op t p q u v).run P w= .ok () w:=by
 rcases h with⟨k,a,rfl⟩|⟨s,rfl⟩|⟨b,rfl⟩<;>cases op<;>simp[eqGuard]
def ZL {op:BinOp} {t:TypeId} {k k':IntKind} {m n:Int} {x:V} (hs:IZ op=true) (h:Sf op k m n=some x) (w:World):
 ∃v,(binOp op t (.int k m) (.int k' n)).run P w= .ok v w∧∀g,VR g w v x:=by
 unfold Sf at h
 split at h
 ·cases h
 rename_i hneg
 cases op<;>simp[IZ]at hs
 ·simp only[E6]at h;subst h
  exact⟨_,by simp[binOp,Op.shift,hneg],fun g=>.int _ _⟩
 simp only[E6]at h;subst h
 exact⟨_,by simp[binOp,Op.shift,hneg],fun g=>.int _ _⟩
def ZM {op:BinOp} {t:TypeId} {k:IntKind} {m n:Int} {x:V} (hs:IZ op=false) (h:Mx op k m n=some x) (w:World):
 ∃v,(binOp op t (.int k m) (.int k n)).run P w= .ok v w∧∀g,VR g w v x:=by
 have one:∀r:Int,(binOp op t (.int k m) (.int k n)).run P w= .ok (.int k r) w→x= .int k r→∃v,(binOp op t (.int k m) (.int k n)).run P w= .ok v w∧∀g,VR g w v x:=
  fun r h1 h2=>⟨_,h1,fun g=>h2▸ .int _ _⟩
 have two:∀r:Bool,(binOp op t (.int k m) (.int k n)).run P w= .ok (.bool r) w→x= .bool r→∃v,(binOp op t (.int k m) (.int k n)).run P w= .ok v w∧∀g,VR g w v x:=
  fun r h1 h2=>⟨_,h1,fun g=>h2▸ .bool _⟩
 cases op<;>simp[IZ]at hs<;>simp only[Mx]at h
 ·simp only[E6]at h;exact one _ (by simp[binOp,Op.intArith]) h.symm
 ·simp only[E6]at h;exact one _ (by simp[binOp,Op.intArith]) h.symm
 ·simp only[E6]at h;exact one _ (by simp[binOp,Op.intArith]) h.symm
 ·split at h
  ·cases h
  rename_i h0;simp only[E6]at h;exact one _ (by simp[binOp,Op.intDiv,h0]) h.symm
 ·split at h
  ·cases h
  rename_i h0;simp only[E6]at h;exact one _ (by simp[binOp,Op.intDiv,h0]) h.symm
 ·simp only[E6]at h;exact one _ (by simp[binOp,Op.intBits]) h.symm
 ·simp only[E6]at h;exact one _ (by simp[binOp,Op.intBits]) h.symm
 ·simp only[E6]at h;exact one _ (by simp[binOp,Op.intBits]) h.symm
 ·simp only[E6]at h;exact one _ (by simp[binOp,Op.intBits]) h.symm
 all_goals (simp only[E6]at h;exact two _ (by simp[binOp,Op.intCmp]) h.symm)
def ZK {op:BinOp} {t:TypeId} {m n:ByteArray} {x:V} (h:RW op m n=some x) (w:World):
 ∃v,(binOp op t (.string m) (.string n)).run P w= .ok v w∧∀g,VR g w v x:=by
 have two:∀r:Bool,(binOp op t (.string m) (.string n)).run P w= .ok (.bool r) w→x= .bool r→∃v,(binOp op t (.string m) (.string n)).run P w= .ok v w∧∀g,VR g w v x:=
  fun r h1 h2=>⟨_,h1,fun g=>h2▸ .bool _⟩
 cases op<;>simp only[RW]at h
 ·split at h
  ·cases h
  rename_i h0
  simp only[E6]at h
  have h1:¬(((m.size+n.size:Nat):Int)>IntKind.i64.max):=h0;subst h;exact⟨.string (m++n),by simp only[binOp,Op.stringOp,A1 h1,D1],fun g=>.str _⟩
 all_goals
  first
   |(cases h;done)
   |(simp only[E6]at h;exact two _ (by simp[binOp,Op.stringOp]) h.symm)
theorem An9 {op:BinOp} {t ty:TypeId} {y z:Operand} {x:V} (ho:o.op= .binOp op t y z ty) (hl:Rm P op t (ev fr y) (ev fr z)=some x) (h:K x H):J2 P o fr H K:=by
 intro g w a hR hE;have hv:=E8 hR hE y;have hz:=E8 hR hE z;unfold execOp;rw[ho];simp only[C6]
 unfold Rm at hl
 split at hl
 ·rename_i k m k' n he hf
  rw[he]at hv;rw[hf]at hz
  rw[hv.int_inv,hz.int_inv,KL op t y z _ _ w (.inl ⟨k,m,rfl⟩)];simp only[C1]
  split at hl
  ·rename_i hsh;obtain⟨v,h1,h2⟩:=ZL (P:=P) (t:=t) (k':=k') hsh hl w;rw[h1];simp only[C1,D1,H9];exact N5.here hR (h2 g) h
  rename_i hsh
  split at hl
  ·rename_i hk;subst hk;obtain⟨v,h1,h2⟩:=ZM (P:=P) (t:=t) (by grind) hl w;rw[h1];simp only[C1,D1,H9];exact N5.here hR (h2 g) h
  cases hl
 ·rename_i s1 s2 he hf
  rw[he]at hv;rw[hf]at hz
  rw[hv.str_inv,hz.str_inv,KL op t y z _ _ w (.inr (.inl ⟨_,rfl⟩))];simp only[C1];obtain⟨v,h1,h2⟩:=ZK (P:=P) (t:=t) hl w;rw[h1];simp only[C1,D1,H9];exact N5.here hR (h2 g) h
 ·rename_i b1 b2 he hf
  rw[he]at hv;rw[hf]at hz
  split at hl
  ·rename_i hb
   have hu:P.underlying t=some .bool:=by
    grind[Al0]
   rw[hv.bool_inv,hz.bool_inv,KL op t y z _ _ w (.inr (.inr ⟨_,rfl⟩))];simp only[C1];have heq:(Op.equal t (.bool b1) (.bool b2)).run P w= .ok (b1==b2) w:=run_equalIn_bool' w 9999 t b1 b2 hu
   cases op<;>simp only[E6,reduceCtorEq]at hl<;>subst hl<;>
    (simp only[binOp,C6,heq,C1,D1,H9];exact N5.here hR (.bool _) h)
  cases hl
 ·rename_i cs ds he hf
  rw[he]at hv;rw[hf]at hz
  split at hl
  ·rename_i hc;obtain⟨hag,hk,hkd⟩:=hc;obtain⟨c,hc,hrc⟩:=hv.row;obtain⟨d,hd,hrd⟩:=hz.row;rw[hc,hd]
   have hlen:cs.length=ds.length:=by have:=P9 List.length hkd;grind
   cases heq:AO cs ds with
   |none=>cases op<;>simp[heq]at hl
   | some b=>
    obtain⟨u,u',p1,p2,p3⟩:=Tg (P:=P) hrc hrd hlen (10000-9) 9 t _ hk 0 b (by simp) (by simp) (by
     rw[Q7,Ip,Ip,S2 (D5 _),S2 (by omega)];exact heq)
    have hs:Ev P t=some cs.length∧P.eqGuardType P.depth t=false:=by
     grind[GM,Zj,AR0]
    unfold part at p1 p2
    rw[C6,Md hag w]at p1 p2
    simp only[C1,B4,C6,Q3 hs.1,D1,L8,Result.ok.injEq,Q0]at p1 p2
    have q1:c.extract 0 cs.length=c:=by rw[←hrc.1];simp
    have q2:d.extract 0 cs.length=d:=by rw[hlen,←hrd.1];simp
    rw[q1]at p1;rw[q2]at p2
    subst p1;subst p2;rw[run_eqGuard_agg w op t y z c d hs.2];simp only[C1];have p3':(Op.equalIn 10000 t (.agg c) (.agg d)).run P w= .ok b w:=p3
    cases op<;>simp only[heq,E6,reduceCtorEq]at hl<;>subst hl
    ·rw[run_eql_struct,p3'];exact N5.here hR (.bool _) h
    rw[run_neq_struct,p3'];exact N5.here hR (.bool _) h
  cases hl
 cases hl
end
def Fb (H:A5):E7→Prop
 | .nil=>True
 | .full=>True
 | .tok t=>H t=some .spare
 | .ro=>False
def G0 (H:A5):E7→A5
 | .tok t=>upd H t none
 |_=>H
def Aq8 (P:Program)(t:TypeId)(v:V):Option V:=
 match Fd P t,arO P t,v with
 |some _,_,.sl xs _=>some (.int .i64 xs.length)
 |none,some (n,_),_=>some (.int .i64 n)
 |none,none,.str s=>if VA P t=true then some (.int .i64 s.size)else none
 |_,_,_=>none
section
variable {P:Program}{o:Oper}{fr:Fr}{H:A5}{K:V→A5→Prop}
def R4 {a:Act}{w:World}{b:Builtin}{xs:Array Operand}{ts:Array TypeId}(ho:o.op= .call {callee:=.builtin b,args:=xs,argTypes:=ts}):
 (execOp a.eval o).run P w=(builtin b ts o.type (xs.map fun| .const _=>true|_=>false) (xs.map a.eval)).run P w:=by
 unfold execOp;rw[ho];simp only[resolve,C6,D1,C1,invoke];rfl
def MQ {t:TypeId}(h:VA P t=true):P.underlying t=some .string:=by
 grind[VA]
theorem AK0 {y:Operand} {t:TypeId} {x:V} (ho:o.op= .call {callee:=.builtin .len,args:= #[y],argTypes:= #[t]}) (hl:Aq8 P t (ev fr y)=some x) (h:K x H):J2 P o fr H K:=by
 intro g w a hR hE;have hv:=E8 hR hE y;rw[R4 ho];simp only[builtin,Z9,E9,J3,C6]
 unfold Aq8 at hl
 split at hl
 ·rename_i e xs tl hse he;cases hl;have hu:=Q9 hse
  rw[he]at hv
  generalize hav:a.eval y=v at hv
  cases hv with
  |sl0 ht=>simp[Builtin.len_,run_underlying hu,goInt];exact N5.here hR (.int _ _) h
  |sle ht=>simp[Builtin.len_,run_underlying hu,goInt];exact N5.here hR (.int _ _) h
  |sl vs hn hc hz hf hw h1 hvv ht=>
   subst hn;simp[Builtin.len_,run_underlying hu,goInt];exact N5.here hR (.int _ _) h
 ·rename_i n e hse hae;cases hl;have hu:=Px hae;simp[Builtin.len_,run_underlying hu,goInt];exact N5.here hR (.int _ _) h
 ·rename_i s hse hae he
  split at hl
  ·rename_i hs;cases hl
   rw[he]at hv
   simp[hv.str_inv,Builtin.len_,run_underlying (MQ hs),goInt];exact N5.here hR (.int _ _) h
  cases hl
 cases hl
def Eh {g:Gh} {w:World} {v:Value} {xs:List V} {tl:E7} {sz:Nat} (h:VR g w v (.sl xs tl)) (hall:xs.all (fun x=>x.cells.length==sz)=true):
 ∃ (base:Option Addr) (cap:Nat) (vs:Nat→Nat→Value),v= .slice base xs.length cap∧xs.length≤cap∧
  (∀i j,i<xs.length→j<sz→(vs i j).oneCell'=true∧VR g w (vs i j) ((xs.getD i .bad).cells.getD j .bad))∧
  (∀w':World,(∀b o,w'.cell? ⟨b,o,none⟩=w.cell? ⟨b,o,none⟩)→(Builtin.firstCells sz xs.length v).run P w'= .ok ((List.range (xs.length*sz)).map fun k=>vs (k / sz) (k % sz)).toArray w')∧
  ((xs=[]∧(cap=0∨tl= .ro)∧tl.plain=true)∨∃b q,base=some ⟨b,q,none⟩∧(∀i j,i<xs.length→j<sz→g.fz b (q+i*sz+j)∧w.cell? ⟨b,q+i*sz+j,none⟩=some (vs i j))∧
   (∀i,i<xs.length→(xs.getD i .bad).cells.length=sz)∧∃sz',(0<xs.length→sz'=sz)∧GP g b q sz' xs.length cap tl):=by
 cases h with
 |sl0 ht=>exact⟨none,0,fun _ _=>undef,rfl,D5 _,fun i j hi=>by simp at hi,fun _ _=>by simp[Builtin.firstCells],.inl ⟨rfl,.inl rfl,ht⟩⟩
 |sle ht=>exact⟨_,_,fun _ _=>undef,rfl,BW _,fun i j hi=>by simp at hi,fun _ _=>by simp[Builtin.firstCells,loadCells,loadCellsFrom],.inl ⟨rfl,by grind,by rcases ht with h|⟨h,_⟩<;>subst h<;>rfl⟩⟩
 | sl vs hn hc hz hf hw h1 hv ht=>
  rename_i b q sz' n cap;subst hn
  have hsz:0<xs.length→sz'=sz:=by
   grind
  refine⟨some ⟨b,q,none⟩,cap,vs,rfl,hc,fun i j hi hj=>?_,?_,.inr ⟨b,q,rfl,fun i j hi hj=>?_,fun i hi=>?_,sz',hsz,ht⟩⟩
  ·have:=hsz (by omega);simp_all
  ·intro w' hw';simp only[Builtin.firstCells]
   grind[run_loadCells,Nat.div_lt_iff_lt_mul,Nat.mod_lt,Aj,Nat.div_add_mod]
  ·have:=hsz (by omega);simp_all
  simp_all
def Gh.tok (g:Gh)(b e0 e lim:Nat):Gh:=
 {g with tk:=fun x=>if x=g.nx then some (b,e,lim)else g.tk x,nx:=g.nx+1,fz:=fun b' o=>g.fz b' o∨(b'=b∧e0≤o∧o<e)}
theorem W1.tok {g:Gh}{H:A5}{w w':World}(h:Rl g H w)(b e0 e lim:Nat)(hc:∀b o,g.fz b o→w'.cell? ⟨b,o,none⟩=w.cell? ⟨b,o,none⟩)(hl:Below g.base w w')(hd:w.drawn≤w'.drawn:=by first|exact Nat.le_refl _|exact Nat.le_succ _|exact Nat.le_add_right _ _):
 W1 g w (g.tok b e0 e lim) w':=by
 refine⟨fun _ _ e=>e,fun t x e=>?_,fun _ _ e=>.inl e,rfl,hc,hl,fun _ _ _=>rfl,hd⟩;simp only[Gh.tok]
 split
 ·next e'=>subst e';rw[(h.nxt _ (D5 _)).2.1]at e;cases e
 exact e
end
section
variable {P:Program}{o:Oper}{fr:Fr}{H:A5}{K:V→A5→Prop}
def EV {H:A5} {tl:E7} {id:Nat} {b:Ds} (h:G0 H tl id=some b):H id=some b:=by
 cases tl with
 |tok t=>
  simp_all[G0,upd]
 |_=>exact h
theorem Rl.tok {g:Gh} {H:A5} {w w':World} (h:Rl g H w) {b e0 e lim:Nat} {c:Array Value} {T:TypeId} (hb:g.base≤b) (hrow:w'.heap[b]? =some (.cells c T (0,0))) (hlim:c.size=lim) (he:e≤lim)
 (hfree:∀o,e0≤o→¬g.fz b o) (he0:e0≤e) (hcell:∀b o,g.fz b o→w'.cell? ⟨b,o,none⟩=w.cell? ⟨b,o,none⟩) (hl:Below g.base w w') (hother:∀x,x≠b→x<w.heap.size→w'.heap[x]? =w.heap[x]?)
 (hown:∀id,g.at H id≠some b) (hdr:w.drawn≤w'.drawn:=by first|exact D5 _|exact Ed _|exact LB _ _):Rl (g.tok b e0 e lim) (upd H g.nx (some .spare)) w':=by
 have s:=W1.tok h b e0 e lim hcell hl hdr;have hnx:=h.nxt g.nx (D5 _)
 have hne:∀id,id≠g.nx→(g.tok b e0 e lim).at (upd H g.nx (some .spare)) id=g.at H id:=fun id hi=>
  Pw (D2 _ _ hi) rfl (by grind[Gh.tok])
 have hat:(g.tok b e0 e lim).at (upd H g.nx (some .spare)) g.nx=some b:=by simp_all[Gh.at,Gh.tok,upd]
 refine⟨fun id k hk=>?_,fun id id' x h1 h2=>?_,fun x o hf=>?_,fun id hi=>?_,?_,fun n=>(h.glb n).mono s⟩
 ·by_cases hi:id=g.nx
  ·subst hi;rw[E4]at hk;cases hk
   refine⟨b,e,lim,c,T,by simp[Gh.tok],hb,hrow,he,hlim,fun o ho hf=>?_⟩
   grind[Gh.tok]
  rw[D2 _ _ hi]at hk
  refine(h.blk id k hk).mono hk s fun x hx=>⟨hother x (fun e=>hown id (by rw[hx,e])) (h.lt hx),fun o ho=>?_⟩
  grind[Gh.tok]
 ·by_cases hi:id=g.nx<;>by_cases hi':id'=g.nx
  ·rw[hi,hi']
  ·simp_all
  ·simp_all
  rw[hne _ hi]at h1;rw[hne _ hi']at h2;exact h.inj _ _ _ h1 h2
 ·rcases hf with hf|⟨e',h1,h2⟩
  ·obtain⟨v,hv⟩:=h.frz x o hf
   simp_all
  subst e'
  have:o<c.size:=by omega
  exact⟨c[o],by simp[World.cell?,hrow,this]⟩
 ·have hi':g.nx≤id:=Iy hi
  have hne':id≠g.nx:=fun e=>by grind[Gh.tok]
  obtain⟨a1,a2,a3⟩:=h.nxt id hi'
  grind[Gh.tok,upd]
 grind[Gh.tok]
def GC {xs ys:List V}{i:Nat}:(xs++ys).getD i .bad=if i<xs.length then xs.getD i .bad else ys.getD (i-xs.length) .bad:=by
 grind
def S6 {i j sz:Nat}(hj:j<sz):(i*sz+j) / sz=i∧(i*sz+j) % sz=j:=by
 have hp:0<sz:=by omega
 simp_all[Nat.add_comm,Nat.add_mul_div_right,Nat.mod_eq_of_lt]
theorem DC {i j n sz:Nat}(hi:i<n)(hj:j<sz):i*sz+j<n*sz:=by
 have:(i+1)*sz≤n*sz:=K5 _ hi
 rw[I1]at this
 omega
def NG {s y:Operand} {sT yT e:TypeId} {sz by_:Nat} {z:V} {xs ys:List V} {tl tl':E7} (ho:o.op= .call {callee:=.builtin .append,args:= #[s,y],argTypes:= #[sT,yT]})
 (hs:ev fr s= .sl xs tl) (hy:ev fr y= .sl ys tl') (he:Fd P sT=some e) (hyT:(Fd P yT).isSome=true) (hsz:Ev P e=some sz) (hpos:0<sz) (hby:Qj P e=some by_) (hbp:0<by_)
 (hz:ID P e=some z) (hz1:z.one=true) (hzl:z.cells.length=sz) (hA:Fb H tl) (hax:xs.all (fun x=>x.cells.length==sz)=true) (hay:ys.all (fun x=>x.cells.length==sz)=true)
 (hbound:(xs.length+ys.length)*by_≤140737488355328) (h0:ys=[]→K (.sl xs tl) H)
 (h:∀t,ys≠[]→G0 H tl t=none→K (.sl (xs++ys) (.tok t)) (upd (G0 H tl) t (some .spare))):J2 P o fr H K:=by
 intro g w a hR hE;have hvs:=E8 hR hE s;have hvy:=E8 hR hE y
 rw[hs]at hvs;rw[hy]at hvy
 obtain⟨base,cap,fs,es,hcap,hfs,hrs,hbs⟩:=Eh (P:=P) hvs hax;obtain⟨ybase,ycap,fy,ey,_,hfy,hry,hby'⟩:=Eh (P:=P) hvy hay;have hu:=Q9 he;obtain⟨e',hyT'⟩:=Option.isSome_iff_exists.1 hyT;have huy:=Q9 hyT';obtain⟨zv,ez,hzv⟩:=Dg hz
 have hzr:VR g w zv z:=by rw[ez];grind[Ec]
 have hzs:zv.cells.size=sz:=by rw[(hzr.cells hz1).1,hzl]
 have hbytes:∀w,(typeInfo e).run P w= .ok ((P.info? e).getD default) w∧((P.info? e).getD default).bytes=by_:=by
  intro w
  unfold Qj at hby
  cases hi:P.info? e with
  |none=>simp_all
  |some i=>simp[hi]at hby;simp[typeInfo,hi,hby]
 rw[R4 ho];simp only[builtin,Z9,E9,J3,C6,es,ey]
 have hn63':¬(IntKind.i64.max<((xs.length+ys.length:Nat):Int)∧(False∨by_=0)):=by
  grind
 have hbi:∀w,(typeInfo e).run P w= .ok ((P.info? e).getD default) w:=fun w=>(hbytes w).1;have hbb:=(hbytes w).2;have hR1:Rl g (G0 H tl) w:=hR.less fun id b hb=>EV hb
 have hlenx:∀i,i<xs.length→(xs.getD i .bad).cells.length=sz:=fun i hi=>by
  have:=(List.all_eq_true.1 hax) (xs.getD i .bad) (by simp_all)
  simp_all
 have hleny:∀i,i<ys.length→(ys.getD i .bad).cells.length=sz:=fun i hi=>by
  have:=(List.all_eq_true.1 hay) (ys.getD i .bad) (by simp_all)
  simp_all
 have hlenxy:∀i,i<xs.length+ys.length→((xs++ys).getD i .bad).cells.length=sz:=fun i hi=>by
  rw[GC];grind
 have hvals:∀(g':Gh) (w':World),W1 g w g' w'→∀i j,i<xs.length+ys.length→j<sz→(if i<xs.length then fs i j else fy (i-xs.length) j).oneCell'=true∧
  VR g' w' (if i<xs.length then fs i j else fy (i-xs.length) j) (((xs++ys).getD i .bad).cells.getD j .bad):=by
  intro g' w' st i j hi hj;rw[GC]
  split
  ·rename_i hlt;exact⟨(hfs i j hlt hj).1,(hfs i j hlt hj).2.mono st⟩
  exact⟨(hfy _ j (by omega) hj).1,(hfy _ j (by omega) hj).2.mono st⟩
 by_cases hc:xs.length+ys.length≤cap
 ·
  have hrun:∀w',(match base with|some a=>(storeCells (a.add (xs.length*sz)) ((List.range (ys.length*sz)).map fun k=>fy (k / sz) (k % sz))).run P w|none=>.ok () w)= .ok () w'→
   (Builtin.append_ #[sT,yT] o.type #[.slice base xs.length cap,.slice ybase ys.length ycap]).run P w= .ok (.slice base (xs.length+ys.length) cap) w':=by
   intro w' hw';have hry':=hry w fun _ _=>rfl
   rw[ey]at hry'
   simp only[Builtin.append_,C6,run_underlying hu,C1,Q3 hsz,run_underlying huy,D1,Builtin.lenOf,W7,V3,
    Bm,Cb,D6,C7,Bj,B4,A2 hc,hry']
   cases base with
   |none=>simp_all
   |some a=>simp_all
  by_cases hy0:ys=[]
  ·subst hy0
   have hst:(match base with|some a=>(storeCells (a.add (xs.length*sz)) ((List.range (([]:List V).length*sz)).map fun k=>fy (k / sz) (k % sz))).run P w|none=>.ok () w)= .ok () w:=by
    cases base<;>simp[storeCells]
   rw[hrun w hst];simp only[C1,D1,H9,Lv,BX,←es]
   grind[N5.here]
  have hylen:0<ys.length:=List.length_pos_iff.2 hy0
  rcases hbs with⟨hx0,hc0|hc0,_⟩|⟨b,q,hbase,hcell,_,sz',hsz',htl⟩
  ·omega
  ·subst hc0;exact hA.elim
  cases tl with
  |nil=>exact htl.elim
  |ro=>exact hA.elim
  |full=>grind[GP]
  | tok t=>
   obtain⟨hn0,lim,ht1,ht2⟩:=htl;have:=hsz' hn0;subst this;have hA':H t=some .spare:=hA;obtain⟨b2,e2,lim2,c,T,k1,k2,k3,k4,k5,k6⟩:=hR.blk t _ hA'
   rw[ht1]at k1
   simp only[E6,Lo]at k1
   obtain⟨rfl,rfl,rfl⟩:=k1;have hcapsz:(xs.length+ys.length)*sz'≤cap*sz':=K5 _ hc;have hadd:(xs.length+ys.length)*sz'=xs.length*sz'+ys.length*sz':=I1 _ _ _
   have hmem:∀v∈((List.range (ys.length*sz')).map fun k=>fy (k / sz') (k % sz')),v.oneCell'=true:=by
    grind[Nat.div_lt_iff_lt_mul,Nat.mod_lt]
   have hst:=run_storeCells_at P b (q+xs.length*sz') T ((List.range (ys.length*sz')).map fun k=>fy (k / sz') (k % sz')) 0 c w k3 (by simp;omega) hmem;have hst':=hst
   rw[hbase]at hrun ⊢
   simp only[Aj]at hrun
   rw[hrun _ hst];simp only[C1,D1,H9]
   generalize hC:(c.toList.take (q+xs.length*sz'+0)++((List.range (ys.length*sz')).map fun k=>fy (k / sz') (k % sz'))++
    c.toList.drop (q+xs.length*sz'+0+((List.range (ys.length*sz')).map fun k=>fy (k / sz') (k % sz')).length)).toArray=C
   have hCs:C.size=c.size:=by rw[←hC];simp;omega
   have hCg:∀k,k<c.size→C[k]? =if k<q+xs.length*sz' then c[k]? else if k<q+xs.length*sz'+ys.length*sz' then some (fy ((k-(q+xs.length*sz')) / sz') ((k-(q+xs.length*sz')) % sz'))else c[k]? :=by
    intro k hk;rw[←hC];simp only[BX,V3,G1,Q7,CG];rw[CH,CH];simp only[BZ,IA,Gl (show q+xs.length*sz'≤c.size by omega),Hy,Hx,DQ,Q7,CG,Aa]
    by_cases q1:k<q+xs.length*sz'
    ·rw[A2 q1,A2 q1,A2 q1]
    rw[A1 q1,A1 q1]
    by_cases q2:k<q+xs.length*sz'+ys.length*sz'
    ·rw[A2 (by omega),A2 q2,Hz (by omega)];rfl
    rw[A1 (by omega),A1 q2,show q+xs.length*sz'+ys.length*sz'+(k-(q+xs.length*sz')-ys.length*sz')=k by omega]
   have hnown:∀id,g.at (G0 H (.tok t)) id≠some b:=by
    intro id hid
    have hat:g.at H t=some b:=by simp_all[Gh.at]
    by_cases hid':id=t
    ·simp_all[Gh.at,G0,E4]
    have:g.at H id=some b:=by simp_all[Gh.at,G0,D2]
    exact hid' (hR.inj _ _ _ this hat)
   have hcellp:∀x o,g.fz x o→(w.setRow b C).cell? ⟨x,o,none⟩=w.cell? ⟨x,o,none⟩:=by
    intro x o hf
    by_cases hx:x=b
    ·subst hx
     have ho:o<q+xs.length*sz':=by
      grind
     have hw':(w.setRow x C).heap[x]? =some (.cells C T (0,0)):=setRow_heap w x c C T (0,0) k3;simp only[World.cell?,hw',k3,Fm,D6,C7];rw[hCg o (by omega),A2 ho]
    grind[CB]
   have hbel:Below g.base w (w.setRow b C):=Hk w b C k2
   have hRn:=Rl.tok (e0:=q+xs.length*sz') (e:=q+(xs.length+ys.length)*sz') (lim:=c.size) hR1 k2 (setRow_heap w b c C T (0,0) k3) hCs (by omega) k6 (by omega) hcellp hbel
    (fun x hx _=>R0 w b C x hx) hnown
   have hStp:=W1.tok hR1 b (q+xs.length*sz') (q+(xs.length+ys.length)*sz') c.size hcellp hbel;refine⟨_,_,_,hStp,hRn,?_,h g.nx hy0 (hR1.nxt _ (D5 _)).2.2⟩
   refine .sl (sz:=sz') (fun i j=>if i<xs.length then fs i j else fy (i-xs.length) j) (by simp) hc (fun i hi=>hlenxy i hi) (fun i j hi hj=>?_) (fun i j hi hj=>?_)
    (fun i j hi hj=>(hvals _ _ hStp i j hi hj).1) (fun i j hi hj=>(hvals _ _ hStp i j hi hj).2) ?_
   ·grind[Gh.tok,Nat.mul_le_mul_right,DC]
   ·have h2:=DC hi hj;have hw':(w.setRow b C).heap[b]? =some (.cells C T (0,0)):=setRow_heap w b c C T (0,0) k3
    by_cases hix:i<xs.length
    ·rw[A2 hix]
     simp_all
    rw[A1 hix];have h1:xs.length*sz'≤i*sz':=K5 _ (by omega);have h3:(i-xs.length)*sz'=i*sz'-xs.length*sz':=CE _ _ _;simp only[World.cell?,hw',Fm,D6,C7];rw[hCg _ (by omega),A1 (by omega),A2 (by omega)];rw[show q+i*sz'+j-(q+xs.length*sz')=(i-xs.length)*sz'+j by omega,(S6 hj).1,(S6 hj).2]
   refine⟨by omega,c.size,?_,by omega⟩;simp[Gh.tok]
 have hnf:¬(2 ^ 48<Builtin.nextslicecap (xs.length+ys.length) cap*by_):=by
  have:=growslice_fits (Iv hc) hbound;omega
 have hdr:∀b o,w.drew.cell? ⟨b,o,none⟩=w.cell? ⟨b,o,none⟩:=fun _ _=>rfl;generalize hG:grownCap w (xs.length+ys.length) cap e=G
 have hGe:xs.length+ys.length≤G:=by rw[←hG];grind[grownCap_ge]
 have hrun:(Builtin.append_ #[sT,yT] o.type #[.slice base xs.length cap,.slice ybase ys.length ycap]).run P w=
  .ok (.slice (some ⟨w.heap.size,0,none⟩) (xs.length+ys.length) G)
   (w.drew.alloc (.cells (((List.range (xs.length*sz)).map fun k=>fs (k / sz) (k % sz)).toArray++((List.range (ys.length*sz)).map fun k=>fy (k / sz) (k % sz)).toArray++
    Builtin.zeroCells zv.cells (G-(xs.length+ys.length))) e)):=by
  have hGd:(Question.appendCap (xs.length+ys.length) cap e).cut (w.tape w.drawn (.appendCap (xs.length+ys.length) cap e))=G:=hG;have hf:(Question.appendCap (xs.length+ys.length) cap e).forced=false:=rfl;have hrs':=hrs w.drew hdr;have hry':=hry w.drew hdr
  rw[es]at hrs';rw[ey]at hry'
  simp only[Builtin.append_,C6,run_underlying hu,C1,Q3 hsz,run_underlying huy,D1,Builtin.lenOf,W7,hbi,hbb,V3,
   Bm,Cb,D6,C7,Bj,B4,gt_iff_lt,false_or,A1 hc,A1 hnf,run_choose,hf,hGd,Io,run_askRoom,hrs',hry',hzv,newRow,run_newObj,
   Eg,Ir]
  rw[A1 (by omega)]
 rw[hrun];simp only[C1,D1,H9];generalize hC:((List.range (xs.length*sz)).map fun k=>fs (k / sz) (k % sz)).toArray++((List.range (ys.length*sz)).map fun k=>fy (k / sz) (k % sz)).toArray++Builtin.zeroCells zv.cells (G-(xs.length+ys.length))=C;have hadd:(xs.length+ys.length)*sz=xs.length*sz+ys.length*sz:=I1 _ _ _
 have hCs:C.size=G*sz:=by
  rw[←hC];simp only[LH,Hv,Q7,CG,size_zeroCells,hzs,CE];have:(xs.length+ys.length)*sz≤G*sz:=K5 _ hGe;omega
 have hGs:(xs.length+ys.length)*sz≤G*sz:=K5 _ hGe
 have hCg:∀k,k<(xs.length+ys.length)*sz→C[k]? =some (if k<xs.length*sz then fs (k / sz) (k % sz)else fy ((k-xs.length*sz) / sz) ((k-xs.length*sz) % sz)):=by
  grind
 have hcellp:∀x o,g.fz x o→(w.drew.alloc (.cells C e)).cell? ⟨x,o,none⟩=w.cell? ⟨x,o,none⟩:=fun x o hf=>Db (w:=w.drew) (hR.fz_lt hf);have hbel:Below g.base w (w.drew.alloc (.cells C e)):=(W6 _ _).drew.alloc hR.bnd _
 have hnown:∀id,g.at (G0 H tl) id≠some w.heap.size:=fun id hid=>absurd (hR1.lt hid) (T9 _)
 have hRn:=Rl.tok (e0:=0) (e:=(xs.length+ys.length)*sz) (lim:=G*sz) hR1 hR.bnd (BK (w:=w.drew) (o:=.cells C e)) hCs hGs (fun o _ hf=>absurd (hR.fz_lt hf) (T9 _)) (BW _) hcellp hbel
  (fun x hx hlt=>heap_alloc (w:=w.drew) hlt) hnown
 have hStp:=W1.tok hR1 w.heap.size 0 ((xs.length+ys.length)*sz) (G*sz) hcellp hbel
 have hy0:ys≠[]:=by
  grind
 refine⟨_,_,_,hStp,hRn,?_,h g.nx hy0 (hR1.nxt _ (D5 _)).2.2⟩;have hylen:0<ys.length:=List.length_pos_iff.2 hy0
 refine .sl (sz:=sz) (fun i j=>if i<xs.length then fs i j else fy (i-xs.length) j) (by simp) hGe (fun i hi=>hlenxy i hi) (fun i j hi hj=>.inr ⟨rfl,BW _,by have:=DC hi hj;omega⟩) (fun i j hi hj=>?_)
  (fun i j hi hj=>(hvals _ _ hStp i j hi hj).1) (fun i j hi hj=>(hvals _ _ hStp i j hi hj).2) ?_
 ·have h2:=DC hi hj;rw[show(⟨w.heap.size,0+i*sz+j,none⟩:Addr)=⟨w.drew.heap.size,i*sz+j,none⟩ by simp];rw[Ps (w:=w.drew),hCg _ h2]
  congr 1
  by_cases hix:i<xs.length
  ·have h3:=DC hix hj;rw[A2 h3,A2 hix,(S6 hj).1,(S6 hj).2]
  have h1:xs.length*sz≤i*sz:=K5 _ (by omega);have h3:(i-xs.length)*sz=i*sz-xs.length*sz:=CE _ _ _;rw[A1 (by omega),A1 hix,show i*sz+j-xs.length*sz=(i-xs.length)*sz+j by omega,(S6 hj).1,(S6 hj).2]
 refine⟨by omega,G*sz,?_,by simp⟩;simp[Gh.tok]
end
mutual
inductive Cp :V→V→Prop
 |refl (x:V):Cp x x
 |ro (xs:List V) (t:E7):Cp (.sl xs t) (.sl xs .ro)
 |sl {xs ys:List V} (t:E7):M1 xs ys→Cp (.sl xs t) (.sl ys .ro)
 |slt {xs ys:List V} (t:E7):M1 xs ys→Cp (.sl xs t) (.sl ys t)
 |sub {cs:List V} {d sz:Nat} (h:d+sz≤cs.length):Cp (.eref cs d) (.eref ((cs.drop d).take sz) 0)
 |agg {xs ys:List V}:M1 xs ys→Cp (.agg xs) (.agg ys)
 |tup {xs ys:List V}:M1 xs ys→Cp (.tup xs) (.tup ys)
inductive M1 :List V→List V→Prop
 |nil:M1 [] []
 |cons {x y:V} {xs ys:List V}:Cp x y→M1 xs ys→M1 (x::xs) (y::ys)
end
theorem M1.refl:∀xs:List V,M1 xs xs
 |[]=>.nil
 |x::xs=>.cons (.refl x) (.refl xs)
def M1.length:∀{xs ys:List V},M1 xs ys→xs.length=ys.length
 |_,_,.nil=>rfl
 |_,_,.cons _ h=>by simp[M1.length h]
theorem M1.at:∀{xs ys:List V},M1 xs ys→∀i:Nat,Cp (xs.getD i .bad) (ys.getD i .bad)
 |_,_,.nil,i=>by simp;exact .refl _
 |_,_,.cons h _,0=>by grind
 |_,_,.cons _ h,i+1=>by simpa using M1.at h i
theorem Cp.cells {x y:V}(h:Cp x y):M1 x.cells y.cells:=by
 cases h with
 |refl=>exact .refl _
 |ro=>exact .cons (.ro _ _) .nil
 |sl t h=>exact .cons (.sl t h) .nil
 |slt t h=>exact .cons (.slt t h) .nil
 |sub h=>exact .cons (.sub h) .nil
 |agg h=>exact h
 |tup h=>exact .cons (.tup h) .nil
theorem Cp.one {x y:V}(h:Cp x y)(hx:x.one=true):y.one=true:=by
 cases h<;>first|exact hx|rfl|cases hx
theorem VR.le {g:Gh} {w:World} {v:Value} {x:V} (h:VR g w v x):∀{y:V},Cp x y→VR g w v y:=by
 induction h with
 |sl0 ht=>
  intro y k
  cases k with
  |refl=>exact .sl0 ht
  |ro=>exact .sl0 rfl
  |sl t hs=>cases hs;exact .sl0 rfl
  |slt t hs=>cases hs;exact .sl0 ht
 |sle ht=>
  intro y k
  cases k with
  |refl=>exact .sle ht
  |ro=>exact .sle (.inl rfl)
  |sl t hs=>cases hs;exact .sle (.inl rfl)
  |slt t hs=>cases hs;exact .sle ht
 | sl vs hn hc hz hf hw h1 hv ht ih=>
  rename_i b o sz n cap xs t;intro y k
  cases k with
  |refl=>exact .sl vs hn hc hz hf hw h1 hv ht
  |ro=>exact .sl vs hn hc hz hf hw h1 hv trivial
  |sl t hs=>
   refine .sl vs (hs.length▸hn) hc (fun i hi=>?_) hf hw h1 (fun i j hi hj=>ih i j hi hj ((hs.at i).cells.at j)) trivial;rw[←(hs.at i).cells.length];grind
  |slt t hs=>
   refine .sl vs (hs.length▸hn) hc (fun i hi=>?_) hf hw h1 (fun i j hi hj=>ih i j hi hj ((hs.at i).cells.at j)) ht;rw[←(hs.at i).cells.length];grind
 |agg hl h1 hv ih=>
  intro y k
  cases k with
  |refl=>exact .agg hl h1 hv
  |agg hs=>exact .agg (hl.trans hs.length) (fun i hi=>h1 i (hs.length▸hi)) fun i hi=>ih i (hs.length▸hi) (hs.at i)
 |tup hl hv ih=>
  intro y k
  cases k with
  |refl=>exact .tup hl hv
  |tup hs=>exact .tup (hl.trans hs.length) fun i hi=>ih i (hs.length▸hi) (hs.at i)
 |bad v=>intro y k;cases k;exact .bad v
 |bool b=>intro y k;cases k;exact .bool b
 |int k n=>intro y k';cases k';exact .int k n
 |str s=>intro y k;cases k;exact .str s
 |nilp=>intro y k;cases k;exact .nilp
 |nilf=>intro y k;cases k;exact .nilf
 |nili=>intro y k;cases k;exact .nili
 |nilmap=>intro y k;cases k;exact .nilmap
 |map h=>intro y k;cases k;exact .map h
 |fmap hb hw hk hn hl hv ih=>intro y k;cases k;exact .fmap hb hw hk hn hl hv
 |ref h=>intro y k;cases k;exact .ref h
 |own h h0 h1 h2 hp=>intro y k;cases k;exact .own h h0 h1 h2 hp
 |elem h hs=>intro y k;cases k;exact .elem h hs
 | eref vs hf hw h1 hv ih=>
  rename_i b o off cs;intro y k
  cases k with
  |refl=>exact .eref vs hf hw h1 hv
  | sub hd=>
   rename_i sz
   have hl:((cs.drop off).take sz).length=sz:=by simp;omega
   have hg:∀j,j<sz→((cs.drop off).take sz).getD j .bad=cs.getD (off+j) .bad:=fun j hj=>by
    grind
   have:=VR.eref (g:=g) (w:=w) (b:=b) (o:=o+off) (off:=0) (cs:=(cs.drop off).take sz) (fun j=>vs (off+j)) (fun j hj=>by rw[hl]at hj;have:=hf (off+j) (by omega);rwa[←CF]at this)
    (fun j hj=>by rw[hl]at hj;have:=hw (off+j) (by omega);rwa[←CF]at this) (fun j hj=>by rw[hl]at hj;grind) (fun j hj=>by rw[hl]at hj;rw[hg j hj];grind)
   rwa[BX]at this
 |func hl hv hl' hv' ih ih'=>intro y k;cases k;exact .func hl hv hl' hv'
 |yield h=>intro y k;cases k;exact .yield h
 |iface h ih=>intro y k;cases k;exact .iface h
def M1.sz {sz:Nat}:∀{xs ys:List V},M1 xs ys→ys.all (fun x=>x.cells.length==sz)=true→xs.all (fun x=>x.cells.length==sz)=true
 |_,_,.nil,_=>rfl
 |_,_,.cons h k,ha=>by
  simp only[Im,M6]at ha ⊢
  exact⟨by rw[h.cells.length];exact ha.1,M1.sz k ha.2⟩
def M1.append:∀{xs ys xs' ys':List V},M1 xs xs'→M1 ys ys'→M1 (xs++ys) (xs'++ys')
 |_,_,_,_,.nil,k=>k
 |_,_,_,_,.cons h k,k'=>.cons h (M1.append k k')
end Go.Ab
namespace Go.Ab
variable [N9]
def Cp.z {v:V}:Cp v v:=.refl v
def M1.z {l:List V}:M1 l l:=.refl l
def M1.r {a:V}{l l':List V}(h:M1 l l'):M1 (a::l) (a::l'):=.cons (.refl a) h
end Go.Ab
namespace Go.Ab
open Go.RowKit
variable [N9]
def Gh.own (g:Gh)(b:Nat)(hd:Hd):Gh:=
 {g with mu:=fun x=>if x=g.nx then some b else g.mu x,ow:=fun x=>if x=g.nx then hd else g.ow x,nx:=g.nx+1}
theorem W1.own {g:Gh}{H:A5}{w w':World}(h:Rl g H w)(b:Nat)(hd:Hd)(hc:∀b o,g.fz b o→w'.cell? ⟨b,o,none⟩=w.cell? ⟨b,o,none⟩)(hl:Below g.base w w')(hdr:w.drawn≤w'.drawn:=by first|exact Nat.le_refl _|exact Nat.le_succ _|exact Nat.le_add_right _ _):W1 g w (g.own b hd) w':=by
 have hn:=(h.nxt _ (D5 _)).1;refine⟨fun id b e=>?_,fun t x e=>e,fun _ _ e=>e,rfl,hc,hl,fun id b e=>?_,hdr⟩
 ·grind[Gh.own]
 grind[Gh.own]
def Rl.newArr {g:Gh} {H:A5} {w w':World} (h:Rl g H w) {b o sz:Nat} {ys:List V} (hz:∀i,i<ys.length→(ys.getD i .bad).cells.length=sz)
 (hcell:∀b o,g.fz b o→w'.cell? ⟨b,o,none⟩=w.cell? ⟨b,o,none⟩) (hl:Below g.base w w') (hother:∀x,(ys.length=0∨x≠b)→x<w.heap.size→w'.heap[x]? =w.heap[x]?)
 (hb:ys.length=0∨∃c T,g.base≤b∧w'.heap[b]? =some (.cells c T (0,0))∧o+ys.length*sz≤c.size∧
  (∀i j,i<ys.length→j<sz→(c.getD (o+i*sz+j) undef).oneCell'=true∧VR g w (c.getD (o+i*sz+j) undef) ((ys.getD i .bad).cells.getD j .bad))∧
  (∀q,o≤q→¬g.fz b q)∧∀id,g.at H id≠some b) (hdr:w.drawn≤w'.drawn:=by first|exact D5 _|exact Ed _|exact LB _ _):
 W1 g w (g.own b ⟨o,ys.length,sz⟩) w'∧Rl (g.own b ⟨o,ys.length,sz⟩) (upd H g.nx (some (.arr sz ys))) w'∧H g.nx=none:=by
 have s:=W1.own h b ⟨o,ys.length,sz⟩ hcell hl hdr;have hnx:=h.nxt g.nx (D5 _)
 generalize hG:g.own b ⟨o,ys.length,sz⟩=g' at s ⊢
 have em:∀x,g'.mu x=if x=g.nx then some b else g.mu x:=fun x=>by rw[←hG];rfl
 have eo:∀x,g'.ow x=if x=g.nx then⟨o,ys.length,sz⟩else g.ow x:=fun x=>by rw[←hG];rfl
 have et:g'.tk=g.tk:=by rw[←hG];rfl
 have ef:g'.fz=g.fz:=by rw[←hG];rfl
 have en:g'.nx=g.nx+1:=by rw[←hG];rfl
 have eb:g'.base=g.base:=by rw[←hG];rfl
 have hne:∀id,id≠g.nx→g'.at (upd H g.nx (some (.arr sz ys))) id=g.at H id:=fun id hi=>
  Pw (D2 _ _ hi) (by rw[em,A1 hi]) (by rw[et]) (by rw[eo,A1 hi])
 have hat:g'.at (upd H g.nx (some (.arr sz ys))) g.nx=if ys.length=0 then none else some b:=by grind[Gh.at,upd]
 refine⟨s,⟨fun id k hk=>?_,fun id id' x h1 h2=>?_,fun x q hf=>?_,fun id hi=>?_,?_,fun n=>(h.glb n).mono s⟩,hnx.2.2⟩
 ·by_cases hi:id=g.nx
  ·subst hi;rw[E4]at hk;cases hk
   refine⟨b,by rw[em,A2 rfl],?_⟩;rw[eo,A2 rfl];refine⟨rfl,rfl,hz,hb.imp (fun h=>h) fun⟨c,T,k1,k2,k3,k4,k5,k6⟩=>⟨c,T,by rw[eb];exact k1,k2,k3,fun i j hi hj=>⟨(k4 i j hi hj).1,(k4 i j hi hj).2.mono s⟩,by rw[ef];exact k5⟩⟩
  rw[D2 _ _ hi]at hk
  refine(h.blk id k hk).mono hk s fun x hx=>⟨hother x ?_ (h.lt hx),fun q hq=>by rw[ef]at hq;exact hq⟩
  grind
 ·have hx:∀id,g'.at (upd H g.nx (some (.arr sz ys))) g.nx=some x→g.at H id=some x→False:=fun id h1 h2=>by
   rw[hat]at h1
   grind
  by_cases hi:id=g.nx<;>by_cases hi':id'=g.nx
  ·rw[hi,hi']
  ·simp_all
  ·simp_all
  rw[hne _ hi]at h1;rw[hne _ hi']at h2;exact h.inj _ _ _ h1 h2
 ·rw[ef]at hf
  obtain⟨v,hv⟩:=h.frz x q hf
  simp_all
 ·rw[en]at hi
  have hi':g.nx≤id:=Iy hi
  have hne':id≠g.nx:=fun e=>by omega
  obtain⟨a1,a2,a3⟩:=h.nxt id hi'
  simp_all[upd]
 have:=h.bnd;have:=hl.size;rw[eb];omega
def Rl.setArr {g:Gh} {H:A5} {w:World} (h:Rl g H w) {id b sz:Nat} {xs ys:List V} {c c':Array Value} {T:TypeId} (hk:H id=some (.arr sz xs)) (hb:g.mu id=some b) (hc0:xs.length≠0)
 (hw:w.heap[b]? =some (.cells c T (0,0))) (hsz:c'.size=c.size) (hlo:∀o,o<(g.ow id).o→c'[o]? =c[o]?) (hl:ys.length=xs.length) (hz:∀i,i<ys.length→(ys.getD i .bad).cells.length=sz)
 (hv:∀i j,i<ys.length→j<sz→(c'.getD ((g.ow id).o+i*sz+j) undef).oneCell'=true∧VR g w (c'.getD ((g.ow id).o+i*sz+j) undef) ((ys.getD i .bad).cells.getD j .bad)):
 W1 g w g (w.setRow b c')∧Rl g (upd H id (some (.arr sz ys))) (w.setRow b c'):=by
 obtain⟨b',h1,hs,h2,h4,h6⟩:=h.blk id _ hk
 have e:b'=b:=by rw[hb]at h1;simp_all
 subst e
 rcases h6 with h6|⟨c0,T0,k1,k2,k3,k4,k5⟩
 ·omega
 rw[hw]at k2
 have e2:c0=c:=by grind
 subst e2;have hrow:=setRow_heap w b' c0 c' T (0,0) hw
 have s:W1 g w g (w.setRow b' c'):=by
  refine⟨fun _ _ e=>e,fun _ _ e=>e,fun _ _ e=>e,rfl,fun b o hf=>?_,Hk w b' c' k1,fun _ _ _=>rfl,D5 _⟩
  by_cases e:b=b'
  ·subst e
   have ho:o<(g.ow id).o:=by
    grind
   simp only[World.cell?,hrow,hw,Fm,D6,C7]
   grind
  grind[CB]
 have hat:∀x,g.at (upd H id (some (.arr sz ys))) x=g.at H x:=by
  grind[Gh.at,upd]
 have hid:g.at H id=some b':=by simp_all[Gh.at]
 refine⟨s,fun x k hx=>?_,fun x x' y h1 h2=>h.inj x x' y (hat x▸h1) (hat x'▸h2),fun y o hf=>?_,fun x hx=>?_,?_,fun n=>(h.glb n).mono s⟩
 ·by_cases hxe:x=id
  ·subst hxe;rw[E4]at hx;cases hx
   exact⟨b',hb,hs,h2.trans hl.symm,hz,.inr ⟨c',T,k1,hrow,by rw[hl];omega,fun i j hi hj=>⟨(hv i j hi hj).1,(hv i j hi hj).2.mono s⟩,k5⟩⟩
  rw[D2 _ _ hxe]at hx
  refine(h.blk x k hx).mono hx s fun y hy=>⟨R0 w b' c' y fun e=>?_,fun _ ho=>ho⟩;subst e;exact hxe (h.inj _ _ _ hy hid)
 ·obtain⟨v,hv'⟩:=h.frz y o hf;exact⟨v,(s.cell y o hf).trans hv'⟩
 ·obtain⟨a1,a2,a3⟩:=h.nxt x hx
  have hne:x≠id:=fun e=>by simp_all
  simp_all[upd]
 grind
def N8 (xs:List V)(lo n:Int):List V:=(xs.drop lo.toNat).take n.toNat
def Rl.freezeArr' {g:Gh} {H:A5} {w:World} (h:Rl g H w) {id sz:Nat} {xs:List V} (hk:H id=some (.arr sz xs)):
 ∃g',(g'.mu=g.mu∧g'.tk=g.tk∧g'.ow=g.ow)∧W1 g w g' w∧Rl g' (upd H id none) w∧∀v lo n,VR g' w v (.own id lo n)→VR g' w v (.sl (N8 xs lo n) .ro):=by
 obtain⟨b,h1,hs,h2,h4,h6⟩:=h.blk id _ hk
 by_cases hc:xs.length=0
 ·have hx:xs=[]:=List.length_eq_zero_iff.1 hc;refine⟨g,⟨rfl,rfl,rfl⟩,W1.refl _ _,h.less fun x k hx=>?_,fun v lo n hv=>?_⟩
  ·simp_all[upd]
  subst hx
  cases hv with
  |own hm h0 h1' h2' hp=>
   rename_i p
   have e1:lo=0:=by omega
   have e2:n=0:=by omega
   subst e1;subst e2;rw[show(g.ow id).cap=0 by omega]
   cases p with
   |none=>exact .sl0 rfl
   |some a=>exact .sle (.inl rfl)
 rcases h6 with h6|⟨c,T,k1,k2,k3,k4,k5⟩
 ·omega
 let g':Gh:={g with fz:=fun x o=>g.fz x o∨(x=b∧o<c.size)}
 have s:W1 g w g' w:=⟨fun _ _ e=>e,fun _ _ e=>e,fun _ _ e=>.inl e,rfl,fun _ _ _=>rfl,W6 _ _,fun _ _ _=>rfl,D5 _⟩
 have hid:g.at H id=some b:=by simp_all[Gh.at]
 have hcell:∀o,w.cell? ⟨b,o,none⟩=c[o]? :=fun o=>by simp[World.cell?,k2]
 have hat:∀x y,g'.at (upd H id none) x=some y→x≠id∧g.at H x=some y:=by
  grind[Gh.at,upd]
 have hlt:∀i j,i<xs.length→j<sz→(g.ow id).o+i*sz+j<c.size:=fun i j hi hj=>by
  have e1:=DC (n:=xs.length) hi hj;omega
 refine⟨g',⟨rfl,rfl,rfl⟩,s,⟨fun x k hx=>?_,fun x x' y h1 h2=>h.inj _ _ _ (hat _ _ h1).2 (hat _ _ h2).2,fun y o hf=>?_,fun x hx=>?_,h.bnd,fun n=>(h.glb n).mono s⟩,fun v lo n hv=>?_⟩
 ·have hxe:x≠id:=fun e=>by simp_all[upd]
  rw[D2 _ _ hxe]at hx
  refine(h.blk x k hx).mono hx s fun y hy=>⟨rfl,fun o ho=>?_⟩
  rcases ho with ho|⟨e,_⟩
  ·exact ho
  subst e;exact absurd (h.inj _ _ _ hy hid) hxe
 ·rcases hf with hf|⟨e,ho⟩
  ·exact h.frz y o hf
  simp_all
 ·obtain⟨a1,a2,a3⟩:=h.nxt x hx
  have hne:x≠id:=fun e=>by simp_all
  grind[upd]
 have hsub:∀i,i<n.toNat→(N8 xs lo n).getD i .bad=xs.getD (lo.toNat+i) .bad:=fun i hi=>by
  simp_all[N8]
 cases hv with
 | own hm h0 h1' h2' hp=>
  rename_i b' p;have hm':g.mu id=some b':=hm
  rw[h1]at hm';cases hm'
  have h2'':lo+n≤((g.ow id).cap:Nat):=h2'
  have hsl:(N8 xs lo n).length=n.toNat:=by grind[N8]
  show VR g' w (.slice p n.toNat ((g.ow id).cap-lo.toNat)) _
  by_cases hn:n=0
  ·subst hn
   have e0:N8 xs lo 0=[]:=by simp[N8]
   rw[e0]
   cases p with
   |none=>
    have:¬(lo<((g.ow id).cap:Nat)):=fun hlt=>by have:=hp hlt;cases this
    rw[show(g.ow id).cap-lo.toNat=0 by omega];exact .sl0 rfl
   |some a=>exact .sle (.inl rfl)
  have hlt2:lo<((g.ow id).cap:Nat):=by omega
  have hpe:=hp hlt2;rw[hpe];have hpe':(g'.ow id)=g.ow id:=rfl;rw[hpe',hs]
  refine .sl (sz:=sz) (fun i j=>c.getD ((g.ow id).o+(lo.toNat+i)*sz+j) undef) hsl (by omega) (fun i hi=>by rw[hsub i hi];grind) (fun i j hi hj=>?_) (fun i j hi hj=>?_)
   (fun i j hi hj=>(k4 _ j (by omega) hj).1) (fun i j hi hj=>by rw[hsub i hi];exact(k4 _ j (by omega) hj).2.mono s) trivial
  ·have:=hlt (lo.toNat+i) j (by omega) hj
   rw[I1]at this
   omega
  rw[hcell];have:=hlt (lo.toNat+i) j (by omega) hj
  rw[I1]at this ⊢
  rw[show(g.ow id).o+lo.toNat*sz+i*sz+j=(g.ow id).o+(lo.toNat*sz+i*sz)+j by omega]
  simp_all
def Rl.freezeArr {g:Gh}{H:A5}{w:World}(h:Rl g H w){id sz:Nat}{xs:List V}(hk:H id=some (.arr sz xs)):
 ∃g',W1 g w g' w∧Rl g' (upd H id none) w∧∀v lo n,VR g' w v (.own id lo n)→VR g' w v (.sl (N8 xs lo n) .ro):=
 let⟨g',_,h⟩:=h.freezeArr' hk;⟨g',h⟩
def Id (H:A5)(id:Nat):Option (Nat×List V):=
 match H id with
 |some (.arr sz xs)=>some (sz,xs)
 |_=>none
def FH {H:A5}{id sz:Nat}{xs:List V}(h:Id H id=some (sz,xs)):H id=some (.arr sz xs):=by
 grind[Id]
def AN3 (P:Program)(_H:A5)(t:TypeId)(v:V):Option V:=
 match Fd P t,v with
 |some _,.own _ _ n=>some (.int .i64 n)
 |_,_=>none
def Ab9 (P:Program) (H:A5) (t:TypeId) (v:V) (i:Int):Option V:=
 match Fd P t,v with
 |some e,.own id lo n=>
  match Id H id with
  |some (sz,_)=>if(0≤i∧i<n)∧Ev P e=some sz then some (.elem id (lo+i) sz 0)else none
  |none=>none
 |_,_=>none
def Nu (P:Program) (H:A5) (t:TypeId) (v:V):Option V:=
 match Zj P t,Ev P t,v with
 |some ag,some sz,.elem id i _ off=>
  match Id H id with
  |some (_,xs)=>if 0≤i∧i<xs.length then GT ag sz (xs.getD i.toNat .bad).cells off else none
  |none=>none
 |_,_,_=>none
def VU (x:V)(esz sz off:Nat)(y:V):V:=
 match Nat.beq off 0&&Nat.beq sz esz with
 |true=>y
 |false=>.agg (V4 x.cells off y.cells)
def VB (P:Program) (H:A5) (t:TypeId) (v y:V):Option A5:=
 match Ev P t,v with
 | some sz,.elem id i esz off=>
  match Id H id with
  |some (sz',xs)=>
   if(0≤i∧i<xs.length)∧sz'=esz∧y.one=true∧y.cells.length=sz∧off+sz≤esz then some (upd H id (some (.arr esz (xs.set i.toNat (VU (xs.getD i.toNat .bad) esz sz off y)))))else none
  |none=>none
 |_,_=>none
def ZV {x y:V}{esz sz off:Nat}(hx:x.cells.length=esz)(hy:y.cells.length=sz)(h:off+sz≤esz):(VU x esz sz off y).cells=V4 x.cells off y.cells:=by
 unfold VU
 split
 ·simp_all[V4]
 rfl
section
variable {P:Program}{o:Oper}{fr:Fr}{H:A5}{K:V→A5→Prop}
theorem Ay1 {y:Operand} {t:TypeId} {x:V} (ho:o.op= .call {callee:=.builtin .len,args:= #[y],argTypes:= #[t]}) (hl:AN3 P H t (ev fr y)=some x) (h:K x H):J2 P o fr H K:=by
 intro g w a hR hE;have hv:=E8 hR hE y;rw[R4 ho];simp only[builtin,Z9,E9,J3,C6]
 unfold AN3 at hl
 split at hl
 ·rename_i e id lo n hse he
  rw[he]at hv
  cases hl;have hu:=Q9 hse
  generalize a.eval y=v at hv
  cases hv with
  |own hm h0 h1 h2 hp=>
   simp[Builtin.len_,run_underlying hu,goInt];rw[show(max n 0:Int)=n by omega];exact N5.here hR (.int _ _) h
 cases hl
theorem Ay2 {t:TypeId} {y z:Operand} {k:IntKind} {i:Int} {x:V} (ho:o.op= .indexAddr t y z) (hz:ev fr z= .int k i) (hl:Ab9 P H t (ev fr y) i=some x) (h:K x H):J2 P o fr H K:=by
 intro g w a hR hE;have hv:=E8 hR hE y;have hi:=E8 hR hE z
 rw[hz]at hi
 have hi:=hi.int_inv
 unfold Ab9 at hl
 split at hl
 ·rename_i e id lo n hse he
  rw[he]at hv
  split at hl
  ·rename_i sz xs hx
   split at hl
   ·rename_i hc;cases hl;obtain⟨b',k1,hs,k2,k3,k4⟩:=hR.blk id _ (FH hx);have hu:=Q9 hse
    generalize hav:a.eval y=v at hv
    cases hv with
    |own hm h0 h1 h2 hp=>
     have hlt:lo<((g.ow id).cap:Nat):=by omega
     have hpe:=hp hlt;subst hpe;unfold execOp;rw[ho];have c1:=hc.1.1
     have c2:i<(n.toNat:Int):=by omega
     simp only[hav,hi,Instr.indexAt,asIntOf,C6,D1,C1,run_underlying hu,c1,c2,and_self,B4,Q3 hc.2,H9,Aj];refine N5.here hR ?_ h;have:=VR.elem (g:=g) (w:=w) (i:=lo+i) (off:=0) hm hs;rw[hs]
     rw[show(lo+i).toNat=lo.toNat+i.toNat by omega,I1,BX,←CF]at this
     exact this
   cases hl
  cases hl
 cases hl
theorem An1 {t:TypeId} {y:Operand} {x:V} (ho:o.op= .load t y) (hl:Nu P H t (ev fr y)=some x) (h:K x H):J2 P o fr H K:=by
 intro g w a hR hE;have hv:=E8 hR hE y
 unfold Nu at hl
 split at hl
 ·rename_i ag sz id i esz off ha hs he
  rw[he]at hv
  split at hl
  ·rename_i sz0 xs hx
   split at hl
   ·rename_i hc
    generalize hav:a.eval y=v at hv
    cases hv with
    | elem hm hsz=>
     rename_i b;obtain⟨b',h1,hs0,h2,h4,h6⟩:=hR.blk id _ (FH hx)
     rw[hm]at h1;cases h1
     subst hs0
     have hlt:i.toNat<xs.length:=by omega
     rcases h6 with h6|⟨c,T,k1,k2,k3,k4,k5⟩
     ·omega
     have hcells:WI g w b ((g.ow id).o+i.toNat*(g.ow id).sz) (xs.getD i.toNat .bad).cells:=fun j hj=>by
      have hj':j<(g.ow id).sz:=by rw[←h4 _ hlt];exact hj
      have e1:=DC (n:=xs.length) hlt hj';have e2:xs.length*(g.ow id).sz≤(g.ow id).cap*(g.ow id).sz:=K5 _ (by omega);refine⟨_,?_,(k4 _ j hlt hj').1,(k4 _ j hlt hj').2⟩;simp[World.cell?,k2,Array.getD,show(g.ow id).o+i.toNat*(g.ow id).sz+j<c.size by omega]
     obtain⟨u,hu,hr⟩:=HP (P:=P) hcells ha hs hl;unfold execOp;rw[ho]
     rw[←hsz]at hav
     simp only[hav,Instr.loadAt,Instr.sureAddr,C6,D1,C1,hu,H9]
     grind[N5.here]
   cases hl
  cases hl
 cases hl
theorem ZD {t:TypeId} {y z:Operand} {zV:V} {H':A5} (ho:o.op= .store t y z) (hle:Cp (ev fr z) zV) (hl:VB P H t (ev fr y) zV=some H') (h:K .bad H'):J2 P o fr H K:=by
 intro g w a hR hE;have hv:=E8 hR hE y;have hz:=(E8 hR hE z).le hle
 unfold VB at hl
 split at hl
 ·rename_i sz id i esz off hs he
  rw[he]at hv
  split at hl
  ·rename_i sz0 xs hx
   split at hl
   ·rename_i hc;obtain⟨hb,hs1,hone,hysz,hfit⟩:=hc;cases hl
    generalize hav:a.eval y=v at hv
    cases hv with
    | elem hm hsz=>
     rename_i b;have hk:=FH hx;obtain⟨b',h1,hs0,h2,h4,h6⟩:=hR.blk id _ hk
     rw[hm]at h1;cases h1
     have hs1:=hs1.symm;subst hs1
     have hlt:i.toNat<xs.length:=by omega
     rcases h6 with h6|⟨c,T,k1,k2,k3,k4,k5⟩
     ·omega
     obtain⟨hcs,hcv⟩:=hz.cells hone
     have hzs:(a.eval z).cells.size=sz:=by rw[hcs,hysz]
     have hmem:∀v∈(a.eval z).cells.toList,v.oneCell'=true:=by
      intro v hv;obtain⟨j,hj,rfl⟩:=AC hv
      have hj':j<(a.eval z).cells.size:=by omega
      have:=(hcv j (by omega)).1
      simp_all
     have hcap0:xs.length≠0:=by omega
     have e2:xs.length*esz≤(g.ow id).cap*esz:=K5 _ (by omega);have e3:(i.toNat+1)*esz≤xs.length*esz:=K5 _ (by omega)
     rw[I1,BV]at e3
     generalize hA:(g.ow id).o+i.toNat*esz+off=A
     have hAl:A+sz≤c.size:=by rw[←hA];omega
     have hst:=run_storeCells_at P b A T (a.eval z).cells.toList 0 c w k2 (by simp;omega) hmem
     generalize hC:(c.toList.take (A+0)++(a.eval z).cells.toList++c.toList.drop (A+0+(a.eval z).cells.toList.length)).toArray=C at hst
     have hCs:C.size=c.size:=by rw[←hC];simp;omega
     have hCg:∀j,j<c.size→C[j]? =if A≤j∧j<A+sz then(a.eval z).cells[j-A]? else c[j]? :=by
      intro j hlt;rw[←hC];simp only[BX,V3,G1];rw[CH,CH];simp only[BZ,IA,Gl (show A≤c.size by omega),Hy,Hx,DQ]
      by_cases q1:j<A
      ·rw[A2 q1,A2 q1,A1 (by omega)]
      rw[A1 q1]
      by_cases q2:j<A+sz
      ·rw[A2 (by omega),A2 ⟨by omega,q2⟩]
      rw[A1 (by omega),A1 (by omega),show A+(a.eval z).cells.size+(j-A-(a.eval z).cells.size)=j by omega]
     have hlen:=h4 _ hlt;have hpc:=ZV (x:=xs.getD i.toNat .bad) (y:=zV) hlen hysz hfit
     have hget:∀k,k<xs.length→(xs.set i.toNat (VU (xs.getD i.toNat .bad) esz sz off zV)).getD k .bad=if k=i.toNat then VU (xs.getD i.toNat .bad) esz sz off zV else xs.getD k .bad:=by
      grind
     have hset:=hR.setArr (c':=C) (ys:=xs.set i.toNat (VU (xs.getD i.toNat .bad) esz sz off zV)) hk hm hcap0 k2 hCs (fun q hq=>by
      grind) (by simp) (fun k hk'=>by
      have hk2:k<xs.length:=by grind
      rw[hget k hk2]
      grind[Bq]) (fun k j hk' hj=>by
      have hk2:k<xs.length:=by grind
      rw[hget k hk2];have e1:=DC (n:=xs.length) hk2 hj
      have hin:(g.ow id).o+k*esz+j<c.size:=by omega
      have hCd:C.getD ((g.ow id).o+k*esz+j) undef=if A≤(g.ow id).o+k*esz+j∧(g.ow id).o+k*esz+j<A+sz then(a.eval z).cells.getD ((g.ow id).o+k*esz+j-A) undef else c.getD ((g.ow id).o+k*esz+j) undef:=by
       simp only[O3,hCg _ hin]
       split<;>rfl
      rw[hCd]
      by_cases hki:k=i.toNat
      ·subst hki;rw[A2 rfl,hpc,Jb (by rw[hysz,hlen];omega),hysz];rw[←hA]
       grind
      rw[A1 hki]
      have hne:¬(A≤(g.ow id).o+k*esz+j∧(g.ow id).o+k*esz+j<A+sz):=by
       rw[←hA];rintro⟨q1,q2⟩
       rcases Nat.lt_or_gt_of_ne hki with hlt'|hgt
       ·have:=K5 esz (show k+1≤i.toNat by omega)
        rw[I1,BV]at this
        omega
       have:=K5 esz (show i.toNat+1≤k by omega)
       rw[I1,BV]at this
       omega
      rw[A1 hne]
      grind)
     unfold execOp;rw[ho]
     rw[hA]at hav
     simp only[hav,Instr.storeAt,Instr.sureAddr,storeVar,C6,D1,C1,Q3 hs w,hzs,ne_eq,Ca,C7,hst,H9];exact⟨g,.bad,_,hset.1,hset.2,.bad _,h⟩
   cases hl
  cases hl
 cases hl
end
def Ek {g:Gh} {H:A5} {w:World} (hR:Rl g H w) (sz:Nat) {v:Value} {x:V} (hx:x= .sl [] .nil∨x= .sl [] .full) (hv:VR g w v x):
 ∃g',W1 g w g' w∧Rl g' (upd H g.nx (some (.arr sz []))) w∧H g.nx=none∧VR g' w v (.own g.nx 0 0):=by
 obtain⟨s,r,hn⟩:=Rl.newArr (w':=w) hR (b:=0) (o:=0) (sz:=sz) (ys:=[]) (fun i hi=>by simp at hi) (fun _ _ _=>rfl) (W6 _ _) (fun _ _ _=>rfl) (.inl rfl);refine⟨_,s,r,hn,?_⟩
 have key:∀p:Option Addr,VR (g.own 0 ⟨0,0,sz⟩) w (.slice p 0 0) (.own g.nx 0 0):=fun p=>by
  have e:(g.own 0 ⟨0,0,sz⟩).ow g.nx=⟨0,0,sz⟩:=by simp[Gh.own]
  have:=VR.own (g:=g.own 0 ⟨0,0,sz⟩) (w:=w) (id:=g.nx) (b:=0) (lo:=0) (n:=0) (p:=p) (by simp[Gh.own]) (by omega) (by omega) (by rw[e];simp) (by rw[e];simp)
  rw[e]at this
  exact this
 rcases hx with rfl|rfl
 ·cases hv with
  |sl0 ht=>grind
  |sle h=>rcases h with h|⟨h,_⟩<;>cases h
  |sl vs hn hc hz hf hw h1 hv ht=>exact ht.elim
 cases hv with
 |sl0 ht=>grind
 |@sle a c t h=>
  simp_all
 |sl vs hn hc hz hf hw h1 hv ht=>
  simp_all[GP]
section
variable {P:Program}{o:Oper}{fr:Fr}{H:A5}{K:V→A5→Prop}
theorem Xh {t:TypeId} {l c:Operand} {e:TypeId} {k1 k2:IntKind} {n m:Int} {sz by_:Nat} {z:V} (ho:o.op= .makeSlice t l c) (hl:ev fr l= .int k1 n) (hc:ev fr c= .int k2 m) (he:Fd P t=some e) (hsz:Ev P e=some sz)
 (hpos:0<sz) (hby:Qj P e=some by_) (hbp:0<by_) (hz:ID P e=some z) (hz1:z.one=true) (hzl:z.cells.length=sz) (h0:0≤n) (h1:n≤m) (h2:m*by_≤281474976710656)
 (h:∀id,H id=none→K (.own id 0 n) (upd H id (some (.arr sz (List.replicate m.toNat z))))):J2 P o fr H K:=by
 intro g w a hR hE;have hl':=E8 hR hE l;have hc':=E8 hR hE c
 rw[hl]at hl';rw[hc]at hc'
 have hl':=hl'.int_inv;have hc':=hc'.int_inv;have hu:=Q9 he;obtain⟨zv,ez,hzv⟩:=Dg hz
 have hzr:VR g w zv z:=by rw[ez];grind[Ec]
 obtain⟨hzs',hzc⟩:=hzr.cells hz1
 have hzs:zv.cells.size=sz:=by rw[hzs',hzl]
 have hbi:∀w,(typeInfo e).run P w= .ok ((P.info? e).getD default) w∧((P.info? e).getD default).bytes=by_:=by
  intro w
  unfold Qj at hby
  cases hi:P.info? e with
  |none=>simp_all
  |some i=>simp[hi]at hby;simp[typeInfo,hi,hby]
 have hb1:∀w,(typeInfo e).run P w= .ok ((P.info? e).getD default) w:=fun w=>(hbi w).1;have hb2:=(hbi w).2
 have hmb:m≤281474976710656:=by
  have:m*1≤m*by_:=Int.mul_le_mul_of_nonneg_left (by omega) (by omega);omega
 have hw1:IntKind.i64.wrap n=n:=wrap_small n h0 (by omega);have hw2:IntKind.i64.wrap m=m:=wrap_small m (by omega) (by omega);have hcm:(by_:Int)*m=m*by_:=Int.mul_comm _ _;generalize hA:(if m.toNat*sz=0 then(#[]:Array Value)else zv.cells)=A;generalize hC:(Array.range (m.toNat*sz)).map (fun i=>A[i % A.size]!)=C
 have hCs:C.size=m.toNat*sz:=by rw[←hC];simp
 have hrun:(Instr.makeSlice t (.int k1 n) (.int k2 m)).run P w= .ok (.slice (some ⟨w.heap.size,0,none⟩) n.toNat m.toNat) (w.alloc (.cells C e)):=by
  have t1:¬(m<0):=by omega
  have t2:¬(281474976710656<(by_:Int)*m):=by omega
  have t3:¬(n<0):=by omega
  have t4:¬(m<n):=by omega
  simp only[Instr.makeSlice,C6,run_underlying hu,C1,asInt,asIntOf,D1,hb1,hb2,hw1,hw2];simp only[gt_iff_lt,t1,t3,t4,Ll,DN,Bool.or_false,Int.reducePow,t2,D6,C7,C6,C1,run_askRoom,Q3 hsz]
  by_cases h0:m.toNat*sz=0
  ·rw[A2 h0]at hA
   rw[A2 h0];subst hA;simp[newRow,run_newObj,←hC,Eg]
  rw[A1 h0]at hA
  rw[A1 h0];subst hA;simp[newRow,run_newObj,hC,Eg,C6,hzv]
 have hn:n.toNat≤m.toNat:=by omega
 have hCg:∀k,k<m.toNat*sz→C.getD k undef=zv.cells.getD (k % sz) undef:=by
  intro k hk
  have hne:m.toNat*sz≠0:=by omega
  rw[A1 hne]at hA
  subst hA;rw[←hC]
  have hlt:k % sz<zv.cells.size:=by rw[hzs];simp_all[Fh]
  simp only[O3,Array.getElem?_map,Array.getElem?_range,hk,B4,K4,Fi,hzs];simp[hlt]
 have hrep:∀i,i<m.toNat→(List.replicate m.toNat z).getD i .bad=z:=fun i hi=>by simp_all
 have hlen:(List.replicate m.toNat z).length=m.toNat:=by simp
 obtain⟨s,r,hnone⟩:=Rl.newArr (w':=w.alloc (.cells C e)) hR (b:=w.heap.size) (o:=0) (sz:=sz) (ys:=List.replicate m.toNat z)
  (fun i hi=>by rw[hrep i (by omega)];exact hzl) (fun b q hf=>Db (hR.fz_lt hf)) ((W6 _ _).alloc hR.bnd _) (fun x _ hlt=>heap_alloc hlt)
  (.inr ⟨C,e,hR.bnd,BK,by simp[hCs],fun i j hi hj=>by
   have hi':i<m.toNat:=by omega
   have e1:=DC (n:=m.toNat) hi' hj;rw[hrep i hi',L8,hCg _ e1,(S6 hj).2]
   simp_all,fun q _ hf=>absurd (hR.fz_lt hf) (T9 _),fun id hid=>absurd (hR.lt hid) (T9 _)⟩)
 unfold execOp;rw[ho];simp only[hl',hc',C6,hrun,C1,D1,H9];refine⟨_,_,_,s,r,?_,h g.nx hnone⟩;rw[hlen]
 have e':(g.own w.heap.size ⟨0,m.toNat,sz⟩).ow g.nx=⟨0,m.toNat,sz⟩:=by simp[Gh.own]
 have:=VR.own (g:=g.own w.heap.size ⟨0,m.toNat,sz⟩) (w:=w.alloc (.cells C e)) (id:=g.nx) (b:=w.heap.size) (lo:=0) (n:=n) (p:=some ⟨w.heap.size,0,none⟩) (by simp[Gh.own]) (by omega) h0 (by rw[e'];simp_all) (by rw[e'];simp)
 rw[e']at this
 exact this
end
def AP (xs:List V)(i:Nat)(ys:List V):List V:=xs.take i++ys++xs.drop (i+ys.length)
def El {xs ys:List V}{i:Nat}(h:i+ys.length≤xs.length):(AP xs i ys).length=xs.length:=by grind[AP]
def UH {xs ys:List V}{i k:Nat}(h:i+ys.length≤xs.length):(AP xs i ys).getD k .bad=if i≤k∧k<i+ys.length then ys.getD (k-i) .bad else xs.getD k .bad:=by
 simp only[AP,Cd];rw[CH,CH]
 grind
def TR (H:A5)(v:V):Option (List V):=
 match v with
 | .sl xs _=>some xs
 | .own id lo n=>(Id H id).map fun q=>N8 q.2 lo n
 |_=>none
def H9.mono {P:Program} {K K':Value→World→Prop} (h:∀v w,K v w→K' v w) {r:Result Next} (hr:H9 P K r):H9 P K' r:=by
 cases r with
 |halt x w=>exact hr
 | ok n w=>
  cases n<;>first
   |exact h _ _ hr
   |exact CallsIn.mono hr fun e w' ⟨v,e1,e2⟩=>⟨v,e1,h _ _ e2⟩
   |exact RoundIn.mono hr fun e w' ⟨v,e1,e2⟩=>⟨v,e1,h _ _ e2⟩
   |exact hr
section
variable {P:Program}{o:Oper}{fr:Fr}{H:A5}{K:V→A5→Prop}
def VR.ownN {g:Gh}{w:World}{b o cap sz:Nat}{n:Int}(h1:0≤n)(h2:n≤cap):VR (g.own b ⟨o,cap,sz⟩) w (.slice (some ⟨b,o,none⟩) n.toNat cap) (.own g.nx 0 n):=by
 have e':(g.own b ⟨o,cap,sz⟩).ow g.nx=⟨o,cap,sz⟩:=by simp[Gh.own]
 have:=VR.own (g:=g.own b ⟨o,cap,sz⟩) (w:=w) (id:=g.nx) (b:=b) (lo:=0) (n:=n) (p:=some ⟨b,o,none⟩) (by simp[Gh.own]) (by omega) h1 (by rw[e'];simp_all) (by rw[e'];simp)
 rw[e']at this
 exact this
def EL {g:Gh} {H:A5} {w:World} (hR:Rl g H w) {id sz:Nat} {lo n:Int} {xs:List V} {v:Value} (hk:H id=some (.arr sz xs)) (hv:VR g w v (.own id lo n)):
 ∃ b p,g.mu id=some b∧v= .slice p n.toNat (xs.length-lo.toNat)∧0≤lo∧0≤n∧lo+n≤(xs.length:Nat)∧(g.ow id).sz=sz∧(g.ow id).cap=xs.length∧
  (lo<(xs.length:Nat)→p=some ⟨b,(g.ow id).o+lo.toNat*sz,none⟩)∧(∀i,i<xs.length→(xs.getD i .bad).cells.length=sz)∧
  (xs.length=0∨∃c T,g.base≤b∧w.heap[b]? =some (.cells c T (0,0))∧(g.ow id).o+xs.length*sz≤c.size∧
   (∀i j,i<xs.length→j<sz→(c.getD ((g.ow id).o+i*sz+j) undef).oneCell'=true∧VR g w (c.getD ((g.ow id).o+i*sz+j) undef) ((xs.getD i .bad).cells.getD j .bad))∧
   (∀o,(g.ow id).o≤o→¬g.fz b o)∧g.at H id=some b):=by
 obtain⟨b,h1,h2,h3,h4,h5⟩:=hR.blk id _ hk
 cases hv with
 |own hm h0 h1' h2' hp=>
  rename_i p
  rw[h1]at hm;cases hm
  rw[h3]at h2' hp
  rw[h2]at hp
  refine⟨b,p,h1,by rw[h3],h0,h1',h2',h2,h3,hp,h4,?_⟩
  grind[Gh.at]
def JH (P:Program) {g:Gh} {H:A5} {w:World} (hR:Rl g H w) {x:V} {v:Value} {xs:List V} {sz:Nat} (hx:TR H x=some xs) (hv:VR g w v x) (hall:xs.all (fun x=>x.cells.length==sz)=true):
 ∃(base:Option Addr) (cap:Nat) (vs:Nat→Nat→Value),v= .slice base xs.length cap∧
  (∀i j,i<xs.length→j<sz→(vs i j).oneCell'=true∧VR g w (vs i j) ((xs.getD i .bad).cells.getD j .bad))∧
  (∀m,m≤xs.length→∀w':World,(∀b o,w'.cell? ⟨b,o,none⟩=w.cell? ⟨b,o,none⟩)→(Builtin.firstCells sz m v).run P w'= .ok ((List.range (m*sz)).map fun k=>vs (k / sz) (k % sz)).toArray w'):=by
 unfold TR at hx
 split at hx
 ·cases hx;obtain⟨base,cap,vs,h1,_,h2,h3,h4⟩:=Eh (P:=P) hv hall;refine⟨base,cap,vs,h1,h2,fun m hm w' hw'=>?_⟩
  rcases h4 with⟨rfl,_,_⟩|⟨b,q,rfl,h5,_⟩
  ·have:m=0:=by grind
   simp_all
  rw[h1];simp only[Builtin.firstCells];refine run_loadCells w' _ _ _ fun k hk=>?_
  have hp:0<sz:=by
   grind
  have hi:k / sz<m:=(RH hp).2 hk;have hj:k % sz<sz:=Fh _ hp;rw[Aj,hw']
  have e3:q+k=q+k / sz*sz+k % sz:=by have:=Qx k sz;rw[Nat.mul_comm]at this;omega
  rw[e3]
  grind
 ·rename_i id lo n
  cases ha:Id H id with
  |none=>rw[ha]at hx;cases hx
  | some q=>
   obtain⟨sz0,zs⟩:=q
   rw[ha]at hx
   simp only[K4,E6]at hx
   subst hx;obtain⟨b,p,h1,h2,h3,h4,h5,h6,h7,h8,h9,h10⟩:=EL hR (FH ha) hv
   have hl:(N8 zs lo n).length=n.toNat:=by grind[N8]
   rw[hl]
   have hsub:∀i,i<n.toNat→(N8 zs lo n).getD i .bad=zs.getD (lo.toNat+i) .bad:=fun i hi=>by
    grind[N8]
   by_cases hn:n.toNat=0
   ·rw[hn]at h2 ⊢
    refine⟨_,_,fun _ _=>undef,h2,fun i j hi=>by omega,fun m hm w' _=>?_⟩
    have:m=0:=by omega
    subst this;subst h2
    cases p with
    |none=>simp[Builtin.firstCells]
    |some q=>simp[Builtin.firstCells,loadCells,loadCellsFrom]
   have hlt:lo<(zs.length:Nat):=by omega
   rcases h10 with h10|⟨c,T,k1,k2,k3,k4,k5,k6⟩
   ·omega
   have hp:=h8 hlt;subst hp
   have hse:sz0=sz:=by
    have e1:=h9 (lo.toNat+0) (by omega);have e2:=(List.all_eq_true.1 hall) ((N8 zs lo n).getD 0 .bad) (by grind)
    rw[hsub 0 (by omega)]at e2
    rw[←e1];grind
   subst hse;refine⟨_,_,fun i j=>c.getD ((g.ow id).o+(lo.toNat+i)*sz0+j) undef,h2,fun i j hi hj=>?_,fun m hm w' hw'=>?_⟩
   ·rw[hsub i hi];grind
   subst h2;simp only[Builtin.firstCells]
   have hp:0<sz0∨sz0=0:=by omega
   refine run_loadCells w' _ _ _ fun k hk=>?_
   rcases hp with hp|hp
   ·have hi:k / sz0<n.toNat:=Nat.lt_of_lt_of_le ((RH hp).2 hk) hm;have hj:k % sz0<sz0:=Fh _ hp;have e1:=DC (n:=zs.length) (i:=lo.toNat+k / sz0) (by omega) hj;rw[Aj,hw']
    have e3:(g.ow id).o+lo.toNat*sz0+k=(g.ow id).o+(lo.toNat+k / sz0)*sz0+k % sz0:=by
     have:=Qx k sz0;rw[Nat.mul_comm]at this;rw[I1];omega
    rw[e3];simp[World.cell?,k2,Array.getD,show(g.ow id).o+(lo.toNat+k / sz0)*sz0+k % sz0<c.size by omega]
   simp_all
 cases hx
def Aj2 {c C:Array Value}{A m:Nat}{vs:List Value}(hm:vs.length=m)(hA:A+m≤c.size)(hC:(c.toList.take A++vs++c.toList.drop (A+m)).toArray=C):
 C.size=c.size∧∀k,k<c.size→C[k]? =if A≤k∧k<A+m then vs[k-A]? else c[k]? :=by
 subst hC;refine⟨by simp;omega,fun k hk=>?_⟩
 grind
def Aj3 (P:Program) {g:Gh} {H:A5} {w:World} (hR:Rl g H w) {id sz i m:Nat} {xs ys:List V} {b:Nat} {c:Array Value} {T:TypeId} (hpos:0<sz) (hk:H id=some (.arr sz xs)) (hb:g.mu id=some b)
 (hsz:(g.ow id).sz=sz) (hin:i+ys.length≤xs.length) (hnz:xs.length≠0) (hm:ys.length=m)
 (k2:w.heap[b]? =some (.cells c T (0,0))) (k3:(g.ow id).o+xs.length*sz≤c.size)
 (k4:∀i j,i<xs.length→j<sz→(c.getD ((g.ow id).o+i*sz+j) undef).oneCell'=true∧VR g w (c.getD ((g.ow id).o+i*sz+j) undef) ((xs.getD i .bad).cells.getD j .bad))
 (hlenx:∀i,i<xs.length→(xs.getD i .bad).cells.length=sz) (hleny:∀i,i<ys.length→(ys.getD i .bad).cells.length=sz) (fy:Nat→Nat→Value)
 (hfy:∀i j,i<ys.length→j<sz→(fy i j).oneCell'=true∧VR g w (fy i j) ((ys.getD i .bad).cells.getD j .bad)):
 ∃C,(storeCells ⟨b,(g.ow id).o+i*sz,none⟩ ((List.range (m*sz)).map fun k=>fy (k / sz) (k % sz))).run P w= .ok () (w.setRow b C)∧
  W1 g w g (w.setRow b C)∧Rl g (upd H id (some (.arr sz (AP xs i ys)))) (w.setRow b C):=by
 subst hm;have hadd:(i+ys.length)*sz=i*sz+ys.length*sz:=I1 _ _ _;have hcapsz:(i+ys.length)*sz≤xs.length*sz:=K5 _ hin
 have hmem:∀v∈((List.range (ys.length*sz)).map fun k=>fy (k / sz) (k % sz)),v.oneCell'=true:=by
  grind[Nat.div_lt_iff_lt_mul,Nat.mod_lt]
 have hst:=run_storeCells_at P b ((g.ow id).o+i*sz) T ((List.range (ys.length*sz)).map fun k=>fy (k / sz) (k % sz)) 0 c w k2 (by simp;omega) hmem
 generalize hC:(c.toList.take ((g.ow id).o+i*sz+0)++((List.range (ys.length*sz)).map fun k=>fy (k / sz) (k % sz))++
  c.toList.drop ((g.ow id).o+i*sz+0+((List.range (ys.length*sz)).map fun k=>fy (k / sz) (k % sz)).length)).toArray=C at hst
 have hL:((List.range (ys.length*sz)).map fun k=>fy (k / sz) (k % sz)).length=ys.length*sz:=by simp
 rw[hL,BX]at hC
 obtain⟨hCs,hCg⟩:=Aj2 hL (by omega) hC;refine⟨C,hst,?_⟩;refine hR.setArr hk hb hnz k2 hCs (fun o ho=>?_) (El hin) (fun j hj=>?_) (fun j t hj ht=>?_)
 ·grind
 ·rw[El hin]at hj
  rw[UH hin]
  grind
 rw[El hin]at hj
 have e1:=DC (n:=xs.length) hj ht
 have hin':(g.ow id).o+j*sz+t<c.size:=by omega
 rw[UH hin];simp only[O3,hCg _ hin']
 by_cases hji:i≤j∧j<i+ys.length
 ·have h1:i*sz≤j*sz:=K5 _ hji.1;have h2:=DC (n:=i+ys.length) hji.2 ht;have h3:(j-i)*sz=j*sz-i*sz:=CE _ _ _;rw[A2 ⟨by omega,by omega⟩,A2 hji,show(g.ow id).o+j*sz+t-((g.ow id).o+i*sz)=(j-i)*sz+t by omega,Aa,Hz (by have:=DC (n:=ys.length) (i:=j-i) (by omega) ht;omega)];simp only[K4,Fi,(S6 ht).1,(S6 ht).2]
  grind
 have hne:¬((g.ow id).o+i*sz≤(g.ow id).o+j*sz+t∧(g.ow id).o+j*sz+t<(g.ow id).o+i*sz+ys.length*sz):=by
  rintro⟨q1,q2⟩
  rcases Q6 j i with h|h
  ·have:=K5 sz (show j+1≤i by omega)
   rw[I1,BV]at this
   omega
  have h':i+ys.length≤j:=by omega
  have:=K5 sz h';omega
 rw[A1 hne,A1 hji];have:=k4 j t hj ht
 simp_all
def BQ {xs:List V}{lo n:Int}(h0:0≤lo)(h1:0≤n)(h2:lo+n≤(xs.length:Nat)):(N8 xs lo n).length=n.toNat:=by grind[N8]
def PJ {xs:List V}{lo n:Int}{i:Nat}(hi:i<n.toNat):(N8 xs lo n).getD i .bad=xs.getD (lo.toNat+i) .bad:=by
 simp_all[N8]
def ML {xs:List V}{sz:Nat}(h:∀i,i<xs.length→(xs.getD i .bad).cells.length=sz):xs.all (fun x=>x.cells.length==sz)=true:=by
 rw[Gr]
 grind[List.getElem_of_mem]
def GB {xs:List V}{sz:Nat}(h:xs.all (fun x=>x.cells.length==sz)=true):∀i,i<xs.length→(xs.getD i .bad).cells.length=sz:=fun i hi=>by
 have:=(List.all_eq_true.1 h) (xs.getD i .bad) (by simp_all)
 simp_all
def Al4 {g:Gh} {w:World} {H:A5} {K:V→A5→Prop} (hR:Rl g H w) {e:TypeId} {sz G:Nat} {z:V} {xs ys:List V} {zv:Value} (hpos:0<sz) (hzv:VR g w zv z) (hz1:z.one=true) (hzl:z.cells.length=sz)
 (hlenx:∀i,i<xs.length→(xs.getD i .bad).cells.length=sz) (hleny:∀i,i<ys.length→(ys.getD i .bad).cells.length=sz) {fs fy:Nat→Nat→Value}
 (hfs:∀i j,i<xs.length→j<sz→(fs i j).oneCell'=true∧VR g w (fs i j) ((xs.getD i .bad).cells.getD j .bad))
 (hfy:∀i j,i<ys.length→j<sz→(fy i j).oneCell'=true∧VR g w (fy i j) ((ys.getD i .bad).cells.getD j .bad)) (hGe:xs.length+ys.length≤G) {m:Int} (hm:m=((xs.length+ys.length:Nat):Int))
 (hout:∀t k,H t=none→K (.own t 0 m) (upd H t (some (.arr sz (xs++ys++List.replicate k z))))):
 N5 g w K (.slice (some ⟨w.heap.size,0,none⟩) (xs.length+ys.length) G)
  (w.drew.alloc (.cells (((List.range (xs.length*sz)).map fun k=>fs (k / sz) (k % sz)).toArray++((List.range (ys.length*sz)).map fun k=>fy (k / sz) (k % sz)).toArray++
   Builtin.zeroCells zv.cells (G-(xs.length+ys.length))) e)):=by
 obtain⟨hzs',hzc⟩:=hzv.cells hz1
 have hzs:zv.cells.size=sz:=by rw[hzs',hzl]
 generalize hC:((List.range (xs.length*sz)).map fun k=>fs (k / sz) (k % sz)).toArray++((List.range (ys.length*sz)).map fun k=>fy (k / sz) (k % sz)).toArray++Builtin.zeroCells zv.cells (G-(xs.length+ys.length))=C;have hadd:(xs.length+ys.length)*sz=xs.length*sz+ys.length*sz:=I1 _ _ _;have hGs:(xs.length+ys.length)*sz≤G*sz:=K5 _ hGe
 have hCs:C.size=G*sz:=by
  rw[←hC]
  grind[size_zeroCells,Nat.sub_mul]
 have hCg:∀k,k<(xs.length+ys.length)*sz→C[k]? =some (if k<xs.length*sz then fs (k / sz) (k % sz)else fy ((k-xs.length*sz) / sz) ((k-xs.length*sz) % sz)):=by
  grind
 have hCz:∀k,(xs.length+ys.length)*sz≤k→k<G*sz→C[k]? =zv.cells[(k-(xs.length+ys.length)*sz) % sz]? :=by
  intro k hk hk2;rw[←hC,HC,A1 (by simp;omega)];simp only[LH,Hv,Q7,CG];rw[show k-(xs.length*sz+ys.length*sz)=k-(xs.length+ys.length)*sz by omega];have hs:=size_zeroCells zv.cells (G-(xs.length+ys.length))
  have hlt:k-(xs.length+ys.length)*sz<(G-(xs.length+ys.length))*sz:=by rw[CE];omega
  generalize k-(xs.length+ys.length)*sz=q at hlt ⊢
  have hq:q % sz<zv.cells.size:=by rw[hzs];simp_all[Fh]
  unfold Builtin.zeroCells
  simp_all
 have hcellp:∀x o,g.fz x o→(w.drew.alloc (.cells C e)).cell? ⟨x,o,none⟩=w.cell? ⟨x,o,none⟩:=fun x o hf=>Db (w:=w.drew) (hR.fz_lt hf);have hbel:Below g.base w (w.drew.alloc (.cells C e)):=(W6 _ _).drew.alloc hR.bnd _
 have hln:(xs++ys++List.replicate (G-(xs.length+ys.length)) z).length=G:=by simp;omega
 have hget:∀i,i<G→(xs++ys++List.replicate (G-(xs.length+ys.length)) z).getD i .bad=if i<xs.length then xs.getD i .bad else if i<xs.length+ys.length then ys.getD (i-xs.length) .bad else z:=by
  grind
 obtain⟨s,r,hnone⟩:=Rl.newArr (w':=w.drew.alloc (.cells C e)) hR (b:=w.heap.size) (o:=0) (sz:=sz) (ys:=xs++ys++List.replicate (G-(xs.length+ys.length)) z)
  (fun i hi=>by
   rw[hln]at hi
   rw[hget i hi]
   grind) hcellp hbel (fun x _ hlt=>heap_alloc (w:=w.drew) hlt)
  (.inr ⟨C,e,hR.bnd,BK (w:=w.drew) (o:=.cells C e),by rw[hln,hCs];omega,fun i j hi hj=>by
   rw[hln]at hi
   have h2:=DC (n:=G) hi hj;rw[hget i hi];simp only[L8]
   by_cases hix:i<xs.length
   ·have h3:=DC hix hj
    have h4:i*sz+j<(xs.length+ys.length)*sz:=by omega
    simp only[O3,hCg _ h4,Fi];rw[A2 h3,A2 hix,(S6 hj).1,(S6 hj).2]
    simp_all
   have h1:xs.length*sz≤i*sz:=K5 _ (by omega);have h3:(i-xs.length)*sz=i*sz-xs.length*sz:=CE _ _ _;rw[A1 hix]
   by_cases hiy:i<xs.length+ys.length
   ·have h4:=DC hiy hj;simp only[O3,hCg _ h4,Fi];rw[A1 (by omega),A2 hiy,show i*sz+j-xs.length*sz=(i-xs.length)*sz+j by omega,(S6 hj).1,(S6 hj).2]
    grind
   have h1':(xs.length+ys.length)*sz≤i*sz:=K5 _ (by omega);have h3':(i-(xs.length+ys.length))*sz=i*sz-(xs.length+ys.length)*sz:=CE _ _ _;rw[A1 hiy]
   have e1:C.getD (i*sz+j) undef=zv.cells.getD j undef:=by
    simp only[O3];rw[hCz _ (by omega) h2,show i*sz+j-(xs.length+ys.length)*sz=(i-(xs.length+ys.length))*sz+j by omega,(S6 hj).2]
   rw[e1]
   simp_all,fun q _ hf=>absurd (hR.fz_lt hf) (T9 _),fun id hid=>absurd (hR.lt hid) (T9 _)⟩)
 rw[hln]at s r
 refine⟨_,_,_,s,r,?_,hout g.nx _ hnone⟩;have:=VR.ownN (g:=g) (w:=w.drew.alloc (.cells C e)) (b:=w.heap.size) (o:=0) (cap:=G) (sz:=sz) (n:=m) (by omega) (by omega)
 rwa[hm,Fk,←hm]at this
def AG8 {g:Gh} {w:World} {H:A5} {K:V→A5→Prop} (hR:Rl g H w) {id sz:Nat} {lo n:Int} {xs ys:List V} {vs:Value} (hk:H id=some (.arr sz xs)) (hv:VR g w vs (.own id lo n)) (hpos:0<sz)
 (hleny:∀i,i<ys.length→(ys.getD i .bad).cells.length=sz) {fy:Nat→Nat→Value} (hfy:∀i j,i<ys.length→j<sz→(fy i j).oneCell'=true∧VR g w (fy i j) ((ys.getD i .bad).cells.getD j .bad))
 (hfit:lo+n+(ys.length:Nat)≤(xs.length:Nat)) (hin:K (.own id lo (n+(ys.length:Nat))) (upd H id (some (.arr sz (AP xs (lo+n).toNat ys))))):
 ∃base cap w',vs= .slice base n.toNat cap∧n.toNat+ys.length≤cap∧cap=xs.length-lo.toNat∧
  (match base with|some a=>(storeCells (a.add (n.toNat*sz)) ((List.range (ys.length*sz)).map fun k=>fy (k / sz) (k % sz))).run P w|none=>.ok () w)= .ok () w'∧
  N5 g w K (.slice base (n.toNat+ys.length) cap) w':=by
 obtain⟨b,p,h1,h2,h3,h4,h5,h6,h7,h8,h9,h10⟩:=EL hR hk hv
 by_cases hcap0:lo=(xs.length:Nat)
 ·
  have hy0:ys=[]:=List.length_eq_zero_iff.1 (by omega)
  have hn0:n=0:=by omega
  subst hy0;subst hn0;refine⟨_,_,w,h2,by simp,rfl,by cases p<;>simp[storeCells],?_⟩
  have e:AP xs (lo+0).toNat []=xs:=by simp[AP]
  rw[e]at hin
  refine⟨g,.own id lo 0,H,W1.refl _ _,hR,?_,?_⟩
  rotate_right
  ·have:upd H id (some (.arr sz xs))=H:=by
    funext x
    simp_all[upd]
   rw[this]at hin
   exact hin
  simp_all
 have hlt:lo<(xs.length:Nat):=by omega
 have hp:=h8 hlt;subst hp
 rcases h10 with h10|⟨c,T,k1,k2,k3,k4,k5,k6⟩
 ·omega
 obtain⟨C,hst,s,r⟩:=Aj3 P hR (i:=(lo+n).toNat) (m:=ys.length) (ys:=ys) hpos hk h1 h6 (by omega) (by omega) rfl k2 k3 k4 h9 hleny fy hfy;refine⟨_,_,w.setRow b C,h2,by omega,rfl,?_,?_⟩
 ·simp only[Aj];rw[show(g.ow id).o+lo.toNat*sz+n.toNat*sz=(g.ow id).o+(lo+n).toNat*sz by rw[show(lo+n).toNat=lo.toNat+n.toNat by omega,I1];omega];exact hst
 refine⟨g,_,_,s,r,?_,hin⟩;have:=VR.own (g:=g) (w:=w.setRow b C) (id:=id) (b:=b) (lo:=lo) (n:=n+(ys.length:Nat)) (p:=some ⟨b,(g.ow id).o+lo.toNat*sz,none⟩) h1 h3 (by omega) (by rw[h7];omega) (fun _=>by rw[h6])
 rw[h7]at this
 rwa[show(n+(ys.length:Nat)).toNat=n.toNat+ys.length by omega]at this
def Jq {g:Gh} {w:World} (hR:Rl g H w) {vs vy:Value} {ty:TypeId} {cs:Array Bool} {sT yT e:TypeId} {id sz by_:Nat} {lo n:Int} {z:V} {xs ys:List V} (hvs:VR g w vs (.own id lo n)) {fy:Nat→Nat→Value}
 (hfy:∀i j,i<ys.length→j<sz→(fy i j).oneCell'=true∧VR g w (fy i j) ((ys.getD i .bad).cells.getD j .bad)) (hyl:Builtin.lenOf vy=pure ys.length)
 (hry:∀w':World,(∀b o,w'.cell? ⟨b,o,none⟩=w.cell? ⟨b,o,none⟩)→(Builtin.firstCells sz ys.length vy).run P w'= .ok ((List.range (ys.length*sz)).map fun k=>fy (k / sz) (k % sz)).toArray w')
 (hk:H id=some (.arr sz xs)) (he:Fd P sT=some e) (huy:(∃e',P.underlying yT=some (.slice e'))∨P.underlying yT=some .string) (hsz:Ev P e=some sz) (hpos:0<sz) (hby:Qj P e=some by_) (hbp:0<by_)
 (hz:ID P e=some z) (hz1:z.one=true) (hzl:z.cells.length=sz) (hay:ys.all (fun x=>x.cells.length==sz)=true)
 (hin:lo+n+(ys.length:Nat)≤(xs.length:Nat)→K (.own id lo (n+(ys.length:Nat))) (upd H id (some (.arr sz (AP xs (lo+n).toNat ys)))))
 (hout:(xs.length:Nat)<lo+n+(ys.length:Nat)→(n.toNat+ys.length)*by_≤140737488355328∧∀t k,H t=none→K (.own t 0 (n+(ys.length:Nat))) (upd H t (some (.arr sz (N8 xs lo n++ys++List.replicate k z))))):
 H9 P (N5 g w K) ((builtin .append #[sT,yT] ty cs #[vs,vy]).run P w):=by
 have hleny:=GB hay;have hu:=Q9 he;obtain⟨zv,ez,hzv⟩:=Dg hz
 have hzr:VR g w zv z:=by rw[ez];grind[Ec]
 have hzs:zv.cells.size=sz:=by rw[(hzr.cells hz1).1,hzl]
 have hbytes:∀w,(typeInfo e).run P w= .ok ((P.info? e).getD default) w∧((P.info? e).getD default).bytes=by_:=by
  intro w
  unfold Qj at hby
  cases hi:P.info? e with
  |none=>simp_all
  |some i=>simp[hi]at hby;simp[typeInfo,hi,hby]
 have hbi:∀w,(typeInfo e).run P w= .ok ((P.info? e).getD default) w:=fun w=>(hbytes w).1;have hbb:=(hbytes w).2;obtain⟨b,p,h1,h2,h3,h4,h5,h6,h7,h8,h9,h10⟩:=EL hR hk hvs;simp only[builtin,C6]
 by_cases hc:lo+n+(ys.length:Nat)≤(xs.length:Nat)
 ·obtain⟨base,cap,w',q1,q2,q3,q4,q5⟩:=AG8 (P:=P) hR hk hvs hpos hleny hfy hc (hin hc);rw[q1]
  have hrun:(Builtin.append_ #[sT,yT] ty #[.slice base n.toNat cap,vy]).run P w= .ok (.slice base (n.toNat+ys.length) cap) w':=by
   have hry':=hry w fun _ _=>rfl
   rcases huy with⟨e',huy⟩|huy
   all_goals simp only[hyl,Builtin.append_,C6,run_underlying hu,C1,Q3 hsz,run_underlying huy,D1,W7,V3,
    Bm,Cb,D6,C7,Bj,B4,A2 q2,hry']
   all_goals cases base with
    |none=>simp only at q4;cases q4;rfl
    |some a=>simp only at q4;simp only[q4,C6,D1,C1]
  rw[hrun]
  simp_all[H9]
 obtain⟨hbound,hout⟩:=hout (by omega)
 have hall:(N8 xs lo n).all (fun x=>x.cells.length==sz)=true:=ML fun i hi=>by
  rw[BQ h3 h4 h5]at hi
  rw[PJ hi];grind
 obtain⟨base,cap,fs,es,hfs,hrs⟩:=JH P hR (x:=.own id lo n) (xs:=N8 xs lo n) (by grind[TR,Id]) hvs hall;have hrs:=hrs _ (D5 _);have hsl:=BQ h3 h4 h5
 have hcap:cap=xs.length-lo.toNat:=by rw[h2]at es;simp_all
 have hc':¬((N8 xs lo n).length+ys.length≤cap):=by omega
 have hnf:¬(2 ^ 48<Builtin.nextslicecap ((N8 xs lo n).length+ys.length) cap*by_):=by
  have:=growslice_fits (Iv hc') (by rw[hsl];exact hbound);omega
 have hdr:∀b o,w.drew.cell? ⟨b,o,none⟩=w.cell? ⟨b,o,none⟩:=fun _ _=>rfl;generalize hG:grownCap w ((N8 xs lo n).length+ys.length) cap e=G
 have hGe:(N8 xs lo n).length+ys.length≤G:=by rw[←hG];grind[grownCap_ge]
 have hn63':¬(IntKind.i64.max<(((N8 xs lo n).length+ys.length:Nat):Int)∧(False∨by_=0)):=by
  grind
 have hrun:(Builtin.append_ #[sT,yT] ty #[.slice base (N8 xs lo n).length cap,vy]).run P w=
  .ok (.slice (some ⟨w.heap.size,0,none⟩) ((N8 xs lo n).length+ys.length) G)
   (w.drew.alloc (.cells (((List.range ((N8 xs lo n).length*sz)).map fun k=>fs (k / sz) (k % sz)).toArray++((List.range (ys.length*sz)).map fun k=>fy (k / sz) (k % sz)).toArray++
    Builtin.zeroCells zv.cells (G-((N8 xs lo n).length+ys.length))) e)):=by
  have hGd:(Question.appendCap ((N8 xs lo n).length+ys.length) cap e).cut (w.tape w.drawn (.appendCap ((N8 xs lo n).length+ys.length) cap e))=G:=hG;have hf:(Question.appendCap ((N8 xs lo n).length+ys.length) cap e).forced=false:=rfl;have hrs':=hrs w.drew hdr
  rw[es]at hrs'
  have hry':=hry w.drew hdr
  rcases huy with⟨e',huy⟩|huy
  all_goals simp only[hyl,Builtin.append_,C6,run_underlying hu,C1,Q3 hsz,run_underlying huy,D1,W7,hbi,hbb,V3,
   Bm,Cb,D6,C7,Bj,B4,gt_iff_lt,false_or,A1 hc',A1 hnf,run_choose,hf,hGd,Io,run_askRoom,hrs',hry',hzv,newRow,run_newObj,
   Eg,Ir]
  all_goals rw[A1 (by simpa using hn63')]
 rw[es,hrun];simp only[C1,D1,H9];exact Al4 (K:=K) hR hpos hzr hz1 hzl (GB hall) hleny hfs hfy hGe (m:=n+(ys.length:Nat)) (by omega) hout
def ON {g:Gh}{w:World}(hR:Rl g H w){vs vy:Value}{yV:V}{ty:TypeId}{cs:Array Bool}{sT yT e:TypeId}{id sz by_:Nat}{lo n:Int}{z:V}{xs ys ys0:List V}(hvs:VR g w vs (.own id lo n))(hvy:VR g w vy yV)
 (hk:H id=some (.arr sz xs)) (hy:TR H yV=some ys0) (hle:M1 ys0 ys) (he:Fd P sT=some e) (hyT:(Fd P yT).isSome=true) (hsz:Ev P e=some sz) (hpos:0<sz) (hby:Qj P e=some by_) (hbp:0<by_)
 (hz:ID P e=some z) (hz1:z.one=true) (hzl:z.cells.length=sz) (hay:ys.all (fun x=>x.cells.length==sz)=true)
 (hin:lo+n+(ys.length:Nat)≤(xs.length:Nat)→K (.own id lo (n+(ys.length:Nat))) (upd H id (some (.arr sz (AP xs (lo+n).toNat ys)))))
 (hout:(xs.length:Nat)<lo+n+(ys.length:Nat)→(n.toNat+ys.length)*by_≤140737488355328∧∀t k,H t=none→K (.own t 0 (n+(ys.length:Nat))) (upd H t (some (.arr sz (N8 xs lo n++ys++List.replicate k z))))):
 H9 P (N5 g w K) ((builtin .append #[sT,yT] ty cs #[vs,vy]).run P w):=by
 obtain⟨ybase,ycap,fy,ey,hfy0,hry⟩:=JH P hR hy hvy (hle.sz hay)
 rw[hle.length]at ey hfy0 hry
 have hfy:∀i j,i<ys.length→j<sz→(fy i j).oneCell'=true∧VR g w (fy i j) ((ys.getD i .bad).cells.getD j .bad):=fun i j hi hj=>⟨(hfy0 i j hi hj).1,(hfy0 i j hi hj).2.le ((hle.at i).cells.at j)⟩;obtain⟨e',hyT'⟩:=Option.isSome_iff_exists.1 hyT;exact Jq hR hvs hfy (by rw[ey];rfl) (hry _ (D5 _)) hk he (.inl ⟨_,Q9 hyT'⟩) hsz hpos hby hbp hz hz1 hzl hay hin hout
def Rn (sz:Nat)(H:A5)(v:V)(ys':List V):Prop:=
 match v with
 | .sl xs _=>M1 xs ys'∧ys'.all (fun x=>x.cells.length==sz)=true
 | .own id lo n=>∃xs,H id=some (.arr sz xs)∧M1 (N8 xs lo n) ys'
 |_=>False
def Rn.inv {g:Gh} {w:World} {sz:Nat} {x:V} {v:Value} {ys':List V} (h:Rn sz H x ys') (hR:Rl g H w) (hv:VR g w v x):∃ys0,TR H x=some ys0∧M1 ys0 ys'∧ys'.all (fun x=>x.cells.length==sz)=true:=by
 unfold Rn at h
 split at h
 ·grind[TR]
 ·obtain⟨xs,hk,hl⟩:=h;obtain⟨b,p,h1,h2,h3,h4,h5,h6,h7,h8,h9,h10⟩:=EL hR hk hv;refine⟨_,by grind[TR,Id],hl,ML fun i hi=>?_⟩
  rw[←hl.length]at hi
  rw[←(hl.at i).cells.length]
  rw[BQ h3 h4 h5]at hi
  rw[PJ hi]
  grind
 grind
theorem Xe {s y:Operand}{sT yT e:TypeId}{id sz by_:Nat}{lo n:Int}{z:V}{xs ys:List V}(ho:o.op= .call {callee:=.builtin .append,args:= #[s,y],argTypes:= #[sT,yT]})
 (hs:ev fr s= .own id lo n) (hk:H id=some (.arr sz xs)) (hsrc:Rn sz H (ev fr y) ys) (he:Fd P sT=some e) (hyT:(Fd P yT).isSome=true) (hsz:Ev P e=some sz) (hpos:0<sz) (hby:Qj P e=some by_) (hbp:0<by_)
 (hz:ID P e=some z) (hz1:z.one=true) (hzl:z.cells.length=sz)
 (hin:lo+n+(ys.length:Nat)≤(xs.length:Nat)→K (.own id lo (n+(ys.length:Nat))) (upd H id (some (.arr sz (AP xs (lo+n).toNat ys)))))
 (hout:(xs.length:Nat)<lo+n+(ys.length:Nat)→(n.toNat+ys.length)*by_≤140737488355328∧∀t k,H t=none→K (.own t 0 (n+(ys.length:Nat))) (upd H t (some (.arr sz (N8 xs lo n++ys++List.replicate k z))))):J2 P o fr H K:=by
 intro g w a hR hE;have hvs:=E8 hR hE s
 rw[hs]at hvs
 obtain⟨ys0,hy,hle,hay⟩:=hsrc.inv hR (E8 hR hE y);rw[R4 ho];simp only[Z9,E9,J3];exact ON hR hvs (E8 hR hE y) hk hy hle he hyT hsz hpos hby hbp hz hz1 hzl hay hin hout
theorem VF {s y:Operand} {sT yT e:TypeId} {sz by_:Nat} {z:V} {ys:List V} (ho:o.op= .call {callee:=.builtin .append,args:= #[s,y],argTypes:= #[sT,yT]})
 (hs:ev fr s= .sl [] .nil∨ev fr s= .sl [] .full) (hsrc:Rn sz H (ev fr y) ys) (he:Fd P sT=some e) (hyT:(Fd P yT).isSome=true) (hsz:Ev P e=some sz) (hpos:0<sz) (hby:Qj P e=some by_) (hbp:0<by_)
 (hz:ID P e=some z) (hz1:z.one=true) (hzl:z.cells.length=sz)
 (hbound:ys.length*by_≤140737488355328)
 (hout:∀t k,H t=none→K (.own t 0 (ys.length:Nat)) (upd H t (some (.arr sz (ys++List.replicate k z))))):J2 P o fr H K:=by
 intro g w a hR hE;obtain⟨g',st,hR',hn,hv⟩:=Ek hR sz hs (E8 hR hE s);obtain⟨ys0,hy,hle,hay⟩:=hsrc.inv hR (E8 hR hE y);have hvy:=(E8 hR hE y).mono st;rw[R4 ho];simp only[Z9,E9,J3]
 have hy':TR (upd H g.nx (some (.arr sz []))) (ev fr y)=some ys0:=by
  unfold TR at hy ⊢
  grind[Id,upd]
 refine H9.mono ?_ (ON (K:=fun v H2=>∃H3,K v H3∧∀id b,H3 id=some b→H2 id=some b) hR' hv hvy (E4 _ _ _) hy' hle he hyT hsz hpos hby hbp hz hz1 hzl hay (fun hle'=>?_) (fun _=>⟨by simp_all,fun t k ht=>?_⟩))
 ·exact fun v w' ⟨g2,x,H2,s2,hR2,hv2,H3,hK,hle3⟩=>⟨g2,x,H3,st.trans s2,hR2.less hle3,hv2,hK⟩
 ·have hy0:ys=[]:=List.length_eq_zero_iff.1 (by simp_all);subst hy0;have:=hout g.nx 0 hn
  grind[upd,AP]
 have hne:t≠g.nx:=fun e=>by grind[E4]
 rw[D2 _ _ hne]at ht
 have:=hout t k ht;rw[Lk]
 grind[upd,N8]
def GG (s:ByteArray):List V:=s.data.toList.map fun b=>V.int .u8 (b.toNat:Int)
def OD (s:ByteArray):(GG s).length=s.size:=by simp[GG]
def Ax2 (s:ByteArray){i:Nat}(hi:i<(GG s).length):∃b,s.data[i]? =some b∧(GG s).getD i .bad= .int .u8 (b.toNat:Int):=by
 have h:i<s.data.size:=by rw[OD]at hi;exact hi
 simp_all[GG]
def RV (s:ByteArray):(GG s).all (fun x=>x.cells.length==1)=true:=by
 rw[Gr]
 grind[GG,V.cells]
def Ax3 (s:ByteArray)(i _:Nat):Value:=.int .u8 ((s.data.getD i 0).toNat:Int)
def Ag9 (s:ByteArray)(g:Gh)(w:World):∀i j,i<(GG s).length→j<1→(Ax3 s i j).oneCell'=true∧VR g w (Ax3 s i j) (((GG s).getD i .bad).cells.getD j .bad):=by
 intro i j hi hj;obtain⟨b,h1,h2⟩:=Ax2 s hi
 have hj0:j=0:=by omega
 subst hj0;rw[h2]
 have:s.data.getD i 0=b:=by rw[O3,h1];rfl
 exact⟨rfl,by simp only[Ax3,this];exact VR.int _ _⟩
def WZ (P:Program) (s:ByteArray) (w':World):(Builtin.firstCells 1 (GG s).length (.string s)).run P w'= .ok ((List.range ((GG s).length*1)).map fun k=>Ax3 s (k / 1) (k % 1)).toArray w':=by
 simp only[Builtin.firstCells,D1,OD,Nat.mul_one,Nat.div_one]
 congr 1
 apply Array.ext';apply DP;intro i
 have hx:(s.extract 0 s.size).data=s.data:=by
  have:s.extract 0 s.size=s:=by
   simp_all
  rw[this]
 rw[hx]
 by_cases hi:i<s.data.size
 ·have hs:i<s.size:=hi
  simp_all[Ax3]
 simp_all
theorem VE {s y:Operand}{b:ByteArray}{sT yT e:TypeId}{id by_:Nat}{lo n:Int}{z:V}{xs:List V}(ho:o.op= .call {callee:=.builtin .append,args:= #[s,y],argTypes:= #[sT,yT]})
 (hs:ev fr s= .own id lo n) (hk:H id=some (.arr 1 xs)) (hb:ev fr y= .str b) (he:Fd P sT=some e) (hyT:P.underlying yT=some .string) (hsz:Ev P e=some 1) (hby:Qj P e=some by_) (hbp:0<by_)
 (hz:ID P e=some z) (hz1:z.one=true) (hzl:z.cells.length=1)
 (hin:lo+n+((GG b).length:Nat)≤(xs.length:Nat)→K (.own id lo (n+((GG b).length:Nat))) (upd H id (some (.arr 1 (AP xs (lo+n).toNat (GG b))))))
 (hout:(xs.length:Nat)<lo+n+((GG b).length:Nat)→(n.toNat+(GG b).length)*by_≤140737488355328∧∀t k,H t=none→K (.own t 0 (n+((GG b).length:Nat))) (upd H t (some (.arr 1 (N8 xs lo n++GG b++List.replicate k z))))):J2 P o fr H K:=by
 intro g w a hR hE;have hvs:=E8 hR hE s
 rw[hs]at hvs
 have hvy:=E8 hR hE y
 rw[hb]at hvy
 rw[R4 ho];simp only[Z9,E9,J3];rw[hvy.str_inv];exact Jq hR hvs (Ag9 b g w) (by rw[OD];rfl) (fun w' _=>WZ P b w') hk he (.inr hyT) hsz (by decide) hby hbp hz hz1 hzl (RV b) hin hout
theorem TU {s y:Operand} {b:ByteArray} {sT yT e:TypeId} {by_:Nat} {z:V} (ho:o.op= .call {callee:=.builtin .append,args:= #[s,y],argTypes:= #[sT,yT]})
 (hs:ev fr s= .sl [] .nil∨ev fr s= .sl [] .full) (hb:ev fr y= .str b) (he:Fd P sT=some e) (hyT:P.underlying yT=some .string) (hsz:Ev P e=some 1) (hby:Qj P e=some by_) (hbp:0<by_)
 (hz:ID P e=some z) (hz1:z.one=true) (hzl:z.cells.length=1)
 (hbound:(GG b).length*by_≤140737488355328)
 (hout:∀t k,H t=none→K (.own t 0 ((GG b).length:Nat)) (upd H t (some (.arr 1 (GG b++List.replicate k z))))):J2 P o fr H K:=by
 intro g w a hR hE;obtain⟨g',st,hR',hn,hv⟩:=Ek hR 1 hs (E8 hR hE s);have hvy:=E8 hR hE y
 rw[hb]at hvy
 rw[R4 ho];simp only[Z9,E9,J3];rw[hvy.str_inv];refine H9.mono ?_ (Jq (K:=fun v H2=>∃H3,K v H3∧∀id b,H3 id=some b→H2 id=some b) hR' hv (Ag9 b g' w) (by rw[OD];rfl) (fun w' _=>WZ P b w') (E4 _ _ _) he (.inr hyT) hsz (by decide) hby hbp hz hz1 hzl (RV b) (fun hle'=>?_) (fun _=>⟨by simp_all,fun t k ht=>?_⟩))
 ·exact fun v w' ⟨g2,x,H2,s2,hR2,hv2,H3,hK,hle3⟩=>⟨g2,x,H3,st.trans s2,hR2.less hle3,hv2,hK⟩
 ·have hy0:GG b=[]:=List.length_eq_zero_iff.1 (by simp_all)
  rw[hy0]at hout ⊢
  have:=hout g.nx 0 hn
  grind[upd,AP]
 have hne:t≠g.nx:=fun e=>by grind[E4]
 rw[D2 _ _ hne]at ht
 have:=hout t k ht;rw[Lk]
 grind[upd,N8]
end
def LY (P:Program) (H:A5) (t:TypeId) (v:V) (lo hi mx:Option Int):Option V:=
 match Fd P t,v with
 | some e,.own id l n=>
  match Ev P e,Id H id with
  | some sz,some (sz',xs)=>
   if sz=sz'∧0≤lo.getD 0∧lo.getD 0≤hi.getD n∧hi.getD n≤mx.getD ((xs.length:Nat)-l)∧mx.getD ((xs.length:Nat)-l)≤(xs.length:Nat)-l∧(mx.isSome=true→hi.isSome=true)then
    some (match mx with|none=>.own id (l+lo.getD 0) (hi.getD n-lo.getD 0)|some _=>.bad)else none
  |_,_=>none
 |_,_=>none
def Ad9 (P:Program)(H:A5)(t:TypeId)(v:V):Option V:=
 match Fd P t,v with
 |some _,.own id l _=>(Id H id).map fun q=>.int .i64 ((q.2.length:Nat)-l)
 |some _,.sl [] .nil=>some (.int .i64 0)
 |some _,.sl [] .full=>some (.int .i64 0)
 |_,_=>none
section
variable {P:Program}{o:Oper}{fr:Fr}{H:A5}{K:V→A5→Prop}
def EP {z:V}{m i:Nat}(h:i<m):(List.replicate m z).getD i .bad=z:=by
 simp_all
theorem Nt {g:Gh} {w:World} (hR:Rl g H w) {vs vy:Value} {ty:TypeId} {cs:Array Bool} {sT yT e:TypeId} {k k':IntKind} {id sz by_:Nat} {lo n m:Int} {z:V} {xs:List V} (hvs:VR g w vs (.own id lo n)) (hvy:VR g w vy (.int k m))
 (hk:H id=some (.arr sz xs)) (he:Fd P sT=some e) (hyT:P.underlying yT=some (.int k')) (hsz:Ev P e=some sz) (hpos:0<sz) (hby:Qj P e=some by_) (hbp:0<by_)
 (hz:ID P e=some z) (hz1:z.one=true) (hzl:z.cells.length=sz) (hm0:0≤m)
 (hbound:(n.toNat+m.toNat)*by_≤140737488355328)
 (hin:lo+n+m≤(xs.length:Nat)→K (.own id lo (n+m)) (upd H id (some (.arr sz (AP xs (lo+n).toNat (List.replicate m.toNat z))))))
 (hout:(xs.length:Nat)<lo+n+m→∀t k,H t=none→K (.own t 0 (n+m)) (upd H t (some (.arr sz (N8 xs lo n++List.replicate m.toNat z++List.replicate k z))))):
 H9 P (N5 g w K) ((builtin .append #[sT,yT] ty cs #[vs,vy]).run P w):=by
 have ey:=hvy.int_inv;have hu:=Q9 he;obtain⟨zv,ez,hzv⟩:=Dg hz
 have hzr:VR g w zv z:=by rw[ez];grind[Ec]
 obtain⟨hzs',hzc⟩:=hzr.cells hz1
 have hzs:zv.cells.size=sz:=by rw[hzs',hzl]
 have hbytes:∀w,(typeInfo e).run P w= .ok ((P.info? e).getD default) w∧((P.info? e).getD default).bytes=by_:=by
  intro w
  unfold Qj at hby
  cases hi:P.info? e with
  |none=>simp_all
  |some i=>simp[hi]at hby;simp[typeInfo,hi,hby]
 have hbi:∀w,(typeInfo e).run P w= .ok ((P.info? e).getD default) w:=fun w=>(hbytes w).1;have hbb:=(hbytes w).2
 have hmn:m=(m.toNat:Nat):=by omega
 generalize hmm:m.toNat=mm at *
 subst hmn
 have hlr:(List.replicate mm z).length=mm:=by simp
 have hmb:mm*by_≤140737488355328:=Z7 (K5 _ (Nat.le_add_left _ _)) hbound;have hm1:mm≤mm*by_:=LP _ hbp;have hw1:IntKind.i64.wrap (mm:Int)=mm:=wrap_small _ (by omega) (by omega)
 have hleny:∀i,i<(List.replicate mm z).length→((List.replicate mm z).getD i .bad).cells.length=sz:=fun i hi=>by rw[EP (by omega)];exact hzl
 have hfy:∀i j,i<(List.replicate mm z).length→j<sz→(zv.cells.getD j undef).oneCell'=true∧VR g w (zv.cells.getD j undef) (((List.replicate mm z).getD i .bad).cells.getD j .bad):=fun i j hi hj=>by
  rw[EP (by omega)];simp_all
 have hzero:((List.range (mm*sz)).map fun k=>zv.cells.getD (k % sz) undef).toArray=Builtin.zeroCells zv.cells mm:=by
  apply Gc
  ·grind[size_zeroCells]
  intro i h1 h2
  have hi:i<mm*sz:=by grind
  have hq:i % sz<zv.cells.size:=by rw[hzs];simp_all[Fh]
  unfold Builtin.zeroCells
  simp_all
 have hn1:¬((mm:Int)<0):=by omega
 have hn2:¬(281474976710656<(mm:Int)*(by_:Int)):=by
  have:((mm*by_:Nat):Int)≤140737488355328:=by omega
  rw[Int.natCast_mul]at this
  omega
 have happ:∀w':World,(if mm*sz=0 then pure #[]else(do pure (Builtin.zeroCells (←zeroValue e).cells mm):Sem (Array Value))).run P w'= .ok ((List.range (mm*sz)).map fun k=>zv.cells.getD (k % sz) undef).toArray w':=by
  intro w'
  by_cases h0:mm*sz=0
  ·rw[A2 h0,h0];rfl
  simp_all
 obtain⟨b,p,h1,h2,h3,h4,h5,h6,h7,h8,h9,h10⟩:=EL hR hk hvs;simp only[builtin,C6,ey]
 by_cases hc:lo+n+(mm:Int)≤(xs.length:Nat)
 ·obtain⟨base,cap,w',q1,q2,q3,q4,q5⟩:=AG8 (P:=P) (K:=K) (ys:=List.replicate mm z) (fy:=fun _ j=>zv.cells.getD j undef) hR hk hvs hpos hleny hfy (by rw[hlr];exact hc) (by rw[hlr];exact hin hc)
  rw[hlr]at q2 q4 q5
  rw[q1]
  have hrun:(Builtin.append_ #[sT,yT] ty #[.slice base n.toNat cap,.int k mm]).run P w= .ok (.slice base (n.toNat+mm) cap) w':=by
   have ha:=happ w
   simp only[W7,C6,hzv,D1,C1]at ha
   simp only[Builtin.append_,C6,run_underlying hu,C1,Q3 hsz,run_underlying hyT,D1,W7,V3,asInt,asIntOf,hw1,hbi,hbb,
    Bm,Cb,D6,C7,R3,B4,gt_iff_lt,A1 hn1,Int.reducePow,A1 hn2,Fk,A2 q2,hzv,ha]
   cases base with
   |none=>simp_all
   |some a=>simp_all
  rw[hrun]
  simp_all[H9]
 have hout:=hout (by omega)
 have hall:(N8 xs lo n).all (fun x=>x.cells.length==sz)=true:=ML fun i hi=>by
  rw[BQ h3 h4 h5]at hi
  rw[PJ hi];grind
 obtain⟨base,cap,fs,es,hfs,hrs⟩:=JH P hR (x:=.own id lo n) (xs:=N8 xs lo n) (by grind[TR,Id]) hvs hall;have hrs:=hrs _ (D5 _);have hsl:=BQ h3 h4 h5
 have hcap:cap=xs.length-lo.toNat:=by rw[h2]at es;simp_all
 have hc':¬((N8 xs lo n).length+mm≤cap):=by omega
 have hnf:¬(2 ^ 48<Builtin.nextslicecap ((N8 xs lo n).length+mm) cap*by_):=by
  have:=growslice_fits (Iv hc') (by rw[hsl];exact hbound);omega
 have hdr:∀b o,w.drew.cell? ⟨b,o,none⟩=w.cell? ⟨b,o,none⟩:=fun _ _=>rfl;generalize hG:grownCap w ((N8 xs lo n).length+mm) cap e=G
 have hGe:(N8 xs lo n).length+mm≤G:=by rw[←hG];grind[grownCap_ge]
 have hn63':¬(IntKind.i64.max<(((N8 xs lo n).length+mm:Nat):Int)∧(True∨by_=0)):=by
  rintro⟨h,_⟩
  have h1':((N8 xs lo n).length+mm)≤(n.toNat+mm)*by_:=by rw[hsl];simp_all[LP]
  have h2':(9223372036854775807:Int)<(((N8 xs lo n).length+mm:Nat):Int):=h;omega
 have hrun:(Builtin.append_ #[sT,yT] ty #[.slice base (N8 xs lo n).length cap,.int k mm]).run P w=
  .ok (.slice (some ⟨w.heap.size,0,none⟩) ((N8 xs lo n).length+mm) G)
   (w.drew.alloc (.cells (((List.range ((N8 xs lo n).length*sz)).map fun k=>fs (k / sz) (k % sz)).toArray++((List.range (mm*sz)).map fun k=>zv.cells.getD (k % sz) undef).toArray++
    Builtin.zeroCells zv.cells (G-((N8 xs lo n).length+mm))) e)):=by
  have hGd:(Question.appendCap ((N8 xs lo n).length+mm) cap e).cut (w.tape w.drawn (.appendCap ((N8 xs lo n).length+mm) cap e))=G:=hG;have hf:(Question.appendCap ((N8 xs lo n).length+mm) cap e).forced=false:=rfl;have hrs':=hrs w.drew hdr
  rw[es]at hrs'
  have ha:=happ w.drew
  simp only[W7,C6,hzv,D1,C1]at ha
  simp only[Builtin.append_,C6,run_underlying hu,C1,Q3 hsz,run_underlying hyT,D1,W7,hbi,hbb,V3,asInt,asIntOf,hw1,
   Bm,Cb,D6,C7,R3,B4,gt_iff_lt,true_or,A1 hn1,Int.reducePow,A1 hn2,Fk,A1 hc',A1 hnf,run_choose,hf,hGd,Io,run_askRoom,hrs',ha,hzv,newRow,run_newObj,
   Eg,Ir]
  rw[A1 (by simp_all)]
 rw[es,hrun];simp only[C1,D1,H9];have:=Al4 (K:=K) (e:=e) (ys:=List.replicate mm z) (fs:=fs) (fy:=fun _ j=>zv.cells.getD j undef) hR hpos hzr hz1 hzl (GB hall) hleny hfs hfy (by rw[hlr];exact hGe) (m:=n+(mm:Int)) (by rw[hlr];omega) hout
 rw[hlr]at this
 exact this
def VD {s y:Operand}{sT yT e:TypeId}{k k':IntKind}{id sz by_:Nat}{lo n m:Int}{z:V}{xs:List V}(ho:o.op= .call {callee:=.builtin .append,args:= #[s,y],argTypes:= #[sT,yT]})
 (hs:ev fr s= .own id lo n) (hy:ev fr y= .int k m) (hk:H id=some (.arr sz xs)) (he:Fd P sT=some e) (hyT:P.underlying yT=some (.int k')) (hsz:Ev P e=some sz) (hpos:0<sz) (hby:Qj P e=some by_) (hbp:0<by_)
 (hz:ID P e=some z) (hz1:z.one=true) (hzl:z.cells.length=sz) (hm0:0≤m)
 (hbound:(n.toNat+m.toNat)*by_≤140737488355328)
 (hin:lo+n+m≤(xs.length:Nat)→K (.own id lo (n+m)) (upd H id (some (.arr sz (AP xs (lo+n).toNat (List.replicate m.toNat z))))))
 (hout:(xs.length:Nat)<lo+n+m→∀t k,H t=none→K (.own t 0 (n+m)) (upd H t (some (.arr sz (N8 xs lo n++List.replicate m.toNat z++List.replicate k z))))):J2 P o fr H K:=by
 intro g w a hR hE;have hvs:=E8 hR hE s;have hvy:=E8 hR hE y
 rw[hs]at hvs
 rw[hy]at hvy
 rw[R4 ho]
 grind[Nt]
theorem TS {s y:Operand} {sT yT e:TypeId} {k k':IntKind} {sz by_:Nat} {m:Int} {z:V} (ho:o.op= .call {callee:=.builtin .append,args:= #[s,y],argTypes:= #[sT,yT]})
 (hs:ev fr s= .sl [] .nil∨ev fr s= .sl [] .full) (hy:ev fr y= .int k m) (he:Fd P sT=some e) (hyT:P.underlying yT=some (.int k')) (hsz:Ev P e=some sz) (hpos:0<sz) (hby:Qj P e=some by_) (hbp:0<by_)
 (hz:ID P e=some z) (hz1:z.one=true) (hzl:z.cells.length=sz) (hm0:0≤m)
 (hbound:m.toNat*by_≤140737488355328)
 (hout:∀t k,H t=none→K (.own t 0 m) (upd H t (some (.arr sz (List.replicate m.toNat z++List.replicate k z))))):J2 P o fr H K:=by
 intro g w a hR hE;obtain⟨g',st,hR',hn,hv⟩:=Ek hR sz hs (E8 hR hE s);have hvy:=(E8 hR hE y).mono st
 rw[hy]at hvy
 rw[R4 ho];simp only[Z9,E9,J3];refine H9.mono ?_ (Nt (K:=fun v H2=>∃H3,K v H3∧∀id b,H3 id=some b→H2 id=some b) hR' hv hvy (E4 _ _ _) he hyT hsz hpos hby hbp hz hz1 hzl hm0 (by simp_all) (fun hle'=>?_) (fun _ t k ht=>?_))
 ·exact fun v w' ⟨g2,x,H2,s2,hR2,hv2,H3,hK,hle3⟩=>⟨g2,x,H3,st.trans s2,hR2.less hle3,hv2,hK⟩
 ·have hm:m=0:=by grind
  grind[upd,AP]
 have hne:t≠g.nx:=fun e=>by grind[E4]
 rw[D2 _ _ hne]at ht
 have:=hout t k ht;rw[Lk]
 grind[upd,N8]
theorem Xd {t:TypeId} {y:Operand} {lo hi mx:Option Operand} {il ih im:Option Int} {x:V} (ho:o.op= .slice t y lo hi mx) (hlo:Cu (lo.map (ev fr))=some il) (hhi:Cu (hi.map (ev fr))=some ih)
 (hmx:Cu (mx.map (ev fr))=some im) (hl:LY P H t (ev fr y) il ih im=some x) (h:K x H):J2 P o fr H K:=by
 intro g w a hR hE;have hv:=E8 hR hE y;have hrl:=FB hR hE hlo;have hrh:=FB hR hE hhi;have hrm:=FB hR hE hmx
 have hb:∀(isSlice:Bool) (len cap:Nat),0≤il.getD 0→il.getD 0≤ih.getD len→ih.getD len≤im.getD cap→im.getD cap≤cap→(im.isSome=true→ih.isSome=true)→
  (Instr.sliceBounds isSlice len cap (lo.map a.eval) (hi.map a.eval) (mx.map a.eval)).run P w= .ok ((il.getD 0).toNat,(ih.getD len).toNat,(im.getD cap).toNat) w:=by
  grind[Sh]
 unfold LY at hl
 split at hl
 ·rename_i e id l n hse he;have hu:=Q9 hse
  split at hl
  ·rename_i sz sz' xs hs hx
   split at hl
   ·rename_i hc;obtain⟨c0,c1,c2,c3,c4,c5⟩:=hc;subst c0
    rw[he]at hv
    have hk:=FH hx;obtain⟨b,p,h1,h2,h3,h4,h5,h6,h7,h8,h9,h10⟩:=EL hR hk hv
    have ecap:(((xs.length-l.toNat:Nat):Nat):Int)=(xs.length:Nat)-l:=by omega
    have en:((n.toNat:Nat):Int)=n:=by omega
    have hb':=hb true n.toNat (xs.length-l.toNat) c1 (by rw[en];exact c2) (by rw[en,ecap];exact c3) (by rw[ecap];exact c4) c5
    rw[en,ecap]at hb'
    unfold execOp;rw[ho];simp only[h2,Instr.sliceAt,Instr.slice,C6,run_underlying hu,C1,hb',Q3 hs,D1,H9]
    cases hmi:im with
    |some m=>
     rw[hmi]at hl
     simp only[E6]at hl
     subst hl;exact N5.here hR (.bad _) h
    | none=>
     rw[hmi]at hl
     simp only[E6]at hl
     subst hl;refine N5.here hR ?_ h
     simp only[hmi,Iu]at c3 c4
     simp only[Iu]
     have hown:=VR.own (g:=g) (w:=w) (id:=id) (b:=b) (lo:=l+il.getD 0) (n:=ih.getD n-il.getD 0) (p:=if((xs.length:Nat)-l:Int).toNat=(il.getD 0).toNat then p else p.map fun q=>q.add ((il.getD 0).toNat*sz)) h1 (by omega) (by omega) (by rw[h7];omega)
      (fun hlt=>by
       rw[h7]at hlt
       rw[A1 (by omega),h8 (by omega),h6];simp only[K4,Aj]
       rw[show(l+il.getD 0).toNat=l.toNat+(il.getD 0).toNat by omega,I1,CF])
     rw[h7]at hown
     have e1:(ih.getD n-il.getD 0).toNat=(ih.getD n).toNat-(il.getD 0).toNat:=by omega
     have e2:xs.length-(l+il.getD 0).toNat=((xs.length:Nat)-l:Int).toNat-(il.getD 0).toNat:=by omega
     rw[e1,e2]at hown
     omega
   cases hl
  cases hl
 cases hl
theorem Ay3 {y:Operand} {t:TypeId} {x:V} (ho:o.op= .call {callee:=.builtin .cap,args:= #[y],argTypes:= #[t]}) (hl:Ad9 P H t (ev fr y)=some x) (h:K x H):J2 P o fr H K:=by
 intro g w a hR hE;have hv:=E8 hR hE y;rw[R4 ho];simp only[builtin,Z9,E9,J3,C6]
 unfold Ad9 at hl
 split at hl
 ·rename_i e id l n hse he
  rw[he]at hv
  cases hx:Id H id with
  |none=>rw[hx]at hl;cases hl
  |some q=>
   obtain⟨sz,xs⟩:=q
   rw[hx]at hl
   simp only[K4,E6]at hl
   subst hl;obtain⟨b,p,h1,h2,h3,h4,h5,h6,h7,h8,h9,h10⟩:=EL hR (FH hx) hv;have hu:=Q9 hse;simp[Builtin.cap_,run_underlying hu,goInt,h2];rw[show(((xs.length-l.toNat:Nat):Nat):Int)=(xs.length:Nat)-l by omega];exact N5.here hR (.int _ _) h
 ·rename_i e hse he
  rw[he]at hv
  cases hl;have hu:=Q9 hse
  generalize a.eval y=v at hv
  cases hv with
  |sl0 ht=>simp[Builtin.cap_,run_underlying hu,goInt];exact N5.here hR (.int _ _) h
  |sle h=>rcases h with h|⟨h,_⟩<;>cases h
  |sl vs hn hc hz hf hw h1 hv ht=>exact ht.elim
 ·rename_i e hse he
  rw[he]at hv
  cases hl;have hu:=Q9 hse
  generalize a.eval y=v at hv
  cases hv with
  |sl0 ht=>simp[Builtin.cap_,run_underlying hu,goInt];exact N5.here hR (.int _ _) h
  |sle hh=>
   rcases hh with hh|⟨_,hh⟩
   ·cases hh
   subst hh;simp[Builtin.cap_,run_underlying hu,goInt];exact N5.here hR (.int _ _) h
  |sl vs hn hc hz hf hw h1 hv ht=>
   rename_i b o sz n cap
   have e1:n=0:=by simp_all
   have e2:cap=n:=ht;subst e2;subst e1;simp[Builtin.cap_,run_underlying hu,goInt];exact N5.here hR (.int _ _) h
 cases hl
def Vf {id sz m:Nat} {xs ys:List V} {g:Gh} {H:A5} {w:World} {b:Nat} {p:Option Addr} {lo:Int} (hR:Rl g H w) (hk:H id=some (.arr sz xs)) (h1:g.mu id=some b) (h6:(g.ow id).sz=sz) (h8:lo<(xs.length:Nat)→p=some ⟨b,(g.ow id).o+lo.toNat*sz,none⟩)
 (h9:∀i,i<xs.length→(xs.getD i .bad).cells.length=sz)
 (h10:xs.length=0∨∃c T,g.base≤b∧w.heap[b]? =some (.cells c T (0,0))∧(g.ow id).o+xs.length*sz≤c.size∧
  (∀i j,i<xs.length→j<sz→(c.getD ((g.ow id).o+i*sz+j) undef).oneCell'=true∧VR g w (c.getD ((g.ow id).o+i*sz+j) undef) ((xs.getD i .bad).cells.getD j .bad))∧
  (∀o,(g.ow id).o≤o→¬g.fz b o)∧g.at H id=some b)
 (hpos:0<sz) (hm:ys.length=m) (hin:lo.toNat+m≤xs.length) (hleny:∀i,i<ys.length→(ys.getD i .bad).cells.length=sz) (fy:Nat→Nat→Value)
 (hfy:∀i j,i<ys.length→j<sz→(fy i j).oneCell'=true∧VR g w (fy i j) ((ys.getD i .bad).cells.getD j .bad)):
 ∃w',(match p with|some a=>(storeCells a ((List.range (m*sz)).map fun k=>fy (k / sz) (k % sz))).run P w|none=>.ok () w)= .ok () w'∧
  W1 g w g w'∧Rl g (upd H id (some (.arr sz (AP xs lo.toNat ys)))) w':=by
 by_cases hm0:m=0
 ·subst hm0;have hy0:ys=[]:=List.length_eq_zero_iff.1 hm;subst hy0;refine⟨w,by cases p<;>simp[storeCells],W1.refl _ _,?_⟩
  have e:AP xs lo.toNat []=xs:=by simp[AP]
  have:upd H id (some (.arr sz xs))=H:=by
   funext x
   simp_all[upd]
  rw[e,this];exact hR
 have hp:=h8 (by omega);subst hp
 rcases h10 with h10|⟨c,T,k1,k2,k3,k4,k5,k6⟩
 ·omega
 obtain⟨C,hst,s,r⟩:=Aj3 P hR (i:=lo.toNat) (m:=m) (ys:=ys) hpos hk h1 h6 (by omega) (by omega) hm k2 k3 k4 h9 hleny fy hfy
 simp_all
theorem An2 {s y:Operand} {sT yT e:TypeId} {id sz:Nat} {lo n:Int} {xs ys:List V} (ho:o.op= .call {callee:=.builtin .copy,args:= #[s,y],argTypes:= #[sT,yT]})
 (hs:ev fr s= .own id lo n) (hk:H id=some (.arr sz xs)) (hsrc:Rn sz H (ev fr y) ys) (he:Fd P sT=some e) (hsz:Ev P e=some sz) (hpos:0<sz)
 (h:K (.int .i64 (if n<(ys.length:Nat)then n else(ys.length:Nat))) (upd H id (some (.arr sz (AP xs lo.toNat (ys.take n.toNat)))))):J2 P o fr H K:=by
 intro g w a hR hE;have hvs:=E8 hR hE s;have hvy:=E8 hR hE y
 rw[hs]at hvs
 obtain⟨ys0,hy,hle,hay⟩:=hsrc.inv hR hvy;obtain⟨ybase,ycap,fy,ey,hfy0,hry⟩:=JH P hR hy hvy (hle.sz hay)
 rw[hle.length]at ey hfy0 hry
 have hfy:∀i j,i<ys.length→j<sz→(fy i j).oneCell'=true∧VR g w (fy i j) ((ys.getD i .bad).cells.getD j .bad):=fun i j hi hj=>⟨(hfy0 i j hi hj).1,(hfy0 i j hi hj).2.le ((hle.at i).cells.at j)⟩;have hleny:=GB hay;have hu:=Q9 he;obtain⟨b,p,h1,h2,h3,h4,h5,h6,h7,h8,h9,h10⟩:=EL hR hk hvs;rw[R4 ho];simp only[builtin,Z9,E9,J3,C6];generalize hm:Nat.min ys.length n.toNat=m;have hm':m=min ys.length n.toNat:=hm.symm
 have hmi:(m:Int)=if n<(ys.length:Nat)then n else(ys.length:Nat):=by split<;>omega
 have htk:ys.take n.toNat=ys.take m:=by
  grind
 rw[htk,←hmi]at h
 have hlt:(ys.take m).length=m:=by simp;omega
 have hgt:∀i,i<m→(ys.take m).getD i .bad=ys.getD i .bad:=fun i hi=>by
  grind
 have hfc:=hry m (by omega) w fun _ _=>rfl;obtain⟨w',hst,hs',hr'⟩:=Vf (P:=P) (m:=m) (ys:=ys.take m) hR hk h1 h6 h8 h9 h10 hpos hlt (by omega) (fun i hi=>by rw[hlt]at hi;rw[hgt i hi];grind) fy (fun i j hi hj=>by rw[hlt]at hi;rw[hgt i hi];grind)
 rw[ey]at hfc
 have hrun:(Builtin.copy_ #[sT,yT] o.type #[a.eval s,a.eval y]).run P w= .ok (.int .i64 m) w':=by
  rw[ey,h2]
  simp only[Builtin.copy_,C6,run_underlying hu,C1,Q3 hsz,D1,Builtin.lenOf,V3,
   Bm,Cb,hm,hfc,goInt]
  grind[Sem.run_bind,Sem.run_pure,Result.andThen_ok]
 rw[hrun];simp only[C1,D1,H9];exact⟨g,.int .i64 m,_,hs',hr',.int _ _,h⟩
theorem ZE {s:Operand} {sT e:TypeId} {id sz:Nat} {lo n:Int} {z:V} {xs:List V} (ho:o.op= .call {callee:=.builtin .clear,args:= #[s],argTypes:= #[sT]})
 (hs:ev fr s= .own id lo n) (hk:H id=some (.arr sz xs)) (he:Fd P sT=some e) (hsz:Ev P e=some sz) (hpos:0<sz) (hz:ID P e=some z) (hz1:z.one=true) (hzl:z.cells.length=sz)
 (h:K (.tup []) (upd H id (some (.arr sz (AP xs lo.toNat (List.replicate n.toNat z)))))):J2 P o fr H K:=by
 intro g w a hR hE;have hvs:=E8 hR hE s
 rw[hs]at hvs
 have hu:=Q9 he;obtain⟨zv,ez,hzv⟩:=Dg hz
 have hzr:VR g w zv z:=by rw[ez];grind[Ec]
 obtain⟨hzs',hzc⟩:=hzr.cells hz1
 have hzs:zv.cells.size=sz:=by rw[hzs',hzl]
 obtain⟨b,p,h1,h2,h3,h4,h5,h6,h7,h8,h9,h10⟩:=EL hR hk hvs
 have hlr:(List.replicate n.toNat z).length=n.toNat:=by simp
 have hzero:(Builtin.zeroCells zv.cells n.toNat).toList=(List.range (n.toNat*sz)).map fun k=>zv.cells.getD (k % sz) undef:=by
  unfold Builtin.zeroCells
  simp_all[Fh]
 obtain⟨w',hst,hs',hr'⟩:=Vf (P:=P) (m:=n.toNat) (ys:=List.replicate n.toNat z) hR hk h1 h6 h8 h9 h10 hpos hlr (by omega) (fun i hi=>by rw[EP (by omega)];exact hzl)
  (fun _ j=>zv.cells.getD j undef) (fun i j hi hj=>by rw[EP (by omega)];simp_all)
 rw[R4 ho];simp only[builtin,Z9,E9,J3,C6]
 have hrun:(Builtin.clear_ #[sT] o.type #[a.eval s]).run P w= .ok (.tuple #[]) w':=by
  rw[h2];simp only[Builtin.clear_,C6,run_underlying hu,C1,V3,Bm]
  generalize hb:p=base at hst ⊢
  cases base with
  |none=>simp_all
  | some q=>
   simp only at hst
   cases hn:n.toNat with
   |zero=>rw[hn]at hst;simp[storeCells]at hst;subst hst;rfl
   |succ k=>
    rw[hn]at hst hzero
    simp_all
 rw[hrun];simp only[C1,D1,H9];exact⟨g,.tup [],_,hs',hr',.und _ _,h⟩
end
def Aq2 (v:V):Option Prop:=
 match v with
 | .sl xs _=>some (xs=[])
 | .own _ _ n=>some (n=0)
 |_=>none
def AB3 {g:Gh} {w:World} {x:V} {v:Value} {p:Prop} (h:Aq2 x=some p) (hv:VR g w v x):∃a n c,v= .slice a n c∧(a.isNone=true→p):=by
 unfold Aq2 at h
 split at h
 ·cases h
  cases hv with
  |sl0 ht=>simp_all
  |sle ht=>simp_all
  |sl vs hn hc hz hf hw h1 hv ht=>simp_all
 ·cases h
  cases hv with
  |own hm h0 h1 h2 hp=>
   grind
 cases h
def Ak4:BinOp→Option Bool
 | .eql=>some true
 | .neq=>some false
 |_=>none
section
variable {P:Program}{o:Oper}{fr:Fr}{H:A5}{K:V→A5→Prop}
theorem AJ9 {op:BinOp} {t ty e:TypeId} {y z:Operand} {p:Prop} {q:Bool} (ho:o.op= .binOp op t y z ty) (hq:Ak4 op=some q) (hu:Fd P t=some e) (hy:Aq2 (ev fr y)=some p) (hz:ev fr z= .sl [] .nil)
 (h1:p→K (.bool q) H) (h0:K (.bool (!q)) H):J2 P o fr H K:=by
 intro g w a hR hE;have hv:=E8 hR hE y;have hv':=E8 hR hE z
 rw[hz]at hv'
 obtain⟨p',n,c,ea,hp⟩:=AB3 hy hv
 have ez:a.eval z= .slice none 0 0:=by
  generalize a.eval z=v at hv'
  cases hv' with
  |sl0 ht=>rfl
  |sle h=>rcases h with h|⟨h,_⟩<;>cases h
  |sl vs hn hc hz hf hw h1 hv ht=>exact ht.elim
 have hu':=Q9 hu;unfold execOp;rw[ho];simp only[C6,ea,ez]
 have hg:(eqGuard op t y z (.slice p' n c) (.slice none 0 0)).run P w= .ok () w:=by
  cases op<;>simp[eqGuard]
 rw[hg];simp only[C1]
 have hb:(binOp op t (.slice p' n c) (.slice none 0 0)).run P w= .ok (.bool (if p'.isNone then q else !q)) w:=by
  cases op<;>simp only[Ak4,E6,reduceCtorEq]at hq<;>subst hq
  ·rw[Lib.run_eql_slice_nil w t e p' n c 0 0 hu'];cases p'<;>rfl
  grind[run_neq_slice_nil_any]
 rw[hb];simp only[C1,D1,H9]
 cases hpn:p'.isNone with
 |true=>exact N5.here hR (.bool _) (h1 (hp hpn))
 |false=>exact N5.here hR (.bool _) h0
end
end Go.Ab
namespace Go.Ab
open Go.MapKept
structure KG (P:Program) (kt:TypeId) (G:Value→Prop):Prop where
 check:∀(w:World) (em:Bool) {v:Value},G v→(Instr.checkKey em 10000 kt v).run P w= .ok () w
 find:∀(w:World) {x:Value},G x→∀es:List MapEntry,(∀e∈es,G e.key)→
  ((Instr.findKey kt x es).run P w= .ok none w∧∀e∈es,e.key≠x)∨∃j e,(Instr.findKey kt x es).run P w= .ok (some (j,e.val)) w∧es[j]? =some e∧e.key=x
 stays:∀(w:World) {v:Value},G v→(Instr.keyThatStays v v).run P w= .ok v w
def KG.scalar {P:Program} {kt:TypeId} {d:TypeDesc} (hd:P.underlying kt=some d):KG P kt (IsKey d) where
 check:=fun w em v h=>run_checkKey hd h em 9999
 find:=fun w x hx es h=>by
  rcases findNow_spec hx es 0 h with⟨h1,h2⟩|⟨j,e,h1,h2,h3⟩
  ·grind[run_findKey]
  exact .inr ⟨j,e,by rw[run_findKey hd h1,L8],h2,h3⟩
 stays:=fun w v h=>run_keyThatStays h
section
variable {P:Program}{kt el n:Nat}{k:IntKind}
def AH8 (k:IntKind)(n:Nat)(v:Value):Prop:=∃l:List Int,l.length=n∧v= .agg (l.map (Value.int k)).toArray
end
section
variable {P:Program}{kt n:Nat}{k:IntKind}
structure FldsInt (P:Program) (k:IntKind) (n:Nat) (fs:List Field):Prop where
 all:∀f∈fs,f.name≠ "_" ∧P.underlying f.type=some (.int k)∧f.offset<n
 cov:∀i,i<n→∃f∈fs,f.offset=i
end
end Go.Ab
