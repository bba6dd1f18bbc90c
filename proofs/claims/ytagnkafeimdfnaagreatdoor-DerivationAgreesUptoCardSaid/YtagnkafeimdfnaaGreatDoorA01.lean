/- . -/
import Derived.RangeFuncLeaves
import Derived.Below
import Derived.Laws.OwnMore
import Derived.Laws.CopyRow
import Derived.Laws.StructEq
import Derived.Laws.Strings
import Derived.Laws.Runes
import Derived.Lib.SliceRun
import Derived.WalkSpells
import Derived.MapKept
import Derived.DeepKeys4
import Derived.KernelRfl
set_option linter.all false
namespace Go.Ab
open Go.RowKit
universe u
abbrev Up(α:Type u):=List α
abbrev OS(α:Type u):=Option α
abbrev If:=Program
abbrev Is:=World
abbrev HO:=Value
abbrev Do:=TypeId
abbrev By:=Operand
abbrev za0:=ByteArray
abbrev za1(α:Type u):=Array α
def za2{p:Prop}(h:p:=by omega):p:=h
def za3{p:Prop}(h:p:=by kernel_rfl):p:=h
def za4{p:Prop}(h:p:=by simp):p:=h
def za5{p:Prop}(h:p:=by decide):p:=h
def za6{p:Prop}(h:p:=by simp;omega):p:=h
def za7{p:Prop}(h:p:=by grind):p:=h
def za8{p:Prop}(h:p:=by simp_all):p:=h
def za9{p:Prop}(h:p:=by rfl):p:=h
def zb0{p:Prop}(h:p:=by assumption):p:=h
abbrev Bgn(N:Nat):Prop:=40000000<=N
def A4:=@Option.bind_some
def A1:=@if_neg
def A2:=@if_pos
def C8:=@List.getElem?_eq_getElem
def B7:=@Result.andThen_ok
def B1:=@Nat.le_refl
def D2:=@List.append_assoc
def C0:=@Sem.run_bind
def C6:=@Sem.run_pure
def E1:=@List.length_map
def E7:=@Option.some.injEq
def G7:=@Nat.mul_le_mul_right
def E5:=@List.append_nil
def F4:=@List.getElem_mem
def D9:=@List.map_cons
def M4:=@List.drop_eq_getElem_cons
def H5:=@decide_eq_true_eq
def K1:=@List.getElem_of_mem
def E2:=@Nat.add_mul
def Q9:=@Array.getD_eq_getD_getElem?
def I1:=@List.nil_append
def K8:=@List.length_append
def L6:=@Bool.false_eq_true
def K0:=@Bool.and_eq_true
def K5:=@Option.map_some
def D8:=@if_true
def I0:=@List.map_nil
def N3:=@List.length_cons
def O3:=@List.pairwise_map
def I9:=@decide_true
def O2:=@Option.getD_some
def AD:=@List.getD_eq_getElem?_getD
def K4:=@Nat.zero_add
def G2:=@congrArg
def AC:=@List.pairwise_iff_getElem
def N2:=@decide_eq_true
def P9:=@List.map_append
def M3:=@List.map_map
def AB:=@List.take_of_length_le
def Y0:=@List.map_congr_left
def H7:=@if_false
def AA:=@List.getElem?_toArray
def W4:=@Int.toNat_natCast
def V1:=@List.cons_append
def X9:=@List.flatMap_cons
def V0:=@List.cons.injEq
def P8:=@Nat.le_trans
def BM:=@List.drop_eq_nil_of_le
def X8:=@List.length_take
def BL:=@List.length_singleton
def Dd:=@Array.getElem?_eq_getElem
def Dc:=@List.exists_mem_of_ne_nil
def R9:=@Nat.lt_or_ge
def Az:=@List.getElem?_map
def Db:=@List.getElem?_cons_zero
def Da:=@Int.eq_ofNat_of_zero_le
def Gz:=@List.take_succ_eq_append_getElem
def DU:=@List.pairwise_cons
def DT:=@List.Pairwise.imp_of_mem
def BK:=@List.mem_singleton
def Ay:=@List.length_nil
def DS:=@Nat.eq_of_beq_eq_true
def Be:=@Option.getD_none
def DR:=@List.getElem?_cons_succ
def BJ:=@List.getElem?_set
def EX:=@Go.MapKept.run_getObj_map
def Ax:=@Nat.mul_le_mul
def Ag:=@Nat.lt_irrefl
def BH:=@List.map_toArray
def BF:=@Bool.not_eq_true
def DQ:=@Array.getElem?_toList
def W3:=@Nat.one_mul
def DO:=@List.mem_of_getElem?
def BE:=@Bool.or_eq_true
def P7:=@and_true
def Cq:=@List.not_mem_nil
def DN:=@List.mem_map_of_mem
def CZ:=@List.ext_getElem?
def HX:=@Array.getElem?_setIfInBounds
def EW:=@List.take_append_drop
def Cp:=@List.mem_append
def EV:=@List.getElem?_append
def CY:=@List.take_length
def HW:=@List.getElem?_append_right
def DM:=@List.length_range
def EU:=@List.getElem?_range
def Mv:=@Nat.div_lt_iff_lt_mul
def Gy:=@List.eq_nil_or_concat
def Gx:=@List.concat_eq_append
def BC:=@Nat.add_zero
def Bd:=@Sem.run_ite
def Co:=@Bool.not_true
def CX:=@List.mem_range
def Gw:=@List.mem_cons_of_mem
def Gv:=@Nat.pow_le_pow_right
def DL:=@Option.some.inj
def Bc:=@Below.refl
def ET:=@List.all_eq_true
def ES:=@List.ext_getElem
def HV:=@Array.getElem?_append
def GY:=@Nat.le_of_ble_eq_true
def GX:=@List.countP_le_length
def DJ:=@Bool.eq_iff_iff
def IS:=@List.Perm.eq_of_pairwise
def Fh:=@Bool.not_eq_true'
def Fg:=@Nat.lt_trichotomy
def Ff:=@List.take_add_one
def Fe:=@of_decide_eq_true
def CI:=@Nat.add_assoc
def IR:=@decide_eq_false_iff_not
def IQ:=@List.pairwise_singleton
def DI:=@Bool.not_false
def Fd:=@List.range'_succ
def Fc:=@List.length_drop
def Cd:=@Nat.zero_le
def DH:=@Nat.mod_lt
def GW:=@List.getElem?_drop
def GV:=@Option.isSome_none
def GU:=@List.countP_append
def IP:=@Array.getElem?_modify
def Fb:=@decide_eq_false
def IN:=@List.range_eq_range'
def IM:=@List.mem_append_left
def Lg:=@List.getElem?_append_left
def DG:=@Nat.sub_mul
def CH:=@Int.le_refl
def DF:=@List.mem_map
def GT:=@List.map_flatMap
def IL:=@Array.length_toList
def Lf:=@Classical.axiomOfChoice
def Fa:=@List.mem_cons
def NZ:=@List.Nodup.length_le_of_subset
def DE:=@Nat.mul_add
def NY:=@List.eq_nil_of_length_eq_zero
def IK:=@not_true_eq_false
def IJ:=@List.size_toArray
def II:=@List.nodup_append
def IH:=@List.any_eq_false
def IG:=@DataW.trod_struct
def GS:=@World.alloc_eq
def EZ:=@Nat.mul_comm
def Le:=@List.mem_append_right
def Ld:=@List.pairwise_flatMap
def Lc:=@Array.getElem_toList
def IF:=@List.mem_toArray
def IE:=@List.any_eq_true
def Lb:=@List.pairwise_append
def ID:=@List.getElem_map
def GR:=@Bool.false_or
def GQ:=@Prod.mk.injEq
def GP:=@Oper.semAt_eq
def GO:=@List.any_cons
def La:=@Nat.pow_le_pow_left
def KZ:=@Nat.div_add_mod
def KY:=@Nat.eq_zero_or_pos
def GN:=@List.any_map
def EY:=@beq_iff_eq
def IC:=@List.drop_drop
def NX:=@List.pairwise_mergeSort
def KX:=@Nat.le_of_succ_le
def NW:=@Array.getElem?_extract
def GM:=@Nat.le_succ
def NV:=@List.pairwise_lt_range
def NU:=@List.getElem?_eraseIdx
def NT:=@Array.getElem?_eq_none
def IB:=@Bool.and_true
def IA:=@Bool.true_and
def KW:=@Int.natCast_zero
def KV:=@Nat.le_add_right
def KU:=@Nat.lt_of_not_le
def KT:=@Array.mem_append
def KS:=@Nat.div_eq_of_lt
def KR:=@Nat.lt_succ_self
def KQ:=@List.perm_middle
def NS:=@Nat.add_mul_div_right
def NR:=@List.append_inj_left'
def KP:=@List.foldl_cons
def KO:=@World.size_drew
def Tl:=@Array.eq_empty_of_size_eq_zero
def NQ:=@Array.getElem_modify
def Tj:=@List.take_append_of_le_length
def NP:=@List.getD_cons_zero
def NO:=@List.take_succ_cons
def NN:=@Nat.mul_le_mul_left
def KM:=@World.mk.injEq
def KL:=@List.Perm.refl
def Iz:=@List.map_id
def NM:=@List.getElem?_take
def NL:=@Nat.lt_of_lt_of_le
def Ti:=@List.perm_append_comm_assoc
def NK:=@Nat.add_sub_cancel
def KK:=@World.drew_eq
def Th:=@Array.getElem?_append_left
def KJ:=@List.sum_cons
def NJ:=@Array.size_append
def NI:=@Array.any_eq_true
def NH:=@World.cells?_some
def Tg:=@List.mem_of_find?_eq_some
def KI:=@decide_false
def KH:=@Nat.add_comm
def NG:=@Nat.mod_eq_of_lt
def Tf:=@List.eq_of_mem_replicate
def NF:=@List.flatMap_map
def Te:=@Nat.le_mul_of_pos_right
def NE:=@Nat.min_eq_left
def Iy:=@Array.ext
def ND:=@Option.map_none
def NC:=@Operand.tmp.inj
def NB:=@List.find?_cons
def KF:=@Nat.mul_one
def Td:=@List.getElem_cons_zero
def NA:=@List.take_zero
def Nz:=@List.drop_zero
def Ny:=@List.nodup_nil
def Tc:=@List.length_replicate
def Tb:=@Array.getElem?_mapIdx
def Ta:=@List.length_mergeSort
def SZ:=@Classical.choose_spec
def SY:=@Bool.and_eq_false_iff
def SX:=@List.Perm.append_left
def Nx:=@List.all_cons
def Nw:=@Int.lt_irrefl
def Nv:=@List.cons.inj
def Nu:=@Int.zero_add
def Nt:=@Nat.succ_mul
def Ns:=@Nat.pow_succ
inductive J8 where
 |nil
 |full
 |ro
 |tok (t:Nat)
inductive V where
 |bad
 |bool (b:Bool)
 |int (k:IntKind) (n:Int)
 |str (s:ByteArray)
 |nilp
 |ref (id off:Nat)
 |eref (cs:List V) (off:Nat)
 |sl (xs:List V) (t:J8)
 |own (id:Nat) (lo n:Int)
 |elem (id:Nat) (i:Int) (sz off:Nat)
 |func (fn:Fn) (first cap:List V)
 |nilf
 |iface (t:TypeId) (v:V)
 |nili
 |agg (cs:List V)
 |tup (vs:List V)
 |map (id:Nat)
 |nilmap
 |fmap (ks:List Int) (xs:List V)
 |yield (id:Nat)
instance :Inhabited V:=⟨.bad⟩
def V.cells:V->Up V
 | .agg cs=>cs
 |v=>[v]
def V.one:V->Bool
 | .bad=>false
 | .tup _=>false
 |_=>true
structure LpI where
 nt:Nat
 s:Nat->V
 st:LoopState
 pe:Option Code
 ps:Array Tmp
 asg:Code
 body:Code
inductive KB where
 |cells (cs:List V)
 |spare
 |obj (o:Obj)
 |loop (L:LpI)
 |arr (sz:Nat) (xs:List V)
 |iter (mid since:Nat) (seen:Array Nat) (c0:Nat)
 |fm (ks:List Int) (xs:List V)
 |vm (ks:List Value) (xs:List V)
abbrev A6:=Nat->OS KB
def upd (H:A6)(id:Nat)(b:OS KB):A6:=λx=>if x=id then b else H x
class P3 where
 gl:Nat->V
structure Hd where
 o:Nat
 cap:Nat
 sz:Nat
structure Gh where
 mu:Nat->Option Nat
 ow:Nat->Hd
 tk:Nat->Option (Nat×Nat×Nat)
 fz:Nat->Nat->Prop
 nx:Nat
 base:Nat
def Jp (g:Gh)(b o sz n cap:Nat):J8->Prop
 | .nil=>False
 | .full=>cap=n
 | .ro=>True
 | .tok t=>0<n/\∃lim,g.tk t=some (b,o+n*sz,lim)/\o+cap*sz<=lim
def J8.plain:J8->Bool
 | .tok _=>false
 |_=>true
inductive VR (g:Gh) (w:World):Value->V->Prop
 |bad (v:Value):VR g w v .bad
 |bool (b:Bool):VR g w (.bool b) (.bool b)
 |int (k:IntKind) (n:Int):VR g w (.int k n) (.int k n)
 |str (s:ByteArray):VR g w (.string s) (.str s)
 |nilp:VR g w (.pointer none) .nilp
 |nilf:VR g w .nilFunc .nilf
 |nili:VR g w .nilIface .nili
 |nilmap:VR g w (.map none) .nilmap
 |map {id b:Nat} (h:g.mu id=some b):VR g w (.map (some b)) (.map id)
 |ref {id b off:Nat} (h:g.mu id=some b):VR g w (.pointer (some ⟨b,off,none⟩)) (.ref id off)
 |own {id b:Nat} {lo n:Int} {p:Option Addr} (h:g.mu id=some b) (h0:0<=lo) (h1:0<=n) (h2:lo+n<=(g.ow id).cap) (hp:lo<(g.ow id).cap->p=some ⟨b,(g.ow id).o+lo.toNat*(g.ow id).sz,none⟩):
  VR g w (.slice p n.toNat ((g.ow id).cap-lo.toNat)) (.own id lo n)
 |elem {id b sz off:Nat} {i:Int} (h:g.mu id=some b) (hs:(g.ow id).sz=sz):VR g w (.pointer (some ⟨b,(g.ow id).o+i.toNat*sz+off,none⟩)) (.elem id i sz off)
 |eref {b o off:Nat} {cs:List V} (vs:Nat->Value) (hf:∀j,j<cs.length->g.fz b (o+j))
  (hw:∀j,j<cs.length->w.cell? ⟨b,o+j,none⟩=some (vs j)) (h1:∀j,j<cs.length->(vs j).oneCell'=true)
  (hv:∀j,j<cs.length->VR g w (vs j) (cs.getD j .bad)):VR g w (.pointer (some ⟨b,o+off,none⟩)) (.eref cs off)
 |sl0 {t:J8} (ht:t.plain=true):VR g w (.slice none 0 0) (.sl [] t)
 |sle {a:Addr} {cap:Nat} {t:J8} (ht:t= .ro\/(t= .full/\cap=0)):VR g w (.slice (some a) 0 cap) (.sl [] t)
 |sl {b o sz n cap:Nat} {xs:List V} {t:J8} (vs:Nat->Nat->Value) (hn:xs.length=n) (hc:n<=cap)
  (hz:∀i,i<n->(xs.getD i .bad).cells.length=sz) (hf:∀i j,i<n->j<sz->g.fz b (o+i*sz+j))
  (hw:∀i j,i<n->j<sz->w.cell? ⟨b,o+i*sz+j,none⟩=some (vs i j)) (h1:∀i j,i<n->j<sz->(vs i j).oneCell'=true)
  (hv:∀i j,i<n->j<sz->VR g w (vs i j) ((xs.getD i .bad).cells.getD j .bad)) (ht:Jp g b o sz n cap t):
  VR g w (.slice (some ⟨b,o,none⟩) n cap) (.sl xs t)
 |func {fn:Fn} {fs cs:Array Value} {F C:List V} (hl:fs.size=F.length) (hv:∀i,i<F.length->VR g w (fs.getD i undef) (F.getD i .bad))
  (hl':cs.size=C.length) (hv':∀i,i<C.length->VR g w (cs.getD i undef) (C.getD i .bad)):VR g w (.func fn fs cs) (.func fn F C)
 |fmap {b:Nat} {es:Array MapEntry} {clock:Nat} {ks:List Int} {xs:List V} (hb:b<g.base) (hw:w.heap[b]? =some (.map es clock)) (hk:es.toList.map (·.key)=ks.map (Value.int .i64)) (hn:ks.Nodup) (hl:xs.length=ks.length)
  (hv:∀i e,es[i]? =some e->VR g w e.val (xs.getD i .bad)):VR g w (.map (some b)) (.fmap ks xs)
 |yield {id b:Nat} (h:g.mu id=some b):VR g w (.func (.yield b) #[] #[]) (.yield id)
 |iface {t:TypeId} {v:Value} {V:V} (h:VR g w v V):VR g w (.iface t v) (.iface t V)
 |agg {vs:Array Value} {cs:List V} (hl:vs.size=cs.length) (h1:∀i,i<cs.length->(vs.getD i undef).oneCell'=true)
  (hv:∀i,i<cs.length->VR g w (vs.getD i undef) (cs.getD i .bad)):VR g w (.agg vs) (.agg cs)
 |tup {vs:Array Value} {cs:List V} (hl:vs.size=cs.length) (hv:∀i,i<cs.length->VR g w (vs.getD i undef) (cs.getD i .bad)):
  VR g w (.tuple vs) (.tup cs)
def VR.und (g:Gh)(w:Is):VR g w undef (.tup []):=.tup rfl λi U=>by simp at U
structure Aw (g:Gh) (w:World) (g':Gh) (w':World):Prop where
 mu:∀id b,g.mu id=some b->g'.mu id=some b
 tk:∀t x,g.tk t=some x->g'.tk t=some x
 fz:∀b o,g.fz b o->g'.fz b o
 base:g'.base=g.base
 cell:∀b o,g.fz b o->w'.cell? ⟨b,o,none⟩=w.cell? ⟨b,o,none⟩
 low:Below g.base w w'
 ow:∀id b,g.mu id=some b->g'.ow id=g.ow id
 dr:w.drawn<=w'.drawn
theorem Aw.refl (g:Gh)(w:Is):Aw g w g w:=⟨λ_ _ h=>h,λ_ _ h=>h,λ_ _ h=>h,rfl,λ_ _ _=>rfl,Below.refl _ _,λ_ _ _=>rfl,Nat.le_refl _⟩
def Aw.trans {g g' a:Gh} {w w' w'':Is} (h:Aw g w g' w') (k:Aw g' w' a w''):Aw g w a w'':=
 ⟨λid b e=>k.mu id b (h.mu id b e),λt x e=>k.tk t x (h.tk t x e),λb o e=>k.fz b o (h.fz b o e),k.base.trans h.base,
  λb o e=>(k.cell b o (h.fz b o e)).trans (h.cell b o e),h.low.trans (h.base▸k.low),λid b e=>(k.ow id b (h.mu id b e)).trans (h.ow id b e),P8 h.dr k.dr⟩
def Jp.mono {g g':Gh}{b o sz n cap:Nat}{t:J8}(h:Jp g b o sz n cap t)(j:∀t x,g.tk t=some x->g'.tk t=some x):
 Jp g' b o sz n cap t:=by
 cases t with
 |tok t=>grind[Jp]
 |nil=>exact h
 |full=>exact h
 |ro=>exact h
def VR.mono {g g':Gh} {w w':Is} (s:Aw g w g' w') {v:HO} {V:V} (h:VR g w v V):VR g' w' v V:=by
 induction h with
 |bad v=>exact .bad v
 |bool b=>exact .bool b
 |int k n=>exact .int k n
 |str s=>exact .str s
 |nilp=>exact .nilp
 |nilf=>exact .nilf
 |nili=>exact .nili
 |nilmap=>exact .nilmap
 |map h=>exact .map (s.mu _ _ h)
 |fmap A R W t B q ih=>exact .fmap (by rw[s.base];exact A) ((s.low.block _ A).trans R) W t B ih
 |ref h=>exact .ref (s.mu _ _ h)
 |own h L O Z y=>
  have e:=s.ow _ _ h
  rw[<-e]at Z y ⊢
  exact .own (s.mu _ _ h) L O Z y
 |elem h C=>
  have e:=s.ow _ _ h
  rw[<-e]at C ⊢
  exact .elem (s.mu _ _ h) C
 |eref vs a R O q ih=>exact .eref vs (λj u=>s.fz _ _ (a j u)) (λj u=>(s.cell _ _ (a j u)).trans (R j u)) O ih
 |sl0 l=>exact .sl0 l
 |sle l=>exact .sle l
 |sl vs t X c a R O q l ih=>
  exact .sl vs t X c (λi j U u=>s.fz _ _ (a i j U u)) (λi j U u=>(s.cell _ _ (a i j U u)).trans (R i j U u)) O ih (l.mono s.tk)
 |func B q r N ih x=>exact .func B ih r x
 |yield h=>exact .yield (s.mu _ _ h)
 |iface h ih=>exact .iface ih
 |agg B O q ih=>exact .agg B O ih
 |tup B q ih=>exact .tup B ih
def Gh.at (g:Gh)(H:A6)(id:Nat):OS Nat:=
 match H id with
 |some .spare=>(g.tk id).map (·.1)
 |some (.arr _ xs)=>if xs.length=0 then none else g.mu id
 |some _=>g.mu id
 |none=>none
def Obj.isCells:Obj->Bool
 | .cells .. =>true
 |_=>false
def EO (g:Gh) (w:Is) (id:Nat):KB->Prop
 | .cells cs=>∃b c T,g.mu id=some b/\g.base<=b/\w.heap[b]? =some (.cells c T (0,0))/\c.size=cs.length/\
  (∀j,j<cs.length->(c.getD j undef).oneCell'=true/\VR g w (c.getD j undef) (cs.getD j .bad))/\∀o,¬g.fz b o
 | .spare=>∃b e lim c T,g.tk id=some (b,e,lim)/\g.base<=b/\w.heap[b]? =some (.cells c T (0,0))/\e<=lim/\c.size=lim/\∀o,e<=o->¬g.fz b o
 | .arr sz xs=>∃b,g.mu id=some b/\(g.ow id).sz=sz/\(g.ow id).cap=xs.length/\(∀i,i<xs.length->(xs.getD i .bad).cells.length=sz)/\
  (xs.length=0\/∃c T,g.base<=b/\w.heap[b]? =some (.cells c T (0,0))/\(g.ow id).o+xs.length*sz<=c.size/\
   (∀i j,i<xs.length->j<sz->(c.getD ((g.ow id).o+i*sz+j) undef).oneCell'=true/\VR g w (c.getD ((g.ow id).o+i*sz+j) undef) ((xs.getD i .bad).cells.getD j .bad))/\
   ∀o,(g.ow id).o<=o->¬g.fz b o)
 | .obj o=>∃b,g.mu id=some b/\g.base<=b/\w.heap[b]? =some o/\Obj.isCells o=false
 | .fm ks xs=>∃b a clock,g.mu id=some b/\g.base<=b/\w.heap[b]? =some (.map a clock)/\a.toList.map (·.key)=ks.map (Value.int .i64)/\ks.Nodup/\xs.length=ks.length/\∀i e,a[i]? =some e->VR g w e.val (xs.getD i .bad)
 | .vm ks xs=>∃b a clock,g.mu id=some b/\g.base<=b/\w.heap[b]? =some (.map a clock)/\a.toList.map (·.key)=ks/\ks.Nodup/\xs.length=ks.length/\∀i e,a[i]? =some e->VR g w e.val (xs.getD i .bad)
 | .iter l h seen y=>∃b x,g.mu id=some b/\g.base<=b/\g.mu l=some x/\w.heap[b]? =some (.mapIter (some x) h seen y)
 | .loop L=>∃b r,g.mu id=some b/\g.base<=b/\w.heap[b]? =some (.loop r)/\r.state=L.st/\r.pending=L.pe/\r.params=L.ps/\r.assign=L.asg/\r.body=L.body/\r.tmps.size=L.nt/\
  ∀t,VR g w (r.tmps.getD t undef) (L.s t)
structure Rl [P3] (g:Gh) (H:A6) (w:World):Prop where
 blk:∀id b,H id=some b->EO g w id b
 inj:∀id id' b,g.at H id=some b->g.at H id'=some b->id=id'
 frz:∀b o,g.fz b o->∃v,w.cell? ⟨b,o,none⟩=some v
 nxt:∀id,g.nx<=id->g.mu id=none/\g.tk id=none/\H id=none
 bnd:g.base<=w.heap.size
 glb:∀n,VR g w (.pointer (some ⟨n,0,none⟩)) (P3.gl n)
structure Fr where
 s:Nat->V
 df:List Nat
def Fr.put (fr:Fr)(d:OS Tmp)(v:V):Fr:=
 match d with
 |some d=>{fr with s:=λt=>if t=d then v else fr.s t}
 |none=>fr
structure FR (nt:Nat) (g:Gh) (w:World) (a:Act) (fr:Fr):Prop where
 size:a.tmps.size=nt
 s:∀t,VR g w (a.tmps.getD t undef) (fr.s t)
 df:∃bs:List Nat,bs.length=fr.df.length/\(∀i,i<bs.length->g.mu (fr.df.getD i 0)=some (bs.getD i 0))/\a.defers=bs.map λb=>{target:=.collected b,args:= #[]}
def FR.mono {nt:Nat}{g g':Gh}{w w':Is}{a:Act}{fr:Fr}(h:FR nt g w a fr)(s:Aw g w g' w'):FR nt g' w' a fr:=by
 refine⟨h.size,λt=>(h.s t).mono s,?_⟩;have⟨b,O,Z,J⟩:=h.df;exact⟨b,O,λi U=>s.mu _ _ (Z i U),J⟩
theorem FR.put {nt:Nat} {g:Gh} {w:Is} {a:Act} {fr:Fr} (h:FR nt g w a fr) {d:OS Tmp} {v:HO} {V:V} (hd:∀t,d=some t->t<nt) (q:VR g w v V):
 FR nt g w (a.put d v) (fr.put d V):=by
 cases d with
 |none=>exact h
 | some d=>
  have b:=hd d rfl;refine⟨by simp[Act.put,h.size],λt=>?_,h.df⟩;have C:=h.s t;simp only[Act.put,Fr.put]
  by_cases e:t=d
  ·subst e
   have:(a.tmps.setIfInBounds t v).getD t undef=v:=by
    simp[Array.getD,h.size,b]
   rw[this];grind
  have:(a.tmps.setIfInBounds d v).getD t undef=a.tmps.getD t undef:=by
   simp only[Q9,HX];rw[A1 za2]
  rw[this];simp_all
end Go.Ab
namespace Go.Ab
open Go.RowKit
variable [P3]
theorem G4 (H:A6)(id:Nat)(b:OS KB):upd H id b id=b:=by simp[upd]
theorem D3 (H:A6){id x:Nat}(b:OS KB)(h:x≠id):upd H id b x=H x:=by simp[upd,h]
theorem FI (H:A6)(id:Nat)(a b:OS KB):upd (upd H id a) id b=upd H id b:=by
 funext x;simp_all[upd]
def AS0 (H:A6)(id:Nat)(h:H id=none):upd H id none=H:=by
 funext x;simp_all[upd]
def Ab3 (H:A6)(id:Nat)(b:OS KB)(h:H id=none):upd (upd H id b) id none=H:=by rw[FI,AS0 H id h]
theorem Ab2 (H:A6)(id:Nat)(b:OS KB)(h:H id=b):upd H id b=H:=by
 funext x;simp_all[upd]
def Cw {H:A6}{id x:Nat}{b:KB}(h:H id=none)(M:H x=some b):x≠id:=by
 grind
def EO.mono {g g':Gh} {w w':Is} {H:A6} {id:Nat} {k:KB} (W:H id=some k) (s:Aw g w g' w') (h:EO g w id k)
 (y:∀b,g.at H id=some b->w'.heap[b]? =w.heap[b]? /\∀o,g'.fz b o->g.fz b o):EO g' w' id k:=by
 cases k with
 |cells cs=>
  have⟨b,c,T,O,Z,J,a,l,x⟩:=h;have A:=y b (by simp_all[Gh.at]);exact⟨b,c,T,s.mu _ _ O,s.base▸Z,A.1.trans J,a,λj u=>⟨(l j u).1,(l j u).2.mono s⟩,λo z=>x o (A.2 o z)⟩
 |spare=>
  have⟨b,e,lim,c,T,O,Z,J,a,l,x⟩:=h;have A:=y b (by simp_all[Gh.at]);exact⟨b,e,lim,c,T,s.tk _ _ O,s.base▸Z,A.1.trans J,a,l,λo z m=>x o z (A.2 o m)⟩
 |obj o=>
  have⟨b,O,Z,J,a⟩:=h;have A:=y b (by simp_all[Gh.at]);exact⟨b,s.mu _ _ O,s.base▸Z,A.1.trans J,a⟩
 |iter M p seen Q=>
  have⟨b,v,O,Z,J,a⟩:=h;have A:=y b (by simp_all[Gh.at]);exact⟨b,v,s.mu _ _ O,s.base▸Z,s.mu _ _ J,A.1.trans a⟩
 |fm ks xs=>
  have⟨b,d,clock,O,Z,J,a,l,x,N⟩:=h;have A:=y b (by simp_all[Gh.at]);exact⟨b,d,clock,s.mu _ _ O,s.base▸Z,A.1.trans J,a,l,x,λi e U=>(N i e U).mono s⟩
 |vm ks xs=>
  have⟨b,d,clock,O,Z,J,a,l,x,N⟩:=h;have A:=y b (by simp_all[Gh.at]);exact⟨b,d,clock,s.mu _ _ O,s.base▸Z,A.1.trans J,a,l,x,λi e U=>(N i e U).mono s⟩
 |loop L=>
  have⟨b,r,O,Z,J,a,l,x,N,B,D,f⟩:=h;have A:=y b (by simp_all[Gh.at]);exact⟨b,r,s.mu _ _ O,s.base▸Z,A.1.trans J,a,l,x,N,B,D,λt=>(f t).mono s⟩
 |arr sz xs=>
  have⟨b,O,C,Z,J,a⟩:=h;have e:=s.ow _ _ O;refine⟨b,s.mu _ _ O,by rw[e];exact C,by rw[e];exact Z,J,?_⟩;rw[e]
  rcases a with a|⟨c,T,E,F,G,q,I⟩
  ·omega
  by_cases R:xs.length=0
  ·omega
  have A:=y b (by simp_all[Gh.at]);exact .inr ⟨c,T,s.base▸E,A.1.trans F,G,λi j U u=>⟨(q i j U u).1,(q i j U u).2.mono s⟩,λo z m=>I o z (A.2 o m)⟩
def EO.lt {g:Gh} {w:Is} {H:A6} {id b:Nat} {k:KB} (W:H id=some k) (h:EO g w id k) (A:g.at H id=some b):b<w.heap.size:=by
 have a:∀{b:Nat} {o:Obj},w.heap[b]? =some o->b<w.heap.size:=by
  grind
 cases k with
 |cells cs=>
  grind[Gh.at,EO]
 |spare=>
  grind[Gh.at,EO]
 |obj o=>
  grind[Gh.at,EO]
 |fm ks xs=>
  grind[Gh.at,EO]
 |vm ks xs=>
  grind[Gh.at,EO]
 |loop L=>
  grind[Gh.at,EO]
 |iter i e seen l=>
  grind[Gh.at,EO]
 |arr sz xs=>
  grind[Gh.at,EO]
def Rl.lt {g:Gh}{H:A6}{w:Is}(h:Rl g H w){id b:Nat}(A:g.at H id=some b):b<w.heap.size:=by
 cases W:H id with
 |none=>simp_all[Gh.at]
 |some k=>exact(h.blk id k W).lt W A
def Rl.fz_lt {g:Gh}{H:A6}{w:Is}(h:Rl g H w){b o:Nat}(e:g.fz b o):b<w.heap.size:=by
 have⟨v,q⟩:=h.frz b o e;exact World.block_lt_of_cell? w (a:=⟨b,o,none⟩) q
def Rl.less {g:Gh} {H H':A6} {w:Is} (h:Rl g H w) (B:∀id b,H' id=some b->H id=some b):Rl g H' w:=by
 have a:∀id b,g.at H' id=some b->g.at H id=some b:=by
  grind[Gh.at]
 refine⟨λid b A=>h.blk id b (B _ _ A),λid e b O Z=>h.inj id e b (a _ _ O) (a _ _ Z),h.frz,λid U=>⟨(h.nxt id U).1,(h.nxt id U).2.1,?_⟩,h.bnd,h.glb⟩
 cases W:H' id with
 |none=>rfl
 |some k=>have:=B _ _ W;rw[(h.nxt id U).2.2]at this;cases this
def FD {w:Is}{o:Obj}{b i:Nat}(h:b<w.heap.size):(w.alloc o).cell? ⟨b,i,none⟩=w.cell? ⟨b,i,none⟩:=
 World.cell?_alloc_lt w (a:=⟨b,i,none⟩) (o:=o) h
def RJ {w:Is} {c:za1 HO} {T:Do} {i:Nat}:(w.alloc (.cells c T)).cell? ⟨w.heap.size,i,none⟩=c[i]? :=by
 have h:(w.alloc (.cells c T)).heap[w.heap.size]? =some (.cells c T):=by
  show(w.heap.push _)[w.heap.size]? =_
  simp
 simp_all
def Gh.new (g:Gh)(w:Is)(F:Prop)(n:Nat):Gh:=
 {g with mu:=λx=>if x=g.nx then some w.heap.size else g.mu x,nx:=g.nx+1,fz:=λb o=>g.fz b o\/(F/\b=w.heap.size/\o<n)}
theorem Aw.new {g:Gh}{H:A6}{w:Is}(h:Rl g H w)(o:Obj)(F:Prop)(n:Nat):Aw g w (g.new w F n) (w.alloc o):=by
 refine⟨λid b e=>?_,λt x e=>e,λb o e=>.inl e,rfl,λb i e=>FD (h.fz_lt e),(Bc _ _).alloc h.bnd _,λ_ _ _=>rfl,B1 _⟩;simp only[Gh.new]
 split
 ·next e'=>subst e';rw[(h.nxt _ (B1 _)).1]at e;cases e
 exact e
def heap_alloc {w:Is}{o:Obj}{b:Nat}(h:b<w.heap.size):(w.alloc o).heap[b]? =w.heap[b]? :=Below.heap_alloc w o b h
def Dt {w:Is}{o:Obj}:(w.alloc o).heap[w.heap.size]? =some o:=by
 show(w.heap.push _)[w.heap.size]? =_
 simp
def RP {g g':Gh}{H H':A6}{id:Nat}(h:H' id=H id)(E:g'.mu id=g.mu id)(j:g'.tk id=g.tk id)(z:g'.ow id=g.ow id:=by rfl):g'.at H' id=g.at H id:=by
 simp_all[Gh.at]
def Rl.newNamed {g:Gh} {H:A6} {w:Is} (h:Rl g H w) (o:Obj) (k:KB) (W:k≠ .spare)
 (d:EO (g.new w False 0) (w.alloc o) g.nx k) (N:∀sz xs,k≠ .arr sz xs:=by intro _ _ h;cases h):Rl (g.new w False 0) (upd H g.nx (some k)) (w.alloc o):=by
 have s:=Aw.new h o False 0;have c:=h.nxt g.nx (B1 _)
 have i:∀id,id≠g.nx->(g.new w False 0).at (upd H g.nx (some k)) id=g.at H id:=λid U=>
  RP (D3 _ _ U) (by grind[Gh.new]) rfl
 have l:(g.new w False 0).at (upd H g.nx (some k)) g.nx=some w.heap.size:=by
  cases k<;>simp_all[Gh.at,G4,Gh.new]
 refine⟨λid b A=>?_,λid x b O Z=>?_,λb o r=>?_,λid U=>?_,?_,λn=>(h.glb n).mono s⟩
 ·by_cases U:id=g.nx
  ·grind[upd]
  rw[D3 _ _ U]at A
  refine(h.blk id b A).mono A s λb' t=>⟨heap_alloc (h.lt t),λo z=>?_⟩
  grind[Gh.new]
 ·by_cases U:id=g.nx<;>by_cases a:x=g.nx
  ·rw[U,a]
  ·subst U;rw[l]at O;rw[i _ a]at Z;cases O;exact absurd (h.lt Z) (Ag _)
  ·subst a;rw[l]at Z;rw[i _ U]at O;cases Z;exact absurd (h.lt O) (Ag _)
  rw[i _ U]at O;rw[i _ a]at Z;exact h.inj _ _ _ O Z
 ·rcases r with r|⟨p,_⟩
  ·have⟨v,q⟩:=h.frz b o r;exact⟨v,(FD (h.fz_lt r)).trans q⟩
  omega
 ·have a:g.nx<=id:=KX U
  have y:id≠g.nx:=λe=>by grind[Gh.new]
  have⟨f,j,m⟩:=h.nxt id a
  grind[Gh.new,upd]
 have:=h.bnd;simp[Gh.new];omega
def Rl.newFrozen {g:Gh} {H:A6} {w:Is} (h:Rl g H w) (c:za1 HO) (T:Do) (n:Nat) (j:n<=c.size):
 Rl (g.new w True n) H (w.alloc (.cells c T)):=by
 have s:=Aw.new h (.cells c T) True n
 have a:∀id b,(g.new w True n).at H id=some b->g.at H id=some b:=by
  intro id b A
  cases W:H id with
  |none=>simp_all[Gh.at]
  |some k=>
   have x:id≠g.nx:=λe=>by subst e;rw[(h.nxt _ (B1 _)).2.2]at W;cases W
   rwa[RP (g:=g) (g':=g.new w True n) (H:=H) (H':=H) rfl (by grind[Gh.new]) rfl]at A
 refine⟨λid b A=>?_,λid y b O Z=>h.inj _ _ _ (a _ _ O) (a _ _ Z),λb o l=>?_,λid U=>?_,?_,λn=>(h.glb n).mono s⟩
 ·refine(h.blk id b A).mono A s λb' i=>⟨heap_alloc (h.lt i),λo z=>?_⟩
  rcases z with z|⟨_,e,_⟩
  ·exact z
  subst e;exact absurd (h.lt i) (Ag _)
 ·rcases l with l|⟨_,e,z⟩
  ·have⟨v,q⟩:=h.frz b o l;exact⟨v,(FD (h.fz_lt l)).trans q⟩
  subst e
  have:o<c.size:=za2
  simp_all
 ·have r:g.nx<=id:=KX U
  have t:id≠g.nx:=λe=>by grind[Gh.new]
  have⟨N,d,f⟩:=h.nxt id r
  simp_all[Gh.new]
 have:=h.bnd;simp[Gh.new];omega
def Zj {w:Is}{b:Nat}{o:Obj}(h:w.heap[b]? =some o):b<w.heap.size:=by
 grind
def S7 (w:Is)(g:Nat)(cs:za1 HO)(k:Nat)(h:k≠g):(w.setRow g cs).heap[k]? =w.heap[k]? :=by
 simp only[World.setRow,IP];rw[A1 za2]
theorem EL (w:Is)(b:Nat)(cs:za1 HO)(k o:Nat)(h:k≠b):(w.setRow b cs).cell? ⟨k,o,none⟩=w.cell? ⟨k,o,none⟩:=
 World.cell?_of_block (w:=w) (a:=⟨k,o,none⟩) (S7 w b cs k h)
def JG {B:Nat}(w:Is)(b:Nat)(cs:za1 HO)(h:B<=b):Below B w (w.setRow b cs):=
 ⟨rfl,rfl,rfl,za8,λk W=>S7 w b cs k za2⟩
def Rl.setNamed {g:Gh} {H:A6} {w:Is} (h:Rl g H w) {id b:Nat} {cs cs':Up V} {c c':za1 HO} {T:Do} (W:H id=some (.cells cs)) (A:g.mu id=some b)
 (R:w.heap[b]? =some (.cells c T (0,0))) (p:c'.size=c.size) (B:cs'.length=cs.length)
 (q:∀j,j<cs'.length->(c'.getD j undef).oneCell'=true/\VR g w (c'.getD j undef) (cs'.getD j .bad)):
 Aw g w g (w.setRow b c')/\Rl g (upd H id (some (.cells cs'))) (w.setRow b c'):=by
 have⟨b',d,C,O,Z,J,G,I,f⟩:=h.blk id _ W
 have e:b'=b:=by rw[A]at O;simp_all
 subst e
 rw[R]at J
 have e2:d=c:=za7
 subst e2
 have s:Aw g w g (w.setRow b' c'):=by
  refine⟨λ_ _ e=>e,λ_ _ e=>e,λ_ _ e=>e,rfl,λb o l=>?_,JG w b' c' Z,λ_ _ _=>rfl,B1 _⟩
  have t:b≠b':=λe=>za8
  grind[EL]
 have i:∀x,g.at (upd H id (some (.cells cs'))) x=g.at H x:=by
  grind[Gh.at,upd]
 have r:g.at H id=some b':=by simp_all[Gh.at]
 refine⟨s,λx k M=>?_,λx x' y O Z=>h.inj x x' y (i x▸O) (i x'▸Z),λy o l=>?_,λx M=>?_,?_,λn=>(h.glb n).mono s⟩
 ·by_cases a:x=id
  ·subst a;rw[G4]at M;cases M
   refine⟨b',c',T,A,Z,setRow_heap w b' d c' T (0,0) R,za2,λj u=>⟨(q j u).1,(q j u).2.mono s⟩,f⟩
  rw[D3 _ _ a]at M
  refine(h.blk x k M).mono M s λy m=>⟨S7 w b' c' y λe=>?_,λ_ z=>z⟩;subst e;exact a (h.inj _ _ _ m r)
 ·have⟨v,N⟩:=h.frz y o l;exact⟨v,(s.cell y o l).trans N⟩
 ·have⟨D,E,F⟩:=h.nxt x M
  have t:x≠id:=λe=>za8
  simp_all[upd]
 have:=h.bnd;simp_all
def Rl.freeze {g:Gh} {H:A6} {w:Is} (h:Rl g H w) {id:Nat} {cs:Up V} (W:H id=some (.cells cs)):
 ∃g',Aw g w g' w/\Rl g' (upd H id none) w/\∀v off,VR g w v (.ref id off)->VR g' w v (.eref cs off):=by
 have⟨b,c,T,O,Z,J,B,N,C⟩:=h.blk id _ W
 let g':Gh:={g with fz:=λx o=>g.fz x o\/(x=b/\o<c.size)}
 have s:Aw g w g' w:=⟨λ_ _ e=>e,λ_ _ e=>e,λ_ _ e=>.inl e,rfl,λ_ _ _=>rfl,Bc _ _,λ_ _ _=>rfl,B1 _⟩
 have t:g.at H id=some b:=by simp_all[Gh.at]
 have a:∀o,w.cell? ⟨b,o,none⟩=c[o]? :=λo=>by simp[World.cell?,J]
 have i:∀x y,g'.at (upd H id none) x=some y->x≠id/\g.at H x=some y:=by
  grind[Gh.at,upd]
 refine⟨g',s,⟨λx k M=>?_,λx x' y O Z=>h.inj _ _ _ (i _ _ O).2 (i _ _ Z).2,λy o r=>?_,λx M=>?_,h.bnd,λn=>(h.glb n).mono s⟩,λv off q=>?_⟩
 ·have l:x≠id:=λe=>by simp_all[upd]
  rw[D3 _ _ l]at M
  refine(h.blk x k M).mono M s λy m=>⟨rfl,λo z=>?_⟩
  rcases z with z|⟨e,_⟩
  ·exact z
  subst e;exact absurd (h.inj _ _ _ m t) l
 ·rcases r with r|⟨e,z⟩
  ·exact h.frz y o r
  simp_all
 ·have⟨f,p,A⟩:=h.nxt x M
  have d:x≠id:=λe=>za8
  grind[upd]
 cases q with
 | ref E=>
  rw[O]at E;cases E
  have:=VR.eref (g:=g') (w:=w) (b:=b) (o:=0) (off:=off) (cs:=cs) (λj=>c.getD j undef) (λj u=>.inr ⟨rfl,za2⟩)
   (λj u=>by rw[a];simp_all) (λj u=>(N j u).1) (λj u=>(N j u).2.mono s)
  simp_all
def Bo0:TypeDesc->Bool
 | .struct _=>true
 | .array _ _=>true
 |_=>false
def HL (P:If)(t:Do):OS Nat:=(P.info? t).map (·.size)
def SN (P:If)(t:Do):OS Nat:=(P.info? t).map (·.bytes)
def agO (P:If)(t:Do):OS Bool:=(P.underlying t).map Bo0
def HS (P:If)(t:Do):OS TypeId:=
 match P.underlying t with
 |some (.slice e)=>some e
 |_=>none
def arO (P:If)(t:Do):OS (Nat×Do):=
 match P.underlying t with
 |some (.array n e)=>some (n,e)
 |_=>none
def YM (P:If)(t:Do):Bool:=
 match P.underlying t with
 |some .string=>true
 |_=>false
def ifO (P:If)(t:Do):Bool:=
 match P.underlying t with
 |some (.interface _)=>true
 |none=>true
 |_=>false
def fdO (P:If) (t:Do) (f:Nat):OS (Nat×Do):=
 match P.underlying t with
 |some (.struct fs)=>
  match fs[f]? with
  |some x=>if(HL P x.type).getD 0=0 then none else some (x.offset,x.type)
  |none=>none
 |_=>none
def cv1:HO->V
 | .bool b=>.bool b
 | .int k n=>.int k n
 | .string s=>.str s
 | .pointer none=>.nilp
 | .slice none 0 0=>.sl [] .nil
 | .map none=>.nilmap
 | .nilFunc=>.nilf
 | .nilIface=>.nili
 |_=>.bad
def cv:HO->V
 | .agg cs=>if cs.all Value.oneCell' then .agg (cs.toList.map cv1)else .bad
 | .func (.func f) fs cs=>if fs.size=0/\cs.size=0 then .func (.func f) [] []else .bad
 |v=>cv1 v
def KC (P:If)(t:Do):OS V:=((P.info? t).bind (·.zero)).map cv
theorem AF1 (g:Gh)(w:Is)(v:HO):VR g w v (cv1 v):=by
 unfold cv1
 split<;>first|exact .sl0 rfl|constructor
theorem GI (g:Gh) (w:Is) (v:HO):VR g w v (cv v):=by
 unfold cv
 split
 ·next cs=>
  split
  ·next h=>
   have a:∀i,i<cs.size->(cs.getD i undef).oneCell'=true:=λi U=>by
    have:=(Array.all_eq_true.1 h) i U
    simp_all
   refine .agg za4 (λi U=>a i za7) λi U=>?_
   have b:i<cs.size:=za7
   have:(cs.toList.map cv1).getD i .bad=cv1 (cs.getD i undef):=by
    simp_all
   rw[this];grind[AF1]
  exact .bad _
 ·split
  ·next f fs cs h=>exact .func za7 (λi U=>by simp at U) za7 (λi U=>by simp at U)
  exact .bad _
 grind[AF1]
def ev (fr:Fr):By->V
 | .tmp t=>fr.s t
 | .const v=>cv v
 | .global n=>P3.gl n
 | .func f=>.func (.func f) [] []
def ER (g:Gh)(w:Is)(a:Act)(fr:Fr):Prop:=∀t,VR g w (a.tmps.getD t undef) (fr.s t)
theorem G1 {g:Gh}{w:Is}{H:A6}{a:Act}{fr:Fr}(F:Rl g H w)(h:ER g w a fr)(x:By):VR g w (a.eval x) (ev fr x):=by
 cases x with
 |tmp t=>exact h t
 |const v=>exact GI g w v
 |global n=>exact F.glb n
 |func f=>exact .func rfl (λi U=>by simp at U) rfl (λi U=>by simp at U)
def ER.mono {g g':Gh}{w w':Is}{a:Act}{fr:Fr}(h:ER g w a fr)(s:Aw g w g' w'):ER g' w' a fr:=λt=>(h t).mono s
def J1 (P:If)(K:HO->Is->Prop):Result Next->Prop
 | .ok (.value v) w=>K v w
 | .ok .skip w=>K undef w
 | .ok (.enter f args) w=>CallsIn Fence.wide 0 P f args w λe w'=>∃v,e= .returned v/\K v w'
 | .ok (.round l f b a body) w=>RoundIn Fence.wide 0 P l f b a body w λe w'=>∃v,e= .returned v/\K v w'
 |_=>False
def P0 (g:Gh)(w:Is)(K:V->A6->Prop)(v:HO)(w':Is):Prop:=
 ∃g' x H',Aw g w g' w'/\Rl g' H' w'/\VR g' w' v x/\K x H'
def K3 (P:If)(o:Oper)(fr:Fr)(H:A6)(K:V->A6->Prop):Prop:=
 ∀g w a,Rl g H w->ER g w a fr->J1 P (P0 g w K) ((execOp a.eval o).run P w)
theorem P0.here {g:Gh}{H:A6}{w:Is}{K:V->A6->Prop}{v:HO}{x:V}(F:Rl g H w)(q:VR g w v x)(h:K x H):P0 g w K v w:=
 ⟨g,x,H,Aw.refl _ _,F,q,h⟩
section
variable {P:Program}{o:Oper}{fr:Fr}{H:A6}{K:V->A6->Prop}
theorem Ad2 {x:By}(z:o.op= .move x)(h:K (ev fr x) H):K3 P o fr H K:=by
 intro g w a F b;unfold execOp;rw[z];exact P0.here F (G1 F b x) h
theorem UZ {x:By}(z:o.op= .assign x)(h:K (ev fr x) H):K3 P o fr H K:=by
 intro g w a F b;unfold execOp;rw[z];exact P0.here F (G1 F b x) h
theorem AT5 {c x y:By}{t:Bool}(z:o.op= .pick c x y)(X:ev fr c= .bool t)(h:K (if t then ev fr x else ev fr y) H):K3 P o fr H K:=by
 intro g w a F b;have A:=G1 F b c
 rw[X]at A
 have e:a.eval c= .bool t:=by generalize a.eval c=v at A;cases A;rfl
 unfold execOp;rw[z];simp only[e,asBool,C0,C6,B7,J1];cases t
 ·exact P0.here F (G1 F b y) h
 exact P0.here F (G1 F b x) h
def VR.int_inv {g:Gh}{w:Is}{v:HO}{k:IntKind}{n:Int}(h:VR g w v (.int k n)):v= .int k n:=by cases h;rfl
def VR.bool_inv {g:Gh}{w:Is}{v:HO}{b:Bool}(h:VR g w v (.bool b)):v= .bool b:=by cases h;rfl
def VR.str_inv {g:Gh}{w:Is}{v:HO}{s:za0}(h:VR g w v (.str s)):v= .string s:=by cases h;rfl
theorem VR.cells {g:Gh} {w:Is} {v:HO} {x:V} (h:VR g w v x) (O:x.one=true):
 v.cells.size=x.cells.length/\∀j,j<x.cells.length->(v.cells.getD j undef).oneCell'=true/\VR g w (v.cells.getD j undef) (x.cells.getD j .bad):=by
 cases h with
 |agg B a q=>exact⟨B,λj u=>⟨a j u,q j u⟩⟩
 |bad v=>simp[V.one]at O
 |tup B q=>simp[V.one]at O
 | _=>
  refine⟨rfl,λj u=>?_⟩
  have:j=0:=by simpa[V.cells]using u
  subst this;refine⟨rfl,?_⟩;simp only[V.cells,Value.cells,NP]
  first
   |exact .bool _|exact .int _ _|exact .str _|exact .nilp|exact .nilf|exact .nili|exact .nilmap
   |(constructor<;>assumption)
   |(exact .sl0 zb0)
   |(exact .sl _ zb0 zb0 zb0 zb0 zb0 zb0 zb0 zb0)
   |(exact .func zb0 zb0 zb0 zb0)
   |(exact .eref _ zb0 zb0 zb0 zb0)
end
def HT (a:Bool)(sz:Nat)(cs:Up V)(off:Nat):OS V:=
 if a then(if off+sz<=cs.length then some (.agg ((cs.drop off).take sz))else none)else cs[off]?
def AF (cs:Up V)(off:Nat)(xs:Up V):Up V:=cs.take off++(xs++cs.drop (off+xs.length))
def LF (P:If) (H:A6) (t:Do) (v:V):OS V:=
 match agO P t,HL P t,v with
 |some a,some sz,.eref cs off=>HT a sz cs off
 |some a,some sz,.ref id off=>
  match H id with
  |some (.cells cs)=>HT a sz cs off
  |_=>none
 |_,_,_=>none
def Qi (P:If) (H:A6) (t:Do) (v x:V):OS A6:=
 match HL P t,v with
 |some sz,.ref id off=>
  match H id with
  |some (.cells cs)=>if x.one=true/\x.cells.length=sz/\off+sz<=cs.length then some (upd H id (some (.cells (AF cs off x.cells))))else none
  |_=>none
 |_,_=>none
def ZU (g:Gh)(w:Is)(b o:Nat)(cs:Up V):Prop:=
 ∀j,j<cs.length->∃v,w.cell? ⟨b,o+j,none⟩=some v/\v.oneCell'=true/\VR g w v (cs.getD j .bad)
theorem BW (b o n:Nat):(⟨b,o,none⟩:Addr).add n=⟨b,o+n,none⟩:=by
 unfold Addr.add;split<;>simp_all
section
variable {P:Program}{o:Oper}{fr:Fr}{H:A6}{K:V->A6->Prop}
def Oi {t:Do} {a:Bool} (h:agO P t=some a) (w:Is):(isAgg t).run P w= .ok a w:=by
 unfold agO at h
 cases b:P.underlying t with
 |none=>grind
 |some d=>
  simp only[b,K5,E7]at h
  unfold isAgg;rw[C0,run_underlying b w];subst h;cases d<;>rfl
def V5 {t:Do}{sz:Nat}(h:HL P t=some sz)(w:Is):(sizeOf t).run P w= .ok sz w:=by
 unfold HL at h
 cases U:P.info? t with
 |none=>grind
 |some i=>simp[U]at h;simp[sizeOf,typeInfo,U,h]
def Kh {g:Gh} {w:Is} {b q:Nat} {cs:Up V} (X:ZU g w b q cs) {t:Do} {r:Bool} {sz off:Nat} {x:V} (T:agO P t=some r) (C:HL P t=some sz)
 (l:HT r sz cs off=some x):∃v,(loadVar t ⟨b,q+off,none⟩).run P w= .ok v w/\VR g w v x:=by
 unfold loadVar;rw[C0,Oi T w];simp only[B7]
 cases r with
 | true=>
  simp only[HT,D8]at l
  split at l
  ·next hle=>
   cases l
   have N:∀j,j<sz->w.cell? ((⟨b,q+off,none⟩:Addr).add j)=some ((w.cell? ⟨b,q+off+j,none⟩).getD undef):=by
    intro j u;have⟨v,h,_⟩:=X (off+j) za2;rw[BW,show q+off+j=q+(off+j) by omega,h];rfl
   refine⟨.agg ((List.range sz).map λj=>(w.cell? ⟨b,q+off+j,none⟩).getD undef).toArray,?_,?_⟩
   ·simp_all[V5,run_loadCells]
   refine .agg ?_ (λi U=>?_) λi U=>?_
   ·simp;omega
   ·have a:i<sz:=za7
    have⟨v,h,O,_⟩:=X (off+i) za2
    have:(((List.range sz).map λj=>(w.cell? ⟨b,q+off+j,none⟩).getD undef).toArray).getD i undef=v:=by
     simp[Array.getD,a,show q+off+i=q+(off+i) by omega,h]
    rw[this];exact O
   have a:i<sz:=za7
   have⟨v,h,_,Z⟩:=X (off+i) za2
   have:(((List.range sz).map λj=>(w.cell? ⟨b,q+off+j,none⟩).getD undef).toArray).getD i undef=v:=by
    simp[Array.getD,a,show q+off+i=q+(off+i) by omega,h]
   rw[this]
   have e:((cs.drop off).take sz).getD i .bad=cs.getD (off+i) .bad:=by
    grind
   rw[e];exact Z
  cases l
 | false=>
  simp only[HT,L6,H7]at l
  have y:off<cs.length:=by
   grind
  have⟨v,h,_,Z⟩:=X off y
  simp_all
def TV {g:Gh}{w:Is}{id b:Nat}{cs:Up V}(F:Rl g H w)(W:H id=some (.cells cs))(A:g.mu id=some b):ZU g w b 0 cs:=by
 have⟨b',c,T,O,Z,J,s,e,h⟩:=F.blk id _ W
 rw[A]at O;cases O
 intro j u
 have a:j<c.size:=za2
 refine⟨c.getD j undef,?_,(e j u).1,(e j u).2⟩;simp[World.cell?,J,Array.getD,a]
theorem AU1 {t:Do} {y:By} {x:V} (z:o.op= .load t y) (B:LF P H t (ev fr y)=some x) (h:K x H):K3 P o fr H K:=by
 intro g w a F c;have i:=G1 F c y
 unfold LF at B
 split at B
 ·next ag sz cs off ha hs he=>
  rw[he]at i
  generalize e:a.eval y=v at i
  cases i with
  |eref vs d R O N=>
   rename_i b q;have⟨u,l,f⟩:=Kh (P:=P) (g:=g) (w:=w) (b:=b) (q:=q) (cs:=cs) (λj r=>⟨vs j,R j r,O j r,N j r⟩) ha hs B;unfold execOp;rw[z];simp only[e,Instr.loadAt,Instr.sureAddr,C0,C6,B7,l,J1]
   grind[P0.here]
 ·next ag sz id off ha hs he=>
  rw[he]at i
  generalize e:a.eval y=v at i
  cases i with
  | ref E=>
   rename_i b
   split at B
   ·next cs hk=>
    have⟨u,l,f⟩:=Kh (P:=P) (TV F hk E) ha hs B
    rw[K4]at l
    unfold execOp;rw[z];simp only[e,Instr.loadAt,Instr.sureAddr,C0,C6,B7,l,J1]
    grind[P0.here]
   cases B
 cases B
theorem Dh {cs xs:Up V}{off:Nat}(h:off+xs.length<=cs.length):(AF cs off xs).length=cs.length:=by
 grind[AF]
def LH {cs xs:Up V}{off j:Nat}(h:off+xs.length<=cs.length):
 (AF cs off xs).getD j .bad=if off<=j/\j<off+xs.length then xs.getD (j-off) .bad else cs.getD j .bad:=by
 grind[AF]
def Xu {t:Do} {y z:By} {x:V} {H':A6} (L:o.op= .store t y z) (R:∀g w v,VR g w v (ev fr z)->VR g w v x) (B:Qi P H t (ev fr y) x=some H') (h:K .bad H'):K3 P o fr H K:=by
 intro g w a F A;have q:=G1 F A y;have M:=R _ _ _ (G1 F A z)
 unfold Qi at B
 split at B
 ·next sz id off hs he=>
  rw[he]at q
  generalize N:a.eval y=v at q
  cases q with
  | ref E=>
   rename_i b
   split at B
   ·next cs hk=>
    split at B
    ·next hcond=>
     have⟨r,i,C⟩:=hcond;cases B;have⟨d,f⟩:=M.cells r;have⟨b',c,T,O,Z,J,s,Q,S⟩:=F.blk id _ hk
     rw[E]at O;cases O
     have p:(a.eval z).cells.size=sz:=by rw[d,i]
     have l:∀v∈(a.eval z).cells.toList,v.oneCell'=true:=by
      intro v q;obtain⟨j,u,rfl⟩:=K1 q
      have G:j<(a.eval z).cells.size:=za2
      have:=(f j za2).1
      simp_all
     have m:=run_storeCells_at P b off T (a.eval z).cells.toList 0 c w J za6 l
     have e:=F.setNamed (cs':=AF cs off x.cells) (c':=(c.toList.take (off+0)++(a.eval z).cells.toList++c.toList.drop (off+0+(a.eval z).cells.toList.length)).toArray)
      hk E J za6 (Dh za2) (λj u=>by
       rw[Dh za2]at u
       rw[LH za2]
       have X:((c.toList.take (off+0)++(a.eval z).cells.toList++c.toList.drop (off+0+(a.eval z).cells.toList.length)).toArray).getD j undef=
        if off<=j/\j<off+x.cells.length then(a.eval z).cells.getD (j-off) undef else c.getD j undef:=by
        have I:j<c.size:=za2
        simp only[BC,Q9,AA,D2];rw[EV,EV];simp only[X8,IL,NE (show off<=c.size by omega),NM,GW,DQ]
        by_cases D:j<off
        ·rw[A2 D,A2 D,A1 za2]
        grind
       rw[X]
       grind)
     unfold execOp;rw[L];simp only[N,Instr.storeAt,Instr.sureAddr,storeVar,C0,C6,B7,V5 hs w,p,ne_eq,IK,H7,m,J1];exact⟨g,.bad,_,e.1,e.2,.bad _,h⟩
    cases B
   cases B
 cases B
end
def AP7 (v:V)(n:Nat):OS V:=
 match v with
 | .eref cs off=>some (.eref cs (off+n))
 | .ref id off=>some (.ref id (off+n))
 | .elem id i sz off=>some (.elem id i sz (off+n))
 |_=>none
def Ko (P:If)(t:Do)(v:V)(f:Nat):OS V:=
 match fdO P t f with
 |some (off,_)=>AP7 v off
 |none=>none
def Wa (P:If) (t:Do) (v:V) (f:Nat):OS V:=
 match fdO P t f,v with
 |some (off,a),.agg cs=>
  match agO P a,HL P a with
  |some b,some sz=>HT b sz cs off
  |_,_=>none
 |_,_=>none
def GF (P:If)(t:Do)(v:V)(i:Int):OS V:=
 match HS P t,arO P t,v with
 |some e,_,.sl xs _=>if(0<=i/\i<xs.length)/\HL P e=some (xs.getD i.toNat .bad).cells.length then some (.eref (xs.getD i.toNat .bad).cells 0)else none
 |none,some (n,e),v=>if 0<=i/\i<n then(HL P e).bind λsz=>AP7 v (i.toNat*sz)else none
 |_,_,_=>none
def SC (P:If) (t:Do) (v:V) (i:Int):OS V:=
 match arO P t,v with
 | some (n,e),.agg cs=>
  if 0<=i/\i<n then
   match agO P e,HL P e with
   |some a,some sz=>HT a sz cs (i.toNat*sz)
   |_,_=>none
  else none
 |none,.str s=>if YM P t=true/\0<=i then(s[i.toNat]?).map λb=>.int .u8 b.toNat else none
 |_,_=>none
section
variable {P:Program}{o:Oper}{fr:Fr}{H:A6}{K:V->A6->Prop}
def Ao3 {g:Gh} {w:Is} {v:HO} {x y:V} {n:Nat} (h:VR g w v x) (m:AP7 x n=some y):
 ∃b q,v= .pointer (some ⟨b,q,none⟩)/\VR g w (.pointer (some ⟨b,q+n,none⟩)) y:=by
 unfold AP7 at m
 split at m
 ·cases m
  cases h with
  |eref vs a R O e=>exact⟨_,_,rfl,by rw[CI];exact .eref vs a R O e⟩
 ·cases m
  cases h with
  |ref E=>exact⟨_,_,rfl,.ref E⟩
 ·cases m
  cases h with
  |elem E C=>exact⟨_,_,rfl,by rw[CI];exact .elem E C⟩
 cases m
theorem WS {t:Do} {y:By} {f:Nat} {x:V} (z:o.op= .fieldAddr t y f) (B:Ko P t (ev fr y) f=some x) (h:K x H):K3 P o fr H K:=by
 intro g w a F l;have r:=G1 F l y
 unfold Ko at B
 split at B
 ·next off ft hfd=>
  have⟨b,q,i,N⟩:=Ao3 r B
  unfold fdO at hfd
  split at hfd
  ·next fs hu=>
   split at hfd
   ·next x' hx=>
    split at hfd
    ·cases hfd
    next hne=>
    cases hfd
    cases C:HL P x'.type with
    |none=>simp_all
    |some sz=>
     have e:sz≠0:=za8
     unfold execOp;rw[z];simp only[i,Instr.fieldAt,Instr.sureAddr,fieldPlace,C0,C6,B7,run_underlying hu,hx,V5 C,e,H7,J1,BW]
     grind[P0.here]
   cases hfd
  cases hfd
 cases B
def Ag1 {g:Gh} {w:Is} {vs:za1 HO} {cs:Up V} {x:V} {t:Do} {b:Bool} {sz off:Nat} (q:VR g w (.agg vs) (.agg cs)) (T:agO P t=some b) (C:HL P t=some sz)
 (a:HT b sz cs off=some x):∃v,(part t vs off).run P w= .ok v w/\VR g w v x:=by
 cases q with
 | agg B O q=>
  unfold part;rw[C0,Oi T w];simp only[B7]
  cases b with
  | true=>
   simp only[HT,D8]at a
   split at a
   ·next hle=>
    cases a;refine⟨.agg (vs.extract off (off+sz)),by simp_all[V5],.agg za6 (λi U=>?_) λi U=>?_⟩
    all_goals
     have h:i<sz:=by simp at U;omega
     have y:(vs.extract off (off+sz)).getD i undef=vs.getD (off+i) undef:=by
      simp only[Q9,NW];rw[A2 za2]
     have e2:((cs.drop off).take sz).getD i .bad=cs.getD (off+i) .bad:=by
      simp[List.getD,GW,h]
    ·rw[y];grind
    grind
   cases a
  | false=>
   simp only[HT,L6,H7]at a
   have l:off<cs.length:=by
    grind
   have r:off<vs.size:=za2
   refine⟨vs.getD off undef,za8,?_⟩;have e:=q off l
   have:cs.getD off .bad=x:=za8
   rw[this]at e;exact e
theorem AJ2 {t:Do} {y:By} {f:Nat} {x:V} (z:o.op= .field t y f) (B:Wa P t (ev fr y) f=some x) (h:K x H):K3 P o fr H K:=by
 intro g w a F l;have q:=G1 F l y
 unfold Wa at B
 split at B
 ·next off ft cs hfd he=>
  split at B
  ·next ag sz ha hs=>
   rw[he]at q
   generalize b:a.eval y=v at q
   cases q with
   | agg e O i=>
    rename_i vs;have⟨u,r,N⟩:=Ag1 (P:=P) (VR.agg e O i) ha hs B
    unfold fdO at hfd
    split at hfd
    ·next fs hun=>
     split at hfd
     ·next x' hx=>
      split at hfd
      ·cases hfd
      cases hfd;unfold execOp;rw[z];simp only[b,Instr.field,asAgg,C0,C6,B7,run_underlying hun,hx,r,J1]
      grind[P0.here]
     cases hfd
    cases hfd
  cases B
 cases B
def W5 {t e:Do}(h:HS P t=some e):P.underlying t=some (.slice e):=by
 grind[HS]
def RQ {t e:Do}{n:Nat}(h:arO P t=some (n,e)):P.underlying t=some (.array n e):=by
 grind[arO]
theorem WR {t:Do} {y z:By} {k:IntKind} {i:Int} {x:V} (I:o.op= .indexAddr t y z) (Q:ev fr z= .int k i) (B:GF P t (ev fr y) i=some x) (h:K x H):
 K3 P o fr H K:=by
 intro g w a F G;have d:=G1 F G y;have U:=G1 F G z
 rw[Q]at U
 have U:=U.int_inv
 unfold GF at B
 split at B
 ·next e _ xs tl c he=>
  have A:=W5 c
  split at B
  ·next X=>
   have⟨⟨L,O⟩,C⟩:=X;cases B
   rw[he]at d
   generalize r:a.eval y=v at d
   cases d with
   |sl0 J=>grind
   |sle J=>grind
   |sl vs S X E M R m D J=>
    rename_i b q sz n cap
    have l:i.toNat<n:=za2
    have s:sz=(xs.getD i.toNat .bad).cells.length:=(E _ l).symm;unfold execOp;rw[I]
    have N:i<(n:Int):=za2
    simp only[r,U,Instr.indexAt,asIntOf,C0,C6,B7,run_underlying A,L,N,and_self,D8,V5 C,J1,BW];refine P0.here F ?_ h;rw[<-s];refine VR.eref (o:=q+i.toNat*sz) (off:=0) (vs i.toNat) (λj u=>M _ j l za2) (λj u=>R _ j l za2) (λj u=>m _ j l za2) λj u=>D _ j l za2
  cases B
 ·rename_i n e c p;have A:=RQ p
  split at B
  ·next X=>
   cases C:HL P e with
   |none=>grind
   |some sz=>
    simp only[C,A4]at B
    have⟨b,q,r,f⟩:=Ao3 d B;unfold execOp;rw[I];simp only[r,U,Instr.indexAt,Instr.sureAddr,asIntOf,C0,C6,B7,run_underlying A,X.1,X.2,and_self,D8,V5 C,J1,BW]
    grind[P0.here]
  cases B
 cases B
theorem AJ1 {t:Do} {y z:By} {k:IntKind} {i:Int} {x:V} (m:o.op= .index t y z) (p:ev fr z= .int k i) (B:SC P t (ev fr y) i=some x) (h:K x H):
 K3 P o fr H K:=by
 intro g w a F j;have q:=G1 F j y;have U:=G1 F j z
 rw[p]at U
 have U:=U.int_inv
 unfold SC at B
 split at B
 ·next n e cs hae he=>
  have r:=RQ hae
  split at B
  ·next hc=>
   split at B
   ·next ag sz ha hs=>
    rw[he]at q
    generalize b:a.eval y=v at q
    cases q with
    |agg l O d=>
     have⟨u,N,f⟩:=Ag1 (P:=P) (VR.agg l O d) ha hs B;unfold execOp;rw[m];simp only[b,U,Instr.index,asIntOf,C0,C6,B7,run_underlying r,hc.1,hc.2,and_self,D8,V5 hs,N,J1]
     grind[P0.here]
   cases B
  cases B
 ·next s hae he=>
  split at B
  ·next hc=>
   rw[he]at q
   have b:=q.str_inv
   cases A:s[i.toNat]? with
   |none=>grind
   | some c=>
    simp only[A,K5,E7]at B
    subst B
    have r:P.underlying t=some .string:=by
     have:=hc.1
     grind[YM]
    unfold execOp;rw[m];simp only[b,U,Instr.index,asIntOf,C0,C6,B7,run_underlying r,hc.2,D8,A,J1];exact P0.here F (.int _ _) h
  cases B
 cases B
theorem Ad7 {y:By} {n:Nat} {cs:Up V} {x:V} (z:o.op= .extract y n) (Y:ev fr y= .tup cs) (B:cs[n]? =some x) (h:K x H):K3 P o fr H K:=by
 intro g w a F N;have q:=G1 F N y
 rw[Y]at q
 generalize i:a.eval y=v at q
 cases q with
 | tup C r=>
  rename_i vs
  have l:n<cs.length:=by
   grind
  have b:n<vs.size:=za2
  unfold execOp;rw[z];simp only[i,Instr.extract,Dd b,C0,C6,B7,J1];have e:=r n l
  have t:vs.getD n undef=vs[n]:=za8
  have e2:cs.getD n .bad=x:=za8
  rw[t,e2]at e
  grind[P0.here]
def LP {g:Gh} {w:Is} (F:Rl g H w) {v:HO} {x:V} (T:Do) (q:VR g w v x) (O:x.one=true):
 ∃g' id,H id=none/\Aw g w g' (w.alloc (.cells v.cells T))/\Rl g' (upd H id (some (.cells x.cells))) (w.alloc (.cells v.cells T))/\
  VR g' (w.alloc (.cells v.cells T)) (.pointer (some ⟨w.heap.size,0,none⟩)) (.ref id 0):=by
 have s:=Aw.new F (.cells v.cells T) False 0;have⟨b,a⟩:=q.cells O;refine⟨g.new w False 0,g.nx,(F.nxt _ (B1 _)).2.2,s,F.newNamed _ _ za4 ?_,.ref (by simp[Gh.new])⟩;refine⟨w.heap.size,v.cells,T,by simp[Gh.new],F.bnd,Dt,b,λj u=>⟨(a j u).1,(a j u).2.mono s⟩,λo z=>?_⟩
 rcases z with z|⟨e,_⟩
 ·exact absurd (F.fz_lt z) (Ag _)
 exact e
def ZS {g:Gh} {w:Is} (F:Rl g H w) {v:HO} {x:V} (T:Do) (q:VR g w v x) (O:x.one=true):
 ∃g',Aw g w g' (w.alloc (.cells v.cells T))/\Rl g' H (w.alloc (.cells v.cells T))/\
  VR g' (w.alloc (.cells v.cells T)) (.pointer (some ⟨w.heap.size,0,none⟩)) (.eref x.cells 0):=by
 have s:=Aw.new F (.cells v.cells T) True v.cells.size;have⟨e,a⟩:=q.cells O;refine⟨g.new w True v.cells.size,s,F.newFrozen v.cells T v.cells.size (B1 _),?_⟩
 have:=VR.eref (g:=g.new w True v.cells.size) (w:=w.alloc (.cells v.cells T)) (b:=w.heap.size) (o:=0) (off:=0) (cs:=x.cells) (λj=>v.cells.getD j undef)
  (λj u=>.inr ⟨trivial,rfl,za2⟩) (λj u=>by rw[RJ];simp_all)
  (λj u=>(a j u).1) (λj u=>(a j u).2.mono s)
 omega
theorem Oh {t:Do}{y:By}(z:o.op= .box t y)(O:(ev fr y).one=true)(h:K (.eref (ev fr y).cells 0) H):K3 P o fr H K:=by
 intro g w a F i;have⟨g',s,b,e⟩:=ZS F t (G1 F i y) O;unfold execOp;rw[z];exact⟨g',_,_,s,b,e,h⟩
theorem WT {t:Do}{y:By}(z:o.op= .box t y)(O:(ev fr y).one=true)(h:∀id,H id=none->K (.ref id 0) (upd H id (some (.cells (ev fr y).cells)))):K3 P o fr H K:=by
 intro g w a F l;have⟨g',id,e,s,b,i⟩:=LP F t (G1 F l y) O;unfold execOp;rw[z];exact⟨g',_,_,s,b,i,h id e⟩
def FF {t:Do} {z:V} (h:KC P t=some z):∃v,z=cv v/\∀w,(zeroValue t).run P w= .ok v w:=by
 unfold KC at h
 cases U:P.info? t with
 |none=>grind
 | some i=>
  cases a:i.zero with
  |none=>simp_all
  |some v=>
   simp[U,a]at h
   exact⟨v,h.symm,λw=>by simp[zeroValue,typeInfo,U,a]⟩
def AJ7 {t:Do}{z:V}(r:o.op= .alloc t)(x:KC P t=some z)(O:z.one=true)(h:∀id,H id=none->K (.ref id 0) (upd H id (some (.cells z.cells)))):K3 P o fr H K:=by
 intro g w a F y;have⟨v,e,q⟩:=FF x
 have f:VR g w v z:=by rw[e];simp[GI]
 have⟨g',id,i,s,b,l⟩:=LP F t f O;unfold execOp;rw[r];simp only[Instr.alloc,C0,q,B7,J1];exact⟨g',_,_,s,b,l,h id i⟩
end
def OF (a:Nat->OS (Nat×Nat)) (cs:Up V):Up (Nat×V)->OS (Up V)
 |[]=>some cs
 |(i,v)::rest=>
  match a i with
  |none=>none
  |some (off,size)=>if v.one=true/\v.cells.length=size/\off+size<=cs.length then OF a (AF cs off v.cells) rest else none
def Rh (P:If)(t:Do):OS (Up (Nat×Nat)):=
 match P.underlying t with
 |some (.struct a)=>a.toList.mapM (λf=>(P.info? f.type).map λi=>(f.offset,i.size))
 |_=>none
def SO (P:If) (t:Do) (a:Up (Nat×V)):OS V:=
 match arO P t,Rh P t,KC P t with
 |some (_,e),_,some (.agg cs)=>
  match HL P e with
  |some sz=>(OF (λi=>some (i*sz,sz)) cs a).map .agg
  |none=>none
 |none,some pl,some (.agg cs)=>(OF (pl[·]?) cs a).map .agg
 |_,_,_=>none
def Fm (sz:Nat):Nat->Up (Nat×V)->Bool
 |_,[]=>true
 |k,(i,v)::rest=>i==k&&v.one&&v.cells.length==sz&&Fm sz (k+1) rest
def CV (P:If) (t:Do) (n:Nat) (a:Up (Nat×V)):OS V:=
 match HS P t with
 |some e=>
  match HL P e,KC P e with
  |some sz,some _=>if n*sz<=16777216/\a.length=n/\Fm sz 0 a=true then some (.sl (a.map (λq=>q.2)) .full)else none
  |_,_=>none
 |none=>none
section
variable {P:Program}{o:Oper}{fr:Fr}{H:A6}{K:V->A6->Prop}
def TJ (off:Nat):∀(l:Up HO) (k:Nat) (c:za1 HO),off+k+l.length<=c.size->
 let R:=(l.zipIdx k).foldl (λcs (x:HO×Nat)=>cs.setIfInBounds (off+x.2) x.1) c
 R.size=c.size/\∀j,R.getD j undef=if off+k<=j/\j<off+k+l.length then l.getD (j-(off+k)) undef else c.getD j undef
 |[],k,c,_=>⟨rfl,λj=>by rw[A1 za8];rfl⟩
 | v::l,k,c,h=>by
  have B:off+(k+1)+l.length<=(c.setIfInBounds (off+k) v).size:=za7
  have ih:=TJ off l (k+1) (c.setIfInBounds (off+k) v) B
  simp only[List.zipIdx_cons,KP]at ih ⊢
  refine⟨ih.1.trans za4,λj=>?_⟩;rw[ih.2 j];simp only[N3]
  by_cases O:off+(k+1)<=j/\j<off+(k+1)+l.length
  ·rw[A2 O,A2 za2,show j-(off+k)=(j-(off+(k+1)))+1 by omega];rfl
  rw[A1 O]
  by_cases Z:j=off+k
  ·subst Z;rw[A2 za2]
   simp at h
   simp[Array.getD,show off+k<c.size by omega]
  rw[A1 za2];simp only[Q9,HX];rw[A1 za2]
def Ry (off:Nat) (v:HO) (c:za1 HO) (h:off+v.cells.size<=c.size):
 let R:=v.cells.zipIdx.foldl (λcs (x:HO×Nat)=>cs.setIfInBounds (off+x.2) x.1) c
 R.size=c.size/\∀j,R.getD j undef=if off<=j/\j<off+v.cells.size then v.cells.getD (j-off) undef else c.getD j undef:=by
 have:=TJ off v.cells.toList 0 c za2
 simp only[BC,IL]at this
 have e:v.cells.zipIdx.foldl (λcs (x:HO×Nat)=>cs.setIfInBounds (off+x.2) x.1) c=
  (v.cells.toList.zipIdx 0).foldl (λcs (x:HO×Nat)=>cs.setIfInBounds (off+x.2) x.1) c:=by
  rw[<-Array.foldl_toList];simp
 simp_all
def Uh (g:Gh)(w:Is)(c:za1 HO)(cs:Up V):Prop:=
 c.size=cs.length/\∀j,j<cs.length->(c.getD j undef).oneCell'=true/\VR g w (c.getD j undef) (cs.getD j .bad)
def VR.row {g:Gh}{w:Is}{v:HO}{cs:Up V}(h:VR g w v (.agg cs)):∃c,v= .agg c/\Uh g w c cs:=by
 cases h with
 |agg B O q=>simp_all[Uh]
def Uh.agg {g:Gh}{w:Is}{c:za1 HO}{cs:Up V}(h:Uh g w c cs):VR g w (.agg c) (.agg cs):=
 .agg h.1 (λj u=>(h.2 j u).1) λj u=>(h.2 j u).2
inductive SU (g:Gh) (w:World):List (Nat×Value)->List (Nat×V)->Prop
 |nil:SU g w [] []
 |cons {i:Nat} {v:Value} {x:V} {l:List (Nat×Value)} {m:List (Nat×V)} (h:VR g w v x) (r:SU g w l m):SU g w ((i,v)::l) ((i,x)::m)
def As9 {g:Gh}{w:Is}{H:A6}{a:Act}(F:Rl g H w)(b:ER g w a fr):∀l:Up (Nat×By),SU g w (l.map λx=>(x.1,a.eval x.2)) (l.map λx=>(x.1,ev fr x.2))
 |[]=>.nil
 |x::l=>.cons (G1 F b x.2) (As9 F b l)
def Ak3 {g:Gh} {w:Is} {a:Nat->OS (Nat×Nat)} {l:Up (Nat×HO)} {m:Up (Nat×V)} (N:SU g w l m):∀{c:za1 HO} {cs ds:Up V},Uh g w c cs->OF a cs m=some ds->
 ∃d,Instr.fill a c l=some d/\Uh g w d ds:=by
 induction N with
 |nil=>intro c cs ds f h;simp only[OF,E7]at h;subst h;exact⟨c,rfl,f⟩
 | @cons i v x l m q _ ih=>
  intro c cs ds f h
  simp only[OF]at h
  cases b:a i with
  |none=>grind
  | some p=>
   have⟨off,size⟩:=p
   simp only[b]at h
   split at h
   ·next hc=>
    have⟨O,Z,J⟩:=hc;have⟨t,s⟩:=q.cells O;have y:=Ry off v c (by rw[t,f.1];omega)
    have e:Uh g w (v.cells.zipIdx.foldl (λcs (x:HO×Nat)=>cs.setIfInBounds (off+x.2) x.1) c) (AF cs off x.cells):=by
     refine⟨by rw[y.1,Dh za2,f.1],λj u=>?_⟩
     rw[Dh za2]at u
     rw[y.2 j,LH za2,t]
     split
     ·grind
     exact f.2 j u
    have⟨d,hd,r⟩:=ih e h;refine⟨d,?_,r⟩;simp only[Instr.fill,b];rw[A1]
    ·exact hd
    simp only[t,Z,f.1,ne_eq,IK,KI,GR,H5];omega
   cases h
def ZY {t:Do} {z:V} (h:KC P t=some z):∃i v,P.info? t=some i/\i.zero=some v/\z=cv v:=by
 unfold KC at h
 cases U:P.info? t with
 |none=>grind
 |some i=>
  cases a:i.zero with
  |none=>simp_all
  |some v=>simp_all
theorem AJ5 {t:Do} {b:za1 (Nat×By)} {x:V} (z:o.op= .build t b) (B:SO P t (b.toList.map λ(p:Nat×By)=>(p.1,ev fr p.2))=some x) (h:K x H):K3 P o fr H K:=by
 intro g w a F G;have E:=As9 F G b.toList
 have u:(b.map λ(x:Nat×By)=>(x.1,a.eval x.2)).toList=b.toList.map λx=>(x.1,a.eval x.2):=za4
 have key:∃d cs,P.built t (b.toList.map λx=>(x.1,a.eval x.2))=some d/\x= .agg cs/\Uh g w d cs:=by
  unfold SO at B
  split at B
  ·rename_i e cs m j;have C:=RQ m
   split at B
   ·next sz hs=>
    have⟨i,v,U,D,q⟩:=ZY j
    have l:VR g w v (.agg cs):=by rw[q];simp[GI]
    obtain⟨c,rfl,r⟩:=l.row
    unfold HL at hs
    cases s:P.info? e with
    |none=>simp_all
    | some I=>
     simp[s]at hs
     cases y:OF (λi=>some (i*sz,sz)) cs (b.toList.map λ(p:Nat×By)=>(p.1,ev fr p.2))with
     |none=>simp_all
     |some ds=>
      simp only[y,K5,E7]at B
      have⟨d,hd,f⟩:=Ak3 E r y;exact⟨d,ds,by simp[Program.built,U,C,D,s,hs,Value.cells,hd],B.symm,f⟩
   cases B
  ·next pl cs m hpl j=>
   unfold Rh at hpl
   split at hpl
   ·next fields C=>
    have⟨i,v,U,D,q⟩:=ZY j
    have l:VR g w v (.agg cs):=by rw[q];simp[GI]
    obtain⟨c,rfl,r⟩:=l.row
    cases y:OF (pl[·]?) cs (b.toList.map λ(p:Nat×By)=>(p.1,ev fr p.2))with
    |none=>simp_all
    |some ds=>
     simp only[y,K5,E7]at B
     have⟨d,hd,f⟩:=Ak3 E r y
     have N:(λi:Nat=>(pl.toArray)[i]?)=(λi:Nat=>pl[i]?):=by funext i;simp
     exact⟨d,ds,by simp only[Program.built,U,C,D,hpl,Value.cells,N,hd],B.symm,f⟩
   cases hpl
  cases B
 obtain⟨d,cs,A,rfl,l⟩:=key;unfold execOp;rw[z];have:=run_build (P:=P) w t (b.map λ(x:Nat×By)=>(x.1,a.eval x.2)) d (by rw[u];exact A);simp only[C0,this,B7,C6,J1];exact P0.here F l.agg h
def Ba7 {g:Gh} {w:Is} {sz:Nat} {l:Up (Nat×HO)} {m:Up (Nat×V)} (f:SU g w l m):∀{c:za1 HO} {k:Nat},(k+m.length)*sz<=c.size->Fm sz k m=true->
 ∃d,Instr.fill (λi=>some (i*sz,sz)) c l=some d/\d.size=c.size/\(∀j,j<k*sz->d.getD j undef=c.getD j undef)/\
  ∀i j,i<m.length->j<sz->((m.getD i (0,.bad)).2.cells.length=sz)/\(d.getD ((k+i)*sz+j) undef).oneCell'=true/\VR g w (d.getD ((k+i)*sz+j) undef) ((m.getD i (0,.bad)).2.cells.getD j .bad):=by
 induction f with
 |nil=>intro c k X _;exact⟨c,rfl,rfl,λ_ _=>rfl,λi j U=>by simp at U⟩
 | @cons i v x l m q _ ih=>
  intro c k X C
  simp only[Fm,K0,EY]at C
  obtain⟨⟨⟨rfl,O⟩,Z⟩,J⟩:=C;have⟨p,s⟩:=q.cells O
  have b:(i+(m.length+1))*sz=i*sz+sz+m.length*sz:=by rw[E2,E2];omega
  have a:(i+1+m.length)*sz=i*sz+sz+m.length*sz:=by rw[E2,E2];omega
  simp only[N3]at X
  rw[b]at X
  have r:=Ry (i*sz) v c (by rw[p,Z];omega);have⟨d,hd,h,e,y⟩:=ih (c:=v.cells.zipIdx.foldl (λcs (x:HO×Nat)=>cs.setIfInBounds (i*sz+x.2) x.1) c) (k:=i+1) (by rw[r.1,a];omega) J;refine⟨d,?_,h.trans r.1,λj u=>?_,λt j N u=>?_⟩
  ·simp only[Instr.fill];rw[A1]
   ·exact hd
   grind
  ·rw[e j (by rw[E2];omega),r.2 j,A1 za2]
  cases t with
  |zero=>
   simp_all[E2]
  |succ t=>
   grind
def Oj {g:Gh} {w:Is} {a:Act} (F:Rl g H w) (E:ER g w a fr) {t:Do} {n:Nat} {b:za1 (Nat×By)} {x:V} (B:CV P t n (b.toList.map λ(p:Nat×By)=>(p.1,ev fr p.2))=some x):
 ∃e sz z,HS P t=some e/\HL P e=some sz/\KC P e=some z/\x= .sl ((b.toList.map λ(p:Nat×By)=>(p.1,ev fr p.2)).map λ(q:Nat×V)=>q.2) .full/\(b.toList.map λ(p:Nat×By)=>(p.1,ev fr p.2)).length=n/\Fm sz 0 (b.toList.map λ(p:Nat×By)=>(p.1,ev fr p.2))=true/\
 ∃ d:za1 HO,(Instr.buildSlice t n (b.map λ(x:Nat×By)=>(x.1,a.eval x.2))).run P w= .ok (.slice (some ⟨w.heap.size,0,none⟩) n n) (w.alloc (.cells d e))/\d.size=n*sz/\
  ∀i j,i<n->j<sz->(((b.toList.map λ(p:Nat×By)=>(p.1,ev fr p.2)).getD i (0,.bad)).2.cells.length=sz)/\(d.getD (i*sz+j) undef).oneCell'=true/\
   VR g w (d.getD (i*sz+j) undef) (((b.toList.map λ(p:Nat×By)=>(p.1,ev fr p.2)).getD i (0,.bad)).2.cells.getD j .bad):=by
 have I:=As9 F E b.toList
 have N:(b.map λ(x:Nat×By)=>(x.1,a.eval x.2)).toList=b.toList.map λx=>(x.1,a.eval x.2):=za4
 unfold CV at B
 split at B
 ·next e hse=>
  have C:=W5 hse
  split at B
  ·next sz z hs hze=>
   split at B
   ·next hc=>
    have⟨v,G,f⟩:=hc;cases B;have⟨D,_,u⟩:=FF hze
    have h:∀m:za1 HO,m.size=n*sz->∃d,Instr.fill (λi=>some (i*sz,sz)) m (b.toList.map λx=>(x.1,a.eval x.2))=some d/\d.size=n*sz/\
     ∀i j,i<n->j<sz->(((b.toList.map λ(p:Nat×By)=>(p.1,ev fr p.2)).getD i (0,.bad)).2.cells.length=sz)/\(d.getD (i*sz+j) undef).oneCell'=true/\
      VR g w (d.getD (i*sz+j) undef) (((b.toList.map λ(p:Nat×By)=>(p.1,ev fr p.2)).getD i (0,.bad)).2.cells.getD j .bad):=by
     intro m s;have⟨d,hd,r,_,l⟩:=Ba7 (sz:=sz) I (c:=m) (k:=0) (by rw[G,K4,s];omega) f
     grind
    have A:∃d:za1 HO,(Instr.buildSlice t n (b.map λ(x:Nat×By)=>(x.1,a.eval x.2))).run P w= .ok (.slice (some ⟨w.heap.size,0,none⟩) n n) (w.alloc (.cells d e))/\d.size=n*sz/\
     ∀i j,i<n->j<sz->(((b.toList.map λ(p:Nat×By)=>(p.1,ev fr p.2)).getD i (0,.bad)).2.cells.length=sz)/\(d.getD (i*sz+j) undef).oneCell'=true/\
      VR g w (d.getD (i*sz+j) undef) (((b.toList.map λ(p:Nat×By)=>(p.1,ev fr p.2)).getD i (0,.bad)).2.cells.getD j .bad):=by
     by_cases L:n*sz=0
     ·have⟨d,hd,r,l⟩:=h ((Array.range (n*sz)).map ((#[]:za1 HO)[· % (#[]:za1 HO).size]!)) za4;refine⟨d,?_,r,l⟩
      rw[<-N]at hd
      have y:¬(n*sz>2 ^ 24):=za2
      simp only[Instr.buildSlice,C0,run_underlying C,B7,V5 hs,Bd,A1 y,C6,A2 L,hd,newRow,run_newObj];rfl
     have⟨d,hd,r,l⟩:=h ((Array.range (n*sz)).map (D.cells[· % D.cells.size]!)) za4;refine⟨d,?_,r,l⟩
     rw[<-N]at hd
     have y:¬(n*sz>2 ^ 24):=za2
     simp only[Instr.buildSlice,C0,run_underlying C,B7,V5 hs,Bd,A1 y,C6,A1 L,u,hd,newRow,run_newObj];rfl
    simp_all
   cases B
  cases B
 cases B
theorem UY {t:Do} {n:Nat} {b:za1 (Nat×By)} {x:V} (E:o.op= .buildSlice t n b) (B:CV P t n (b.toList.map λ(p:Nat×By)=>(p.1,ev fr p.2))=some x) (h:K x H):
 K3 P o fr H K:=by
 intro g w a F A;obtain⟨e,sz,z,G,C,J,rfl,L,v,d,c,D,r⟩:=Oj F A B;have s:=Aw.new F (.cells d e) True d.size;unfold execOp;rw[E];simp only[C0,c,B7,C6,J1]
 have l:∀i,((b.toList.map λ(p:Nat×By)=>(p.1,ev fr p.2)).map (λ(q:Nat×V)=>q.2)).getD i .bad=((b.toList.map λ(p:Nat×By)=>(p.1,ev fr p.2)).getD i (0,.bad)).2:=by
  grind
 have N:∀i j,i<n->j<sz->i*sz+j<d.size:=by
  intro i j U u;have:(i+1)*sz<=n*sz:=G7 _ za2
  rw[E2]at this
  omega
 by_cases f:sz=0
 ·subst f
  have I:∀i,i<n->((((b.toList.map λ(p:Nat×By)=>(p.1,ev fr p.2)).map (λ(q:Nat×V)=>q.2)).getD i .bad).cells.length=0):=by
   intro i U
   have:∀(m:Up (Nat×V)) (k i:Nat),Fm 0 k m=true->i<m.length->(m.getD i (0,.bad)).2.cells.length=0:=by
    intro m
    induction m with
    |nil=>simp_all
    |cons y m ih=>
     grind[Fm]
   rw[l];grind
  exact⟨_,_,_,s,F.newFrozen d e d.size (B1 _),.sl (sz:=0) (λ_ _=>undef) za7 (B1 _) I (λi j _ u=>za2) (λi j _ u=>za2) (λi j _ u=>za2)
   (λi j _ u=>za2) (t:=.full) rfl,h⟩
 refine⟨_,_,_,s,F.newFrozen d e d.size (B1 _),.sl (sz:=sz) (λi j=>d.getD (i*sz+j) undef) za7 (B1 _) (λi U=>?_) (λi j U u=>.inr ⟨trivial,rfl,?_⟩)
  (λi j U u=>?_) (λi j U u=>(r i j U u).2.1) (λi j U u=>?_) (t:=.full) rfl,h⟩
 ·rw[l];exact(r i 0 U za2).1
 ·have:=N i j U u;omega
 ·have:=N i j U u;rw[RJ];simp_all
 rw[l];exact(r i j U u).2.2.mono s
end
def Ex:OS V->OS (OS Int)
 |none=>some none
 |some (.int _ i)=>some (some i)
 |some _=>none
def LL (l h n:Nat) (a:OS Int) (t:J8):J8:=
 match a with
 |some m=>if m=h then .full else .ro
 | none=>
  if h=n then
   match t with
   | .full=>.full
   | .nil=>.nil
   | .tok t=>if l<h then .tok t else .ro
   | .ro=>.ro
  else .ro
def UV (P:If) (t:Do) (v:V) (lo U a:OS Int):OS V:=
 match HS P t,v with
 | some e,.sl xs tl=>
  match HL P e with
  | some sz=>
   if 0<=lo.getD 0/\lo.getD 0<=U.getD xs.length/\U.getD xs.length<=a.getD xs.length/\a.getD xs.length<=xs.length/\(a.isSome=true->U.isSome=true)/\
    (lo.getD 0<=0\/xs.all (λx=>x.cells.length==sz)=true)then
    some (.sl ((xs.drop (lo.getD 0).toNat).take ((U.getD xs.length).toNat-(lo.getD 0).toNat)) (LL (lo.getD 0).toNat (U.getD xs.length).toNat xs.length a tl))
   else none
  |none=>none
 |none,.str s=>
  if YM P t=true/\a=none/\0<=lo.getD 0/\lo.getD 0<=U.getD s.size/\U.getD s.size<=s.size then some (.str (s.extract (lo.getD 0).toNat (U.getD s.size).toNat))else none
 |_,_=>none
section
variable {P:Program}{o:Oper}{fr:Fr}{H:A6}{K:V->A6->Prop}
theorem Vd (a:Bool) (len cap:Nat) (lo U b:OS HO) (l h m:Nat) (w:Is) (B:(lo=none/\l=0)\/∃k,lo=some (.int k l)) (e:(U=none/\b=none/\h=len)\/∃k,U=some (.int k h))
 (E:(b=none/\m=cap)\/∃k,b=some (.int k m)) (O:l<=h) (Z:h<=m) (J:m<=cap):(Instr.sliceBounds a len cap lo U b).run P w= .ok (l,h,m) w:=by
 rcases E with⟨rfl,rfl⟩|⟨r,rfl⟩<;>rcases e with⟨rfl,M,rfl⟩|⟨g,rfl⟩<;>rcases B with⟨rfl,rfl⟩|⟨i,rfl⟩<;>
  first
   |(cases M;done)
   |simp[Instr.sliceBounds,Instr.sliceBound,asIntOf,C6,O,Z,J]
def Ig {g:Gh} {w:Is} {H:A6} {a:Act} (F:Rl g H w) (b:ER g w a fr) {x:OS By} {i:OS Int} (h:Ex (x.map (ev fr))=some i):
 (x.map a.eval=none/\i=none)\/∃k j,x.map a.eval=some (.int k j)/\i=some j:=by
 cases x with
 |none=>simp_all[Ex]
 |some x=>
  have q:=G1 F b x
  simp only[K5]at h ⊢
  generalize ev fr x=X at h q
  cases X<;>simp[Ex]at h
  rename_i k j;have:=q.int_inv
  grind
theorem AI6 {t:Do} {y:By} {lo U mx:OS By} {E ih l:OS Int} {x:V} (z:o.op= .slice t y lo U mx) (ak:Ex (lo.map (ev fr))=some E) (aj:Ex (U.map (ev fr))=some ih)
 (al:Ex (mx.map (ev fr))=some l) (B:UV P t (ev fr y) E ih l=some x) (h:K x H):K3 P o fr H K:=by
 intro g w a F hE;have hv:=G1 F hE y;have av:=Ig F hE ak;have au:=Ig F hE aj;have an:=Ig F hE al
 have A:∀(f:Bool) (len cap:Nat),0<=E.getD 0->E.getD 0<=ih.getD len->ih.getD len<=l.getD cap->l.getD cap<=cap->(l.isSome=true->ih.isSome=true)->
  (Instr.sliceBounds f len cap (lo.map a.eval) (U.map a.eval) (mx.map a.eval)).run P w= .ok ((E.getD 0).toNat,(ih.getD len).toNat,(l.getD cap).toNat) w:=by
  grind[Vd]
 unfold UV at B
 split at B
 ·rename_i e xs tl W Y;have hu:=W5 W
  split at B
  ·rename_i sz C
   split at B
   ·rename_i X;have⟨I,G,c3,c4,c5,c6⟩:=X;cases B
    rw[Y]at hv
    generalize N:a.eval y=v at hv
    unfold execOp;rw[z]
    cases hv with
    | sl0 ht=>
     simp only[Ay,KW]at G c3 c4
     have J:(E.getD 0).toNat=0:=za2
     have e2:(ih.getD 0).toNat=0:=za2
     have e3:(l.getD 0).toNat=0:=za2
     have c:=A true 0 0 I za2 za2 za2 c5
     simp only[KW]at c
     simp only[N,Instr.sliceAt,Instr.slice,C0,run_underlying hu,B7,c,V5 C,C6,J1,J,e2,e3];refine P0.here F ?_ h;simp only[List.drop_nil,List.take_nil];refine .sl0 ?_;unfold LL
     cases l with
     |some m=>dsimp only;split<;>rfl
     |none=>
      dsimp only
      split
      ·cases tl<;>first|rfl|cases ht
      rfl
    |@sle ad cap _ ht=>
     simp only[Ay,KW]at G c3 c4
     have J:(E.getD 0).toNat=0:=za2
     have e2:(ih.getD 0).toNat=0:=za2
     have e3:(l.getD 0).toNat=0:=za2
     have ai:(0:Int)<=(cap:Nat):=za2
     have ah:l.getD (cap:Nat)<=(cap:Nat)/\0<=l.getD (cap:Nat):=by cases l<;>simp at c3 c4 ⊢ <;>omega
     have c:=A true 0 cap I za2 za7 ah.1 c5
     simp only[KW]at c
     simp only[N,Instr.sliceAt,Instr.slice,C0,run_underlying hu,B7,c,V5 C,C6,J1,J,e2,Nat.sub_self,Nat.sub_zero,Nat.zero_mul];refine P0.here F ?_ h;simp only[List.drop_nil,List.take_nil,K5,Addr.add,D8,ite_self];refine .sle ?_
     grind[LL]
    | sl vs hn aq hz hf R O aw ht=>
     rename_i b q sz' n cap
     rw[hn]at G c3 c4 h
     have ac:l.getD cap<=cap:=by
      grind
     have ab:ih.getD n<=l.getD cap:=by
      grind
     have ag:=A true n cap I G ab ac c5;simp only[N,Instr.sliceAt,Instr.slice,C0,run_underlying hu,B7,ag,V5 C,C6,J1];refine P0.here F ?_ h
     generalize hL:(E.getD 0).toNat=L at *
     generalize ap:(ih.getD (n:Int)).toNat=HH at *
     generalize hM:(l.getD (cap:Int)).toNat=M at *
     have b1:L<=HH:=za2
     have b2:HH<=n:=by
      omega
     have b3:HH<=M:=za2
     have b4:M<=cap:=za2
     have D:∀i,i<HH-L->((xs.drop L).take (HH-L)).getD i .bad=xs.getD (L+i) .bad:=by
      simp_all
     have d:((xs.drop L).take (HH-L)).length=HH-L:=by simp;omega
     have r:∀q',(HH-L=0\/q'=q+L*sz')->(L=0->q'=q)->Jp g b q' sz' (HH-L) (M-L) (LL L HH n l tl):=by
      intro q' T ar;unfold LL
      cases l with
      |some m=>
       grind[Jp]
      | none=>
       dsimp only
       have af:M=cap:=za8
       split
       ·rename_i ae
        cases tl with
        |full=>simp_all[Jp]
        |nil=>exact ht.elim
        |ro=>trivial
        | tok t=>
         dsimp only
         split
         ·rename_i p;have⟨t0,lim,t1,t2⟩:=ht
          rcases T with T|rfl
          ·omega
          have J:q+L*sz'+(n-L)*sz'=q+n*sz':=by rw[CI,<-E2];grind
          have e2:q+L*sz'+(cap-L)*sz'=q+cap*sz':=by rw[CI,<-E2];grind
          exact⟨za2,lim,by rw[t1,ae,J],by rw[af,e2];exact t2⟩
         trivial
       trivial
     by_cases Q:M=L
     ·rw[A2 Q]
      have ao:HH-L=0:=za2
      refine .sl (sz:=sz') (λi j=>undef) d za2 (λi U=>za2) (λi j U=>za2) (λi j U=>za2) (λi j U=>za2) (λi j U=>za2) (r q (.inl ao) λ_=>rfl)
     rw[A1 Q];simp only[K5,BW]
     by_cases am:HH-L=0
     ·refine .sl (sz:=sz') (λi j=>undef) d za2 (λi U=>za2) (λi j U=>za2) (λi j U=>za2) (λi j U=>za2) (λi j U=>za2)
       (r _ (.inl am) λp=>by rw[p];simp)
     have aa:L*sz=L*sz':=by
      rcases c6 with c6|c6
      ·have:L=0:=za2
       simp_all
      have h0:0<xs.length:=za2
      have:=(List.all_eq_true.1 c6) (xs.getD 0 .bad) za8;have Z:=hz 0 za2
      have:sz'=sz:=by rw[<-Z];simp_all
      rw[this]
     rw[aa]
     refine .sl (sz:=sz') (λi j=>vs (L+i) j) d za2 (λi U=>by rw[D i U];grind)
      (λi j U u=>by have:=hf (L+i) j za2 u;rw[E2]at this;rw[show q+L*sz'+i*sz'+j=q+(L*sz'+i*sz')+j by omega];exact this)
      (λi j U u=>by have:=R (L+i) j za2 u;rw[E2]at this;rw[show q+L*sz'+i*sz'+j=q+(L*sz'+i*sz')+j by omega];exact this)
      (λi j U u=>O _ j za2 u) (λi j U u=>by rw[D i U];grind) (r _ (.inr rfl) λp=>by rw[p];simp)
   cases B
  cases B
 ·rename_i s W Y
  split at B
  ·rename_i X;obtain⟨c0,rfl,I,G,c3⟩:=X;cases B
   rw[Y]at hv
   have N:=hv.str_inv
   have hu:P.underlying t=some .string:=by
    grind[YM]
   rcases an with⟨e2,_⟩|⟨k,j,e2,e3⟩
   ·have S:=A false s.size s.size I G za7 za4 za4
    rw[e2]at S
    unfold execOp;rw[z];simp only[N,e2,Instr.sliceAt,Instr.slice,C0,run_underlying hu,B7,S,GV,L6,H7,C6,J1];exact P0.here F (.str _) h
   cases e3
  cases B
 cases B
theorem YU {fn:Fn} {fs cs:za1 By} (z:o.op= .makeFunc fn fs cs) (h:K (.func fn (fs.toList.map (ev fr)) (cs.toList.map (ev fr))) H):K3 P o fr H K:=by
 intro g w a F t
 have b:∀l:za1 By,(l.map a.eval).size=(l.toList.map (ev fr)).length/\∀i,i<(l.toList.map (ev fr)).length->VR g w ((l.map a.eval).getD i undef) ((l.toList.map (ev fr)).getD i .bad):=by
  intro l;refine⟨za4,λi U=>?_⟩
  have r:i<l.size:=za7
  have e:(l.map a.eval).getD i undef=a.eval l[i]:=za8
  have e2:(l.toList.map (ev fr)).getD i .bad=ev fr l[i]:=za8
  rw[e,e2];grind[G1]
 unfold execOp;rw[z];exact P0.here F (.func (b fs).1 (b fs).2 (b cs).1 (b cs).2) h
theorem Rd {t:Do} {y:By} (z:o.op= .makeInterface t y) (U:ifO P t=false) (h:K (.iface t (ev fr y)) H):K3 P o fr H K:=by
 intro g w a F e;unfold execOp;rw[z]
 unfold ifO at U
 cases b:P.underlying t with
 |none=>grind
 | some d=>
  simp only[b]at U
  cases d<;>first
   |(simp only[Instr.makeInterface,C0,run_underlying b,B7,C6,J1];exact P0.here F (.iface (G1 F e y)) h)
   |cases U
def AB5:V->Bool
 | .ref _ _=>true
 | .eref _ _=>true
 | .elem _ _ _ _=>true
 | .func (.func _) _ _=>true
 | .func (.yield _) _ _=>true
 |_=>false
theorem YR {y:By}(z:o.op= .nilCheck y)(l:AB5 (ev fr y)=true)(h:K (ev fr y) H):K3 P o fr H K:=by
 intro g w a i x;have r:=G1 i x y;unfold execOp;rw[z]
 generalize M:ev fr y=X at l r
 rw[M]at h
 generalize e:a.eval y=v at r
 cases r<;>simp[AB5]at l
 ·rename_i id b off E;simp only[e,C6,J1];exact P0.here i (.ref E) h
 ·rename_i E c;simp only[e,C6,J1];exact P0.here i (.elem E c) h
 ·rename_i b q off cs vs N R O t;simp only[e,C6,J1];exact P0.here i (.eref vs N R O t) h
 rename_i fn fs cs F C O Z J s
 cases fn<;>simp at l
 ·simp only[e,C6,J1];exact P0.here i (.func O Z J s) h
 simp only[e,C6,J1];exact P0.here i (.func O Z J s) h
end
def Mj:V->V->OS Bool
 | .int k a,.int k' b=>if k=k' then some (a==b)else none
 | .str a,.str b=>some (a.toList==b.toList)
 | .bool a,.bool b=>some (a==b)
 |_,_=>none
def Cx:Up V->Up V->OS Bool
 |[],[]=>some true
 |x::xs,y::ys=>
  match Mj x y,Cx xs ys with
  |some a,some b=>some (a&&b)
  |_,_=>none
 |_,_=>none
def kd:V->Nat
 | .int _ _=>0
 | .bool _=>1
 | .str _=>2
 |_=>9
def Qz (P:If) (q:Do->OS (Up Nat)):Up Field->Nat->OS (Up Nat)
 |[],_=>some []
 | f::fs,n=>
  if f.name≠ "_" /\f.offset=n then
   match q f.type with
   |some k=>(Qz P q fs (n+k.length)).map (k++ ·)
   |none=>none
  else none
def Jn (P:If):Nat->Do->OS (Up Nat)
 |0,_=>none
 | d+1,t=>
  match P.underlying t with
  |some .bool=>some [1]
  |some (.int _)=>some [0]
  |some .string=>some [2]
  | some (.struct fs)=>
   if P.stoodInHeld t=false/\P.eqGuardType P.depth t=false then
    match Qz P (Jn P d) fs.toList 0 with
    |some n=>if HL P t=some n.length then some n else none
    |none=>none
   else none
  |_=>none
def OC (e:BinOp)(k:IntKind)(a b:Int):OS V:=
 match e with
 | .add=>some (.int k (k.wrap (a+b)))
 | .sub=>some (.int k (k.wrap (a-b)))
 | .mul=>some (.int k (k.wrap (a*b)))
 | .quo=>if b=0 then none else some (.int k (k.wrap (a.tdiv b)))
 | .rem=>if b=0 then none else some (.int k (a.tmod b))
 | .and=>some (.int k (k.wrap (BitVec.ofInt k.bits a&&&BitVec.ofInt k.bits b).toNat))
 | .or=>some (.int k (k.wrap (BitVec.ofInt k.bits a|||BitVec.ofInt k.bits b).toNat))
 | .xor=>some (.int k (k.wrap (BitVec.ofInt k.bits a ^^^ BitVec.ofInt k.bits b).toNat))
 | .andNot=>some (.int k (k.wrap (BitVec.ofInt k.bits a&&& ~~~(BitVec.ofInt k.bits b)).toNat))
 | .eql=>some (.bool (a==b))
 | .neq=>some (.bool (a !=b))
 | .lss=>some (.bool (a<b))
 | .leq=>some (.bool (a<=b))
 | .gtr=>some (.bool (a>b))
 | .geq=>some (.bool (a>=b))
 |_=>none
def US (a:BinOp)(x y:za0):OS V:=
 match a with
 | .add=>if((x.size+y.size:Nat):Int)>9223372036854775807 then none else some (.str (x++y))
 | .eql=>some (.bool (x.toList==y.toList))
 | .neq=>some (.bool (!(x.toList==y.toList)))
 | .lss=>some (.bool (Op.bytesLess x.toList y.toList))
 | .leq=>some (.bool (Op.bytesLess x.toList y.toList||x.toList==y.toList))
 | .gtr=>some (.bool (!(Op.bytesLess x.toList y.toList||x.toList==y.toList)))
 | .geq=>some (.bool (!Op.bytesLess x.toList y.toList))
 |_=>none
def Va (e:BinOp) (k:IntKind) (a b:Int):OS V:=
 if b<0 then none else
  match e with
  | .shl=>some (.int k (k.wrap (a*2 ^ (min b.toNat k.bits))))
  | .shr=>some (.int k (a.fdiv (2 ^ (min b.toNat k.bits))))
  |_=>none
def LG:BinOp->Bool
 | .shl=>true
 | .shr=>true
 |_=>false
def AF7:OS TypeDesc->Bool
 |some .bool=>true
 |_=>false
def Ug (P:If) (e:BinOp) (t:Do) (x y:V):OS V:=
 match x,y with
 | .int k a,.int k' b=>if LG e then Va e k a b else if k=k' then OC e k a b else none
 | .str a,.str b=>US e a b
 | .bool a,.bool b=>
  if AF7 (P.underlying t)=true then
   match e with
   | .eql=>some (.bool (a==b))
   | .neq=>some (.bool (!(a==b)))
   |_=>none
  else none
 | .agg xs,.agg ys=>
  if agO P t=some true/\Jn P 9 t=some (xs.map kd)/\ys.map kd=xs.map kd then
   match e,Cx xs ys with
   | .eql,some b=>some (.bool b)
   | .neq,some b=>some (.bool (!b))
   |_,_=>none
  else none
 |_,_=>none
def unV (a:UnOp)(x:V):OS V:=
 match a,x with
 | .not,.bool b=>some (.bool (!b))
 | .neg,.int k n=>some (.int k (k.wrap (0-n)))
 |_,_=>none
def Yj (P:If)(s d:Do)(x:V):OS V:=
 match P.underlying s,P.underlying d,x with
 |some (.int _),some (.int k),.int _ n=>some (.int k (k.wrap n))
 |some .string,some .string,.str b=>some (.str b)
 |_,_,_=>none
section
variable {P:Program}{o:Oper}{fr:Fr}{H:A6}{K:V->A6->Prop}
def YW {g:Gh} {w:Is} {v r:HO} {x y:V} {b:Bool} {t:Do} {d:Nat} (q:VR g w v x) (i:VR g w r y) (h:Mj x y=some b)
 (l:match P.underlying t with|some .bool=>kd x=1|some (.int _)=>kd x=0|some .string=>kd x=2|_=>False):(Op.equalIn (d+1) t v r).run P w= .ok b w:=by
 unfold Mj at h
 split at h
 ·rename_i k a k' c
  split at h
  ·rename_i e;subst e;cases h;rw[q.int_inv,i.int_inv]
   split at l<;>simp[kd]at l
   grind[run_equalIn_int]
  cases h
 ·cases h;rw[q.str_inv,i.str_inv]
  split at l<;>simp[kd]at l
  grind[run_equalIn_string]
 ·cases h;rw[q.bool_inv,i.bool_inv]
  split at l<;>simp[kd]at l
  grind[run_equalIn_bool']
 cases h
def OH:∀(a b c d:Up V) (r:Bool),a.length=c.length->Cx (a++b) (c++d)=some r->∃p q,Cx a c=some p/\Cx b d=some q/\r=(p&&q)
 |[],b,[],d,r,_,h=>⟨true,r,rfl,h,za4⟩
 | x::a,b,y::c,d,r,B,h=>by
  simp only[V1,Cx]at h
  cases O:Mj x y with
  |none=>grind
  | some s=>
   cases Z:Cx (a++b) (c++d)with
   |none=>simp_all
   |some u=>
    simp only[O,Z,E7]at h
    have⟨p,q,w,e2,e⟩:=OH a b c d u za7 Z
    grind[Cx]
 |[],_,_::_,_,_,B,_=>by simp at B
 |_::_,_,[],_,_,B,_=>by simp at B
def Si (cs:Up V)(off k n:Nat):(cs.drop off).take (k+n)=(cs.drop off).take k++(cs.drop (off+k)).take n:=by
 rw[List.take_add,IC]
def EqAt (P:If) (w:Is) (d:Nat) (t:Do) (xs ys:za1 HO) (cs ds:Up V) (ks:Up Nat):Prop:=
 ∀off b,off+ks.length<=cs.length->((cs.drop off).take ks.length).map kd=ks->Cx ((cs.drop off).take ks.length) ((ds.drop off).take ks.length)=some b->
  ∃a e,(part t xs off).run P w= .ok a w/\(part t ys off).run P w= .ok e w/\(Op.equalIn d t a e).run P w= .ok b w
def RB {w:Is} {d:Nat} {q:Do->OS (Up Nat)} {xs ys:za1 HO} {cs ds:Up V} (B:cs.length=ds.length)
 (Q:∀t ks,q t=some ks->EqAt P w d t xs ys cs ds ks):∀(fs:Up Field) (n:Nat) (ks:Up Nat),Qz P q fs n=some ks->n+ks.length<=cs.length->∀b,((cs.drop n).take ks.length).map kd=ks->
  Cx ((cs.drop n).take ks.length) ((ds.drop n).take ks.length)=some b->(Op.eqFields d xs ys fs).run P w= .ok b w
 |[],n,ks,h,_,b,_,A=>by
  simp only[Qz,E7]at h
  subst h
  simp[Cx]at A
  subst A;rfl
 | f ::fs,n,ks,h,hle,b,e,A=>by
  simp only[Qz]at h
  split at h
  ·rename_i X;have⟨g,l⟩:=X
   cases W:q f.type with
   |none=>grind
   | some k=>
    simp only[W]at h
    cases N:Qz P q fs (n+k.length)with
    |none=>grind
    |some m=>
     simp only[N,K5,E7]at h
     subst h
     simp only[K8]at hle e A
     rw[Si]at e
     rw[Si,Si]at A
     simp only[P9]at e
     have i:(((cs.drop n).take k.length).map kd).length=k.length:=by simp;omega
     have x:=List.append_inj_left e i;have y:=List.append_inj_right e i;obtain⟨p,r,c,e2,rfl⟩:=OH _ _ _ _ b za6 A;have⟨a,j,O,Z,J⟩:=Q _ _ W n p za2 x c;have ih:=RB B Q fs (n+k.length) m N za2 r y e2;simp only[Op.eqFields,A2 g,l,C0,O,Z,J,B7,Bd,C6,ih];cases p<;>rfl
  cases h
def VZ {g:Gh} {w:Is} {xs ys:za1 HO} {cs ds:Up V} (M:Uh g w xs cs) (m:Uh g w ys ds) (B:cs.length=ds.length):∀(e d:Nat) (t:Do) (ks:Up Nat),Jn P d t=some ks->EqAt P w (d+e) t xs ys cs ds ks
 |e,0,t,ks,h=>by simp[Jn]at h
 | e, d +1,t,ks,h=>by
  intro off b hle x A
  have O:∀i,(match P.underlying t with|some .bool=>i=1|some (.int _)=>i=0|some .string=>i=2|_=>False)->ks=[i]->
   ∃a G,(part t xs off).run P w= .ok a w/\(part t ys off).run P w= .ok G w/\(Op.equalIn (d+1+e) t a G).run P w= .ok b w:=by
   intro i U D;subst D
   simp only[BL]at hle x A
   have c:off<cs.length:=za2
   have f:off<ds.length:=za2
   have I:(cs.drop off).take 1=[cs.getD off .bad]:=by rw[M4 c,NO,NA];simp_all
   have e2:(ds.drop off).take 1=[ds.getD off .bad]:=by rw[M4 f,NO,NA];simp_all
   rw[I]at x
   rw[I,e2]at A
   simp only[D9,I0,V0,P7]at x
   have C:Mj (cs.getD off .bad) (ds.getD off .bad)=some b:=by
    grind[Cx]
   have N:agO P t=some false:=by
    grind[agO,Bo0]
   have r:∀(l:za1 HO),off<l.size->(part t l off).run P w= .ok (l.getD off undef) w:=by
    intro l z;unfold part;rw[C0,Oi N w]
    simp_all
   have q:off<xs.size:=by rw[M.1];exact c
   have s:off<ys.size:=by rw[m.1];exact f
   refine⟨_,_,r xs q,r ys s,?_⟩;rw[show d+1+e=(d+e)+1 by omega];refine YW (M.2 off c).2 (m.2 off f).2 C ?_
   split<;>rename_i u<;>simp only[u]at U<;>first|exact x.trans U|exact U
  simp only[Jn]at h
  split at h
  ·simp_all
  ·simp_all
  ·simp_all
  ·rename_i fs u
   split at h
   ·rename_i E
    cases J:Qz P (Jn P d) fs.toList 0 with
    |none=>grind
    | some n=>
     simp only[J]at h
     split at h
     ·rename_i C;cases h
      have N:agO P t=some true:=by grind[agO,Bo0]
      have y:∀(l:za1 HO) (j:Up V),Uh g w l j->off+ks.length<=j.length->(part t l off).run P w= .ok (.agg (l.extract off (off+ks.length))) w/\Uh g w (l.extract off (off+ks.length)) ((j.drop off).take ks.length):=by
       intro l j z S;refine⟨?_,?_,λi U=>?_⟩
       ·unfold part;rw[C0,Oi N w]
        simp_all[V5]
       ·have:=z.1;simp;omega
       have R:i<ks.length:=za7
       have X:(l.extract off (off+ks.length)).getD i undef=l.getD (off+i) undef:=by
        have:=z.1;simp only[Q9,NW];rw[A2 za2]
       have Y:((j.drop off).take ks.length).getD i .bad=j.getD (off+i) .bad:=by
        grind
       rw[X,Y];exact z.2 _ za2
      have⟨T,Z⟩:=y xs cs M hle;have⟨W,v⟩:=y ys ds m za2;refine⟨_,_,T,W,?_⟩;rw[show d+1+e=(d+e)+1 by omega]
      have p:P.fieldsOf t=fs:=by simp[Program.fieldsOf,u]
      rw[run_equalIn_struct w (d+e) t _ _ (by rw[p];exact u) E.1,p]
      have L:((cs.drop off).take ks.length).length=ks.length:=by simp;omega
      refine RB za6 (λt' F Q=>VZ Z v za6 e d t' F Q) fs.toList 0 ks J za6 b ?_ ?_
      ·simp_all
      grind
     cases h
   cases h
  cases h
theorem AT4 {e:UnOp} {t:Do} {y:By} {x:V} (z:o.op= .unOp e t y) (B:unV e (ev fr y)=some x) (h:K x H):K3 P o fr H K:=by
 intro g w a F i;have q:=G1 F i y;unfold execOp;rw[z]
 unfold unV at B
 split at B
 ·rename_i b Y;cases B
  rw[Y]at q
  simp only[q.bool_inv,Op.unary,C0,C6,B7,J1];exact P0.here F (.bool _) h
 ·rename_i k n Y;cases B
  rw[Y]at q
  simp only[q.int_inv,Op.unary,Op.intArith,C0,C6,B7,J1];exact P0.here F (.int _ _) h
 cases B
theorem Ad8 {s d:Do} {y:By} {x:V} (z:o.op= .convert s d y) (B:Yj P s d (ev fr y)=some x) (h:K x H):K3 P o fr H K:=by
 intro g w a F e;have q:=G1 F e y;unfold execOp;rw[z]
 unfold Yj at B
 split at B
 ·rename_i i k k' n C hd Y;cases B
  rw[Y]at q
  simp only[q.int_inv,convert,C0,run_underlying C,run_underlying hd,Conv.intToInt,C6,B7,J1];exact P0.here F (.int _ _) h
 ·rename_i b C hd Y;cases B
  rw[Y]at q
  simp only[q.str_inv,convert,C0,run_underlying C,run_underlying hd,C6,B7,J1];exact P0.here F (.str _) h
 cases B
def MT (e:BinOp)(t:Do)(p q:By)(u v:HO)(w:Is)(h:(∃k a,u= .int k a)\/(∃s,u= .string s)\/∃b,u= .bool b):(eqGuard e t p q u v).run P w= .ok () w:=by
 rcases h with⟨k,a,rfl⟩|⟨s,rfl⟩|⟨b,rfl⟩<;>cases e<;>simp[eqGuard]
def Ar7 {b:BinOp} {t:Do} {k k':IntKind} {m n:Int} {x:V} (C:LG b=true) (h:Va b k m n=some x) (w:Is):
 ∃v,(binOp b t (.int k m) (.int k' n)).run P w= .ok v w/\∀g,VR g w v x:=by
 unfold Va at h
 split at h
 ·cases h
 rename_i a
 cases b<;>simp[LG]at C
 ·simp only[E7]at h;subst h
  exact⟨_,by simp[binOp,Op.shift,a],λg=>.int _ _⟩
 simp only[E7]at h;subst h
 exact⟨_,by simp[binOp,Op.shift,a],λg=>.int _ _⟩
def Ar8 {a:BinOp} {t:Do} {k:IntKind} {m n:Int} {x:V} (C:LG a=false) (h:OC a k m n=some x) (w:Is):
 ∃v,(binOp a t (.int k m) (.int k n)).run P w= .ok v w/\∀g,VR g w v x:=by
 have one:∀r:Int,(binOp a t (.int k m) (.int k n)).run P w= .ok (.int k r) w->x= .int k r->∃v,(binOp a t (.int k m) (.int k n)).run P w= .ok v w/\∀g,VR g w v x:=
  λr O Z=>⟨_,O,λg=>Z▸ .int _ _⟩
 have b:∀r:Bool,(binOp a t (.int k m) (.int k n)).run P w= .ok (.bool r) w->x= .bool r->∃v,(binOp a t (.int k m) (.int k n)).run P w= .ok v w/\∀g,VR g w v x:=
  λr O Z=>⟨_,O,λg=>Z▸ .bool _⟩
 cases a<;>simp[LG]at C<;>simp only[OC]at h
 ·simp only[E7]at h;exact one _ (by simp[binOp,Op.intArith]) h.symm
 ·simp only[E7]at h;exact one _ (by simp[binOp,Op.intArith]) h.symm
 ·simp only[E7]at h;exact one _ (by simp[binOp,Op.intArith]) h.symm
 ·split at h
  ·cases h
  rename_i L;simp only[E7]at h;exact one _ (by simp[binOp,Op.intDiv,L]) h.symm
 ·split at h
  ·cases h
  rename_i L;simp only[E7]at h;exact one _ (by simp[binOp,Op.intDiv,L]) h.symm
 ·simp only[E7]at h;exact one _ (by simp[binOp,Op.intBits]) h.symm
 ·simp only[E7]at h;exact one _ (by simp[binOp,Op.intBits]) h.symm
 ·simp only[E7]at h;exact one _ (by simp[binOp,Op.intBits]) h.symm
 ·simp only[E7]at h;exact one _ (by simp[binOp,Op.intBits]) h.symm
 all_goals (simp only[E7]at h;exact b _ (by simp[binOp,Op.intCmp]) h.symm)
def Ar6 {a:BinOp} {t:Do} {m n:za0} {x:V} (h:US a m n=some x) (w:Is):
 ∃v,(binOp a t (.string m) (.string n)).run P w= .ok v w/\∀g,VR g w v x:=by
 have b:∀r:Bool,(binOp a t (.string m) (.string n)).run P w= .ok (.bool r) w->x= .bool r->∃v,(binOp a t (.string m) (.string n)).run P w= .ok v w/\∀g,VR g w v x:=
  λr O Z=>⟨_,O,λg=>Z▸ .bool _⟩
 cases a<;>simp only[US]at h
 ·split at h
  ·cases h
  rename_i L
  simp only[E7]at h
  have O:¬(((m.size+n.size:Nat):Int)>IntKind.i64.max):=L;subst h;exact⟨.string (m++n),by simp only[binOp,Op.stringOp,A1 O,C6],λg=>.str _⟩
 all_goals
  first
   |(cases h;done)
   |(simp only[E7]at h;exact b _ (by simp[binOp,Op.stringOp]) h.symm)
theorem AJ6 {i:BinOp} {t ty:Do} {y z:By} {x:V} (R:o.op= .binOp i t y z ty) (B:Ug P i t (ev fr y) (ev fr z)=some x) (h:K x H):K3 P o fr H K:=by
 intro g w a F Q;have q:=G1 F Q y;have r:=G1 F Q z;unfold execOp;rw[R];simp only[C0]
 unfold Ug at B
 split at B
 ·rename_i k m k' n Y N
  rw[Y]at q;rw[N]at r
  rw[q.int_inv,r.int_inv,MT i t y z _ _ w (.inl ⟨k,m,rfl⟩)];simp only[B7]
  split at B
  ·rename_i p;have⟨v,O,Z⟩:=Ar7 (P:=P) (t:=t) (k':=k') p B w;rw[O];simp only[B7,C6,J1];exact P0.here F (Z g) h
  rename_i p
  split at B
  ·rename_i W;subst W;have⟨v,O,Z⟩:=Ar8 (P:=P) (t:=t) za7 B w;rw[O];simp only[B7,C6,J1];exact P0.here F (Z g) h
  cases B
 ·rename_i I s2 Y N
  rw[Y]at q;rw[N]at r
  rw[q.str_inv,r.str_inv,MT i t y z _ _ w (.inr (.inl ⟨_,rfl⟩))];simp only[B7];have⟨v,O,Z⟩:=Ar6 (P:=P) (t:=t) B w;rw[O];simp only[B7,C6,J1];exact P0.here F (Z g) h
 ·rename_i G J Y N
  rw[Y]at q;rw[N]at r
  split at B
  ·rename_i A
   have S:P.underlying t=some .bool:=by
    grind[AF7]
   rw[q.bool_inv,r.bool_inv,MT i t y z _ _ w (.inr (.inr ⟨_,rfl⟩))];simp only[B7];have e:(Op.equal t (.bool G) (.bool J)).run P w= .ok (G==J) w:=run_equalIn_bool' w 9999 t G J S
   cases i<;>simp only[E7,reduceCtorEq]at B<;>subst B<;>
    (simp only[binOp,C0,e,B7,C6,J1];exact P0.here F (.bool _) h)
  cases B
 ·rename_i cs ds Y N
  rw[Y]at q;rw[N]at r
  split at B
  ·rename_i X;have⟨L,W,M⟩:=X;have⟨c,X,f⟩:=q.row;have⟨d,hd,j⟩:=r.row;rw[X,hd]
   have l:cs.length=ds.length:=by have:=G2 List.length M;grind
   cases e:Cx cs ds with
   |none=>cases i<;>simp[e]at B
   | some b=>
    have⟨u,u',s,D,T⟩:=VZ (P:=P) f j l (10000-9) 9 t _ W 0 b za4 za4 (by
     rw[E1,Nz,Nz,AB (B1 _),AB za2];exact e)
    have C:HL P t=some cs.length/\P.eqGuardType P.depth t=false:=by
     grind[Jn,agO,Bo0]
    unfold part at s D
    rw[C0,Oi L w]at s D
    simp only[B7,D8,C0,V5 C.1,C6,K4,Result.ok.injEq,P7]at s D
    have U:c.extract 0 cs.length=c:=by rw[<-f.1];simp
    have q2:d.extract 0 cs.length=d:=by rw[l,<-j.1];simp
    rw[U]at s;rw[q2]at D
    subst s;subst D;rw[run_eqGuard_agg w i t y z c d C.2];simp only[B7];have E:(Op.equalIn 10000 t (.agg c) (.agg d)).run P w= .ok b w:=T
    cases i<;>simp only[e,E7,reduceCtorEq]at B<;>subst B
    ·rw[run_eql_struct,E];exact P0.here F (.bool _) h
    rw[run_neq_struct,E];exact P0.here F (.bool _) h
  cases B
 cases B
end
def Jx (H:A6):J8->Prop
 | .nil=>True
 | .full=>True
 | .tok t=>H t=some .spare
 | .ro=>False
def H6 (H:A6):J8->A6
 | .tok t=>upd H t none
 |_=>H
def AM6 (P:If)(t:Do)(v:V):OS V:=
 match HS P t,arO P t,v with
 |some _,_,.sl xs _=>some (.int .i64 xs.length)
 |none,some (n,_),_=>some (.int .i64 n)
 |none,none,.str s=>if YM P t=true then some (.int .i64 s.size)else none
 |_,_,_=>none
section
variable {P:Program}{o:Oper}{fr:Fr}{H:A6}{K:V->A6->Prop}
def W8 {a:Act}{w:Is}{b:Builtin}{xs:za1 By}{e:za1 Do}(z:o.op= .call {callee:=.builtin b,args:=xs,argTypes:=e}):
 (execOp a.eval o).run P w=(builtin b e o.type (xs.map λ| .const _=>true|_=>false) (xs.map a.eval)).run P w:=by
 unfold execOp;rw[z];simp only[resolve,C0,C6,B7,invoke];rfl
def OX {t:Do}(h:YM P t=true):P.underlying t=some .string:=by
 grind[YM]
theorem Bg4 {y:By} {t:Do} {x:V} (z:o.op= .call {callee:=.builtin .len,args:= #[y],argTypes:= #[t]}) (B:AM6 P t (ev fr y)=some x) (h:K x H):K3 P o fr H K:=by
 intro g w a F r;have q:=G1 F r y;rw[W8 z];simp only[builtin,BH,D9,I0,C0]
 unfold AM6 at B
 split at B
 ·rename_i e xs tl b Y;cases B;have l:=W5 b
  rw[Y]at q
  generalize N:a.eval y=v at q
  cases q with
  |sl0 j=>simp[Builtin.len_,run_underlying l,goInt];exact P0.here F (.int _ _) h
  |sle j=>simp[Builtin.len_,run_underlying l,goInt];exact P0.here F (.int _ _) h
  |sl vs c X m f R O d j=>
   subst c;simp[Builtin.len_,run_underlying l,goInt];exact P0.here F (.int _ _) h
 ·rename_i n e b i;cases B;have l:=RQ i;simp[Builtin.len_,run_underlying l,goInt];exact P0.here F (.int _ _) h
 ·rename_i s b i Y
  split at B
  ·rename_i C;cases B
   rw[Y]at q
   simp[q.str_inv,Builtin.len_,run_underlying (OX C),goInt];exact P0.here F (.int _ _) h
  cases B
 cases B
def IY {g:Gh} {w:Is} {v:HO} {xs:Up V} {tl:J8} {sz:Nat} (h:VR g w v (.sl xs tl)) (r:xs.all (λx=>x.cells.length==sz)=true):
 ∃ (base:OS Addr) (cap:Nat) (vs:Nat->Nat->HO),v= .slice base xs.length cap/\xs.length<=cap/\
  (∀i j,i<xs.length->j<sz->(vs i j).oneCell'=true/\VR g w (vs i j) ((xs.getD i .bad).cells.getD j .bad))/\
  (∀w':Is,(∀b o,w'.cell? ⟨b,o,none⟩=w.cell? ⟨b,o,none⟩)->(Builtin.firstCells sz xs.length v).run P w'= .ok ((List.range (xs.length*sz)).map λk=>vs (k / sz) (k % sz)).toArray w')/\
  ((xs=[]/\(cap=0\/tl= .ro)/\tl.plain=true)\/∃b q,base=some ⟨b,q,none⟩/\(∀i j,i<xs.length->j<sz->g.fz b (q+i*sz+j)/\w.cell? ⟨b,q+i*sz+j,none⟩=some (vs i j))/\
   (∀i,i<xs.length->(xs.getD i .bad).cells.length=sz)/\∃a,(0<xs.length->a=sz)/\Jp g b q a xs.length cap tl):=by
 cases h with
 |sl0 l=>exact⟨none,0,λ_ _=>undef,rfl,B1 _,λi j U=>by simp at U,λ_ _=>by simp[Builtin.firstCells],.inl ⟨rfl,.inl rfl,l⟩⟩
 |sle l=>exact⟨_,_,λ_ _=>undef,rfl,Cd _,λi j U=>by simp at U,λ_ _=>by simp[Builtin.firstCells,loadCells,loadCellsFrom],.inl ⟨rfl,za7,by rcases l with h|⟨h,_⟩<;>subst h<;>rfl⟩⟩
 | sl vs t X d N R O c l=>
  rename_i b q a n cap;subst t
  have e:0<xs.length->a=sz:=by
   grind
  refine⟨some ⟨b,q,none⟩,cap,vs,rfl,X,λi j U u=>?_,?_,.inr ⟨b,q,rfl,λi j U u=>?_,λi U=>?_,a,e,l⟩⟩
  ·have:=e za2;simp_all
  ·intro w' y;simp only[Builtin.firstCells]
   grind[run_loadCells,Nat.div_lt_iff_lt_mul,Nat.mod_lt,BW,Nat.div_add_mod]
  ·have:=e za2;simp_all
  simp_all
def Gh.tok (g:Gh)(b e0 e lim:Nat):Gh:=
 {g with tk:=λx=>if x=g.nx then some (b,e,lim)else g.tk x,nx:=g.nx+1,fz:=λb' o=>g.fz b' o\/(b'=b/\e0<=o/\o<e)}
theorem Aw.tok {g:Gh}{H:A6}{w w':Is}(h:Rl g H w)(b e0 e lim:Nat)(X:∀b o,g.fz b o->w'.cell? ⟨b,o,none⟩=w.cell? ⟨b,o,none⟩)(B:Below g.base w w')(hd:w.drawn<=w'.drawn:=by first|exact Nat.le_refl _|exact Nat.le_succ _|exact Nat.le_add_right _ _):
 Aw g w (g.tok b e0 e lim) w':=by
 refine⟨λ_ _ e=>e,λt x e=>?_,λ_ _ e=>.inl e,rfl,X,B,λ_ _ _=>rfl,hd⟩;simp only[Gh.tok]
 split
 ·next e'=>subst e';rw[(h.nxt _ (B1 _)).2.1]at e;cases e
 exact e
end
section
variable {P:Program}{o:Oper}{fr:Fr}{H:A6}{K:V->A6->Prop}
def HD {H:A6} {tl:J8} {id:Nat} {b:KB} (h:H6 H tl id=some b):H id=some b:=by
 cases tl with
 |tok t=>
  simp_all[H6,upd]
 |_=>exact h
theorem Rl.tok {g:Gh} {H:A6} {w w':Is} (h:Rl g H w) {b e0 e lim:Nat} {c:za1 HO} {T:Do} (A:g.base<=b) (l:w'.heap[b]? =some (.cells c T (0,0))) (t:c.size=lim) (Y:e<=lim)
 (j:∀o,e0<=o->¬g.fz b o) (D:e0<=e) (r:∀b o,g.fz b o->w'.cell? ⟨b,o,none⟩=w.cell? ⟨b,o,none⟩) (B:Below g.base w w') (i:∀x,x≠b->x<w.heap.size->w'.heap[x]? =w.heap[x]?)
 (N:∀id,g.at H id≠some b) (f:w.drawn<=w'.drawn:=by first|exact B1 _|exact GM _|exact KV _ _):Rl (g.tok b e0 e lim) (upd H g.nx (some .spare)) w':=by
 have s:=Aw.tok h b e0 e lim r B f;have E:=h.nxt g.nx (B1 _)
 have y:∀id,id≠g.nx->(g.tok b e0 e lim).at (upd H g.nx (some .spare)) id=g.at H id:=λid U=>
  RP (D3 _ _ U) rfl (by grind[Gh.tok])
 have C:(g.tok b e0 e lim).at (upd H g.nx (some .spare)) g.nx=some b:=by simp_all[Gh.at,Gh.tok,upd]
 refine⟨λid k W=>?_,λid m x O Z=>?_,λx o d=>?_,λid U=>?_,?_,λn=>(h.glb n).mono s⟩
 ·by_cases U:id=g.nx
  ·subst U;rw[G4]at W;cases W
   refine⟨b,e,lim,c,T,by simp[Gh.tok],A,l,Y,t,λo z d=>?_⟩
   grind[Gh.tok]
  rw[D3 _ _ U]at W
  refine(h.blk id k W).mono W s λx M=>⟨i x (λe=>N id (by rw[M,e])) (h.lt M),λo z=>?_⟩
  grind[Gh.tok]
 ·by_cases U:id=g.nx<;>by_cases a:m=g.nx
  ·rw[U,a]
  ·simp_all
  ·simp_all
  rw[y _ U]at O;rw[y _ a]at Z;exact h.inj _ _ _ O Z
 ·rcases d with d|⟨u,O,Z⟩
  ·have⟨v,q⟩:=h.frz x o d
   simp_all
  subst u
  have:o<c.size:=za2
  exact⟨c[o],by simp[World.cell?,l,this]⟩
 ·have a:g.nx<=id:=KX U
  have p:id≠g.nx:=λe=>by grind[Gh.tok]
  have⟨F,G,I⟩:=h.nxt id a
  grind[Gh.tok,upd]
 grind[Gh.tok]
def Jg {xs ys:Up V}{i:Nat}:(xs++ys).getD i .bad=if i<xs.length then xs.getD i .bad else ys.getD (i-xs.length) .bad:=by
 grind
def Y4 {i j sz:Nat}(u:j<sz):(i*sz+j) / sz=i/\(i*sz+j) % sz=j:=by
 have a:0<sz:=za2
 simp_all[KH,NS,NG]
theorem Gm {i j n sz:Nat}(U:i<n)(u:j<sz):i*sz+j<n*sz:=by
 have:(i+1)*sz<=n*sz:=G7 _ U
 rw[E2]at this
 omega
def Qk {s y:By} {sT yT e:Do} {sz by_:Nat} {z:V} {xs ys:Up V} {tl bu:J8} (ho:o.op= .call {callee:=.builtin .append,args:= #[s,y],argTypes:= #[sT,yT]})
 (hs:ev fr s= .sl xs tl) (m:ev fr y= .sl ys bu) (Y:HS P sT=some e) (bo:(HS P yT).isSome=true) (a0:HL P e=some sz) (bx:0<sz) (al:SN P e=some by_) (b1:0<by_)
 (hz:KC P e=some z) (bp:z.one=true) (bq:z.cells.length=sz) (hA:Jx H tl) (ao:xs.all (λx=>x.cells.length==sz)=true) (ap:ys.all (λx=>x.cells.length==sz)=true)
 (ab:(xs.length+ys.length)*by_<=140737488355328) (L:ys=[]->K (.sl xs tl) H)
 (h:∀t,ys≠[]->H6 H tl t=none->K (.sl (xs++ys) (.tok t)) (upd (H6 H tl) t (some .spare))):K3 P o fr H K:=by
 intro g w a F hE;have a4:=G1 F hE s;have a5:=G1 F hE y
 rw[hs]at a4;rw[m]at a5
 have⟨base,cap,fs,es,bw,au,bm,be⟩:=IY (P:=P) a4 ao;have⟨S,ag,fy,ey,_,av,az,bv⟩:=IY (P:=P) a5 ap;have hu:=W5 Y;have⟨e',a6⟩:=Option.isSome_iff_exists.1 bo;have a3:=W5 a6;have⟨zv,ez,bt⟩:=FF hz
 have br:VR g w zv z:=by rw[ez];grind[GI]
 have bs:zv.cells.size=sz:=by rw[(br.cells bp).1,bq]
 have E:∀w,(typeInfo e).run P w= .ok ((P.info? e).getD default) w/\((P.info? e).getD default).bytes=by_:=by
  intro w
  unfold SN at al
  cases U:P.info? e with
  |none=>simp_all
  |some i=>simp[U]at al;simp[typeInfo,U,al]
 rw[W8 ho];simp only[builtin,BH,D9,I0,C0,es,ey]
 have bj:¬(IntKind.i64.max<((xs.length+ys.length:Nat):Int)/\(False\/by_=0)):=by
  grind
 have bd:∀w,(typeInfo e).run P w= .ok ((P.info? e).getD default) w:=λw=>(E w).1;have bc:=(E w).2;have B:Rl g (H6 H tl) w:=F.less λid b A=>HD A
 have bg:∀i,i<xs.length->(xs.getD i .bad).cells.length=sz:=λi U=>by
  have:=(List.all_eq_true.1 ao) (xs.getD i .bad) za8
  simp_all
 have bh:∀i,i<ys.length->(ys.getD i .bad).cells.length=sz:=λi U=>by
  have:=(List.all_eq_true.1 ap) (ys.getD i .bad) za8
  simp_all
 have I:∀i,i<xs.length+ys.length->((xs++ys).getD i .bad).cells.length=sz:=λi U=>by
  rw[Jg];grind
 have d:∀(g':Gh) (w':Is),Aw g w g' w'->∀i j,i<xs.length+ys.length->j<sz->(if i<xs.length then fs i j else fy (i-xs.length) j).oneCell'=true/\
  VR g' w' (if i<xs.length then fs i j else fy (i-xs.length) j) (((xs++ys).getD i .bad).cells.getD j .bad):=by
  intro g' w' st i j U u;rw[Jg]
  split
  ·rename_i ac;exact⟨(au i j ac u).1,(au i j ac u).2.mono st⟩
  exact⟨(av _ j za2 u).1,(av _ j za2 u).2.mono st⟩
 by_cases X:xs.length+ys.length<=cap
 ·
  have N:∀w',(match base with|some a=>(storeCells (a.add (xs.length*sz)) ((List.range (ys.length*sz)).map λk=>fy (k / sz) (k % sz))).run P w|none=>.ok () w)= .ok () w'->
   (Builtin.append_ #[sT,yT] o.type #[.slice base xs.length cap,.slice S ys.length ag]).run P w= .ok (.slice base (xs.length+ys.length) cap) w':=by
   intro w' ae;have p:=az w λ_ _=>rfl
   rw[ey]at p
   simp only[Builtin.append_,C0,run_underlying hu,B7,V5 a0,run_underlying a3,C6,Builtin.lenOf,Bd,AA,
    Db,DR,L6,H7,DI,D8,A2 X,p]
   cases base with
   |none=>simp_all
   |some a=>simp_all
  by_cases R:ys=[]
  ·subst R
   have ad:(match base with|some a=>(storeCells (a.add (xs.length*sz)) ((List.range (([]:Up V).length*sz)).map λk=>fy (k / sz) (k % sz))).run P w|none=>.ok () w)= .ok () w:=by
    cases base<;>simp[storeCells]
   rw[N w ad];simp only[B7,C6,J1,Ay,BC,<-es]
   grind[P0.here]
  have am:0<ys.length:=List.length_pos_iff.2 R
  rcases be with⟨b4,aq|aq,_⟩|⟨b,q,ak,bf,_,sz',a1,a2⟩
  ·omega
  ·subst aq;exact hA.elim
  cases tl with
  |nil=>exact a2.elim
  |ro=>exact hA.elim
  |full=>grind[Jp]
  | tok t=>
   have⟨bi,lim,bn,b3⟩:=a2;have:=a1 bi;subst this;have a8:H t=some .spare:=hA;have⟨b2,e2,b0,c,T,k1,k2,k3,k4,k5,k6⟩:=F.blk t _ a8
   rw[bn]at k1
   simp only[E7,GQ]at k1
   obtain⟨rfl,rfl,rfl⟩:=k1;have a7:(xs.length+ys.length)*sz'<=cap*sz':=G7 _ X;have an:(xs.length+ys.length)*sz'=xs.length*sz'+ys.length*sz':=E2 _ _ _
   have ay:∀v∈((List.range (ys.length*sz')).map λk=>fy (k / sz') (k % sz')),v.oneCell'=true:=by
    grind[Nat.div_lt_iff_lt_mul,Nat.mod_lt]
   have ad:=run_storeCells_at P b (q+xs.length*sz') T ((List.range (ys.length*sz')).map λk=>fy (k / sz') (k % sz')) 0 c w k3 za6 ay;have bz:=ad
   rw[ak]at N ⊢
   simp only[BW]at N
   rw[N _ ad];simp only[B7,C6,J1]
   generalize hC:(c.toList.take (q+xs.length*sz'+0)++((List.range (ys.length*sz')).map λk=>fy (k / sz') (k % sz'))++
    c.toList.drop (q+xs.length*sz'+0+((List.range (ys.length*sz')).map λk=>fy (k / sz') (k % sz')).length)).toArray=C
   have ah:C.size=c.size:=by rw[<-hC];simp;omega
   have aa:∀k,k<c.size->C[k]? =if k<q+xs.length*sz' then c[k]? else if k<q+xs.length*sz'+ys.length*sz' then some (fy ((k-(q+xs.length*sz')) / sz') ((k-(q+xs.length*sz')) % sz'))else c[k]? :=by
    intro k W;rw[<-hC];simp only[BC,AA,D2,E1,DM];rw[EV,EV];simp only[X8,IL,NE (show q+xs.length*sz'<=c.size by omega),NM,GW,DQ,E1,DM,Az]
    by_cases q1:k<q+xs.length*sz'
    ·rw[A2 q1,A2 q1,A2 q1]
    rw[A1 q1,A1 q1]
    by_cases q2:k<q+xs.length*sz'+ys.length*sz'
    ·rw[A2 za2,A2 q2,EU za2];rfl
    rw[A1 za2,A1 q2,show q+xs.length*sz'+ys.length*sz'+(k-(q+xs.length*sz')-ys.length*sz')=k by omega]
   have D:∀id,g.at (H6 H (.tok t)) id≠some b:=by
    intro id aw
    have bb:g.at H t=some b:=by simp_all[Gh.at]
    by_cases ax:id=t
    ·simp_all[Gh.at,H6,G4]
    have:g.at H id=some b:=by simp_all[Gh.at,H6,D3]
    exact ax (F.inj _ _ _ this bb)
   have l:∀x o,g.fz x o->(w.setRow b C).cell? ⟨x,o,none⟩=w.cell? ⟨x,o,none⟩:=by
    intro x o hf
    by_cases M:x=b
    ·subst M
     have ho:o<q+xs.length*sz':=by
      grind
     have ae:(w.setRow x C).heap[x]? =some (.cells C T (0,0)):=setRow_heap w x c C T (0,0) k3;simp only[World.cell?,ae,k3,GV,L6,H7];rw[aa o za2,A2 ho]
    grind[EL]
   have f:Below g.base w (w.setRow b C):=JG w b C k2
   have aj:=Rl.tok (e0:=q+xs.length*sz') (e:=q+(xs.length+ys.length)*sz') (lim:=c.size) B k2 (setRow_heap w b c C T (0,0) k3) ah za2 k6 za2 l f
    (λx M _=>S7 w b C x M) D
   have r:=Aw.tok B b (q+xs.length*sz') (q+(xs.length+ys.length)*sz') c.size l f;refine⟨_,_,_,r,aj,?_,h g.nx R (B.nxt _ (B1 _)).2.2⟩
   refine .sl (sz:=sz') (λi j=>if i<xs.length then fs i j else fy (i-xs.length) j) za4 X (λi U=>I i U) (λi j U u=>?_) (λi j U u=>?_)
    (λi j U u=>(d _ _ r i j U u).1) (λi j U u=>(d _ _ r i j U u).2) ?_
   ·grind[Gh.tok,Nat.mul_le_mul_right,Gm]
   ·have Z:=Gm U u;have ae:(w.setRow b C).heap[b]? =some (.cells C T (0,0)):=setRow_heap w b c C T (0,0) k3
    by_cases Q:i<xs.length
    ·rw[A2 Q]
     simp_all
    rw[A1 Q];have O:xs.length*sz'<=i*sz':=G7 _ za2;have J:(i-xs.length)*sz'=i*sz'-xs.length*sz':=DG _ _ _;simp only[World.cell?,ae,GV,L6,H7];rw[aa _ za2,A1 za2,A2 za2];rw[show q+i*sz'+j-(q+xs.length*sz')=(i-xs.length)*sz'+j by omega,(Y4 u).1,(Y4 u).2]
   refine⟨za2,c.size,?_,za2⟩;simp[Gh.tok]
 have bl:¬(2 ^ 48<Builtin.nextslicecap (xs.length+ys.length) cap*by_):=by
  have:=growslice_fits (KU X) ab;omega
 have ar:∀b o,w.drew.cell? ⟨b,o,none⟩=w.cell? ⟨b,o,none⟩:=λ_ _=>rfl;generalize hG:grownCap w (xs.length+ys.length) cap e=G
 have ai:xs.length+ys.length<=G:=by rw[<-hG];grind[grownCap_ge]
 have N:(Builtin.append_ #[sT,yT] o.type #[.slice base xs.length cap,.slice S ys.length ag]).run P w=
  .ok (.slice (some ⟨w.heap.size,0,none⟩) (xs.length+ys.length) G)
   (w.drew.alloc (.cells (((List.range (xs.length*sz)).map λk=>fs (k / sz) (k % sz)).toArray++((List.range (ys.length*sz)).map λk=>fy (k / sz) (k % sz)).toArray++
    Builtin.zeroCells zv.cells (G-(xs.length+ys.length))) e)):=by
  have a9:(Question.appendCap (xs.length+ys.length) cap e).cut (w.tape w.drawn (.appendCap (xs.length+ys.length) cap e))=G:=hG;have hf:(Question.appendCap (xs.length+ys.length) cap e).forced=false:=rfl;have af:=bm w.drew ar;have p:=az w.drew ar
  rw[es]at af;rw[ey]at p
  simp only[Builtin.append_,C0,run_underlying hu,B7,V5 a0,run_underlying a3,C6,Builtin.lenOf,Bd,bd,bc,AA,
   Db,DR,L6,H7,DI,D8,gt_iff_lt,false_or,A1 X,A1 bl,run_choose,hf,a9,KK,run_askRoom,af,p,bt,newRow,run_newObj,
   GS,KO]
  rw[A1 za2]
 rw[N];simp only[B7,C6,J1];generalize hC:((List.range (xs.length*sz)).map λk=>fs (k / sz) (k % sz)).toArray++((List.range (ys.length*sz)).map λk=>fy (k / sz) (k % sz)).toArray++Builtin.zeroCells zv.cells (G-(xs.length+ys.length))=C;have an:(xs.length+ys.length)*sz=xs.length*sz+ys.length*sz:=E2 _ _ _
 have ah:C.size=G*sz:=by
  rw[<-hC];simp only[NJ,IJ,E1,DM,size_zeroCells,bs,DG];have:(xs.length+ys.length)*sz<=G*sz:=G7 _ ai;omega
 have ba:(xs.length+ys.length)*sz<=G*sz:=G7 _ ai
 have aa:∀k,k<(xs.length+ys.length)*sz->C[k]? =some (if k<xs.length*sz then fs (k / sz) (k % sz)else fy ((k-xs.length*sz) / sz) ((k-xs.length*sz) % sz)):=by
  grind
 have l:∀x o,g.fz x o->(w.drew.alloc (.cells C e)).cell? ⟨x,o,none⟩=w.cell? ⟨x,o,none⟩:=λx o hf=>FD (w:=w.drew) (F.fz_lt hf);have f:Below g.base w (w.drew.alloc (.cells C e)):=(Bc _ _).drew.alloc F.bnd _
 have D:∀id,g.at (H6 H tl) id≠some w.heap.size:=λid aw=>absurd (B.lt aw) (Ag _)
 have aj:=Rl.tok (e0:=0) (e:=(xs.length+ys.length)*sz) (lim:=G*sz) B F.bnd (Dt (w:=w.drew) (o:=.cells C e)) ah ba (λo _ hf=>absurd (F.fz_lt hf) (Ag _)) (Cd _) l f
  (λx M ac=>heap_alloc (w:=w.drew) ac) D
 have r:=Aw.tok B w.heap.size 0 ((xs.length+ys.length)*sz) (G*sz) l f
 have R:ys≠[]:=by
  grind
 refine⟨_,_,_,r,aj,?_,h g.nx R (B.nxt _ (B1 _)).2.2⟩;have am:0<ys.length:=List.length_pos_iff.2 R
 refine .sl (sz:=sz) (λi j=>if i<xs.length then fs i j else fy (i-xs.length) j) za4 ai (λi U=>I i U) (λi j U u=>.inr ⟨rfl,Cd _,by have:=Gm U u;omega⟩) (λi j U u=>?_)
  (λi j U u=>(d _ _ r i j U u).1) (λi j U u=>(d _ _ r i j U u).2) ?_
 ·have Z:=Gm U u;rw[show(⟨w.heap.size,0+i*sz+j,none⟩:Addr)=⟨w.drew.heap.size,i*sz+j,none⟩ by simp];rw[RJ (w:=w.drew),aa _ Z]
  congr 1
  by_cases Q:i<xs.length
  ·have J:=Gm Q u;rw[A2 J,A2 Q,(Y4 u).1,(Y4 u).2]
  have O:xs.length*sz<=i*sz:=G7 _ za2;have J:(i-xs.length)*sz=i*sz-xs.length*sz:=DG _ _ _;rw[A1 za2,A1 Q,show i*sz+j-xs.length*sz=(i-xs.length)*sz+j by omega,(Y4 u).1,(Y4 u).2]
 refine⟨za2,G*sz,?_,za4⟩;simp[Gh.tok]
end
mutual
inductive DK :V->V->Prop
 |refl (x:V):DK x x
 |ro (xs:List V) (t:J8):DK (.sl xs t) (.sl xs .ro)
 |sl {xs ys:List V} (t:J8):M2 xs ys->DK (.sl xs t) (.sl ys .ro)
 |slt {xs ys:List V} (t:J8):M2 xs ys->DK (.sl xs t) (.sl ys t)
 |sub {cs:List V} {d sz:Nat} (h:d+sz<=cs.length):DK (.eref cs d) (.eref ((cs.drop d).take sz) 0)
 |agg {xs ys:List V}:M2 xs ys->DK (.agg xs) (.agg ys)
 |tup {xs ys:List V}:M2 xs ys->DK (.tup xs) (.tup ys)
inductive M2 :List V->List V->Prop
 |nil:M2 [] []
 |cons {x y:V} {xs ys:List V}:DK x y->M2 xs ys->M2 (x::xs) (y::ys)
end
theorem M2.refl:∀xs:Up V,M2 xs xs
 |[]=>.nil
 |x::xs=>.cons (.refl x) (.refl xs)
def M2.length:∀{xs ys:Up V},M2 xs ys->xs.length=ys.length
 |_,_,.nil=>rfl
 |_,_,.cons _ h=>by simp[M2.length h]
theorem M2.at:∀{xs ys:Up V},M2 xs ys->∀i:Nat,DK (xs.getD i .bad) (ys.getD i .bad)
 |_,_,.nil,i=>by simp;exact .refl _
 |_,_,.cons h _,0=>za7
 |_,_,.cons _ h,i+1=>by simpa using M2.at h i
theorem DK.cells {x y:V}(h:DK x y):M2 x.cells y.cells:=by
 cases h with
 |refl=>exact .refl _
 |ro=>exact .cons (.ro _ _) .nil
 |sl t h=>exact .cons (.sl t h) .nil
 |slt t h=>exact .cons (.slt t h) .nil
 |sub h=>exact .cons (.sub h) .nil
 |agg h=>exact h
 |tup h=>exact .cons (.tup h) .nil
theorem DK.one {x y:V}(h:DK x y)(M:x.one=true):y.one=true:=by
 cases h<;>first|exact M|rfl|cases M
theorem VR.le {g:Gh} {w:Is} {v:HO} {x:V} (h:VR g w v x):∀{y:V},DK x y->VR g w v y:=by
 induction h with
 |sl0 a=>
  intro y k
  cases k with
  |refl=>exact .sl0 a
  |ro=>exact .sl0 rfl
  |sl t C=>cases C;exact .sl0 rfl
  |slt t C=>cases C;exact .sl0 a
 |sle a=>
  intro y k
  cases k with
  |refl=>exact .sle a
  |ro=>exact .sle (.inl rfl)
  |sl t C=>cases C;exact .sle (.inl rfl)
  |slt t C=>cases C;exact .sle a
 | sl vs l X c e R O q a ih=>
  rename_i b o sz n cap xs t;intro y k
  cases k with
  |refl=>exact .sl vs l X c e R O q a
  |ro=>exact .sl vs l X c e R O q trivial
  |sl t C=>
   refine .sl vs (C.length▸l) X (λi U=>?_) e R O (λi j U u=>ih i j U u ((C.at i).cells.at j)) trivial;rw[<-(C.at i).cells.length];grind
  |slt t C=>
   refine .sl vs (C.length▸l) X (λi U=>?_) e R O (λi j U u=>ih i j U u ((C.at i).cells.at j)) a;rw[<-(C.at i).cells.length];grind
 |agg B O q ih=>
  intro y k
  cases k with
  |refl=>exact .agg B O q
  |agg C=>exact .agg (B.trans C.length) (λi U=>O i (C.length▸U)) λi U=>ih i (C.length▸U) (C.at i)
 |tup B q ih=>
  intro y k
  cases k with
  |refl=>exact .tup B q
  |tup C=>exact .tup (B.trans C.length) λi U=>ih i (C.length▸U) (C.at i)
 |bad v=>intro y k;cases k;exact .bad v
 |bool b=>intro y k;cases k;exact .bool b
 |int k n=>intro y k';cases k';exact .int k n
 |str s=>intro y k;cases k;exact .str s
 |nilp=>intro y k;cases k;exact .nilp
 |nilf=>intro y k;cases k;exact .nilf
 |nili=>intro y k;cases k;exact .nili
 |nilmap=>intro y k;cases k;exact .nilmap
 |map h=>intro y k;cases k;exact .map h
 |fmap A R W l B q ih=>intro y k;cases k;exact .fmap A R W l B q
 |ref h=>intro y k;cases k;exact .ref h
 |own h L O Z f=>intro y k;cases k;exact .own h L O Z f
 |elem h C=>intro y k;cases k;exact .elem h C
 | eref vs e R O q ih=>
  rename_i b o off cs;intro y k
  cases k with
  |refl=>exact .eref vs e R O q
  | sub hd=>
   rename_i sz
   have B:((cs.drop off).take sz).length=sz:=by simp;omega
   have d:∀j,j<sz->((cs.drop off).take sz).getD j .bad=cs.getD (off+j) .bad:=λj u=>by
    grind
   have:=VR.eref (g:=g) (w:=w) (b:=b) (o:=o+off) (off:=0) (cs:=(cs.drop off).take sz) (λj=>vs (off+j)) (λj u=>by rw[B]at u;have:=e (off+j) za2;rwa[<-CI]at this)
    (λj u=>by rw[B]at u;have:=R (off+j) za2;rwa[<-CI]at this) (λj u=>by rw[B]at u;grind) (λj u=>by rw[B]at u;rw[d j u];grind)
   rwa[BC]at this
 |func B q r N ih m=>intro y k;cases k;exact .func B q r N
 |yield h=>intro y k;cases k;exact .yield h
 |iface h ih=>intro y k;cases k;exact .iface h
def M2.sz {sz:Nat}:∀{xs ys:Up V},M2 xs ys->ys.all (λx=>x.cells.length==sz)=true->xs.all (λx=>x.cells.length==sz)=true
 |_,_,.nil,_=>rfl
 |_,_,.cons h k,T=>by
  simp only[Nx,K0]at T ⊢
  exact⟨by rw[h.cells.length];exact T.1,M2.sz k T.2⟩
def M2.append:∀{xs ys a b:Up V},M2 xs a->M2 ys b->M2 (xs++ys) (a++b)
 |_,_,_,_,.nil,k=>k
 |_,_,_,_,.cons h k,k'=>.cons h (M2.append k k')
end Go.Ab
namespace Go.Ab
variable [P3]
def DK.z {v:V}:DK v v:=.refl v
def M2.z {l:Up V}:M2 l l:=.refl l
def M2.r {a:V}{l b:Up V}(h:M2 l b):M2 (a::l) (a::b):=.cons (.refl a) h
end Go.Ab
namespace Go.Ab
open Go.RowKit
variable [P3]
def Gh.own (g:Gh)(b:Nat)(hd:Hd):Gh:=
 {g with mu:=λx=>if x=g.nx then some b else g.mu x,ow:=λx=>if x=g.nx then hd else g.ow x,nx:=g.nx+1}
theorem Aw.own {g:Gh}{H:A6}{w w':Is}(h:Rl g H w)(b:Nat)(hd:Hd)(X:∀b o,g.fz b o->w'.cell? ⟨b,o,none⟩=w.cell? ⟨b,o,none⟩)(B:Below g.base w w')(a:w.drawn<=w'.drawn:=by first|exact Nat.le_refl _|exact Nat.le_succ _|exact Nat.le_add_right _ _):Aw g w (g.own b hd) w':=by
 have i:=(h.nxt _ (B1 _)).1;refine⟨λid b e=>?_,λt x e=>e,λ_ _ e=>e,rfl,X,B,λid b e=>?_,a⟩
 ·grind[Gh.own]
 grind[Gh.own]
def Rl.newArr {g:Gh} {H:A6} {w w':Is} (h:Rl g H w) {b o sz:Nat} {ys:Up V} (I:∀i,i<ys.length->(ys.getD i .bad).cells.length=sz)
 (r:∀b o,g.fz b o->w'.cell? ⟨b,o,none⟩=w.cell? ⟨b,o,none⟩) (B:Below g.base w w') (l:∀x,(ys.length=0\/x≠b)->x<w.heap.size->w'.heap[x]? =w.heap[x]?)
 (A:ys.length=0\/∃c T,g.base<=b/\w'.heap[b]? =some (.cells c T (0,0))/\o+ys.length*sz<=c.size/\
  (∀i j,i<ys.length->j<sz->(c.getD (o+i*sz+j) undef).oneCell'=true/\VR g w (c.getD (o+i*sz+j) undef) ((ys.getD i .bad).cells.getD j .bad))/\
  (∀q,o<=q->¬g.fz b q)/\∀id,g.at H id≠some b) (f:w.drawn<=w'.drawn:=by first|exact B1 _|exact GM _|exact KV _ _):
 Aw g w (g.own b ⟨o,ys.length,sz⟩) w'/\Rl (g.own b ⟨o,ys.length,sz⟩) (upd H g.nx (some (.arr sz ys))) w'/\H g.nx=none:=by
 have s:=Aw.own h b ⟨o,ys.length,sz⟩ r B f;have m:=h.nxt g.nx (B1 _)
 generalize t:g.own b ⟨o,ys.length,sz⟩=g' at s ⊢
 have em:∀x,g'.mu x=if x=g.nx then some b else g.mu x:=λx=>by rw[<-t];rfl
 have C:∀x,g'.ow x=if x=g.nx then⟨o,ys.length,sz⟩else g.ow x:=λx=>by rw[<-t];rfl
 have et:g'.tk=g.tk:=by rw[<-t];rfl
 have N:g'.fz=g.fz:=by rw[<-t];rfl
 have G:g'.nx=g.nx+1:=by rw[<-t];rfl
 have z:g'.base=g.base:=by rw[<-t];rfl
 have y:∀id,id≠g.nx->g'.at (upd H g.nx (some (.arr sz ys))) id=g.at H id:=λid U=>
  RP (D3 _ _ U) (by rw[em,A1 U]) (by rw[et]) (by rw[C,A1 U])
 have d:g'.at (upd H g.nx (some (.arr sz ys))) g.nx=if ys.length=0 then none else some b:=by grind[Gh.at,upd]
 refine⟨s,⟨λid k W=>?_,λid p x O Z=>?_,λx q D=>?_,λid U=>?_,?_,λn=>(h.glb n).mono s⟩,m.2.2⟩
 ·by_cases U:id=g.nx
  ·subst U;rw[G4]at W;cases W
   refine⟨b,by rw[em,A2 rfl],?_⟩;rw[C,A2 rfl];refine⟨rfl,rfl,I,A.imp (λh=>h) λ⟨c,T,J,L,R,F,S,k6⟩=>⟨c,T,by rw[z];exact J,L,R,λi j U u=>⟨(F i j U u).1,(F i j U u).2.mono s⟩,by rw[N];exact S⟩⟩
  rw[D3 _ _ U]at W
  refine(h.blk id k W).mono W s λx M=>⟨l x ?_ (h.lt M),λq Q=>by rw[N]at Q;exact Q⟩
  grind
 ·have M:∀id,g'.at (upd H g.nx (some (.arr sz ys))) g.nx=some x->g.at H id=some x->False:=λid O Z=>by
   rw[d]at O
   grind
  by_cases U:id=g.nx<;>by_cases a:p=g.nx
  ·rw[U,a]
  ·simp_all
  ·simp_all
  rw[y _ U]at O;rw[y _ a]at Z;exact h.inj _ _ _ O Z
 ·rw[N]at D
  have⟨v,hv⟩:=h.frz x q D
  simp_all
 ·rw[G]at U
  have a:g.nx<=id:=KX U
  have E:id≠g.nx:=λe=>za2
  have⟨X,Y,a3⟩:=h.nxt id a
  simp_all[upd]
 have:=h.bnd;have:=B.size;rw[z];omega
def Rl.setArr {g:Gh} {H:A6} {w:Is} (h:Rl g H w) {id b sz:Nat} {xs ys:Up V} {c c':za1 HO} {T:Do} (W:H id=some (.arr sz xs)) (A:g.mu id=some b) (E:xs.length≠0)
 (R:w.heap[b]? =some (.cells c T (0,0))) (I:c'.size=c.size) (F:∀o,o<(g.ow id).o->c'[o]? =c[o]?) (B:ys.length=xs.length) (J:∀i,i<ys.length->(ys.getD i .bad).cells.length=sz)
 (q:∀i j,i<ys.length->j<sz->(c'.getD ((g.ow id).o+i*sz+j) undef).oneCell'=true/\VR g w (c'.getD ((g.ow id).o+i*sz+j) undef) ((ys.getD i .bad).cells.getD j .bad)):
 Aw g w g (w.setRow b c')/\Rl g (upd H id (some (.arr sz ys))) (w.setRow b c'):=by
 have⟨b',O,C,Z,h4,p⟩:=h.blk id _ W
 have e:b'=b:=by rw[A]at O;simp_all
 subst e
 rcases p with p|⟨f,S,D,L,k3,k4,Q⟩
 ·omega
 rw[R]at L
 have e2:f=c:=za7
 subst e2;have a:=setRow_heap w b' f c' T (0,0) R
 have s:Aw g w g (w.setRow b' c'):=by
  refine⟨λ_ _ e=>e,λ_ _ e=>e,λ_ _ e=>e,rfl,λb o t=>?_,JG w b' c' D,λ_ _ _=>rfl,B1 _⟩
  by_cases e:b=b'
  ·subst e
   have z:o<(g.ow id).o:=by
    grind
   simp only[World.cell?,a,R,GV,L6,H7]
   grind
  grind[EL]
 have r:∀x,g.at (upd H id (some (.arr sz ys))) x=g.at H x:=by
  grind[Gh.at,upd]
 have N:g.at H id=some b':=by simp_all[Gh.at]
 refine⟨s,λx k M=>?_,λx x' y O Z=>h.inj x x' y (r x▸O) (r x'▸Z),λy o t=>?_,λx M=>?_,?_,λn=>(h.glb n).mono s⟩
 ·by_cases l:x=id
  ·subst l;rw[G4]at M;cases M
   exact⟨b',A,C,Z.trans B.symm,J,.inr ⟨c',T,D,a,by rw[B];omega,λi j U u=>⟨(q i j U u).1,(q i j U u).2.mono s⟩,Q⟩⟩
  rw[D3 _ _ l]at M
  refine(h.blk x k M).mono M s λy m=>⟨S7 w b' c' y λe=>?_,λ_ z=>z⟩;subst e;exact l (h.inj _ _ _ m N)
 ·have⟨v,d⟩:=h.frz y o t;exact⟨v,(s.cell y o t).trans d⟩
 ·have⟨X,Y,a3⟩:=h.nxt x M
  have G:x≠id:=λe=>za8
  simp_all[upd]
 grind
def W1 (xs:Up V)(lo n:Int):Up V:=(xs.drop lo.toNat).take n.toNat
def Rl.freezeArr' {g:Gh} {H:A6} {w:Is} (h:Rl g H w) {id sz:Nat} {xs:Up V} (W:H id=some (.arr sz xs)):
 ∃g',(g'.mu=g.mu/\g'.tk=g.tk/\g'.ow=g.ow)/\Aw g w g' w/\Rl g' (upd H id none) w/\∀v lo n,VR g' w v (.own id lo n)->VR g' w v (.sl (W1 xs lo n) .ro):=by
 have⟨b,O,C,Z,h4,h6⟩:=h.blk id _ W
 by_cases X:xs.length=0
 ·have M:xs=[]:=List.length_eq_zero_iff.1 X;refine⟨g,⟨rfl,rfl,rfl⟩,Aw.refl _ _,h.less λx k M=>?_,λv lo n q=>?_⟩
  ·simp_all[upd]
  subst M
  cases q with
  |own E L F N J=>
   rename_i p
   have S:lo=0:=za2
   have e2:n=0:=za2
   subst S;subst e2;rw[show(g.ow id).cap=0 by omega]
   cases p with
   |none=>exact .sl0 rfl
   |some a=>exact .sle (.inl rfl)
 rcases h6 with h6|⟨c,T,k1,k2,k3,k4,k5⟩
 ·omega
 let g':Gh:={g with fz:=λx o=>g.fz x o\/(x=b/\o<c.size)}
 have s:Aw g w g' w:=⟨λ_ _ e=>e,λ_ _ e=>e,λ_ _ e=>.inl e,rfl,λ_ _ _=>rfl,Bc _ _,λ_ _ _=>rfl,B1 _⟩
 have I:g.at H id=some b:=by simp_all[Gh.at]
 have t:∀o,w.cell? ⟨b,o,none⟩=c[o]? :=λo=>by simp[World.cell?,k2]
 have d:∀x y,g'.at (upd H id none) x=some y->x≠id/\g.at H x=some y:=by
  grind[Gh.at,upd]
 have l:∀i j,i<xs.length->j<sz->(g.ow id).o+i*sz+j<c.size:=λi j U u=>by
  have S:=Gm (n:=xs.length) U u;omega
 refine⟨g',⟨rfl,rfl,rfl⟩,s,⟨λx k M=>?_,λx x' y O Z=>h.inj _ _ _ (d _ _ O).2 (d _ _ Z).2,λy o G=>?_,λx M=>?_,h.bnd,λn=>(h.glb n).mono s⟩,λv lo n q=>?_⟩
 ·have D:x≠id:=λe=>by simp_all[upd]
  rw[D3 _ _ D]at M
  refine(h.blk x k M).mono M s λy m=>⟨rfl,λo z=>?_⟩
  rcases z with z|⟨e,_⟩
  ·exact z
  subst e;exact absurd (h.inj _ _ _ m I) D
 ·rcases G with G|⟨e,z⟩
  ·exact h.frz y o G
  simp_all
 ·have⟨a1,a2,a3⟩:=h.nxt x M
  have aa:x≠id:=λe=>za8
  grind[upd]
 have r:∀i,i<n.toNat->(W1 xs lo n).getD i .bad=xs.getD (lo.toNat+i) .bad:=λi U=>by
  simp_all[W1]
 cases q with
 | own E L F N J=>
  rename_i b' p;have A:g.mu id=some b':=E
  rw[O]at A;cases A
  have Y:lo+n<=((g.ow id).cap:Nat):=N
  have R:(W1 xs lo n).length=n.toNat:=by grind[W1]
  show VR g' w (.slice p n.toNat ((g.ow id).cap-lo.toNat)) _
  by_cases hn:n=0
  ·subst hn
   have e0:W1 xs lo 0=[]:=by simp[W1]
   rw[e0]
   cases p with
   |none=>
    have:¬(lo<((g.ow id).cap:Nat)):=λl=>by have:=J l;cases this
    rw[show(g.ow id).cap-lo.toNat=0 by omega];exact .sl0 rfl
   |some a=>exact .sle (.inl rfl)
  have f:lo<((g.ow id).cap:Nat):=za2
  have Q:=J f;rw[Q];have B:(g'.ow id)=g.ow id:=rfl;rw[B,C]
  refine .sl (sz:=sz) (λi j=>c.getD ((g.ow id).o+(lo.toNat+i)*sz+j) undef) R za2 (λi U=>by rw[r i U];grind) (λi j U u=>?_) (λi j U u=>?_)
   (λi j U u=>(k4 _ j za2 u).1) (λi j U u=>by rw[r i U];exact(k4 _ j za2 u).2.mono s) trivial
  ·have:=l (lo.toNat+i) j za2 u
   rw[E2]at this
   omega
  rw[t];have:=l (lo.toNat+i) j za2 u
  rw[E2]at this ⊢
  rw[show(g.ow id).o+lo.toNat*sz+i*sz+j=(g.ow id).o+(lo.toNat*sz+i*sz)+j by omega]
  simp_all
def Rl.freezeArr {g:Gh}{H:A6}{w:Is}(h:Rl g H w){id sz:Nat}{xs:Up V}(W:H id=some (.arr sz xs)):
 ∃g',Aw g w g' w/\Rl g' (upd H id none) w/\∀v lo n,VR g' w v (.own id lo n)->VR g' w v (.sl (W1 xs lo n) .ro):=
 let⟨g',_,h⟩:=h.freezeArr' W;⟨g',h⟩
def Ky (H:A6)(id:Nat):OS (Nat×Up V):=
 match H id with
 |some (.arr sz xs)=>some (sz,xs)
 |_=>none
def Io {H:A6}{id sz:Nat}{xs:Up V}(h:Ky H id=some (sz,xs)):H id=some (.arr sz xs):=by
 grind[Ky]
def Bl0 (P:If)(a:A6)(t:Do)(v:V):OS V:=
 match HS P t,v with
 |some _,.own _ _ n=>some (.int .i64 n)
 |_,_=>none
def Av2 (P:If) (H:A6) (t:Do) (v:V) (i:Int):OS V:=
 match HS P t,v with
 |some e,.own id lo n=>
  match Ky H id with
  |some (sz,_)=>if(0<=i/\i<n)/\HL P e=some sz then some (.elem id (lo+i) sz 0)else none
  |none=>none
 |_,_=>none
def PW (P:If) (H:A6) (t:Do) (v:V):OS V:=
 match agO P t,HL P t,v with
 |some a,some sz,.elem id i _ off=>
  match Ky H id with
  |some (_,xs)=>if 0<=i/\i<xs.length then HT a sz (xs.getD i.toNat .bad).cells off else none
  |none=>none
 |_,_,_=>none
def YY (x:V)(esz sz off:Nat)(y:V):V:=
 match Nat.beq off 0&&Nat.beq sz esz with
 |true=>y
 |false=>.agg (AF x.cells off y.cells)
def YN (P:If) (H:A6) (t:Do) (v y:V):OS A6:=
 match HL P t,v with
 | some sz,.elem id i esz off=>
  match Ky H id with
  |some (a,xs)=>
   if(0<=i/\i<xs.length)/\a=esz/\y.one=true/\y.cells.length=sz/\off+sz<=esz then some (upd H id (some (.arr esz (xs.set i.toNat (YY (xs.getD i.toNat .bad) esz sz off y)))))else none
  |none=>none
 |_,_=>none
def As7 {x y:V}{esz sz off:Nat}(M:x.cells.length=esz)(m:y.cells.length=sz)(h:off+sz<=esz):(YY x esz sz off y).cells=AF x.cells off y.cells:=by
 unfold YY
 split
 ·simp_all[AF]
 rfl
section
variable {P:Program}{o:Oper}{fr:Fr}{H:A6}{K:V->A6->Prop}
theorem AT7 {y:By} {t:Do} {x:V} (z:o.op= .call {callee:=.builtin .len,args:= #[y],argTypes:= #[t]}) (B:Bl0 P H t (ev fr y)=some x) (h:K x H):K3 P o fr H K:=by
 intro g w a F i;have q:=G1 F i y;rw[W8 z];simp only[builtin,BH,D9,I0,C0]
 unfold Bl0 at B
 split at B
 ·rename_i e id lo n b Y
  rw[Y]at q
  cases B;have l:=W5 b
  generalize a.eval y=v at q
  cases q with
  |own E L O Z r=>
   simp[Builtin.len_,run_underlying l,goInt];rw[show(max n 0:Int)=n by omega];exact P0.here F (.int _ _) h
 cases B
theorem AT8 {t:Do} {y z:By} {k:IntKind} {i:Int} {x:V} (j:o.op= .indexAddr t y z) (s:ev fr z= .int k i) (B:Av2 P H t (ev fr y) i=some x) (h:K x H):K3 P o fr H K:=by
 intro g w a F c;have q:=G1 F c y;have U:=G1 F c z
 rw[s]at U
 have U:=U.int_inv
 unfold Av2 at B
 split at B
 ·rename_i e id lo n N Y
  rw[Y]at q
  split at B
  ·rename_i sz xs M
   split at B
   ·rename_i X;cases B;have⟨b',u,C,A,D,G⟩:=F.blk id _ (Io M);have p:=W5 N
    generalize b:a.eval y=v at q
    cases q with
    |own E L O Z m=>
     have l:lo<((g.ow id).cap:Nat):=za2
     have r:=m l;subst r;unfold execOp;rw[j];have d:=X.1.1
     have f:i<(n.toNat:Int):=za2
     simp only[b,U,Instr.indexAt,asIntOf,C0,C6,B7,run_underlying p,d,f,and_self,D8,V5 X.2,J1,BW];refine P0.here F ?_ h;have:=VR.elem (g:=g) (w:=w) (i:=lo+i) (off:=0) E C;rw[C]
     rw[show(lo+i).toNat=lo.toNat+i.toNat by omega,E2,BC,<-CI]at this
     exact this
   cases B
  cases B
 cases B
theorem AI8 {t:Do} {y:By} {x:V} (z:o.op= .load t y) (B:PW P H t (ev fr y)=some x) (h:K x H):K3 P o fr H K:=by
 intro g w a F D;have q:=G1 F D y
 unfold PW at B
 split at B
 ·rename_i R sz id i esz off G C Y
  rw[Y]at q
  split at B
  ·rename_i Q xs M
   split at B
   ·rename_i X
    generalize N:a.eval y=v at q
    cases q with
    | elem E m=>
     rename_i b;have⟨b',O,d,Z,s,p⟩:=F.blk id _ (Io M)
     rw[E]at O;cases O
     subst d
     have l:i.toNat<xs.length:=za2
     rcases p with p|⟨c,T,U,L,W,A,k5⟩
     ·omega
     have e:ZU g w b ((g.ow id).o+i.toNat*(g.ow id).sz) (xs.getD i.toNat .bad).cells:=λj I=>by
      have r:j<(g.ow id).sz:=by rw[<-s _ l];exact I
      have S:=Gm (n:=xs.length) l r;have e2:xs.length*(g.ow id).sz<=(g.ow id).cap*(g.ow id).sz:=G7 _ za2;refine⟨_,?_,(A _ j l r).1,(A _ j l r).2⟩;simp[World.cell?,L,Array.getD,show(g.ow id).o+i.toNat*(g.ow id).sz+j<c.size by omega]
     have⟨u,J,f⟩:=Kh (P:=P) e G C B;unfold execOp;rw[z]
     rw[<-m]at N
     simp only[N,Instr.loadAt,Instr.sureAddr,C0,C6,B7,J,J1]
     grind[P0.here]
   cases B
  cases B
 cases B
theorem Ar1 {t:Do} {y z:By} {D:V} {H':A6} (ho:o.op= .store t y z) (hle:DK (ev fr z) D) (B:YN P H t (ev fr y) D=some H') (h:K .bad H'):K3 P o fr H K:=by
 intro g w a F hE;have U:=G1 F hE y;have hz:=(G1 F hE z).le hle
 unfold YN at B
 split at B
 ·rename_i sz id i esz off hs Y
  rw[Y]at U
  split at B
  ·rename_i aq xs M
   split at B
   ·rename_i X;have⟨hb,p,R,e,I⟩:=X;cases B
    generalize G:a.eval y=v at U
    cases U with
    | elem E ap=>
     rename_i b;have W:=Io M;have⟨b',O,ao,Z,s,h6⟩:=F.blk id _ W
     rw[E]at O;cases O
     have p:=p.symm;subst p
     have J:i.toNat<xs.length:=za2
     rcases h6 with h6|⟨c,T,k1,k2,k3,k4,k5⟩
     ·omega
     have⟨ad,ae⟩:=hz.cells R
     have aj:(a.eval z).cells.size=sz:=by rw[ad,e]
     have L:∀v∈(a.eval z).cells.toList,v.oneCell'=true:=by
      intro v U;obtain⟨j,u,rfl⟩:=K1 U
      have an:j<(a.eval z).cells.size:=za2
      have:=(ae j za2).1
      simp_all
     have f:xs.length≠0:=za2
     have e2:xs.length*esz<=(g.ow id).cap*esz:=G7 _ za2;have e3:(i.toNat+1)*esz<=xs.length*esz:=G7 _ za2
     rw[E2,W3]at e3
     generalize hA:(g.ow id).o+i.toNat*esz+off=A
     have al:A+sz<=c.size:=by rw[<-hA];omega
     have S:=run_storeCells_at P b A T (a.eval z).cells.toList 0 c w k2 za6 L
     generalize hC:(c.toList.take (A+0)++(a.eval z).cells.toList++c.toList.drop (A+0+(a.eval z).cells.toList.length)).toArray=C at S
     have ac:C.size=c.size:=by rw[<-hC];simp;omega
     have ab:∀j,j<c.size->C[j]? =if A<=j/\j<A+sz then(a.eval z).cells[j-A]? else c[j]? :=by
      intro j J;rw[<-hC];simp only[BC,AA,D2];rw[EV,EV];simp only[X8,IL,NE (show A<=c.size by omega),NM,GW,DQ]
      by_cases q1:j<A
      ·rw[A2 q1,A2 q1,A1 za2]
      rw[A1 q1]
      by_cases q2:j<A+sz
      ·rw[A2 za2,A2 ⟨za2,q2⟩]
      rw[A1 za2,A1 za2,show A+(a.eval z).cells.size+(j-A-(a.eval z).cells.size)=j by omega]
     have N:=s _ J;have ai:=As7 (x:=xs.getD i.toNat .bad) (y:=D) N e I
     have r:∀k,k<xs.length->(xs.set i.toNat (YY (xs.getD i.toNat .bad) esz sz off D)).getD k .bad=if k=i.toNat then YY (xs.getD i.toNat .bad) esz sz off D else xs.getD k .bad:=by
      grind
     have d:=F.setArr (c':=C) (ys:=xs.set i.toNat (YY (xs.getD i.toNat .bad) esz sz off D)) W E f k2 ac (λq Q=>by
      grind) za4 (λk ag=>by
      have l:k<xs.length:=za7
      rw[r k l]
      grind[Dh]) (λk j ag u=>by
      have l:k<xs.length:=za7
      rw[r k l];have e1:=Gm (n:=xs.length) l u
      have af:(g.ow id).o+k*esz+j<c.size:=za2
      have aa:C.getD ((g.ow id).o+k*esz+j) undef=if A<=(g.ow id).o+k*esz+j/\(g.ow id).o+k*esz+j<A+sz then(a.eval z).cells.getD ((g.ow id).o+k*esz+j-A) undef else c.getD ((g.ow id).o+k*esz+j) undef:=by
       simp only[Q9,ab _ af]
       split<;>rfl
      rw[aa]
      by_cases m:k=i.toNat
      ·subst m;rw[A2 rfl,ai,LH (by rw[e,N];omega),e];rw[<-hA]
       grind
      rw[A1 m]
      have ah:¬(A<=(g.ow id).o+k*esz+j/\(g.ow id).o+k*esz+j<A+sz):=by
       rw[<-hA];rintro⟨q1,q2⟩
       rcases Nat.lt_or_gt_of_ne m with ak|am
       ·have:=G7 esz (show k+1<=i.toNat by omega)
        rw[E2,W3]at this
        omega
       have:=G7 esz (show i.toNat+1<=k by omega)
       rw[E2,W3]at this
       omega
      rw[A1 ah]
      grind)
     unfold execOp;rw[ho]
     rw[hA]at G
     simp only[G,Instr.storeAt,Instr.sureAddr,storeVar,C0,C6,B7,V5 hs w,aj,ne_eq,IK,H7,S,J1];exact⟨g,.bad,_,d.1,d.2,.bad _,h⟩
   cases B
  cases B
 cases B
end
def Ie {g:Gh} {H:A6} {w:Is} (F:Rl g H w) (sz:Nat) {v:HO} {x:V} (M:x= .sl [] .nil\/x= .sl [] .full) (q:VR g w v x):
 ∃g',Aw g w g' w/\Rl g' (upd H g.nx (some (.arr sz []))) w/\H g.nx=none/\VR g' w v (.own g.nx 0 0):=by
 have⟨s,r,l⟩:=Rl.newArr (w':=w) F (b:=0) (o:=0) (sz:=sz) (ys:=[]) (λi U=>by simp at U) (λ_ _ _=>rfl) (Bc _ _) (λ_ _ _=>rfl) (.inl rfl);refine⟨_,s,r,l,?_⟩
 have key:∀p:OS Addr,VR (g.own 0 ⟨0,0,sz⟩) w (.slice p 0 0) (.own g.nx 0 0):=λp=>by
  have e:(g.own 0 ⟨0,0,sz⟩).ow g.nx=⟨0,0,sz⟩:=by simp[Gh.own]
  have:=VR.own (g:=g.own 0 ⟨0,0,sz⟩) (w:=w) (id:=g.nx) (b:=0) (lo:=0) (n:=0) (p:=p) (by simp[Gh.own]) za2 za2 (by rw[e];simp) (by rw[e];simp)
  rw[e]at this
  exact this
 rcases M with rfl|rfl
 ·cases q with
  |sl0 j=>grind
  |sle h=>rcases h with h|⟨h,_⟩<;>cases h
  |sl vs l X N y R O q j=>exact j.elim
 cases q with
 |sl0 j=>grind
 |@sle a c t h=>
  simp_all
 |sl vs l X N y R O q j=>
  simp_all[Jp]
section
variable {P:Program}{o:Oper}{fr:Fr}{H:A6}{K:V->A6->Prop}
theorem Ad4 {t:Do} {l c:By} {e:Do} {k1 k2:IntKind} {n m:Int} {sz by_:Nat} {z:V} (ho:o.op= .makeSlice t l c) (B:ev fr l= .int k1 n) (X:ev fr c= .int k2 m) (Y:HS P t=some e) (ag:HL P e=some sz)
 (am:0<sz) (f:SN P e=some by_) (an:0<by_) (hz:KC P e=some z) (aj:z.one=true) (Q:z.cells.length=sz) (L:0<=n) (O:n<=m) (Z:m*by_<=281474976710656)
 (h:∀id,H id=none->K (.own id 0 n) (upd H id (some (.arr sz (List.replicate m.toNat z))))):K3 P o fr H K:=by
 intro g w a F hE;have N:=G1 F hE l;have y:=G1 F hE c
 rw[B]at N;rw[X]at y
 have N:=N.int_inv;have y:=y.int_inv;have hu:=W5 Y;have⟨T,ez,al⟩:=FF hz
 have ak:VR g w T z:=by rw[ez];grind[GI]
 have⟨S,aq⟩:=ak.cells aj
 have R:T.cells.size=sz:=by rw[S,Q]
 have G:∀w,(typeInfo e).run P w= .ok ((P.info? e).getD default) w/\((P.info? e).getD default).bytes=by_:=by
  intro w
  unfold SN at f
  cases U:P.info? e with
  |none=>simp_all
  |some i=>simp[U]at f;simp[typeInfo,U,f]
 have ac:∀w,(typeInfo e).run P w= .ok ((P.info? e).getD default) w:=λw=>(G w).1;have ad:=(G w).2
 have ap:m<=281474976710656:=by
  have:m*1<=m*by_:=Int.mul_le_mul_of_nonneg_left za2 za2;omega
 have ah:IntKind.i64.wrap n=n:=wrap_small n L za2;have ai:IntKind.i64.wrap m=m:=wrap_small m za2 za2;have ao:(by_:Int)*m=m*by_:=Int.mul_comm _ _;generalize E:(if m.toNat*sz=0 then(#[]:za1 HO)else T.cells)=A;generalize hC:(Array.range (m.toNat*sz)).map (λi=>A[i % A.size]!)=C
 have ab:C.size=m.toNat*sz:=by rw[<-hC];simp
 have M:(Instr.makeSlice t (.int k1 n) (.int k2 m)).run P w= .ok (.slice (some ⟨w.heap.size,0,none⟩) n.toNat m.toNat) (w.alloc (.cells C e)):=by
  have t1:¬(m<0):=za2
  have t2:¬(281474976710656<(by_:Int)*m):=za2
  have t3:¬(n<0):=za2
  have t4:¬(m<n):=za2
  simp only[Instr.makeSlice,C0,run_underlying hu,B7,asInt,asIntOf,C6,ac,ad,ah,ai];simp only[gt_iff_lt,t1,t3,t4,KI,GR,Bool.or_false,Int.reducePow,t2,L6,H7,C0,B7,run_askRoom,V5 ag]
  by_cases L:m.toNat*sz=0
  ·rw[A2 L]at E
   rw[A2 L];subst E;simp[newRow,run_newObj,<-hC,GS]
  rw[A1 L]at E
  rw[A1 L];subst E;simp[newRow,run_newObj,hC,GS,C0,al]
 have hn:n.toNat<=m.toNat:=za2
 have aa:∀k,k<m.toNat*sz->C.getD k undef=T.cells.getD (k % sz) undef:=by
  intro k W
  have af:m.toNat*sz≠0:=za2
  rw[A1 af]at E
  subst E;rw[<-hC]
  have v:k % sz<T.cells.size:=by rw[R];simp_all[DH]
  simp only[Q9,Array.getElem?_map,Array.getElem?_range,W,D8,K5,O2,R];simp[v]
 have d:∀i,i<m.toNat->(List.replicate m.toNat z).getD i .bad=z:=λi U=>za8
 have J:(List.replicate m.toNat z).length=m.toNat:=za4
 have⟨s,r,D⟩:=Rl.newArr (w':=w.alloc (.cells C e)) F (b:=w.heap.size) (o:=0) (sz:=sz) (ys:=List.replicate m.toNat z)
  (λi U=>by rw[d i za2];exact Q) (λb q hf=>FD (F.fz_lt hf)) ((Bc _ _).alloc F.bnd _) (λx _ v=>heap_alloc v)
  (.inr ⟨C,e,F.bnd,Dt,by simp[ab],λi j U u=>by
   have I:i<m.toNat:=za2
   have e1:=Gm (n:=m.toNat) I u;rw[d i I,K4,aa _ e1,(Y4 u).2]
   simp_all,λq _ hf=>absurd (F.fz_lt hf) (Ag _),λid ae=>absurd (F.lt ae) (Ag _)⟩)
 unfold execOp;rw[ho];simp only[N,y,C0,M,B7,C6,J1];refine⟨_,_,_,s,r,?_,h g.nx D⟩;rw[J]
 have e':(g.own w.heap.size ⟨0,m.toNat,sz⟩).ow g.nx=⟨0,m.toNat,sz⟩:=by simp[Gh.own]
 have:=VR.own (g:=g.own w.heap.size ⟨0,m.toNat,sz⟩) (w:=w.alloc (.cells C e)) (id:=g.nx) (b:=w.heap.size) (lo:=0) (n:=n) (p:=some ⟨w.heap.size,0,none⟩) (by simp[Gh.own]) za2 L (by rw[e'];simp_all) (by rw[e'];simp)
 rw[e']at this
 exact this
end
def FK (xs:Up V)(i:Nat)(ys:Up V):Up V:=xs.take i++ys++xs.drop (i+ys.length)
def Ot {xs ys:Up V}{i:Nat}(h:i+ys.length<=xs.length):(FK xs i ys).length=xs.length:=by grind[FK]
def XF {xs ys:Up V}{i k:Nat}(h:i+ys.length<=xs.length):(FK xs i ys).getD k .bad=if i<=k/\k<i+ys.length then ys.getD (k-i) .bad else xs.getD k .bad:=by
 simp only[FK,AD];rw[EV,EV]
 grind
def WO (H:A6)(v:V):OS (Up V):=
 match v with
 | .sl xs _=>some xs
 | .own id lo n=>(Ky H id).map λq=>W1 q.2 lo n
 |_=>none
def J1.mono {P:If} {K b:HO->Is->Prop} (h:∀v w,K v w->b v w) {r:Result Next} (f:J1 P K r):J1 P b r:=by
 cases r with
 |halt x w=>exact f
 | ok n w=>
  cases n<;>first
   |exact h _ _ f
   |exact CallsIn.mono f λe w' ⟨v,a,e2⟩=>⟨v,a,h _ _ e2⟩
   |exact RoundIn.mono f λe w' ⟨v,a,e2⟩=>⟨v,a,h _ _ e2⟩
   |exact f
section
variable {P:Program}{o:Oper}{fr:Fr}{H:A6}{K:V->A6->Prop}
def VR.ownN {g:Gh}{w:Is}{b o cap sz:Nat}{n:Int}(O:0<=n)(Z:n<=cap):VR (g.own b ⟨o,cap,sz⟩) w (.slice (some ⟨b,o,none⟩) n.toNat cap) (.own g.nx 0 n):=by
 have a:(g.own b ⟨o,cap,sz⟩).ow g.nx=⟨o,cap,sz⟩:=by simp[Gh.own]
 have:=VR.own (g:=g.own b ⟨o,cap,sz⟩) (w:=w) (id:=g.nx) (b:=b) (lo:=0) (n:=n) (p:=some ⟨b,o,none⟩) (by simp[Gh.own]) za2 O (by rw[a];simp_all) (by rw[a];simp)
 rw[a]at this
 exact this
def Gr {g:Gh} {H:A6} {w:Is} (F:Rl g H w) {id sz:Nat} {lo n:Int} {xs:Up V} {v:HO} (W:H id=some (.arr sz xs)) (q:VR g w v (.own id lo n)):
 ∃ b p,g.mu id=some b/\v= .slice p n.toNat (xs.length-lo.toNat)/\0<=lo/\0<=n/\lo+n<=(xs.length:Nat)/\(g.ow id).sz=sz/\(g.ow id).cap=xs.length/\
  (lo<(xs.length:Nat)->p=some ⟨b,(g.ow id).o+lo.toNat*sz,none⟩)/\(∀i,i<xs.length->(xs.getD i .bad).cells.length=sz)/\
  (xs.length=0\/∃c T,g.base<=b/\w.heap[b]? =some (.cells c T (0,0))/\(g.ow id).o+xs.length*sz<=c.size/\
   (∀i j,i<xs.length->j<sz->(c.getD ((g.ow id).o+i*sz+j) undef).oneCell'=true/\VR g w (c.getD ((g.ow id).o+i*sz+j) undef) ((xs.getD i .bad).cells.getD j .bad))/\
   (∀o,(g.ow id).o<=o->¬g.fz b o)/\g.at H id=some b):=by
 have⟨b,O,Z,J,s,l⟩:=F.blk id _ W
 cases q with
 |own E L e a h=>
  rename_i p
  rw[O]at E;cases E
  rw[J]at a h
  rw[Z]at h
  refine⟨b,p,O,by rw[J],L,e,a,Z,J,h,s,?_⟩
  grind[Gh.at]
def Mg (P:If) {g:Gh} {H:A6} {w:Is} (F:Rl g H w) {x:V} {v:HO} {xs:Up V} {sz:Nat} (M:WO H x=some xs) (A:VR g w v x) (e:xs.all (λx=>x.cells.length==sz)=true):
 ∃(base:OS Addr) (cap:Nat) (vs:Nat->Nat->HO),v= .slice base xs.length cap/\
  (∀i j,i<xs.length->j<sz->(vs i j).oneCell'=true/\VR g w (vs i j) ((xs.getD i .bad).cells.getD j .bad))/\
  (∀m,m<=xs.length->∀w':Is,(∀b o,w'.cell? ⟨b,o,none⟩=w.cell? ⟨b,o,none⟩)->(Builtin.firstCells sz m v).run P w'= .ok ((List.range (m*sz)).map λk=>vs (k / sz) (k % sz)).toArray w'):=by
 unfold WO at M
 split at M
 ·cases M;have⟨base,cap,vs,O,_,Z,J,s⟩:=IY (P:=P) A e;refine⟨base,cap,vs,O,Z,λm E w' l=>?_⟩
  rcases s with⟨rfl,_,_⟩|⟨b,q,rfl,C,_⟩
  ·have:m=0:=za7
   simp_all
  rw[O];simp only[Builtin.firstCells];refine run_loadCells w' _ _ _ λk W=>?_
  have a:0<sz:=by
   grind
  have U:k / sz<m:=(Mv a).2 W;have u:k % sz<sz:=DH _ a;rw[BW,l]
  have y:q+k=q+k / sz*sz+k % sz:=by have:=KZ k sz;rw[EZ]at this;omega
  rw[y]
  grind
 ·rename_i id lo n
  cases N:Ky H id with
  |none=>rw[N]at M;cases M
  | some q=>
   have⟨sz0,r⟩:=q
   rw[N]at M
   simp only[K5,E7]at M
   subst M;have⟨b,p,O,Z,J,s,C,Q,R,D,G,t⟩:=Gr F (Io N) A
   have B:(W1 r lo n).length=n.toNat:=by grind[W1]
   rw[B]
   have h:∀i,i<n.toNat->(W1 r lo n).getD i .bad=r.getD (lo.toNat+i) .bad:=λi U=>by
    grind[W1]
   by_cases I:n.toNat=0
   ·rw[I]at Z ⊢
    refine⟨_,_,λ_ _=>undef,Z,λi j U=>za2,λm E w' _=>?_⟩
    have:m=0:=za2
    subst this;subst Z
    cases p with
    |none=>simp[Builtin.firstCells]
    |some q=>simp[Builtin.firstCells,loadCells,loadCellsFrom]
   have d:lo<(r.length:Nat):=za2
   rcases t with t|⟨c,T,S,L,X,Y,k5,k6⟩
   ·omega
   have a:=D d;subst a
   have f:sz0=sz:=by
    have z:=G (lo.toNat+0) za2;have e2:=(List.all_eq_true.1 e) ((W1 r lo n).getD 0 .bad) za7
    rw[h 0 za2]at e2
    rw[<-z];grind
   subst f;refine⟨_,_,λi j=>c.getD ((g.ow id).o+(lo.toNat+i)*sz0+j) undef,Z,λi j U u=>?_,λm E w' l=>?_⟩
   ·rw[h i U];grind
   subst Z;simp only[Builtin.firstCells]
   have a:0<sz0\/sz0=0:=za2
   refine run_loadCells w' _ _ _ λk W=>?_
   rcases a with a|a
   ·have U:k / sz0<n.toNat:=NL ((Mv a).2 W) E;have u:k % sz0<sz0:=DH _ a;have z:=Gm (n:=r.length) (i:=lo.toNat+k / sz0) za2 u;rw[BW,l]
    have y:(g.ow id).o+lo.toNat*sz0+k=(g.ow id).o+(lo.toNat+k / sz0)*sz0+k % sz0:=by
     have:=KZ k sz0;rw[EZ]at this;rw[E2];omega
    rw[y];simp[World.cell?,L,Array.getD,show(g.ow id).o+(lo.toNat+k / sz0)*sz0+k % sz0<c.size by omega]
   simp_all
 cases M
def AC7 {c C:za1 HO}{A m:Nat}{vs:Up HO}(E:vs.length=m)(b:A+m<=c.size)(a:(c.toList.take A++vs++c.toList.drop (A+m)).toArray=C):
 C.size=c.size/\∀k,k<c.size->C[k]? =if A<=k/\k<A+m then vs[k-A]? else c[k]? :=by
 subst a;refine⟨by simp;omega,λk W=>?_⟩
 grind
def AC8 (P:If) {g:Gh} {H:A6} {w:Is} (F:Rl g H w) {id sz i m:Nat} {xs ys:Up V} {b:Nat} {c:za1 HO} {T:Do} (L:0<sz) (W:H id=some (.arr sz xs)) (A:g.mu id=some b)
 (S:(g.ow id).sz=sz) (a:i+ys.length<=xs.length) (B:xs.length≠0) (E:ys.length=m)
 (M:w.heap[b]? =some (.cells c T (0,0))) (Y:(g.ow id).o+xs.length*sz<=c.size)
 (U:∀i j,i<xs.length->j<sz->(c.getD ((g.ow id).o+i*sz+j) undef).oneCell'=true/\VR g w (c.getD ((g.ow id).o+i*sz+j) undef) ((xs.getD i .bad).cells.getD j .bad))
 (p:∀i,i<xs.length->(xs.getD i .bad).cells.length=sz) (q:∀i,i<ys.length->(ys.getD i .bad).cells.length=sz) (fy:Nat->Nat->HO)
 (R:∀i j,i<ys.length->j<sz->(fy i j).oneCell'=true/\VR g w (fy i j) ((ys.getD i .bad).cells.getD j .bad)):
 ∃C,(storeCells ⟨b,(g.ow id).o+i*sz,none⟩ ((List.range (m*sz)).map λk=>fy (k / sz) (k % sz))).run P w= .ok () (w.setRow b C)/\
  Aw g w g (w.setRow b C)/\Rl g (upd H id (some (.arr sz (FK xs i ys)))) (w.setRow b C):=by
 subst E;have I:(i+ys.length)*sz=i*sz+ys.length*sz:=E2 _ _ _;have N:(i+ys.length)*sz<=xs.length*sz:=G7 _ a
 have x:∀v∈((List.range (ys.length*sz)).map λk=>fy (k / sz) (k % sz)),v.oneCell'=true:=by
  grind[Nat.div_lt_iff_lt_mul,Nat.mod_lt]
 have y:=run_storeCells_at P b ((g.ow id).o+i*sz) T ((List.range (ys.length*sz)).map λk=>fy (k / sz) (k % sz)) 0 c w M za6 x
 generalize D:(c.toList.take ((g.ow id).o+i*sz+0)++((List.range (ys.length*sz)).map λk=>fy (k / sz) (k % sz))++
  c.toList.drop ((g.ow id).o+i*sz+0+((List.range (ys.length*sz)).map λk=>fy (k / sz) (k % sz)).length)).toArray=C at y
 have G:((List.range (ys.length*sz)).map λk=>fy (k / sz) (k % sz)).length=ys.length*sz:=za4
 rw[G,BC]at D
 have⟨f,d⟩:=AC7 G za2 D;refine⟨C,y,?_⟩;refine F.setArr W A B M f (λo z=>?_) (Ot a) (λj u=>?_) (λj t u l=>?_)
 ·grind
 ·rw[Ot a]at u
  rw[XF a]
  grind
 rw[Ot a]at u
 have X:=Gm (n:=xs.length) u l
 have r:(g.ow id).o+j*sz+t<c.size:=za2
 rw[XF a];simp only[Q9,d _ r]
 by_cases e:i<=j/\j<i+ys.length
 ·have O:i*sz<=j*sz:=G7 _ e.1;have Z:=Gm (n:=i+ys.length) e.2 l;have J:(j-i)*sz=j*sz-i*sz:=DG _ _ _;rw[A2 ⟨za2,za2⟩,A2 e,show(g.ow id).o+j*sz+t-((g.ow id).o+i*sz)=(j-i)*sz+t by omega,Az,EU (by have:=Gm (n:=ys.length) (i:=j-i) za2 l;omega)];simp only[K5,O2,(Y4 l).1,(Y4 l).2]
  grind
 have s:¬((g.ow id).o+i*sz<=(g.ow id).o+j*sz+t/\(g.ow id).o+j*sz+t<(g.ow id).o+i*sz+ys.length*sz):=by
  rintro⟨q1,q2⟩
  rcases R9 j i with h|h
  ·have:=G7 sz (show j+1<=i by omega)
   rw[E2,W3]at this
   omega
  have Q:i+ys.length<=j:=za2
  have:=G7 sz Q;omega
 rw[A1 s,A1 e];have:=U j t u l
 simp_all
def IW {xs:Up V}{lo n:Int}(L:0<=lo)(O:0<=n)(Z:lo+n<=(xs.length:Nat)):(W1 xs lo n).length=n.toNat:=by grind[W1]
def Sf {xs:Up V}{lo n:Int}{i:Nat}(U:i<n.toNat):(W1 xs lo n).getD i .bad=xs.getD (lo.toNat+i) .bad:=by
 simp_all[W1]
def OR {xs:Up V}{sz:Nat}(h:∀i,i<xs.length->(xs.getD i .bad).cells.length=sz):xs.all (λx=>x.cells.length==sz)=true:=by
 rw[ET]
 grind[List.getElem_of_mem]
def Jf {xs:Up V}{sz:Nat}(h:xs.all (λx=>x.cells.length==sz)=true):∀i,i<xs.length->(xs.getD i .bad).cells.length=sz:=λi U=>by
 have:=(List.all_eq_true.1 h) (xs.getD i .bad) za8
 simp_all
def AG1 {g:Gh} {w:Is} {H:A6} {K:V->A6->Prop} (F:Rl g H w) {e:Do} {sz G:Nat} {z:V} {xs ys:Up V} {y:HO} (ae:0<sz) (ac:VR g w y z) (Y:z.one=true) (aa:z.cells.length=sz)
 (T:∀i,i<xs.length->(xs.getD i .bad).cells.length=sz) (X:∀i,i<ys.length->(ys.getD i .bad).cells.length=sz) {fs fy:Nat->Nat->HO}
 (ai:∀i j,i<xs.length->j<sz->(fs i j).oneCell'=true/\VR g w (fs i j) ((xs.getD i .bad).cells.getD j .bad))
 (aj:∀i j,i<ys.length->j<sz->(fy i j).oneCell'=true/\VR g w (fy i j) ((ys.getD i .bad).cells.getD j .bad)) (M:xs.length+ys.length<=G) {m:Int} (E:m=((xs.length+ys.length:Nat):Int))
 (A:∀t k,H t=none->K (.own t 0 m) (upd H t (some (.arr sz (xs++ys++List.replicate k z))))):
 P0 g w K (.slice (some ⟨w.heap.size,0,none⟩) (xs.length+ys.length) G)
  (w.drew.alloc (.cells (((List.range (xs.length*sz)).map λk=>fs (k / sz) (k % sz)).toArray++((List.range (ys.length*sz)).map λk=>fy (k / sz) (k % sz)).toArray++
   Builtin.zeroCells y.cells (G-(xs.length+ys.length))) e)):=by
 have⟨B,al⟩:=ac.cells Y
 have ab:y.cells.size=sz:=by rw[B,aa]
 generalize hC:((List.range (xs.length*sz)).map λk=>fs (k / sz) (k % sz)).toArray++((List.range (ys.length*sz)).map λk=>fy (k / sz) (k % sz)).toArray++Builtin.zeroCells y.cells (G-(xs.length+ys.length))=C;have ad:(xs.length+ys.length)*sz=xs.length*sz+ys.length*sz:=E2 _ _ _;have ah:(xs.length+ys.length)*sz<=G*sz:=G7 _ M
 have I:C.size=G*sz:=by
  rw[<-hC]
  grind[size_zeroCells,Nat.sub_mul]
 have p:∀k,k<(xs.length+ys.length)*sz->C[k]? =some (if k<xs.length*sz then fs (k / sz) (k % sz)else fy ((k-xs.length*sz) / sz) ((k-xs.length*sz) % sz)):=by
  grind
 have L:∀k,(xs.length+ys.length)*sz<=k->k<G*sz->C[k]? =y.cells[(k-(xs.length+ys.length)*sz) % sz]? :=by
  intro k W ak;rw[<-hC,HV,A1 za6];simp only[NJ,IJ,E1,DM];rw[show k-(xs.length*sz+ys.length*sz)=k-(xs.length+ys.length)*sz by omega];have hs:=size_zeroCells y.cells (G-(xs.length+ys.length))
  have d:k-(xs.length+ys.length)*sz<(G-(xs.length+ys.length))*sz:=by rw[DG];omega
  generalize k-(xs.length+ys.length)*sz=q at d ⊢
  have Q:q % sz<y.cells.size:=by rw[ab];simp_all[DH]
  unfold Builtin.zeroCells
  simp_all
 have a:∀x o,g.fz x o->(w.drew.alloc (.cells C e)).cell? ⟨x,o,none⟩=w.cell? ⟨x,o,none⟩:=λx o R=>FD (w:=w.drew) (F.fz_lt R);have v:Below g.base w (w.drew.alloc (.cells C e)):=(Bc _ _).drew.alloc F.bnd _
 have h:(xs++ys++List.replicate (G-(xs.length+ys.length)) z).length=G:=by simp;omega
 have l:∀i,i<G->(xs++ys++List.replicate (G-(xs.length+ys.length)) z).getD i .bad=if i<xs.length then xs.getD i .bad else if i<xs.length+ys.length then ys.getD (i-xs.length) .bad else z:=by
  grind
 have⟨s,r,f⟩:=Rl.newArr (w':=w.drew.alloc (.cells C e)) F (b:=w.heap.size) (o:=0) (sz:=sz) (ys:=xs++ys++List.replicate (G-(xs.length+ys.length)) z)
  (λi U=>by
   rw[h]at U
   rw[l i U]
   grind) a v (λx _ d=>heap_alloc (w:=w.drew) d)
  (.inr ⟨C,e,F.bnd,Dt (w:=w.drew) (o:=.cells C e),by rw[h,I];omega,λi j U u=>by
   rw[h]at U
   have Z:=Gm (n:=G) U u;rw[l i U];simp only[K4]
   by_cases N:i<xs.length
   ·have J:=Gm N u
    have D:i*sz+j<(xs.length+ys.length)*sz:=za2
    simp only[Q9,p _ D,O2];rw[A2 J,A2 N,(Y4 u).1,(Y4 u).2]
    simp_all
   have O:xs.length*sz<=i*sz:=G7 _ za2;have J:(i-xs.length)*sz=i*sz-xs.length*sz:=DG _ _ _;rw[A1 N]
   by_cases c:i<xs.length+ys.length
   ·have D:=Gm c u;simp only[Q9,p _ D,O2];rw[A1 za2,A2 c,show i*sz+j-xs.length*sz=(i-xs.length)*sz+j by omega,(Y4 u).1,(Y4 u).2]
    grind
   have af:(xs.length+ys.length)*sz<=i*sz:=G7 _ za2;have ag:(i-(xs.length+ys.length))*sz=i*sz-(xs.length+ys.length)*sz:=DG _ _ _;rw[A1 c]
   have e1:C.getD (i*sz+j) undef=y.cells.getD j undef:=by
    simp only[Q9];rw[L _ za2 Z,show i*sz+j-(xs.length+ys.length)*sz=(i-(xs.length+ys.length))*sz+j by omega,(Y4 u).2]
   rw[e1]
   simp_all,λq _ R=>absurd (F.fz_lt R) (Ag _),λid S=>absurd (F.lt S) (Ag _)⟩)
 rw[h]at s r
 refine⟨_,_,_,s,r,?_,A g.nx _ f⟩;have:=VR.ownN (g:=g) (w:=w.drew.alloc (.cells C e)) (b:=w.heap.size) (o:=0) (cap:=G) (sz:=sz) (n:=m) za2 za2
 rwa[E,W4,<-E]at this
def Bd4 {g:Gh} {w:Is} {H:A6} {K:V->A6->Prop} (F:Rl g H w) {id sz:Nat} {lo n:Int} {xs ys:Up V} {vs:HO} (W:H id=some (.arr sz xs)) (q:VR g w vs (.own id lo n)) (y:0<sz)
 (l:∀i,i<ys.length->(ys.getD i .bad).cells.length=sz) {fy:Nat->Nat->HO} (d:∀i j,i<ys.length->j<sz->(fy i j).oneCell'=true/\VR g w (fy i j) ((ys.getD i .bad).cells.getD j .bad))
 (D:lo+n+(ys.length:Nat)<=(xs.length:Nat)) (h:K (.own id lo (n+(ys.length:Nat))) (upd H id (some (.arr sz (FK xs (lo+n).toNat ys))))):
 ∃base cap w',vs= .slice base n.toNat cap/\n.toNat+ys.length<=cap/\cap=xs.length-lo.toNat/\
  (match base with|some a=>(storeCells (a.add (n.toNat*sz)) ((List.range (ys.length*sz)).map λk=>fy (k / sz) (k % sz))).run P w|none=>.ok () w)= .ok () w'/\
  P0 g w K (.slice base (n.toNat+ys.length) cap) w':=by
 have⟨b,p,O,Z,J,R,S,A,B,E,G,t⟩:=Gr F W q
 by_cases N:lo=(xs.length:Nat)
 ·
  have z:ys=[]:=List.length_eq_zero_iff.1 za2
  have u:n=0:=za2
  subst z;subst u;refine⟨_,_,w,Z,za4,rfl,by cases p<;>simp[storeCells],?_⟩
  have e:FK xs (lo+0).toNat []=xs:=by simp[FK]
  rw[e]at h
  refine⟨g,.own id lo 0,H,Aw.refl _ _,F,?_,?_⟩
  rotate_right
  ·have:upd H id (some (.arr sz xs))=H:=by
    funext x
    simp_all[upd]
   rw[this]at h
   exact h
  simp_all
 have f:lo<(xs.length:Nat):=za2
 have I:=E f;subst I
 rcases t with t|⟨c,T,U,L,M,Q,X,Y⟩
 ·omega
 have⟨C,v,s,r⟩:=AC8 P F (i:=(lo+n).toNat) (m:=ys.length) (ys:=ys) y W O A za2 za2 rfl L M Q G l fy d;refine⟨_,_,w.setRow b C,Z,za2,rfl,?_,?_⟩
 ·simp only[BW];rw[show(g.ow id).o+lo.toNat*sz+n.toNat*sz=(g.ow id).o+(lo+n).toNat*sz by rw[show(lo+n).toNat=lo.toNat+n.toNat by omega,E2];omega];exact v
 refine⟨g,_,_,s,r,?_,h⟩;have:=VR.own (g:=g) (w:=w.setRow b C) (id:=id) (b:=b) (lo:=lo) (n:=n+(ys.length:Nat)) (p:=some ⟨b,(g.ow id).o+lo.toNat*sz,none⟩) O J za2 (by rw[B];omega) (λ_=>by rw[A])
 rw[B]at this
 rwa[show(n+(ys.length:Nat)).toNat=n.toNat+ys.length by omega]at this
def LX {g:Gh} {w:Is} (F:Rl g H w) {vs vy:HO} {ty:Do} {cs:za1 Bool} {sT yT e:Do} {id sz by_:Nat} {lo n:Int} {z:V} {xs ys:Up V} (C:VR g w vs (.own id lo n)) {fy:Nat->Nat->HO}
 (I:∀i j,i<ys.length->j<sz->(fy i j).oneCell'=true/\VR g w (fy i j) ((ys.getD i .bad).cells.getD j .bad)) (Q:Builtin.lenOf vy=pure ys.length)
 (L:∀w':Is,(∀b o,w'.cell? ⟨b,o,none⟩=w.cell? ⟨b,o,none⟩)->(Builtin.firstCells sz ys.length vy).run P w'= .ok ((List.range (ys.length*sz)).map λk=>fy (k / sz) (k % sz)).toArray w')
 (W:H id=some (.arr sz xs)) (Y:HS P sT=some e) (h:(∃e',P.underlying yT=some (.slice e'))\/P.underlying yT=some .string) (M:HL P e=some sz) (q:0<sz) (v:SN P e=some by_) (am:0<by_)
 (hz:KC P e=some z) (R:z.one=true) (S:z.cells.length=sz) (ac:ys.all (λx=>x.cells.length==sz)=true)
 (ag:lo+n+(ys.length:Nat)<=(xs.length:Nat)->K (.own id lo (n+(ys.length:Nat))) (upd H id (some (.arr sz (FK xs (lo+n).toNat ys)))))
 (y:(xs.length:Nat)<lo+n+(ys.length:Nat)->(n.toNat+ys.length)*by_<=140737488355328/\∀t k,H t=none->K (.own t 0 (n+(ys.length:Nat))) (upd H t (some (.arr sz (W1 xs lo n++ys++List.replicate k z))))):
 J1 P (P0 g w K) ((builtin .append #[sT,yT] ty cs #[vs,vy]).run P w):=by
 have r:=Jf ac;have hu:=W5 Y;have⟨zv,ez,aj⟩:=FF hz
 have T:VR g w zv z:=by rw[ez];grind[GI]
 have an:zv.cells.size=sz:=by rw[(T.cells R).1,S]
 have l:∀w,(typeInfo e).run P w= .ok ((P.info? e).getD default) w/\((P.info? e).getD default).bytes=by_:=by
  intro w
  unfold SN at v
  cases U:P.info? e with
  |none=>simp_all
  |some i=>simp[U]at v;simp[typeInfo,U,v]
 have ae:∀w,(typeInfo e).run P w= .ok ((P.info? e).getD default) w:=λw=>(l w).1;have ad:=(l w).2;have⟨b,p,O,Z,J,s,h5,h6,h7,h8,h9,al⟩:=Gr F W C;simp only[builtin,C0]
 by_cases X:lo+n+(ys.length:Nat)<=(xs.length:Nat)
 ·have⟨base,cap,w',q1,q2,q3,q4,q5⟩:=Bd4 (P:=P) F W C q r I X (ag X);rw[q1]
  have N:(Builtin.append_ #[sT,yT] ty #[.slice base n.toNat cap,vy]).run P w= .ok (.slice base (n.toNat+ys.length) cap) w':=by
   have c:=L w λ_ _=>rfl
   rcases h with⟨e',h⟩|h
   all_goals simp only[Q,Builtin.append_,C0,run_underlying hu,B7,V5 M,run_underlying h,C6,Bd,AA,
    Db,DR,L6,H7,DI,D8,A2 q2,c]
   all_goals cases base with
    |none=>simp only at q4;cases q4;rfl
    |some a=>simp only at q4;simp only[q4,C0,C6,B7]
  rw[N]
  simp_all[J1]
 have⟨d,y⟩:=y za2
 have f:(W1 xs lo n).all (λx=>x.cells.length==sz)=true:=OR λi U=>by
  rw[IW J s h5]at U
  rw[Sf U];grind
 have⟨base,cap,fs,es,af,B⟩:=Mg P F (x:=.own id lo n) (xs:=W1 xs lo n) (by grind[WO,Ky]) C f;have B:=B _ (B1 _);have ai:=IW J s h5
 have ak:cap=xs.length-lo.toNat:=by rw[Z]at es;simp_all
 have D:¬((W1 xs lo n).length+ys.length<=cap):=za2
 have ah:¬(2 ^ 48<Builtin.nextslicecap ((W1 xs lo n).length+ys.length) cap*by_):=by
  have:=growslice_fits (KU D) (by rw[ai];exact d);omega
 have E:∀b o,w.drew.cell? ⟨b,o,none⟩=w.cell? ⟨b,o,none⟩:=λ_ _=>rfl;generalize hG:grownCap w ((W1 xs lo n).length+ys.length) cap e=G
 have ab:(W1 xs lo n).length+ys.length<=G:=by rw[<-hG];grind[grownCap_ge]
 have A:¬(IntKind.i64.max<(((W1 xs lo n).length+ys.length:Nat):Int)/\(False\/by_=0)):=by
  grind
 have N:(Builtin.append_ #[sT,yT] ty #[.slice base (W1 xs lo n).length cap,vy]).run P w=
  .ok (.slice (some ⟨w.heap.size,0,none⟩) ((W1 xs lo n).length+ys.length) G)
   (w.drew.alloc (.cells (((List.range ((W1 xs lo n).length*sz)).map λk=>fs (k / sz) (k % sz)).toArray++((List.range (ys.length*sz)).map λk=>fy (k / sz) (k % sz)).toArray++
    Builtin.zeroCells zv.cells (G-((W1 xs lo n).length+ys.length))) e)):=by
  have aa:(Question.appendCap ((W1 xs lo n).length+ys.length) cap e).cut (w.tape w.drawn (.appendCap ((W1 xs lo n).length+ys.length) cap e))=G:=hG;have hf:(Question.appendCap ((W1 xs lo n).length+ys.length) cap e).forced=false:=rfl;have u:=B w.drew E
  rw[es]at u
  have c:=L w.drew E
  rcases h with⟨e',h⟩|h
  all_goals simp only[Q,Builtin.append_,C0,run_underlying hu,B7,V5 M,run_underlying h,C6,Bd,ae,ad,AA,
   Db,DR,L6,H7,DI,D8,gt_iff_lt,false_or,A1 D,A1 ah,run_choose,hf,aa,KK,run_askRoom,u,c,aj,newRow,run_newObj,
   GS,KO]
  all_goals rw[A1 (by simpa using A)]
 rw[es,N];simp only[B7,C6,J1];exact AG1 (K:=K) F q T R S (Jf f) r af I ab (m:=n+(ys.length:Nat)) za2 y
def Rj {g:Gh}{w:Is}(F:Rl g H w){vs I:HO}{L:V}{ty:Do}{cs:za1 Bool}{G J e:Do}{id sz by_:Nat}{lo n:Int}{z:V}{xs ys N:Up V}(s:VR g w vs (.own id lo n))(v:VR g w I L)
 (W:H id=some (.arr sz xs)) (m:WO H L=some N) (hle:M2 N ys) (Y:HS P G=some e) (A:(HS P J).isSome=true) (q:HL P e=some sz) (l:0<sz) (d:SN P e=some by_) (c:0<by_)
 (O:KC P e=some z) (B:z.one=true) (C:z.cells.length=sz) (b:ys.all (λx=>x.cells.length==sz)=true)
 (p:lo+n+(ys.length:Nat)<=(xs.length:Nat)->K (.own id lo (n+(ys.length:Nat))) (upd H id (some (.arr sz (FK xs (lo+n).toNat ys)))))
 (h:(xs.length:Nat)<lo+n+(ys.length:Nat)->(n.toNat+ys.length)*by_<=140737488355328/\∀t k,H t=none->K (.own t 0 (n+(ys.length:Nat))) (upd H t (some (.arr sz (W1 xs lo n++ys++List.replicate k z))))):
 J1 P (P0 g w K) ((builtin .append #[G,J] ty cs #[vs,I]).run P w):=by
 have⟨D,M,fy,E,a,r⟩:=Mg P F m v (hle.sz b)
 rw[hle.length]at E a r
 have f:∀i j,i<ys.length->j<sz->(fy i j).oneCell'=true/\VR g w (fy i j) ((ys.getD i .bad).cells.getD j .bad):=λi j U u=>⟨(a i j U u).1,(a i j U u).2.le ((hle.at i).cells.at j)⟩;have⟨Q,y⟩:=Option.isSome_iff_exists.1 A;exact LX F s f (by rw[E];rfl) (r _ (B1 _)) W Y (.inl ⟨_,W5 y⟩) q l d c O B C b p h
def WF (sz:Nat)(H:A6)(v:V)(a:Up V):Prop:=
 match v with
 | .sl xs _=>M2 xs a/\a.all (λx=>x.cells.length==sz)=true
 | .own id lo n=>∃xs,H id=some (.arr sz xs)/\M2 (W1 xs lo n) a
 |_=>False
def WF.inv {g:Gh} {w:Is} {sz:Nat} {x:V} {v:HO} {a:Up V} (h:WF sz H x a) (F:Rl g H w) (q:VR g w v x):∃e,WO H x=some e/\M2 e a/\a.all (λx=>x.cells.length==sz)=true:=by
 unfold WF at h
 split at h
 ·grind[WO]
 ·have⟨xs,W,B⟩:=h;have⟨b,p,O,Z,J,s,r,t,y,N,c,l⟩:=Gr F W q;refine⟨_,by grind[WO,Ky],B,OR λi U=>?_⟩
  rw[<-B.length]at U
  rw[<-(B.at i).cells.length]
  rw[IW J s r]at U
  rw[Sf U]
  grind
 grind
theorem Ad1 {s y:By}{u v e:Do}{id sz by_:Nat}{lo n:Int}{z:V}{xs ys:Up V}(A:o.op= .call {callee:=.builtin .append,args:= #[s,y],argTypes:= #[u,v]})
 (C:ev fr s= .own id lo n) (W:H id=some (.arr sz xs)) (i:WF sz H (ev fr y) ys) (Y:HS P u=some e) (j:(HS P v).isSome=true) (f:HL P e=some sz) (h:0<sz) (c:SN P e=some by_) (N:0<by_)
 (B:KC P e=some z) (p:z.one=true) (q:z.cells.length=sz)
 (d:lo+n+(ys.length:Nat)<=(xs.length:Nat)->K (.own id lo (n+(ys.length:Nat))) (upd H id (some (.arr sz (FK xs (lo+n).toNat ys)))))
 (b:(xs.length:Nat)<lo+n+(ys.length:Nat)->(n.toNat+ys.length)*by_<=140737488355328/\∀t k,H t=none->K (.own t 0 (n+(ys.length:Nat))) (upd H t (some (.arr sz (W1 xs lo n++ys++List.replicate k z))))):K3 P o fr H K:=by
 intro g w a F r;have l:=G1 F r s
 rw[C]at l
 have⟨D,m,hle,x⟩:=i.inv F (G1 F r y);rw[W8 A];simp only[BH,D9,I0];exact Rj F l (G1 F r y) W m hle Y j f h c N B p q x d b
theorem YQ {s y:By} {U X e:Do} {sz by_:Nat} {z:V} {ys:Up V} (ho:o.op= .call {callee:=.builtin .append,args:= #[s,y],argTypes:= #[U,X]})
 (C:ev fr s= .sl [] .nil\/ev fr s= .sl [] .full) (r:WF sz H (ev fr y) ys) (Y:HS P U=some e) (O:(HS P X).isSome=true) (G:HL P e=some sz) (l:0<sz) (D:SN P e=some by_) (B:0<by_)
 (hz:KC P e=some z) (Q:z.one=true) (R:z.cells.length=sz)
 (c:ys.length*by_<=140737488355328)
 (h:∀t k,H t=none->K (.own t 0 (ys.length:Nat)) (upd H t (some (.arr sz (ys++List.replicate k z))))):K3 P o fr H K:=by
 intro g w a F f;have⟨g',W,p,hn,q⟩:=Ie F sz C (G1 F f s);have⟨ys0,m,hle,A⟩:=r.inv F (G1 F f y);have J:=(G1 F f y).mono W;rw[W8 ho];simp only[BH,D9,I0]
 have L:WO (upd H g.nx (some (.arr sz []))) (ev fr y)=some ys0:=by
  unfold WO at m ⊢
  grind[Ky,upd]
 refine J1.mono ?_ (Rj (K:=λv S=>∃N,K v N/\∀id b,N id=some b->S id=some b) p q J (G4 _ _ _) L hle Y O G l D B hz Q R A (λT=>?_) (λ_=>⟨za8,λt k j=>?_⟩))
 ·exact λv w' ⟨Z,x,S,d,u,I,N,hK,i⟩=>⟨Z,x,N,W.trans d,u.less i,I,hK⟩
 ·have M:ys=[]:=List.length_eq_zero_iff.1 za8;subst M;have:=h g.nx 0 hn
  grind[upd,FK]
 have E:t≠g.nx:=λe=>by grind[G4]
 rw[D3 _ _ E]at j
 have:=h t k j;rw[Nu]
 grind[upd,W1]
def HN (s:za0):Up V:=s.data.toList.map λb=>V.int .u8 (b.toNat:Int)
def Rc (s:za0):(HN s).length=s.size:=by simp[HN]
def AS6 (s:za0){i:Nat}(U:i<(HN s).length):∃b,s.data[i]? =some b/\(HN s).getD i .bad= .int .u8 (b.toNat:Int):=by
 have h:i<s.data.size:=by rw[Rc]at U;exact U
 simp_all[HN]
def UR (s:za0):(HN s).all (λx=>x.cells.length==1)=true:=by
 rw[ET]
 grind[HN,V.cells]
def AS7 (s:za0)(i _:Nat):Value:=.int .u8 ((s.data.getD i 0).toNat:Int)
def Az7 (s:za0)(g:Gh)(w:Is):∀i j,i<(HN s).length->j<1->(AS7 s i j).oneCell'=true/\VR g w (AS7 s i j) (((HN s).getD i .bad).cells.getD j .bad):=by
 intro i j U u;have⟨b,O,Z⟩:=AS6 s U
 have a:j=0:=za2
 subst a;rw[Z]
 have:s.data.getD i 0=b:=by rw[Q9,O];rfl
 exact⟨rfl,by simp only[AS7,this];exact VR.int _ _⟩
def Ac5 (P:If) (s:za0) (w':Is):(Builtin.firstCells 1 (HN s).length (.string s)).run P w'= .ok ((List.range ((HN s).length*1)).map λk=>AS7 s (k / 1) (k % 1)).toArray w':=by
 simp only[Builtin.firstCells,C6,Rc,KF,Nat.div_one]
 congr 1
 apply Array.ext';apply CZ;intro i
 have M:(s.extract 0 s.size).data=s.data:=by
  have:s.extract 0 s.size=s:=by
   simp_all
  rw[this]
 rw[M]
 by_cases U:i<s.data.size
 ·have C:i<s.size:=U
  simp_all[AS7]
 simp_all
theorem YP {s y:By}{b:za0}{p q e:Do}{id by_:Nat}{lo n:Int}{z:V}{xs:Up V}(u:o.op= .call {callee:=.builtin .append,args:= #[s,y],argTypes:= #[p,q]})
 (C:ev fr s= .own id lo n) (W:H id=some (.arr 1 xs)) (A:ev fr y= .str b) (Y:HS P p=some e) (d:P.underlying q=some .string) (c:HL P e=some 1) (x:SN P e=some by_) (r:0<by_)
 (v:KC P e=some z) (f:z.one=true) (j:z.cells.length=1)
 (N:lo+n+((HN b).length:Nat)<=(xs.length:Nat)->K (.own id lo (n+((HN b).length:Nat))) (upd H id (some (.arr 1 (FK xs (lo+n).toNat (HN b))))))
 (h:(xs.length:Nat)<lo+n+((HN b).length:Nat)->(n.toNat+(HN b).length)*by_<=140737488355328/\∀t k,H t=none->K (.own t 0 (n+((HN b).length:Nat))) (upd H t (some (.arr 1 (W1 xs lo n++HN b++List.replicate k z))))):K3 P o fr H K:=by
 intro g w a F m;have i:=G1 F m s
 rw[C]at i
 have l:=G1 F m y
 rw[A]at l
 rw[W8 u];simp only[BH,D9,I0];rw[l.str_inv];exact LX F i (Az7 b g w) (by rw[Rc];rfl) (λw' _=>Ac5 P b w') W Y (.inr d) c za5 x r v f j (UR b) N h
theorem WQ {s y:By} {b:za0} {Q R e:Do} {by_:Nat} {z:V} (W:o.op= .call {callee:=.builtin .append,args:= #[s,y],argTypes:= #[Q,R]})
 (C:ev fr s= .sl [] .nil\/ev fr s= .sl [] .full) (A:ev fr y= .str b) (Y:HS P Q=some e) (G:P.underlying R=some .string) (B:HL P e=some 1) (p:SN P e=some by_) (m:0<by_)
 (X:KC P e=some z) (I:z.one=true) (J:z.cells.length=1)
 (N:(HN b).length*by_<=140737488355328)
 (h:∀t k,H t=none->K (.own t 0 ((HN b).length:Nat)) (upd H t (some (.arr 1 (HN b++List.replicate k z))))):K3 P o fr H K:=by
 intro g w a F M;have⟨g',Z,c,U,q⟩:=Ie F 1 C (G1 F M s);have l:=G1 F M y
 rw[A]at l
 rw[W8 W];simp only[BH,D9,I0];rw[l.str_inv];refine J1.mono ?_ (LX (K:=λv L=>∃r,K v r/\∀id b,r id=some b->L id=some b) c q (Az7 b g' w) (by rw[Rc];rfl) (λw' _=>Ac5 P b w') (G4 _ _ _) Y (.inr G) B za5 p m X I J (UR b) (λO=>?_) (λ_=>⟨za8,λt k j=>?_⟩))
 ·exact λv w' ⟨S,x,L,d,f,D,r,T,i⟩=>⟨S,x,r,Z.trans d,f.less i,D,T⟩
 ·have E:HN b=[]:=List.length_eq_zero_iff.1 za8
  rw[E]at h ⊢
  have:=h g.nx 0 U
  grind[upd,FK]
 have u:t≠g.nx:=λe=>by grind[G4]
 rw[D3 _ _ u]at j
 have:=h t k j;rw[Nu]
 grind[upd,W1]
end
def Og (P:If) (H:A6) (t:Do) (v:V) (lo U a:OS Int):OS V:=
 match HS P t,v with
 | some e,.own id l n=>
  match HL P e,Ky H id with
  | some sz,some (b,xs)=>
   if sz=b/\0<=lo.getD 0/\lo.getD 0<=U.getD n/\U.getD n<=a.getD ((xs.length:Nat)-l)/\a.getD ((xs.length:Nat)-l)<=(xs.length:Nat)-l/\(a.isSome=true->U.isSome=true)then
    some (match a with|none=>.own id (l+lo.getD 0) (U.getD n-lo.getD 0)|some _=>.bad)else none
  |_,_=>none
 |_,_=>none
def Ax3 (P:If)(H:A6)(t:Do)(v:V):OS V:=
 match HS P t,v with
 |some _,.own id l _=>(Ky H id).map λq=>.int .i64 ((q.2.length:Nat)-l)
 |some _,.sl [] .nil=>some (.int .i64 0)
 |some _,.sl [] .full=>some (.int .i64 0)
 |_,_=>none
section
variable {P:Program}{o:Oper}{fr:Fr}{H:A6}{K:V->A6->Prop}
def Hv {z:V}{m i:Nat}(h:i<m):(List.replicate m z).getD i .bad=z:=by
 simp_all
theorem PV {g:Gh} {w:Is} (F:Rl g H w) {vs vy:HO} {ty:Do} {cs:za1 Bool} {sT yT e:Do} {k k':IntKind} {id sz by_:Nat} {lo n m:Int} {z:V} {xs:Up V} (I:VR g w vs (.own id lo n)) (aw:VR g w vy (.int k m))
 (W:H id=some (.arr sz xs)) (Y:HS P sT=some e) (ah:P.underlying yT=some (.int k')) (af:HL P e=some sz) (B:0<sz) (D:SN P e=some by_) (an:0<by_)
 (hz:KC P e=some z) (ai:z.one=true) (M:z.cells.length=sz) (a3:0<=m)
 (l:(n.toNat+m.toNat)*by_<=140737488355328)
 (aq:lo+n+m<=(xs.length:Nat)->K (.own id lo (n+m)) (upd H id (some (.arr sz (FK xs (lo+n).toNat (List.replicate m.toNat z))))))
 (d:(xs.length:Nat)<lo+n+m->∀t k,H t=none->K (.own t 0 (n+m)) (upd H t (some (.arr sz (W1 xs lo n++List.replicate m.toNat z++List.replicate k z))))):
 J1 P (P0 g w K) ((builtin .append #[sT,yT] ty cs #[vs,vy]).run P w):=by
 have ey:=aw.int_inv;have hu:=W5 Y;have⟨N,ez,q⟩:=FF hz
 have aj:VR g w N z:=by rw[ez];grind[GI]
 have⟨ak,a7⟩:=aj.cells ai
 have ay:N.cells.size=sz:=by rw[ak,M]
 have r:∀w,(typeInfo e).run P w= .ok ((P.info? e).getD default) w/\((P.info? e).getD default).bytes=by_:=by
  intro w
  unfold SN at D
  cases U:P.info? e with
  |none=>simp_all
  |some i=>simp[U]at D;simp[typeInfo,U,D]
 have S:∀w,(typeInfo e).run P w= .ok ((P.info? e).getD default) w:=λw=>(r w).1;have R:=(r w).2
 have ar:m=(m.toNat:Nat):=za2
 generalize a6:m.toNat=mm at *
 subst ar
 have y:(List.replicate mm z).length=mm:=za4
 have a5:mm*by_<=140737488355328:=P8 (G7 _ (Nat.le_add_left _ _)) l;have a4:mm<=mm*by_:=Te _ an;have ag:IntKind.i64.wrap (mm:Int)=mm:=wrap_small _ za2 za2
 have c:∀i,i<(List.replicate mm z).length->((List.replicate mm z).getD i .bad).cells.length=sz:=λi U=>by rw[Hv za2];exact M
 have ab:∀i j,i<(List.replicate mm z).length->j<sz->(N.cells.getD j undef).oneCell'=true/\VR g w (N.cells.getD j undef) (((List.replicate mm z).getD i .bad).cells.getD j .bad):=λi j U u=>by
  rw[Hv za2];simp_all
 have ax:((List.range (mm*sz)).map λk=>N.cells.getD (k % sz) undef).toArray=Builtin.zeroCells N.cells mm:=by
  apply Iy
  ·grind[size_zeroCells]
  intro i O Z
  have U:i<mm*sz:=za7
  have Q:i % sz<N.cells.size:=by rw[ay];simp_all[DH]
  unfold Builtin.zeroCells
  simp_all
 have ac:¬((mm:Int)<0):=za2
 have ad:¬(281474976710656<(mm:Int)*(by_:Int)):=by
  have:((mm*by_:Nat):Int)<=140737488355328:=za2
  rw[Int.natCast_mul]at this
  omega
 have A:∀w':Is,(if mm*sz=0 then pure #[]else(do pure (Builtin.zeroCells (<-zeroValue e).cells mm):Sem (za1 HO))).run P w'= .ok ((List.range (mm*sz)).map λk=>N.cells.getD (k % sz) undef).toArray w':=by
  intro w'
  by_cases L:mm*sz=0
  ·rw[A2 L,L];rfl
  simp_all
 have⟨b,p,O,Z,J,s,h5,h6,h7,h8,h9,a1⟩:=Gr F W I;simp only[builtin,C0,ey]
 by_cases X:lo+n+(mm:Int)<=(xs.length:Nat)
 ·have⟨base,cap,w',q1,q2,q3,q4,q5⟩:=Bd4 (P:=P) (K:=K) (ys:=List.replicate mm z) (fy:=λ_ j=>N.cells.getD j undef) F W I B c ab (by rw[y];exact X) (by rw[y];exact aq X)
  rw[y]at q2 q4 q5
  rw[q1]
  have f:(Builtin.append_ #[sT,yT] ty #[.slice base n.toNat cap,.int k mm]).run P w= .ok (.slice base (n.toNat+mm) cap) w':=by
   have T:=A w
   simp only[Bd,C0,q,C6,B7]at T
   simp only[Builtin.append_,C0,run_underlying hu,B7,V5 af,run_underlying ah,C6,Bd,AA,asInt,asIntOf,ag,S,R,
    Db,DR,L6,H7,Co,D8,gt_iff_lt,A1 ac,Int.reducePow,A1 ad,W4,A2 q2,q,T]
   cases base with
   |none=>simp_all
   |some a=>simp_all
  rw[f]
  simp_all[J1]
 have d:=d za2
 have v:(W1 xs lo n).all (λx=>x.cells.length==sz)=true:=OR λi U=>by
  rw[IW J s h5]at U
  rw[Sf U];grind
 have⟨base,cap,fs,es,ap,E⟩:=Mg P F (x:=.own id lo n) (xs:=W1 xs lo n) (by grind[WO,Ky]) I v;have E:=E _ (B1 _);have ae:=IW J s h5
 have az:cap=xs.length-lo.toNat:=by rw[Z]at es;simp_all
 have aa:¬((W1 xs lo n).length+mm<=cap):=za2
 have av:¬(2 ^ 48<Builtin.nextslicecap ((W1 xs lo n).length+mm) cap*by_):=by
  have:=growslice_fits (KU aa) (by rw[ae];exact l);omega
 have ao:∀b o,w.drew.cell? ⟨b,o,none⟩=w.cell? ⟨b,o,none⟩:=λ_ _=>rfl;generalize hG:grownCap w ((W1 xs lo n).length+mm) cap e=G
 have am:(W1 xs lo n).length+mm<=G:=by rw[<-hG];grind[grownCap_ge]
 have au:¬(IntKind.i64.max<(((W1 xs lo n).length+mm:Nat):Int)/\(True\/by_=0)):=by
  rintro⟨h,_⟩
  have a0:((W1 xs lo n).length+mm)<=(n.toNat+mm)*by_:=by rw[ae];simp_all[Te]
  have a2:(9223372036854775807:Int)<(((W1 xs lo n).length+mm:Nat):Int):=h;omega
 have f:(Builtin.append_ #[sT,yT] ty #[.slice base (W1 xs lo n).length cap,.int k mm]).run P w=
  .ok (.slice (some ⟨w.heap.size,0,none⟩) ((W1 xs lo n).length+mm) G)
   (w.drew.alloc (.cells (((List.range ((W1 xs lo n).length*sz)).map λk=>fs (k / sz) (k % sz)).toArray++((List.range (mm*sz)).map λk=>N.cells.getD (k % sz) undef).toArray++
    Builtin.zeroCells N.cells (G-((W1 xs lo n).length+mm))) e)):=by
  have al:(Question.appendCap ((W1 xs lo n).length+mm) cap e).cut (w.tape w.drawn (.appendCap ((W1 xs lo n).length+mm) cap e))=G:=hG;have hf:(Question.appendCap ((W1 xs lo n).length+mm) cap e).forced=false:=rfl;have C:=E w.drew ao
  rw[es]at C
  have T:=A w.drew
  simp only[Bd,C0,q,C6,B7]at T
  simp only[Builtin.append_,C0,run_underlying hu,B7,V5 af,run_underlying ah,C6,Bd,S,R,AA,asInt,asIntOf,ag,
   Db,DR,L6,H7,Co,D8,gt_iff_lt,true_or,A1 ac,Int.reducePow,A1 ad,W4,A1 aa,A1 av,run_choose,hf,al,KK,run_askRoom,C,T,q,newRow,run_newObj,
   GS,KO]
  rw[A1 za8]
 rw[es,f];simp only[B7,C6,J1];have:=AG1 (K:=K) (e:=e) (ys:=List.replicate mm z) (fs:=fs) (fy:=λ_ j=>N.cells.getD j undef) F B aj ai M (Jf v) c ap ab (by rw[y];exact am) (m:=n+(mm:Int)) (by rw[y];omega) d
 rw[y]at this
 exact this
def YO {s y:By}{N c e:Do}{k k':IntKind}{id sz by_:Nat}{lo n m:Int}{z:V}{xs:Up V}(q:o.op= .call {callee:=.builtin .append,args:= #[s,y],argTypes:= #[N,c]})
 (C:ev fr s= .own id lo n) (v:ev fr y= .int k m) (W:H id=some (.arr sz xs)) (Y:HS P N=some e) (A:P.underlying c=some (.int k')) (u:HL P e=some sz) (x:0<sz) (f:SN P e=some by_) (d:0<by_)
 (E:KC P e=some z) (B:z.one=true) (D:z.cells.length=sz) (p:0<=m)
 (b:(n.toNat+m.toNat)*by_<=140737488355328)
 (j:lo+n+m<=(xs.length:Nat)->K (.own id lo (n+m)) (upd H id (some (.arr sz (FK xs (lo+n).toNat (List.replicate m.toNat z))))))
 (r:(xs.length:Nat)<lo+n+m->∀t k,H t=none->K (.own t 0 (n+m)) (upd H t (some (.arr sz (W1 xs lo n++List.replicate m.toNat z++List.replicate k z))))):K3 P o fr H K:=by
 intro g w a F l;have h:=G1 F l s;have i:=G1 F l y
 rw[C]at h
 rw[v]at i
 rw[W8 q]
 grind[PV]
theorem WP {s y:By} {S U e:Do} {k k':IntKind} {sz by_:Nat} {m:Int} {z:V} (Z:o.op= .call {callee:=.builtin .append,args:= #[s,y],argTypes:= #[S,U]})
 (C:ev fr s= .sl [] .nil\/ev fr s= .sl [] .full) (hy:ev fr y= .int k m) (Y:HS P S=some e) (J:P.underlying U=some (.int k')) (G:HL P e=some sz) (l:0<sz) (A:SN P e=some by_) (u:0<by_)
 (hz:KC P e=some z) (L:z.one=true) (M:z.cells.length=sz) (B:0<=m)
 (c:m.toNat*by_<=140737488355328)
 (i:∀t k,H t=none->K (.own t 0 m) (upd H t (some (.arr sz (List.replicate m.toNat z++List.replicate k z))))):K3 P o fr H K:=by
 intro g w a F Q;have⟨g',T,f,hn,q⟩:=Ie F sz C (G1 F Q s);have r:=(G1 F Q y).mono T
 rw[hy]at r
 rw[W8 Z];simp only[BH,D9,I0];refine J1.mono ?_ (PV (K:=λv O=>∃N,K v N/\∀id b,N id=some b->O id=some b) f q r (G4 _ _ _) Y J G l A u hz L M B za8 (λR=>?_) (λ_ t k j=>?_))
 ·exact λv w' ⟨W,x,O,d,p,I,N,X,h⟩=>⟨W,x,N,T.trans d,p.less h,I,X⟩
 ·have E:m=0:=za7
  grind[upd,FK]
 have D:t≠g.nx:=λe=>by grind[G4]
 rw[D3 _ _ D]at j
 have:=i t k j;rw[Nu]
 grind[upd,W1]
theorem Ad0 {t:Do} {y:By} {lo U R:OS By} {i ih f:OS Int} {x:V} (z:o.op= .slice t y lo U R) (G:Ex (lo.map (ev fr))=some i) (E:Ex (U.map (ev fr))=some ih)
 (L:Ex (R.map (ev fr))=some f) (B:Og P H t (ev fr y) i ih f=some x) (h:K x H):K3 P o fr H K:=by
 intro g w a F u;have S:=G1 F u y;have ac:=Ig F u G;have ab:=Ig F u E;have ad:=Ig F u L
 have A:∀(N:Bool) (len cap:Nat),0<=i.getD 0->i.getD 0<=ih.getD len->ih.getD len<=f.getD cap->f.getD cap<=cap->(f.isSome=true->ih.isSome=true)->
  (Instr.sliceBounds N len cap (lo.map a.eval) (U.map a.eval) (R.map a.eval)).run P w= .ok ((i.getD 0).toNat,(ih.getD len).toNat,(f.getD cap).toNat) w:=by
  grind[Vd]
 unfold Og at B
 split at B
 ·rename_i e id l n Q Y;have hu:=W5 Q
  split at B
  ·rename_i sz ae xs C M
   split at B
   ·rename_i X;have⟨T,c1,c2,c3,c4,c5⟩:=X;subst T
    rw[Y]at S
    have W:=Io M;have⟨b,p,O,Z,J,s,h5,h6,D,h8,h9,aa⟩:=Gr F W S
    have r:(((xs.length-l.toNat:Nat):Nat):Int)=(xs.length:Nat)-l:=za2
    have v:((n.toNat:Nat):Int)=n:=za2
    have j:=A true n.toNat (xs.length-l.toNat) c1 (by rw[v];exact c2) (by rw[v,r];exact c3) (by rw[r];exact c4) c5
    rw[v,r]at j
    unfold execOp;rw[z];simp only[Z,Instr.sliceAt,Instr.slice,C0,run_underlying hu,B7,j,V5 C,C6,J1]
    cases d:f with
    |some m=>
     rw[d]at B
     simp only[E7]at B
     subst B;exact P0.here F (.bad _) h
    | none=>
     rw[d]at B
     simp only[E7]at B
     subst B;refine P0.here F ?_ h
     simp only[d,Be]at c3 c4
     simp only[Be]
     have c:=VR.own (g:=g) (w:=w) (id:=id) (b:=b) (lo:=l+i.getD 0) (n:=ih.getD n-i.getD 0) (p:=if((xs.length:Nat)-l:Int).toNat=(i.getD 0).toNat then p else p.map λq=>q.add ((i.getD 0).toNat*sz)) O za2 za2 (by rw[D];omega)
      (λI=>by
       rw[D]at I
       rw[A1 za2,h8 za2,h6];simp only[K5,BW]
       rw[show(l+i.getD 0).toNat=l.toNat+(i.getD 0).toNat by omega,E2,CI])
     rw[D]at c
     have e1:(ih.getD n-i.getD 0).toNat=(ih.getD n).toNat-(i.getD 0).toNat:=za2
     have e2:xs.length-(l+i.getD 0).toNat=((xs.length:Nat)-l:Int).toNat-(i.getD 0).toNat:=za2
     rw[e1,e2]at c
     omega
   cases B
  cases B
 cases B
theorem AT9 {y:By} {t:Do} {x:V} (z:o.op= .call {callee:=.builtin .cap,args:= #[y],argTypes:= #[t]}) (B:Ax3 P H t (ev fr y)=some x) (h:K x H):K3 P o fr H K:=by
 intro g w a F m;have r:=G1 F m y;rw[W8 z];simp only[builtin,BH,D9,I0,C0]
 unfold Ax3 at B
 split at B
 ·rename_i e id l n i Y
  rw[Y]at r
  cases M:Ky H id with
  |none=>rw[M]at B;cases B
  |some q=>
   have⟨sz,xs⟩:=q
   rw[M]at B
   simp only[K5,E7]at B
   subst B;have⟨b,p,O,Z,J,s,D,E,G,I,L,f⟩:=Gr F (Io M) r;have N:=W5 i;simp[Builtin.cap_,run_underlying N,goInt,Z];rw[show(((xs.length-l.toNat:Nat):Nat):Int)=(xs.length:Nat)-l by omega];exact P0.here F (.int _ _) h
 ·rename_i e i Y
  rw[Y]at r
  cases B;have N:=W5 i
  generalize a.eval y=v at r
  cases r with
  |sl0 j=>simp[Builtin.cap_,run_underlying N,goInt];exact P0.here F (.int _ _) h
  |sle h=>rcases h with h|⟨h,_⟩<;>cases h
  |sl vs A X C u R O r j=>exact j.elim
 ·rename_i e i Y
  rw[Y]at r
  cases B;have N:=W5 i
  generalize a.eval y=v at r
  cases r with
  |sl0 j=>simp[Builtin.cap_,run_underlying N,goInt];exact P0.here F (.int _ _) h
  |sle c=>
   rcases c with c|⟨_,c⟩
   ·cases c
   subst c;simp[Builtin.cap_,run_underlying N,goInt];exact P0.here F (.int _ _) h
  |sl vs A X C u R O r j=>
   rename_i b o sz n cap
   have d:n=0:=za8
   have e2:cap=n:=j;subst e2;subst d;simp[Builtin.cap_,run_underlying N,goInt];exact P0.here F (.int _ _) h
 cases B
def Yh {id sz m:Nat} {xs ys:Up V} {g:Gh} {H:A6} {w:Is} {b:Nat} {p:OS Addr} {lo:Int} (F:Rl g H w) (W:H id=some (.arr sz xs)) (O:g.mu id=some b) (f:(g.ow id).sz=sz) (q:lo<(xs.length:Nat)->p=some ⟨b,(g.ow id).o+lo.toNat*sz,none⟩)
 (u:∀i,i<xs.length->(xs.getD i .bad).cells.length=sz)
 (l:xs.length=0\/∃c T,g.base<=b/\w.heap[b]? =some (.cells c T (0,0))/\(g.ow id).o+xs.length*sz<=c.size/\
  (∀i j,i<xs.length->j<sz->(c.getD ((g.ow id).o+i*sz+j) undef).oneCell'=true/\VR g w (c.getD ((g.ow id).o+i*sz+j) undef) ((xs.getD i .bad).cells.getD j .bad))/\
  (∀o,(g.ow id).o<=o->¬g.fz b o)/\g.at H id=some b)
 (t:0<sz) (E:ys.length=m) (v:lo.toNat+m<=xs.length) (h:∀i,i<ys.length->(ys.getD i .bad).cells.length=sz) (fy:Nat->Nat->HO)
 (y:∀i j,i<ys.length->j<sz->(fy i j).oneCell'=true/\VR g w (fy i j) ((ys.getD i .bad).cells.getD j .bad)):
 ∃w',(match p with|some a=>(storeCells a ((List.range (m*sz)).map λk=>fy (k / sz) (k % sz))).run P w|none=>.ok () w)= .ok () w'/\
  Aw g w g w'/\Rl g (upd H id (some (.arr sz (FK xs lo.toNat ys)))) w':=by
 by_cases N:m=0
 ·subst N;have d:ys=[]:=List.length_eq_zero_iff.1 E;subst d;refine⟨w,by cases p<;>simp[storeCells],Aw.refl _ _,?_⟩
  have e:FK xs lo.toNat []=xs:=by simp[FK]
  have:upd H id (some (.arr sz xs))=H:=by
   funext x
   simp_all[upd]
  rw[e,this];exact F
 have z:=q za2;subst z
 rcases l with l|⟨c,T,I,B,D,G,J,L⟩
 ·omega
 have⟨C,A,s,r⟩:=AC8 P F (i:=lo.toNat) (m:=m) (ys:=ys) t W O f za2 za2 E B D G u h fy y
 simp_all
theorem AI9 {s y:By} {S yT e:Do} {id sz:Nat} {lo n:Int} {xs ys:Up V} (z:o.op= .call {callee:=.builtin .copy,args:= #[s,y],argTypes:= #[S,yT]})
 (C:ev fr s= .own id lo n) (W:H id=some (.arr sz xs)) (q:WF sz H (ev fr y) ys) (Y:HS P S=some e) (Q:HL P e=some sz) (c:0<sz)
 (h:K (.int .i64 (if n<(ys.length:Nat)then n else(ys.length:Nat))) (upd H id (some (.arr sz (FK xs lo.toNat (ys.take n.toNat)))))):K3 P o fr H K:=by
 intro g w a F X;have v:=G1 F X s;have A:=G1 F X y
 rw[C]at v
 have⟨ae,hy,hle,t⟩:=q.inv F A;have⟨T,aa,fy,B,l,f⟩:=Mg P F hy A (hle.sz t)
 rw[hle.length]at B l f
 have ab:∀i j,i<ys.length->j<sz->(fy i j).oneCell'=true/\VR g w (fy i j) ((ys.getD i .bad).cells.getD j .bad):=λi j U u=>⟨(l i j U u).1,(l i j U u).2.le ((hle.at i).cells.at j)⟩;have G:=Jf t;have hu:=W5 Y;have⟨b,p,O,Z,J,h4,h5,h6,h7,h8,h9,D⟩:=Gr F W v;rw[W8 z];simp only[builtin,BH,D9,I0,C0];generalize E:Nat.min ys.length n.toNat=m;have ac:m=min ys.length n.toNat:=E.symm
 have I:(m:Int)=if n<(ys.length:Nat)then n else(ys.length:Nat):=by split<;>omega
 have R:ys.take n.toNat=ys.take m:=by
  grind
 rw[R,<-I]at h
 have r:(ys.take m).length=m:=by simp;omega
 have N:∀i,i<m->(ys.take m).getD i .bad=ys.getD i .bad:=λi U=>by
  grind
 have x:=f m za2 w λ_ _=>rfl;have⟨w',ad,M,L⟩:=Yh (P:=P) (m:=m) (ys:=ys.take m) F W O h6 h8 h9 D c r za2 (λi U=>by rw[r]at U;rw[N i U];grind) fy (λi j U u=>by rw[r]at U;rw[N i U];grind)
 rw[B]at x
 have d:(Builtin.copy_ #[S,yT] o.type #[a.eval s,a.eval y]).run P w= .ok (.int .i64 m) w':=by
  rw[B,Z]
  simp only[Builtin.copy_,C0,run_underlying hu,B7,V5 Q,C6,Builtin.lenOf,AA,
   Db,DR,E,x,goInt]
  grind[Sem.run_bind,Sem.run_pure,Result.andThen_ok]
 rw[d];simp only[B7,C6,J1];exact⟨g,.int .i64 m,_,M,L,.int _ _,h⟩
theorem Ar2 {s:By} {I e:Do} {id sz:Nat} {lo n:Int} {z:V} {xs:Up V} (X:o.op= .call {callee:=.builtin .clear,args:= #[s],argTypes:= #[I]})
 (C:ev fr s= .own id lo n) (W:H id=some (.arr sz xs)) (Y:HS P I=some e) (aa:HL P e=some sz) (t:0<sz) (hz:KC P e=some z) (E:z.one=true) (N:z.cells.length=sz)
 (h:K (.tup []) (upd H id (some (.arr sz (FK xs lo.toNat (List.replicate n.toNat z)))))):K3 P o fr H K:=by
 intro g w a F T;have y:=G1 F T s
 rw[C]at y
 have hu:=W5 Y;have⟨d,M,ad⟩:=FF hz
 have G:VR g w d z:=by rw[M];grind[GI]
 have⟨c,ab⟩:=G.cells E
 have ac:d.cells.size=sz:=by rw[c,N]
 have⟨b,p,O,Z,J,h4,h5,Q,h7,R,S,f⟩:=Gr F W y
 have v:(List.replicate n.toNat z).length=n.toNat:=za4
 have r:(Builtin.zeroCells d.cells n.toNat).toList=(List.range (n.toNat*sz)).map λk=>d.cells.getD (k % sz) undef:=by
  unfold Builtin.zeroCells
  simp_all[DH]
 have⟨w',l,D,B⟩:=Yh (P:=P) (m:=n.toNat) (ys:=List.replicate n.toNat z) F W O Q R S f t v za2 (λi U=>by rw[Hv za2];exact N)
  (λ_ j=>d.cells.getD j undef) (λi j U u=>by rw[Hv za2];simp_all)
 rw[W8 X];simp only[builtin,BH,D9,I0,C0]
 have x:(Builtin.clear_ #[I] o.type #[a.eval s]).run P w= .ok (.tuple #[]) w':=by
  rw[Z];simp only[Builtin.clear_,C0,run_underlying hu,B7,AA,Db]
  generalize A:p=base at l ⊢
  cases base with
  |none=>simp_all
  | some q=>
   simp only at l
   cases L:n.toNat with
   |zero=>rw[L]at l;simp[storeCells]at l;subst l;rfl
   |succ k=>
    rw[L]at l r
    simp_all
 rw[x];simp only[B7,C6,J1];exact⟨g,.tup [],_,D,B,.und _ _,h⟩
end
def AL6 (v:V):OS Prop:=
 match v with
 | .sl xs _=>some (xs=[])
 | .own _ _ n=>some (n=0)
 |_=>none
def AW3 {g:Gh} {w:Is} {x:V} {v:HO} {p:Prop} (h:AL6 x=some p) (q:VR g w v x):∃a n c,v= .slice a n c/\(a.isNone=true->p):=by
 unfold AL6 at h
 split at h
 ·cases h
  cases q with
  |sl0 j=>simp_all
  |sle j=>simp_all
  |sl vs e X l b R O q j=>simp_all
 ·cases h
  cases q with
  |own E L O Z i=>
   grind
 cases h
def AE5:BinOp->OS Bool
 | .eql=>some true
 | .neq=>some false
 |_=>none
section
variable {P:Program}{o:Oper}{fr:Fr}{H:A6}{K:V->A6->Prop}
theorem Bg3 {i:BinOp} {t ty e:Do} {y z:By} {p:Prop} {q:Bool} (B:o.op= .binOp i t y z ty) (Q:AE5 i=some q) (D:HS P t=some e) (m:AL6 (ev fr y)=some p) (d:ev fr z= .sl [] .nil)
 (O:p->K (.bool q) H) (L:K (.bool (!q)) H):K3 P o fr H K:=by
 intro g w a F x;have N:=G1 F x y;have b:=G1 F x z
 rw[d]at b
 have⟨p',n,c,f,C⟩:=AW3 m N
 have s:a.eval z= .slice none 0 0:=by
  generalize a.eval z=v at b
  cases b with
  |sl0 j=>rfl
  |sle h=>rcases h with h|⟨h,_⟩<;>cases h
  |sl vs G X d E R O N j=>exact j.elim
 have r:=W5 D;unfold execOp;rw[B];simp only[C0,f,s]
 have u:(eqGuard i t y z (.slice p' n c) (.slice none 0 0)).run P w= .ok () w:=by
  cases i<;>simp[eqGuard]
 rw[u];simp only[B7]
 have A:(binOp i t (.slice p' n c) (.slice none 0 0)).run P w= .ok (.bool (if p'.isNone then q else !q)) w:=by
  cases i<;>simp only[AE5,E7,reduceCtorEq]at Q<;>subst Q
  ·rw[Lib.run_eql_slice_nil w t e p' n c 0 0 r];cases p'<;>rfl
  grind[run_neq_slice_nil_any]
 rw[A];simp only[B7,C6,J1]
 cases l:p'.isNone with
 |true=>exact P0.here F (.bool _) (O (C l))
 |false=>exact P0.here F (.bool _) L
end
end Go.Ab
namespace Go.Ab
open Go.MapKept
structure KG (P:Program) (kt:TypeId) (G:Value->Prop):Prop where
 check:∀(w:World) (em:Bool) {v:Value},G v->(Instr.checkKey em 10000 kt v).run P w= .ok () w
 find:∀(w:World) {x:Value},G x->∀es:List MapEntry,(∀e∈es,G e.key)->
  ((Instr.findKey kt x es).run P w= .ok none w/\∀e∈es,e.key≠x)\/∃j e,(Instr.findKey kt x es).run P w= .ok (some (j,e.val)) w/\es[j]? =some e/\e.key=x
 stays:∀(w:World) {v:Value},G v->(Instr.keyThatStays v v).run P w= .ok v w
def KG.scalar {P:If} {kt:Do} {d:TypeDesc} (hd:P.underlying kt=some d):KG P kt (IsKey d) where
 check:=λw em v h=>run_checkKey hd h em 9999
 find:=λw x M a h=>by
  rcases findNow_spec M a 0 h with⟨O,Z⟩|⟨j,e,O,Z,J⟩
  ·grind[run_findKey]
  exact .inr ⟨j,e,by rw[run_findKey hd O,K4],Z,J⟩
 stays:=λw v h=>run_keyThatStays h
section
variable {P:Program}{kt el n:Nat}{k:IntKind}
def QK (k:IntKind)(n:Nat)(v:HO):Prop:=∃l:Up Int,l.length=n/\v= .agg (l.map (Value.int k)).toArray
end
section
variable {P:Program}{kt n:Nat}{k:IntKind}
structure ZT (P:Program) (k:IntKind) (n:Nat) (fs:List Field):Prop where
 all:∀f∈fs,f.name≠ "_" /\P.underlying f.type=some (.int k)/\f.offset<n
 cov:∀i,i<n->∃f∈fs,f.offset=i
def Vu (w:Is){e:Do}(Y:P.underlying e=some (.int k)){xs:Up Int}{i:Nat}(U:i<xs.length):(part e (xs.map (Value.int k)).toArray i).run P w= .ok (.int k (xs[i])) w:=
 run_part_plain w (by simp[Program.plainKey,Y]) (by simp[U])
def PX (w:Is) (d:Nat) {xs ys:Up Int} (B:ys.length=xs.length):∀fs:Up Field,(∀f∈fs,f.name≠ "_" /\P.underlying f.type=some (.int k)/\f.offset<xs.length)->
 ∃r:Bool,(Op.eqFields (d+1) (xs.map (Value.int k)).toArray (ys.map (Value.int k)).toArray fs).run P w= .ok r w/\(r=true<->∀f∈fs,xs[f.offset]? =ys[f.offset]?)
 |[],_=>⟨true,by simp[Op.eqFields],za4⟩
 |f::fs,h=>by
  have⟨e,Y,U⟩:=h f (.head _)
  have u:f.offset<ys.length:=za2
  have⟨r,x,a⟩:=PX w d B fs λg b=>h g (.tail _ b);have i:=Vu w Y U;have l:=Vu (xs:=ys) w Y u;simp only[Op.eqFields,e,ne_eq,not_false_eq_true,D8,C0,i,l,B7,run_equalIn_int w d f.type k k _ _ Y];have t:xs[f.offset]? =some xs[f.offset]:=C8 U;have e2:ys[f.offset]? =some ys[f.offset]:=C8 u
  by_cases M:xs[f.offset]=ys[f.offset]
  ·simp_all
  simp_all
def Av8 (w:Is) (hd:P.underlying kt=some (.struct (P.fieldsOf kt))) (C:P.stoodInHeld kt=false) (i:ZT P k n (P.fieldsOf kt).toList) {a b:HO} (T:QK k n a) (A:QK k n b):
 ∃r:Bool,(Op.equal kt a b).run P w= .ok r w/\(r=true<->b=a):=by
 obtain⟨xs,M,rfl⟩:=T;obtain⟨ys,m,rfl⟩:=A;obtain⟨r,x,g⟩:=PX (P:=P) w 9998 (xs:=xs) (ys:=ys) za2 (P.fieldsOf kt).toList (λf h=>by rw[M];exact i.all f h);refine⟨r,?_,?_⟩
 ·exact(run_equalIn_struct w 9999 kt (xs.map (Value.int k)).toArray (ys.map (Value.int k)).toArray hd C).trans x
 rw[g]
 constructor
 ·intro h
  have:xs=ys:=by
   apply CZ;intro j
   by_cases u:j<n
   ·obtain⟨f,t,e⟩:=i.cov j u;rw[<-e];grind
   simp_all
  rw[this]
 intro h
 have Z:(ys.map (Value.int k))=xs.map (Value.int k):=za7
 have:ys=xs:=by
  apply CZ;intro j;have:=G2 (λl=>l[j]?) Z
  grind
 simp_all
theorem Nh (w:Is) (hd:P.underlying kt=some (.struct (P.fieldsOf kt))) (C:P.stoodInHeld kt=false) (g:ZT P k n (P.fieldsOf kt).toList) {x:HO} (M:QK k n x):∀(b:Up MapEntry) (i:Nat),(∀e∈b,QK k n e.key)->
 ((Instr.findAsking kt x b i).run P w= .ok none w/\∀e∈b,e.key≠x)\/∃j e,(Instr.findAsking kt x b i).run P w= .ok (some (i+j,e.val)) w/\b[j]? =some e/\e.key=x
 |[],i,_=>.inl ⟨by simp[Instr.findAsking],za4⟩
 | e::b,i,h=>by
  have⟨r,f,a⟩:=Av8 w hd C g M (h e (.head _))
  cases r with
  |true=>exact .inr ⟨0,e,by simp[Instr.findAsking,f],rfl,a.1 rfl⟩
  | false=>
   have t:e.key≠x:=λq=>by have:=a.2 q;cases this
   rcases Nh w hd C g M b (i+1) (λy m=>h y (.tail _ m))with⟨O,Z⟩|⟨j,l,O,Z,J⟩
   ·refine .inl ⟨by simp[Instr.findAsking,f,O],λy m=>?_⟩
    grind
   exact .inr ⟨j+1,l,by simp[Instr.findAsking,f,O,CI,KH 1 j],za7,J⟩
def KG.flds (hd:P.underlying kt=some (.struct (P.fieldsOf kt))) (C:P.stoodInHeld kt=false) (g:ZT P k n (P.fieldsOf kt).toList):KG P kt (QK k n) where
 check:=λw em v q=>by
  obtain⟨xs,M,rfl⟩:=q;rw[Instr.checkKey];simp only[C0,run_underlying hd,B7];rw[<-Array.forIn_toList];have u:=g.all
  generalize (P.fieldsOf kt).toList=b at u
  induction b with
  |nil=>simp
  |cons f b ih=>
   have⟨t,Y,U⟩:=u f (.head _);have y:=Vu (P:=P) (xs:=xs) w Y (i:=f.offset) za2;have N:(Instr.checkKey em 9999 f.type (.int k (xs[f.offset]' za2))).run P w= .ok () w:=run_checkKey (k:=.int k (xs[f.offset]' za2)) Y rfl em 9998
   simp_all
 find:=λw x M r h=>by
  rw[run_findKey_eq w (k:=kt) (by simp[hd])]
  grind[Nh]
 stays:=λw v q=>by
  obtain⟨xs,_,rfl⟩:=q
  have e:∀l:Up Int,((l.map (Value.int k)).zip (l.map (Value.int k))).all (λx=>Instr.sameBits 9999 x.1 x.2)=true:=by
   intro l
   induction l with
   |nil=>rfl
   |cons a l ih=>simp only[D9,List.zip_cons_cons,Nx,ih,IB];simp[Instr.sameBits]
  have Z:Instr.sameBits 10000 (.agg (xs.map (Value.int k)).toArray) (.agg (xs.map (Value.int k)).toArray)=true:=by
   rw[Instr.sameBits]
   grind
  simp[Instr.keyThatStays,Z]
end
end Go.Ab
