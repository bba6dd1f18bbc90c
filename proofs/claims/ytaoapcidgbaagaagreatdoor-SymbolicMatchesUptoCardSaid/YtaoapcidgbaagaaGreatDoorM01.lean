/- . -/
import Derived.RangeFuncLeaves
import Derived.Below
import Derived.Laws.OwnMore
import Derived.Laws.CopyRow
import Derived.Laws.StructEq
import Derived.Laws.Strings
import Derived.Laws.Runes
import Derived.Lib.SliceRun
import Derived.WalkSpells
import Derived.MapKept
import Derived.DeepKeys4
import Derived.KernelRfl
set_option linter.all false
namespace Go.Ab
open Go.RowKit
variable{p:Prop}
def T0(h:p:=by intro E D K Y J Q;exact Zg):p:=h
def S1(h:p:=by rintro e l H ⟨rfl,rfl,Q⟩;exact Zg):p:=h
def S2(h:p:=by cbv;cases h;exact J Q (.tup (.cons (.agg (.cons (.refl _) (.cons (.refl _) (.cons (.lit _ (E4)) (.cons (.lit _ (E4)) (.refl _)))))) (.cons (.lit _ (E4)) (.refl _))))):p:=h
def Ly(h:p:=by clear h;cbv;apply HB Y (nt_eq _);cbv;exact .inr ⟨_,⟨rfl,rfl,Q⟩,.z,rfl⟩):p:=h
def L1(h:p:=by exact .inl ⟨_,_,rfl,⟨rfl,rfl,Q⟩,.z,rfl⟩):p:=h
def L3(h:p:=by unfold execOp;rw[X];simp only[cf0,Instr.makeMap,B9,C7,run_newObj,B5,J3];exact⟨_,_,_,s,r,.map (by simp[Gh.new]),h g.nx (C.nxt _ (C6 _)).2.2⟩):p:=h
def upT(h:p:=by cbv;refine D6 Y Q 7 rfl rfl λH Q=>?_;cbv;refine D6 Y Q 6 rfl rfl λH Q=>?_;cbv;refine D6 Y Q 5 rfl rfl λH Q=>?_;cbv;cases h;exact⟨_,⟨rfl,rfl,Q⟩,.e rfl (.e2 .z),rfl⟩):p:=h
def Hw(h:p:=by exact J _ _ _ Q trivial):p:=h
def F1(h:p:=by subst H e2;exact J ⟨t,0,0,[],row⟩ [] _ ⟨rfl,rfl⟩ ((C3.start D7 rfl).push o rfl)):p:=h
def F4(h:p:=by clear h;have h:=X;exact Zg):p:=h
def cfC(h:p:=by cbv;refine XK Y Q 0 rfl λy v P=>?_;cbv;refine FQ Y trivial ?_;cbv;refine XM Y Q 0 rfl v λH Q=>?_;cbv;refine E0 Y Q 0 rfl ?_;cbv;cases h;exact J Q (.refl _)):p:=h
def zck(h:p:=by have⟨b,d,clock,O,Z,l,a,v,x,N⟩:=h;have W:=y b (by simp_all[Gh.at]);exact⟨b,d,clock,s.mu _ _ O,s.base▸Z,W.1.trans l,a,v,x,λi e U=>(N i e U).mono s⟩):p:=h
def F8(h:p:=by cbv;refine D6 Y Q 0 rfl rfl λH Q=>?_;cbv;cases h;exact⟨_,rfl,rfl,⟨rfl,Q⟩⟩):p:=h
def dnI(h:p:=by have Q:C3 Eq D [cb b [vi 0],.blk a DB] H:=C3.dblk hd Q;clear hd;cbv;refine D6 Y Q 0 rfl rfl λH Q=>?_;cbv;refine Ei Y Q 1 rfl λH Q=>?_;exact Zg):p:=h
def zaa(h:p:=by exact⟨_,.inl ⟨rfl,rfl,Q⟩,.e rfl (.e4 .z),rfl⟩):p:=h
def zab(h:p:=by cbv;refine X3 Y (g:=λb=>.bool b) h (λb X=>l n b X) .z λb h=>?_;exact Zg):p:=h
def zac(h:p:=by refine⟨λ_ _ e=>e,λ_ _ e=>e,λ_ _ e=>e,rfl,λb o _=>a b o,⟨rfl,rfl,rfl,OC,λk S=>World.putObj_heap_other AY⟩,λ_ _ _=>rfl,C6 _⟩):p:=h
def zad(h:p:=by rw[<-AT (l:=k.toList) (f:=λp=>(p.1,e p.2)) (g:=λp=>(p.1,ρ' p.2)) λp b=>by rw[a p.2 (by simp only[Op.operands,Jl,BT];grind)]];exact h):p:=h
def zae(h:p:=by clear X;rintro e l H ⟨y,b,rfl,rfl,Q⟩;cbv;cases h;exact V y _ _ 0 _ _ Q rfl (BH Y b) .z):p:=h
def zaf(h:p:=by clear hd;cbv;refine D6 Y Q 1 rfl rfl λH Q=>?_;cbv;refine D6 Y Q 0 rfl rfl λH Q=>?_;cbv;refine Ei Y Q 2 rfl λH Q=>?_;exact Zg):p:=h
def zag(h:p:=by have⟨x,l,O,A,Z,z⟩:=M;subst O;cases G;exact⟨⟨l,st.df⟩,⟨λt=>(a.s t).trans (Z.wk t),a.df.trans z⟩,v _ _ _ A⟩):p:=h
def zah(h:p:=by exact⟨_,(),rfl,.e rfl (.e4 .z),rfl,Q⟩):p:=h
def zai(h:p:=by simp only[E5]at h;exact one _ (by simp[binOp,Op.intBits]) h.symm):p:=h
def zaj(h:p:=by exact⟨_,.inl ⟨rfl,rfl,Q⟩,.e rfl (.e2 .z),rfl⟩):p:=h
def zak(h:p:=by subst hE;have⟨v,N,j⟩:=e.raw key;exact⟨_,.inl ⟨kt,et,d,v,id,o,_,C,e.kg _ hd y,N,j,rfl,A.get i U,a,u⟩,B x Z⟩):p:=h
def zal(h:p:=by exact J2 OM Y K9 (λb=>[(3,.v (sr eCl1 a)),fi 4 b]) (xi D) (xm D 0 (λ_=>[]) (λ_=>[(2,.b false)])) JO Zi X Zf Q Zq):p:=h
def zam(h:p:=by cbv;cases h;exact⟨_,⟨rfl,rfl,Q⟩,.e rfl (.e4 .z),rfl⟩):p:=h
def zan(h:p:=by exact .e rfl (.b rfl (.e rfl (.e rfl (.e rfl (.e rfl (.e rfl (.e rfl (.e rfl (.e rfl (.e rfl (.z)))))))))))):p:=h
def zao(h:p:=by have Q:C3 Eq D [cb b [vi w],.blk a DB] H:=C3.dblk hd Q;clear hd;cbv;refine Ei Y Q 1 rfl λH Q=>?_;exact Zg):p:=h
def Kl(h:p:=by exact O6.here C (.int _ _) h):p:=h
def zaq(h:p:=by exact⟨y,List.mem_flatMap.2 ⟨y,I,by unfold OA;rw[A2 hd];simp⟩,k,by unfold UO;rw[hd];exact Q⟩):p:=h
def zar(h:p:=by cases W;clear h B;cbv;apply HB Y (nt_eq _);cbv;exact .inr ⟨_,⟨rfl,rfl,Q⟩,.b rfl (.z),rfl⟩):p:=h
def zas(h:p:=by simp only[E5]at h;exact one _ (by simp[binOp,Op.intArith]) h.symm):p:=h
def zat(h:p:=by cbv;refine Ei Y Q 2 rfl λH Q=>?_;exact Zg):p:=h
def zau(h:p:=by exact absurd this (by simp<;>omega)):p:=h
def zav(h:p:=by exact⟨_,(),rfl,.e rfl (.e2 (.e4 .z)),rfl,Q⟩):p:=h
def zaw(h:p:=by cases Q;exact⟨⟨st.l,d::st.df⟩,⟨λt=>Wk.refl _,rfl⟩,done d s H' rfl hd U⟩):p:=h
def FW(h:p:=by exact .e rfl (.e4 .z)):p:=h
def Zy(h:p:=by exact⟨trivial,Q⟩):p:=h
def zaz(h:p:=by have:=Int.natAbs_tmod a b;have Z:a.natAbs % b.natAbs<b.natAbs:=Cz _ AY;omega):p:=h
def zb1(h:p:=by rintro d r e H rfl hd Q;exact Q.elim):p:=h
def zb2(h:p:=by rename_i L;simp only[E5]at h;exact one _ (by simp[binOp,Op.intDiv,L]) h.symm):p:=h
def zb3(h:p:=by split<;>exact O6.here C (by first|(rw[A2 Xb];grind)|grind|exact .int _ _) k):p:=h
def zb4(h:p:=by subst a;subst e;exact N x q _ (by rw[len_eq];rwa[N4]at e0) (i.push e2 rfl) Z):p:=h
def zb5(h:p:=by cbv;cases h;exact J Q (.refl _)):p:=h
def zb6(h:p:=by rintro e l H P;obtain⟨rfl,rfl,Q⟩:=P;clear h;cbv;exact i _ _ _ Q trivial):p:=h
def zb7(h:p:=by unfold IntKind.wrap;simp[IntKind.bits,IntKind.signed]):p:=h
def zb8(h:p:=by cbv;refine RJ Y Q a 0 rfl λH Q=>?_;cbv;apply FQ Y (by trivial);exact Zg):p:=h
def zb9(h:p:=by clear X h;cbv;exact⟨(),Q,.e2 .z,rfl⟩):p:=h
def zba(h:p:=by clear X h;cbv;exact⟨(),Q,.e4 .z,rfl⟩):p:=h
def zbb(h:p:=by rw[O];simp only[B5,C7,J3];exact O6.here C (Z g) h):p:=h
def zbc(h:p:=by intro E D K Y J Q;cbv;refine C1 Y h (a b k e i) .z λl h=>?_;exact Zg):p:=h
def zbd(h:p:=by exact⟨WG (by rw[h.1];exact L) λx M=>(e x M).1,λx M=>(e x M).2⟩):p:=h
def zbe(h:p:=by exact h.imp (S _ _) λ⟨O,sz,Z⟩=>⟨O,sz,λq a=>S _ _ (Z q a)⟩):p:=h
def zbf(h:p:=by exact Ko (K:=λ_ H'=>k (.v .bad) H') h λH' S=>⟨.v .bad,rfl,S⟩):p:=h
def zbg(h:p:=by exact .inl ⟨_,_,rfl,⟨rfl,rfl,Q⟩,.e rfl (.e2 (.e4 .z)),rfl⟩):p:=h
def zbh(h:p:=by exact .inr ⟨u,v,rfl,⟨y,I,k,by unfold UO;rw[hd];exact O⟩,Z⟩):p:=h
def zbi(h:p:=by have⟨q,c,I⟩:=AK.1 I;exact h.arg (Q q c) y I):p:=h
def zbj(h:p:=by rw[A2 (by grind[H7,A9]),CT λe=>hl (by rw[e])]):p:=h
def zbk(h:p:=by have⟨v,j⟩:=h.frz b o q;exact⟨v,(Fo (h.fz_lt q)).trans j⟩):p:=h
def zbl(h:p:=by intro g w a C b;unfold execOp;rw[X];exact O6.here C (G2 C b x) h):p:=h
def zbm(h:p:=by cbv;cases h;exact⟨_,⟨v,a,rfl,rfl,Q⟩,.e rfl (.e4 .z),rfl⟩):p:=h
def zbn(h:p:=by cbv;cases h;exact⟨_,⟨V,w,rfl,rfl,Q⟩,.e rfl (.e4 .z),rfl⟩):p:=h
def zbo(h:p:=by intro i x M U;simp only[B8,A9,F3,M,A4,Hp,B3];rw[A2 AY,Bv U AY]):p:=h
def zbp(h:p:=by cbv;exact g rfl [] D (.start D7 rfl)):p:=h
def zbq(h:p:=by exact .e2 (.v (.slt _ (.lst0)) (.e rfl (.e rfl (.e rfl (.z)))))):p:=h
def zbr(h:p:=by exact .e rfl (.e2 (.e4 .z))):p:=h
def zbs(h:p:=by exact .e4 (.v (.slt _ (.lst0)) (.e rfl (.e rfl (.e rfl (.z)))))):p:=h
def zbt(h:p:=by exact .inr ⟨[],w,rfl,⟨y,I,k,by unfold UO;rw[hd];rfl⟩,Q⟩):p:=h
def zbu(h:p:=by cbv;have Q:C3 _ _ [.blk z (.obj C)] H:=Q;cases h;exact J Q .z):p:=h
def Kk(h:p:=by intro s;simp[B8,A9]):p:=h
def zbw(h:p:=by simpa[W4,b,V.cells]using this):p:=h
def zbx(h:p:=by rw[C8 _ _ e]at M;exact Z _ _ (a.ext x c M)):p:=h
def zby(h:p:=by exact ih (m.arg (by rw[u];simp)) X (i.arg (by rw[u];simp))):p:=h
def zbz(h:p:=by rintro _ _ _ _ _ _ h;exact h.elim):p:=h
def zc0(h:p:=by cbv;refine Uo (A:=[_]) (ds:=d0::a) Y Q λH Q=>?_;exact Zg):p:=h
def zc1(h:p:=by rw[<-a f (by simp[Op.operands,Call.operands,d])];exact h):p:=h
def zc2(h:p:=by rw[C8 _ _ λe=>by subst e;rw[ht]at ac;cases ac];exact ac):p:=h
def zc3(h:p:=by exact DY none ds _ _ g k (λ_ _ _ _ h=>by cases h) C i h):p:=h
def zc4(h:p:=by exact⟨_,(),rfl,.e4 .z,rfl,Q⟩):p:=h
def Mr(h:p:=by exact⟨.v v,O,N⟩):p:=h
def zc6(h:p:=by exact .inl ⟨_,(E x).symm,h⟩):p:=h
def zc7(h:p:=by have:=h.inj (i+1) (j+1) e a id b b' Pw Pw R k;omega):p:=h
def zca(h:p:=by clear h;cbv;exact .inr ⟨_,⟨rfl,rfl,Q⟩,.z,rfl⟩):p:=h
def zcb(h:p:=by have:=A0.pre_eq q;simp only[A0.pres,K8,N1,this];omega):p:=h
def zcc(h:p:=by simp[Array.getD,a,show q+off+i=q+(off+i) by omega,h]):p:=h
def zcd(h:p:=by simp only[e,C7,J3];exact O6.here i (.func O Z T r) h):p:=h
def zce(h:p:=by exact⟨_,by simp[binOp,Op.shift,a],λg=>.int _ _⟩):p:=h
def zcf(h:p:=by exact h.mono λe w' ⟨v,O,Z⟩=>⟨v,O,key _ _ Z⟩):p:=h
def zcg(h:p:=by exact⟨_,P,rfl,.e2 (.e4 (.e4 .z)),rfl,⟨a,Q⟩⟩):p:=h
def zch(h:p:=by exact .inl ⟨y,I,k,by unfold UO;rw[hd];exact O⟩):p:=h
def zci(h:p:=by clear h;cbv;exact b _ _ _ Q trivial):p:=h
def zcj(h:p:=by exact⟨m,J,f,N.trans s,r⟩):p:=h
def F7(h:p:=by grind[O6.here]):p:=h
def zcl(h:p:=by by_cases Y:k=0<;>simp[Y]):p:=h
def Px(h:p:=by grind[Gh.at,upd]):p:=h
def PQ(h:p:=by grind[Gh.at,EI]):p:=h
def zco(h:p:=by simp_all[B8,A9]):p:=h
universe u
abbrev Up(α:Type u):=List α
abbrev OS(α:Type u):=Option α
abbrev If:=Program
abbrev Is:=World
abbrev HO:=Value
abbrev Do:=TypeId
abbrev By:=Operand
abbrev Uf:=ByteArray
abbrev SI(α:Type u):=Array α
def AY(h:p:=by omega):p:=h
def JO(h:p:=by kernel_rfl):p:=h
def OC(h:p:=by simp):p:=h
def Sz(h:p:=by decide):p:=h
def Ts(h:p:=by simp;omega):p:=h
def Pw(h:p:=by grind):p:=h
def TQ(h:p:=by simp_all):p:=h
def QX(h:p:=by rfl):p:=h
def Xb(h:p:=by assumption):p:=h
abbrev TB(N:Nat):Prop:=40000000<=N
def A4:=@Option.bind_some
def A1:=@if_neg
def A2:=@if_pos
def B3:=@decide_eq_true_eq
def B5:=@Result.andThen_ok
def D9:=@List.getElem?_eq_getElem
def D4:=@Bool.false_eq_true
def B9:=@Sem.run_bind
def E1:=@List.append_assoc
def C7:=@Sem.run_pure
def D2:=@List.map_cons
def E5:=@Option.some.injEq
def C6:=@Nat.le_refl
def F2:=@List.append_nil
def B6:=@if_false
def J0:=@Nat.mul_le_mul_right
def B4:=@if_true
def G9:=@Bool.and_eq_true
def K4:=@List.mem_of_getElem?
def Q0:=@Array.getD_eq_getD_getElem?
def H9:=@List.length_map
def P1:=@List.drop_eq_getElem_cons
def I9:=@List.getElem_mem
def O2:=@decide_eq_false_iff_not
def M1:=@List.mem_cons_of_mem
def F9:=@Nat.add_mul
def G8:=@List.map_nil
def I8:=@decide_eq_true
def U2:=@List.getD_eq_getElem?_getD
def K1:=@Option.map_some
def N1:=@List.length_append
def K8:=@List.length_cons
def K3:=@List.nil_append
def R4:=@List.getElem_of_mem
def H8:=@decide_true
def L7:=@Bool.or_eq_true
def AF:=@List.getElem?_of_mem
def W4:=@List.take_of_length_le
def P9:=@Bool.not_eq_true'
def P8:=@List.map_append
def Z6:=@List.getElem?_toArray
def Da:=@List.take_append_drop
def U1:=@List.cons.injEq
def P0:=@Nat.zero_add
def Y2:=@not_true_eq_false
def Y1:=@List.getElem?_map
def Ir:=@List.pairwise_iff_getElem
def J8:=@congrArg
def R3:=@Nat.lt_or_ge
def Z5:=@Int.toNat_natCast
def Z4:=@List.getElem?_set
def CZ:=@List.getElem?_cons_zero
def DX:=@Array.getElem?_eq_getElem
def U0:=@Nat.le_trans
def Bm:=@List.mem_singleton
def DW:=@Nat.eq_of_beq_eq_true
def BW:=@List.map_congr_left
def W3:=@Bool.not_true
def DV:=@List.getElem?_cons_succ
def GC:=@List.eq_nil_of_length_eq_zero
def ES:=@Go.MapKept.run_getObj_map
def T9:=@Int.le_refl
def DU:=@List.drop_eq_nil_of_le
def Z3:=@Nat.mul_le_mul
def Y0:=@Nat.lt_irrefl
def AE:=@Bool.eq_iff_iff
def Bl:=@List.map_toArray
def EQ:=@Int.eq_ofNat_of_zero_le
def GB:=@List.getElem?_append_right
def GA:=@List.getElem?_append_left
def CY:=@List.length_range
def CX:=@List.ext_getElem?
def Iq:=@Array.getElem?_setIfInBounds
def EP:=@Array.getElem?_toList
def P7:=@and_true
def EO:=@List.eq_nil_or_concat
def EN:=@List.concat_eq_append
def BV:=@List.length_nil
def BU:=@List.mem_append
def EM:=@List.getElem?_append
def CW:=@List.cons_append
def CV:=@Option.getD_some
def Z2:=@Nat.one_mul
def DT:=@List.flatMap_cons
def CU:=@Option.some.inj
def CT:=@decide_eq_false
def KN:=@Int.mul_le_mul_of_nonneg_left
def KM:=@List.pairwise_cons
def DS:=@List.any_eq_true
def Bk:=@List.map_map
def AD:=@Sem.run_ite
def CS:=@Bool.not_false
def Gz:=@List.mem_append_left
def Gy:=@Nat.pow_le_pow_right
def Gx:=@List.getElem?_range
def BT:=@List.mem_map
def AC:=@Below.refl
def EL:=@List.all_eq_true
def Ip:=@List.range'_succ
def EK:=@Bool.not_eq_true
def CA:=@List.drop_zero
def Pq:=@Nat.div_lt_iff_lt_mul
def GX:=@Array.getElem?_append
def EX:=@List.countP_append
def DN:=@List.foldl_cons
def Cz:=@Nat.mod_lt
def Ju:=@List.range_eq_range'
def EW:=@DataW.trod_struct
def Cy:=@Nat.add_assoc
def Cx:=@List.mem_cons
def Me:=@List.take_append_of_le_length
def GW:=@List.mem_map_of_mem
def EV:=@List.length_take
def EU:=@List.not_mem_nil
def BK:=@Nat.zero_le
def Cw:=@Nat.add_zero
def GV:=@Option.isSome_none
def Jt:=@Array.getElem?_modify
def Js:=@Nat.le_of_ble_eq_true
def GU:=@List.pairwise_map
def Jr:=@List.take_add_one
def GT:=@List.any_eq_false
def Md:=@List.exists_mem_of_ne_nil
def DM:=@Nat.sub_mul
def ET:=@List.mem_range
def Jq:=@List.drop_succ_cons
def Mc:=@List.pairwise_mergeSort
def GS:=@List.headD_cons
def Jp:=@List.size_toArray
def Jo:=@List.nodup_append
def Jn:=@of_decide_eq_true
def Mb:=@List.length_singleton
def GR:=@World.alloc_eq
def Ma:=@List.mem_append_right
def LZ:=@List.countP_le_length
def DL:=@beq_iff_eq
def Jm:=@Nat.le_add_right
def Jl:=@List.mem_toArray
def Jk:=@List.ext_getElem
def Jj:=@Nat.lt_succ_self
def Ji:=@List.drop_length
def GQ:=@Oper.semAt_eq
def GP:=@List.any_cons
def LY:=@Array.length_toList
def LX:=@Array.toList_filter
def Pp:=@List.mem_of_find?_eq_some
def Po:=@List.mem_or_eq_of_mem_set
def LW:=@List.getElem?_take
def LV:=@List.getElem?_drop
def GO:=@Nat.mul_comm
def Pn:=@List.Pairwise.imp_of_mem
def Jh:=@List.drop_drop
def Pm:=@Nat.le_mul_of_pos_right
def Vk:=@List.flatMap_eq_nil_iff
def LU:=@Nat.le_of_succ_le
def Pl:=@Array.getElem?_extract
def GN:=@Nat.le_succ
def Pj:=@List.getElem?_eraseIdx
def BS4:=@List.findIdx?_eq_some_iff_getElem
def Pi:=@List.getElem?_set_self
def Jg:=@Bool.false_or
def Jf:=@List.all_cons
def Je:=@Bool.and_true
def LT:=@Int.natCast_zero
def LS:=@Nat.lt_of_not_le
def LR:=@Option.getD_none
def LQ:=@Array.mem_append
def LP:=@List.perm_middle
def Vj:=@List.take_succ_eq_append_getElem
def Ph:=@Bool.and_eq_false_iff
def Pg:=@List.append_inj_left'
def Vi:=@List.replicate_append_replicate
def LO:=@Nat.min_eq_left
def Pf:=@Nat.div_add_mod
def LN:=@World.size_drew
def Pd:=@Array.getElem_toList
def Vh:=@Array.eq_empty_of_size_eq_zero
def Pc:=@Array.getElem_modify
def Pb:=@Bool.or_eq_false_iff
def Vg:=@List.Nodup.length_le_of_subset
def Pa:=@List.getD_cons_zero
def LM:=@World.mk.injEq
def OZ:=@Nat.lt_of_lt_of_le
def OY:=@List.append_of_mem
def OX:=@Nat.eq_zero_or_pos
def Vf:=@List.perm_append_comm_assoc
def LL:=@Prod.mk.injEq
def LK:=@World.drew_eq
def LJ:=@List.map_drop
def LI:=@List.map_take
def Ve:=@Array.getElem?_append_left
def LH:=@List.sum_cons
def LG:=@Bool.true_and
def OW:=@Array.size_append
def OV:=@Array.any_eq_true
def OU:=@Classical.not_not
def OT:=@Nat.lt_trichotomy
def OR:=@World.cells?_some
def LF:=@decide_false
def OQ:=@Nat.mod_eq_of_lt
def OP:=@List.map_set
def LE:=@Nat.succ_mul
def Vd:=@List.eq_of_mem_replicate
def LD:=@Int.sub_zero
def OO:=@List.take_length
def ON:=@decide_eq_decide
def Vc:=@List.pairwise_singleton
def Vb:=@List.getElem?_replicate
def Jd:=@Array.ext
def cf0:=@Option.map_none
def OL:=@Operand.tmp.inj
def OK:=@List.length_set
def Va:=@List.drop_of_length_le
def UZ:=@List.pairwise_lt_range
def UY:=@Array.getElem?_eq_none
def UX:=@List.range_succ_eq_map
def LB:=@Nat.pow_add
def UW:=@List.length_pos_of_mem
def OJ:=@List.nodup_nil
def UV:=@List.length_replicate
def UU:=@Array.getElem?_mapIdx
def UT:=@List.length_mergeSort
def US:=@Classical.choose_spec
def GM:=@Iff.rfl
def OI:=@Int.zero_add
def OH:=@Nat.pow_succ
inductive G5 where
 |nil
 |full
 |ro
 |tok (t:Nat)
inductive V where
 |bad
 |bool (b:Bool)
 |int (k:IntKind) (n:Int)
 |str (s:ByteArray)
 |nilp
 |ref (id off:Nat)
 |eref (cs:List V) (off:Nat)
 |sl (xs:List V) (t:G5)
 |own (id:Nat) (lo n:Int)
 |elem (id:Nat) (i:Int) (sz off:Nat)
 |func (fn:Fn) (first cap:List V)
 |nilf
 |iface (t:TypeId) (v:V)
 |nili
 |agg (cs:List V)
 |tup (vs:List V)
 |map (id:Nat)
 |nilmap
 |fmap (ks:List Int) (xs:List V)
 |yield (id:Nat)
instance :Inhabited V:=⟨.bad⟩
def V.cells:V->Up V
 | .agg cs=>cs
 |v=>[v]
def V.one:V->Bool
 | .bad=>false
 | .tup _=>false
 |_=>true
structure LpI where
 nt:Nat
 s:Nat->V
 st:LoopState
 pe:Option Code
 ps:Array Tmp
 asg:Code
 body:Code
inductive FV where
 |cells (cs:List V)
 |spare
 |obj (o:Obj)
 |loop (L:LpI)
 |arr (sz:Nat) (xs:List V)
 |iter (mid since:Nat) (seen:Array Nat) (c0:Nat)
 |fm (ks:List Int) (xs:List V)
 |vm (ks:List Value) (xs:List V)
abbrev A5:=Nat->OS FV
def upd (H:A5)(id:Nat)(b:OS FV):A5:=λx=>if x=id then b else H x
class O7 where
 gl:Nat->V
structure Hd where
 o:Nat
 cap:Nat
 sz:Nat
structure Gh where
 mu:Nat->Option Nat
 ow:Nat->Hd
 tk:Nat->Option (Nat×Nat×Nat)
 fz:Nat->Nat->Prop
 nx:Nat
 base:Nat
def JW (g:Gh)(b o sz n cap:Nat):G5->Prop
 | .nil=>False
 | .full=>cap=n
 | .ro=>True
 | .tok t=>0<n/\∃lim,g.tk t=some (b,o+n*sz,lim)/\o+cap*sz<=lim
def G5.plain:G5->Bool
 | .tok _=>false
 |_=>true
inductive VR (g:Gh) (w:World):Value->V->Prop
 |bad (v:Value):VR g w v .bad
 |bool (b:Bool):VR g w (.bool b) (.bool b)
 |int (k:IntKind) (n:Int):VR g w (.int k n) (.int k n)
 |str (s:ByteArray):VR g w (.string s) (.str s)
 |nilp:VR g w (.pointer none) .nilp
 |nilf:VR g w .nilFunc .nilf
 |nili:VR g w .nilIface .nili
 |nilmap:VR g w (.map none) .nilmap
 |map {id b:Nat} (h:g.mu id=some b):VR g w (.map (some b)) (.map id)
 |ref {id b off:Nat} (h:g.mu id=some b):VR g w (.pointer (some ⟨b,off,none⟩)) (.ref id off)
 |own {id b:Nat} {lo n:Int} {p:Option Addr} (h:g.mu id=some b) (h0:0<=lo) (h1:0<=n) (h2:lo+n<=(g.ow id).cap) (hp:lo<(g.ow id).cap->p=some ⟨b,(g.ow id).o+lo.toNat*(g.ow id).sz,none⟩):
  VR g w (.slice p n.toNat ((g.ow id).cap-lo.toNat)) (.own id lo n)
 |elem {id b sz off:Nat} {i:Int} (h:g.mu id=some b) (hs:(g.ow id).sz=sz):VR g w (.pointer (some ⟨b,(g.ow id).o+i.toNat*sz+off,none⟩)) (.elem id i sz off)
 |eref {b o off:Nat} {cs:List V} (vs:Nat->Value) (hf:∀j,j<cs.length->g.fz b (o+j))
  (hw:∀j,j<cs.length->w.cell? ⟨b,o+j,none⟩=some (vs j)) (h1:∀j,j<cs.length->(vs j).oneCell'=true)
  (hv:∀j,j<cs.length->VR g w (vs j) (cs.getD j .bad)):VR g w (.pointer (some ⟨b,o+off,none⟩)) (.eref cs off)
 |sl0 {t:G5} (ht:t.plain=true):VR g w (.slice none 0 0) (.sl [] t)
 |sle {a:Addr} {cap:Nat} {t:G5} (ht:t= .ro\/(t= .full/\cap=0)):VR g w (.slice (some a) 0 cap) (.sl [] t)
 |sl {b o sz n cap:Nat} {xs:List V} {t:G5} (vs:Nat->Nat->Value) (hn:xs.length=n) (hc:n<=cap)
  (hz:∀i,i<n->(xs.getD i .bad).cells.length=sz) (hf:∀i j,i<n->j<sz->g.fz b (o+i*sz+j))
  (hw:∀i j,i<n->j<sz->w.cell? ⟨b,o+i*sz+j,none⟩=some (vs i j)) (h1:∀i j,i<n->j<sz->(vs i j).oneCell'=true)
  (hv:∀i j,i<n->j<sz->VR g w (vs i j) ((xs.getD i .bad).cells.getD j .bad)) (ht:JW g b o sz n cap t):
  VR g w (.slice (some ⟨b,o,none⟩) n cap) (.sl xs t)
 |func {fn:Fn} {fs cs:Array Value} {F C:List V} (hl:fs.size=F.length) (hv:∀i,i<F.length->VR g w (fs.getD i undef) (F.getD i .bad))
  (hl':cs.size=C.length) (hv':∀i,i<C.length->VR g w (cs.getD i undef) (C.getD i .bad)):VR g w (.func fn fs cs) (.func fn F C)
 |fmap {b:Nat} {es:Array MapEntry} {clock:Nat} {ks:List Int} {xs:List V} (hb:b<g.base) (hw:w.heap[b]? =some (.map es clock)) (hk:es.toList.map (·.key)=ks.map (Value.int .i64)) (hn:ks.Nodup) (hl:xs.length=ks.length)
  (hv:∀i e,es[i]? =some e->VR g w e.val (xs.getD i .bad)):VR g w (.map (some b)) (.fmap ks xs)
 |yield {id b:Nat} (h:g.mu id=some b):VR g w (.func (.yield b) #[] #[]) (.yield id)
 |iface {t:TypeId} {v:Value} {V:V} (h:VR g w v V):VR g w (.iface t v) (.iface t V)
 |agg {vs:Array Value} {cs:List V} (hl:vs.size=cs.length) (h1:∀i,i<cs.length->(vs.getD i undef).oneCell'=true)
  (hv:∀i,i<cs.length->VR g w (vs.getD i undef) (cs.getD i .bad)):VR g w (.agg vs) (.agg cs)
 |tup {vs:Array Value} {cs:List V} (hl:vs.size=cs.length) (hv:∀i,i<cs.length->VR g w (vs.getD i undef) (cs.getD i .bad)):
  VR g w (.tuple vs) (.tup cs)
def VR.und (g:Gh)(w:Is):VR g w undef (.tup []):=.tup rfl λi U=>by simp at U
structure Al (g:Gh) (w:World) (g':Gh) (w':World):Prop where
 mu:∀id b,g.mu id=some b->g'.mu id=some b
 tk:∀t x,g.tk t=some x->g'.tk t=some x
 fz:∀b o,g.fz b o->g'.fz b o
 base:g'.base=g.base
 cell:∀b o,g.fz b o->w'.cell? ⟨b,o,none⟩=w.cell? ⟨b,o,none⟩
 low:Below g.base w w'
 ow:∀id b,g.mu id=some b->g'.ow id=g.ow id
 dr:w.drawn<=w'.drawn
theorem Al.refl (g:Gh)(w:Is):Al g w g w:=⟨λ_ _ h=>h,λ_ _ h=>h,λ_ _ h=>h,rfl,λ_ _ _=>rfl,Below.refl _ _,λ_ _ _=>rfl,Nat.le_refl _⟩
def Al.trans {g g' a:Gh} {w w' w'':Is} (h:Al g w g' w') (k:Al g' w' a w''):Al g w a w'':=
 ⟨λid b e=>k.mu id b (h.mu id b e),λt x e=>k.tk t x (h.tk t x e),λb o e=>k.fz b o (h.fz b o e),k.base.trans h.base,
  λb o e=>(k.cell b o (h.fz b o e)).trans (h.cell b o e),h.low.trans (h.base▸k.low),λid b e=>(k.ow id b (h.mu id b e)).trans (h.ow id b e),U0 h.dr k.dr⟩
def JW.mono{g g':Gh}{b o sz n cap:Nat}{t:G5}(h:JW g b o sz n cap t)(a:∀t x,g.tk t=some x->g'.tk t=some x):
 JW g' b o sz n cap t:=by
 cases t with
 |tok t=>grind[JW]
 |nil=>exact h
 |full=>exact h
 |ro=>exact h
def VR.mono {g g':Gh} {w w':Is} (s:Al g w g' w') {v:HO} {V:V} (h:VR g w v V):VR g' w' v V:=by
 induction h with
 |bad v=>exact .bad v
 |bool b=>exact .bool b
 |int k n=>exact .int k n
 |str s=>exact .str s
 |nilp=>exact .nilp
 |nilf=>exact .nilf
 |nili=>exact .nili
 |nilmap=>exact .nilmap
 |map h=>exact .map (s.mu _ _ h)
 |fmap W m S E B l ih=>exact .fmap (by rw[s.base];exact W) ((s.low.block _ W).trans m) S E B ih
 |ref h=>exact .ref (s.mu _ _ h)
 |own h L O Z f=>
  have e:=s.ow _ _ h
  rw[<-e]at Z f ⊢
  exact .own (s.mu _ _ h) L O Z f
 |elem h G=>
  have e:=s.ow _ _ h
  rw[<-e]at G ⊢
  exact .elem (s.mu _ _ h) G
 |eref vs q m O l ih=>exact .eref vs (λj z=>s.fz _ _ (q j z)) (λj z=>(s.cell _ _ (q j z)).trans (m j z)) O ih
 |sl0 a=>exact .sl0 a
 |sle a=>exact .sle a
 |sl vs E d Y q m O l a ih=>
  exact .sl vs E d Y (λi j U z=>s.fz _ _ (q i j U z)) (λi j U z=>(s.cell _ _ (q i j U z)).trans (m i j U z)) O ih (a.mono s.tk)
 |func B l r y ih x=>exact .func B ih r x
 |yield h=>exact .yield (s.mu _ _ h)
 |iface h ih=>exact .iface ih
 |agg B O l ih=>exact .agg B O ih
 |tup B l ih=>exact .tup B ih
def Gh.at (g:Gh)(H:A5)(id:Nat):OS Nat:=
 match H id with
 |some .spare=>(g.tk id).map (·.1)
 |some (.arr _ xs)=>if xs.length=0 then none else g.mu id
 |some _=>g.mu id
 |none=>none
def Obj.isCells:Obj->Bool
 | .cells .. =>true
 |_=>false
def EI (g:Gh) (w:Is) (id:Nat):FV->Prop
 | .cells cs=>∃b c T,g.mu id=some b/\g.base<=b/\w.heap[b]? =some (.cells c T (0,0))/\c.size=cs.length/\
  (∀j,j<cs.length->(c.getD j undef).oneCell'=true/\VR g w (c.getD j undef) (cs.getD j .bad))/\∀o,¬g.fz b o
 | .spare=>∃b e lim c T,g.tk id=some (b,e,lim)/\g.base<=b/\w.heap[b]? =some (.cells c T (0,0))/\e<=lim/\c.size=lim/\∀o,e<=o->¬g.fz b o
 | .arr sz xs=>∃b,g.mu id=some b/\(g.ow id).sz=sz/\(g.ow id).cap=xs.length/\(∀i,i<xs.length->(xs.getD i .bad).cells.length=sz)/\
  (xs.length=0\/∃c T,g.base<=b/\w.heap[b]? =some (.cells c T (0,0))/\(g.ow id).o+xs.length*sz<=c.size/\
   (∀i j,i<xs.length->j<sz->(c.getD ((g.ow id).o+i*sz+j) undef).oneCell'=true/\VR g w (c.getD ((g.ow id).o+i*sz+j) undef) ((xs.getD i .bad).cells.getD j .bad))/\
   ∀o,(g.ow id).o<=o->¬g.fz b o)
 | .obj o=>∃b,g.mu id=some b/\g.base<=b/\w.heap[b]? =some o/\Obj.isCells o=false
 | .fm h xs=>∃b a clock,g.mu id=some b/\g.base<=b/\w.heap[b]? =some (.map a clock)/\a.toList.map (·.key)=h.map (Value.int .i64)/\h.Nodup/\xs.length=h.length/\∀i e,a[i]? =some e->VR g w e.val (xs.getD i .bad)
 | .vm h xs=>∃b a clock,g.mu id=some b/\g.base<=b/\w.heap[b]? =some (.map a clock)/\a.toList.map (·.key)=h/\h.Nodup/\xs.length=h.length/\∀i e,a[i]? =some e->VR g w e.val (xs.getD i .bad)
 | .iter v l seen y=>∃b x,g.mu id=some b/\g.base<=b/\g.mu v=some x/\w.heap[b]? =some (.mapIter (some x) l seen y)
 | .loop L=>∃b r,g.mu id=some b/\g.base<=b/\w.heap[b]? =some (.loop r)/\r.state=L.st/\r.pending=L.pe/\r.params=L.ps/\r.assign=L.asg/\r.body=L.body/\r.tmps.size=L.nt/\
  ∀t,VR g w (r.tmps.getD t undef) (L.s t)
structure Rl [O7] (g:Gh) (H:A5) (w:World):Prop where
 blk:∀id b,H id=some b->EI g w id b
 inj:∀id id' b,g.at H id=some b->g.at H id'=some b->id=id'
 frz:∀b o,g.fz b o->∃v,w.cell? ⟨b,o,none⟩=some v
 nxt:∀id,g.nx<=id->g.mu id=none/\g.tk id=none/\H id=none
 bnd:g.base<=w.heap.size
 glb:∀n,VR g w (.pointer (some ⟨n,0,none⟩)) (O7.gl n)
structure Fr where
 s:Nat->V
 df:List Nat
def Fr.put (fr:Fr)(d:OS Tmp)(v:V):Fr:=
 match d with
 |some d=>{fr with s:=λt=>if t=d then v else fr.s t}
 |none=>fr
structure FR (nt:Nat) (g:Gh) (w:World) (a:Act) (fr:Fr):Prop where
 size:a.tmps.size=nt
 s:∀t,VR g w (a.tmps.getD t undef) (fr.s t)
 df:∃bs:List Nat,bs.length=fr.df.length/\(∀i,i<bs.length->g.mu (fr.df.getD i 0)=some (bs.getD i 0))/\a.defers=bs.map λb=>{target:=.collected b,args:= #[]}
def FR.mono {nt:Nat}{g g':Gh}{w w':Is}{a:Act}{fr:Fr}(h:FR nt g w a fr)(s:Al g w g' w'):FR nt g' w' a fr:=by
 refine⟨h.size,λt=>(h.s t).mono s,?_⟩;have⟨bs,O,Z,T⟩:=h.df;exact⟨bs,O,λi U=>s.mu _ _ (Z i U),T⟩
theorem FR.put {nt:Nat} {g:Gh} {w:Is} {a:Act} {fr:Fr} (h:FR nt g w a fr) {d:OS Tmp} {v:HO} {V:V} (hd:∀t,d=some t->t<nt) (j:VR g w v V):
 FR nt g w (a.put d v) (fr.put d V):=by
 cases d with
 |none=>exact h
 | some d=>
  have b:=hd d rfl;refine⟨by simp[Act.put,h.size],λt=>?_,h.df⟩;have G:=h.s t;simp only[Act.put,Fr.put]
  by_cases e:t=d
  ·subst e
   have:(a.tmps.setIfInBounds t v).getD t undef=v:=by
    simp[Array.getD,h.size,b]
   rw[this];grind
  have:(a.tmps.setIfInBounds d v).getD t undef=a.tmps.getD t undef:=by
   simp only[Q0,Iq];rw[A1 AY]
  rw[this];simp_all
end Go.Ab
namespace Go.Ab
open Go.RowKit
variable [O7]
variable{a:Act}{cs xs:Up V}{g:Gh}{i:Nat}{k:IntKind}{l:Up (Nat×HO)}{m:Up (Nat×V)}{t:Do}{w:Is}{x:V}{y:By}
theorem E7 (H:A5)(id:Nat)(b:OS FV):upd H id b id=b:=by simp[upd]
theorem C8(H:A5){id x:Nat}(b:OS FV)(h:x≠id):upd H id b x=H x:=by simp[upd,h]
theorem BA (H:A5)(id:Nat)(a b:OS FV):upd (upd H id a) id b=upd H id b:=by
 funext x;simp_all[upd]
def Bp9 (H:A5)(id:Nat)(h:H id=none):upd H id none=H:=by
 funext x;simp_all[upd]
def Ap3 (H:A5)(id:Nat)(b:OS FV)(h:H id=none):upd (upd H id b) id none=H:=by rw[BA,Bp9 H id h]
def Bp8 (H:A5)(id:Nat)(b:OS FV)(h:H id=b):upd H id b=H:=by
 funext x;simp_all[upd]
def Ce{H:A5}{id x:Nat}{b:FV}(h:H id=none)(M:H x=some b):x≠id:=by
 grind
def EI.mono {g g':Gh} {w w':Is} {H:A5} {id:Nat} {k:FV} (S:H id=some k) (s:Al g w g' w') (h:EI g w id k)
 (y:∀b,g.at H id=some b->w'.heap[b]? =w.heap[b]? /\∀o,g'.fz b o->g.fz b o):EI g' w' id k:=by
 cases k with
 |cells cs=>
  have⟨b,c,T,O,Z,l,a,v,x⟩:=h;have W:=y b (by simp_all[Gh.at]);exact⟨b,c,T,s.mu _ _ O,s.base▸Z,W.1.trans l,a,λj z=>⟨(v j z).1,(v j z).2.mono s⟩,λo X=>x o (W.2 o X)⟩
 |spare=>
  have⟨b,e,lim,c,T,O,Z,l,a,v,x⟩:=h;have W:=y b (by simp_all[Gh.at]);exact⟨b,e,lim,c,T,s.tk _ _ O,s.base▸Z,W.1.trans l,a,v,λo X q=>x o X (W.2 o q)⟩
 |obj o=>
  have⟨b,O,Z,l,a⟩:=h;have W:=y b (by simp_all[Gh.at]);exact⟨b,s.mu _ _ O,s.base▸Z,W.1.trans l,a⟩
 |iter J m seen M=>
  have⟨b,u,O,Z,l,a⟩:=h;have W:=y b (by simp_all[Gh.at]);exact⟨b,u,s.mu _ _ O,s.base▸Z,s.mu _ _ l,W.1.trans a⟩
 |fm I xs=>
  exact zck
 |vm I xs=>
  exact zck
 |loop L=>
  have⟨b,r,O,Z,l,a,v,x,N,A,B,f⟩:=h;have W:=y b (by simp_all[Gh.at]);exact⟨b,r,s.mu _ _ O,s.base▸Z,W.1.trans l,a,v,x,N,A,B,λt=>(f t).mono s⟩
 |arr sz xs=>
  have⟨b,O,G,Z,l,a⟩:=h;have e:=s.ow _ _ O;refine⟨b,s.mu _ _ O,by rw[e];exact G,by rw[e];exact Z,l,?_⟩;rw[e]
  rcases a with a|⟨c,T,C,D,E,p,F⟩
  ·omega
  by_cases Q:xs.length=0
  ·omega
  have W:=y b (by simp_all[Gh.at]);exact .inr ⟨c,T,s.base▸C,W.1.trans D,E,λi j U z=>⟨(p i j U z).1,(p i j U z).2.mono s⟩,λo X q=>F o X (W.2 o q)⟩
def EI.lt{H:A5}{id b:Nat}{k:FV}(S:H id=some k)(h:EI g w id k)(W:g.at H id=some b):b<w.heap.size:=by
 have a:∀{b:Nat} {o:Obj},w.heap[b]? =some o->b<w.heap.size:=by
  grind
 cases k with
 |cells cs=>
  exact PQ
 |spare=>
  exact PQ
 |obj o=>
  exact PQ
 |fm i xs=>
  exact PQ
 |vm i xs=>
  exact PQ
 |loop L=>
  exact PQ
 |iter l e seen r=>
  exact PQ
 |arr sz xs=>
  exact PQ
def Rl.lt {g:Gh}{H:A5}{w:Is}(h:Rl g H w){id b:Nat}(W:g.at H id=some b):b<w.heap.size:=by
 cases S:H id with
 |none=>simp_all[Gh.at]
 |some k=>exact(h.blk id k S).lt S W
def Rl.fz_lt{H:A5}(h:Rl g H w){b o:Nat}(q:g.fz b o):b<w.heap.size:=by
 have⟨v,j⟩:=h.frz b o q;exact World.block_lt_of_cell? w (a:=⟨b,o,none⟩) j
def Rl.less{H H':A5}(h:Rl g H w)(B:∀id b,H' id=some b->H id=some b):Rl g H' w:=by
 have a:∀id b,g.at H' id=some b->g.at H id=some b:=by
  grind[Gh.at]
 refine⟨λid b W=>h.blk id b (B _ _ W),λid e b O Z=>h.inj id e b (a _ _ O) (a _ _ Z),h.frz,λid U=>⟨(h.nxt id U).1,(h.nxt id U).2.1,?_⟩,h.bnd,h.glb⟩
 cases S:H' id with
 |none=>rfl
 |some k=>have:=B _ _ S;rw[(h.nxt id U).2.2]at this;cases this
def Fo{o:Obj}{b:Nat}(h:b<w.heap.size):(w.alloc o).cell? ⟨b,i,none⟩=w.cell? ⟨b,i,none⟩:=
 World.cell?_alloc_lt w (a:=⟨b,i,none⟩) (o:=o) h
def Tz{c:SI HO}{T:Do}:(w.alloc (.cells c T)).cell? ⟨w.heap.size,i,none⟩=c[i]? :=by
 have h:(w.alloc (.cells c T)).heap[w.heap.size]? =some (.cells c T):=by
  show(w.heap.push _)[w.heap.size]? =_
  simp
 simp_all
def Gh.new (g:Gh)(w:Is)(F:Prop)(n:Nat):Gh:=
 {g with mu:=λx=>if x=g.nx then some w.heap.size else g.mu x,nx:=g.nx+1,fz:=λb o=>g.fz b o\/(F/\b=w.heap.size/\o<n)}
theorem Al.new {g:Gh}{H:A5}{w:Is}(h:Rl g H w)(o:Obj)(F:Prop)(n:Nat):Al g w (g.new w F n) (w.alloc o):=by
 refine⟨λid b e=>?_,λt x e=>e,λb o e=>.inl e,rfl,λb i e=>Fo (h.fz_lt e),(AC _ _).alloc h.bnd _,λ_ _ _=>rfl,C6 _⟩;simp only[Gh.new]
 split
 ·next e'=>subst e';rw[(h.nxt _ (C6 _)).1]at e;cases e
 exact e
def heap_alloc {w:Is}{o:Obj}{b:Nat}(h:b<w.heap.size):(w.alloc o).heap[b]? =w.heap[b]? :=Below.heap_alloc w o b h
def DA{o:Obj}:(w.alloc o).heap[w.heap.size]? =some o:=by
 show(w.heap.push _)[w.heap.size]? =_
 simp
def TG{g':Gh}{H H':A5}{id:Nat}(h:H' id=H id)(p:g'.mu id=g.mu id)(a:g'.tk id=g.tk id)(X:g'.ow id=g.ow id:=by rfl):g'.at H' id=g.at H id:=by
 simp_all[Gh.at]
def Rl.newNamed{H:A5}(h:Rl g H w)(o:Obj)(k:FV)(S:k≠ .spare)
 (d:EI (g.new w False 0) (w.alloc o) g.nx k)(N:∀sz xs,k≠ .arr sz xs:=by intro _ _ h;cases h):Rl (g.new w False 0) (upd H g.nx (some k)) (w.alloc o):=by
 have s:=Al.new h o False 0;have c:=h.nxt g.nx (C6 _)
 have i:∀id,id≠g.nx->(g.new w False 0).at (upd H g.nx (some k)) id=g.at H id:=λid U=>
  TG (C8 _ _ U) (by grind[Gh.new]) rfl
 have l:(g.new w False 0).at (upd H g.nx (some k)) g.nx=some w.heap.size:=by
  cases k<;>simp_all[Gh.at,E7,Gh.new]
 refine⟨λid b W=>?_,λid x b O Z=>?_,λb o q=>?_,λid U=>?_,?_,λn=>(h.glb n).mono s⟩
 ·by_cases U:id=g.nx
  ·grind[upd]
  rw[C8 _ _ U]at W
  refine(h.blk id b W).mono W s λb' r=>⟨heap_alloc (h.lt r),λo X=>?_⟩
  grind[Gh.new]
 ·by_cases U:id=g.nx<;>by_cases a:x=g.nx
  ·rw[U,a]
  ·subst U;rw[l]at O;rw[i _ a]at Z;cases O;exact absurd (h.lt Z) (Y0 _)
  ·subst a;rw[l]at Z;rw[i _ U]at O;cases Z;exact absurd (h.lt O) (Y0 _)
  rw[i _ U]at O;rw[i _ a]at Z;exact h.inj _ _ _ O Z
 ·rcases q with q|⟨t,_⟩
  ·exact zbk
  omega
 ·have a:g.nx<=id:=LU U
  have y:id≠g.nx:=λe=>by grind[Gh.new]
  have⟨f,m,p⟩:=h.nxt id a
  grind[Gh.new,upd]
 have:=h.bnd;simp[Gh.new];omega
def Rl.newFrozen{H:A5}(h:Rl g H w)(c:SI HO)(T:Do)(n:Nat)(E:n<=c.size):
 Rl (g.new w True n) H (w.alloc (.cells c T)):=by
 have s:=Al.new h (.cells c T) True n
 have a:∀id b,(g.new w True n).at H id=some b->g.at H id=some b:=by
  intro id b W
  cases S:H id with
  |none=>simp_all[Gh.at]
  |some k=>
   have x:id≠g.nx:=λe=>by subst e;rw[(h.nxt _ (C6 _)).2.2]at S;cases S
   rwa[TG (g:=g) (g':=g.new w True n) (H:=H) (H':=H) rfl (by grind[Gh.new]) rfl]at W
 refine⟨λid b W=>?_,λid y b O Z=>h.inj _ _ _ (a _ _ O) (a _ _ Z),λb o q=>?_,λid U=>?_,?_,λn=>(h.glb n).mono s⟩
 ·refine(h.blk id b W).mono W s λb' i=>⟨heap_alloc (h.lt i),λo X=>?_⟩
  rcases X with X|⟨_,e,_⟩
  ·exact X
  subst e;exact absurd (h.lt i) (Y0 _)
 ·rcases q with q|⟨_,e,X⟩
  ·exact zbk
  subst e
  have:o<c.size:=AY
  simp_all
 ·have l:g.nx<=id:=LU U
  have r:id≠g.nx:=λe=>by grind[Gh.new]
  have⟨N,d,f⟩:=h.nxt id l
  simp_all[Gh.new]
 have:=h.bnd;simp[Gh.new];omega
def Aj7{b:Nat}{o:Obj}(h:w.heap[b]? =some o):b<w.heap.size:=by
 grind
def S3 (w:Is)(g:Nat)(cs:SI HO)(k:Nat)(h:k≠g):(w.setRow g cs).heap[k]? =w.heap[k]? :=by
 simp only[World.setRow,Jt];rw[A1 AY]
theorem EG (w:Is)(b:Nat)(cs:SI HO)(k o:Nat)(h:k≠b):(w.setRow b cs).cell? ⟨k,o,none⟩=w.cell? ⟨k,o,none⟩:=
 World.cell?_of_block (w:=w) (a:=⟨k,o,none⟩) (S3 w b cs k h)
def Kw{B:Nat}(w:Is)(b:Nat)(cs:SI HO)(h:B<=b):Below B w (w.setRow b cs):=
 ⟨rfl,rfl,rfl,TQ,λk S=>S3 w b cs k AY⟩
def Rl.setNamed{H:A5}(h:Rl g H w){id b:Nat}{cs':Up V}{c c':SI HO}{T:Do}(S:H id=some (.cells cs))(W:g.mu id=some b)
 (m:w.heap[b]? =some (.cells c T (0,0)))(u:c'.size=c.size)(B:cs'.length=cs.length)
 (f:∀j,j<cs'.length->(c'.getD j undef).oneCell'=true/\VR g w (c'.getD j undef) (cs'.getD j .bad)):
 Al g w g (w.setRow b c')/\Rl g (upd H id (some (.cells cs'))) (w.setRow b c'):=by
 have⟨b',d,A,O,Z,p,F,G,t⟩:=h.blk id _ S
 have e:b'=b:=by rw[W]at O;simp_all
 subst e
 rw[m]at p
 have e2:d=c:=Pw
 subst e2
 have s:Al g w g (w.setRow b' c'):=by
  refine⟨λ_ _ e=>e,λ_ _ e=>e,λ_ _ e=>e,rfl,λb o q=>?_,Kw w b' c' Z,λ_ _ _=>rfl,C6 _⟩
  have r:b≠b':=λe=>TQ
  grind[EG]
 have i:∀x,g.at (upd H id (some (.cells cs'))) x=g.at H x:=by
  exact Px
 have l:g.at H id=some b':=by simp_all[Gh.at]
 refine⟨s,λx k M=>?_,λx x' y O Z=>h.inj x x' y (i x▸O) (i x'▸Z),λy o q=>?_,λx M=>?_,?_,λn=>(h.glb n).mono s⟩
 ·by_cases a:x=id
  ·subst a;rw[E7]at M;cases M
   refine⟨b',c',T,W,Z,setRow_heap w b' d c' T (0,0) m,AY,λj z=>⟨(f j z).1,(f j z).2.mono s⟩,t⟩
  rw[C8 _ _ a]at M
  refine(h.blk x k M).mono M s λy I=>⟨S3 w b' c' y λe=>?_,λ_ X=>X⟩;subst e;exact a (h.inj _ _ _ I l)
 ·have⟨v,N⟩:=h.frz y o q;exact⟨v,(s.cell y o q).trans N⟩
 ·have⟨C,D,E⟩:=h.nxt x M
  have r:x≠id:=λe=>TQ
  simp_all[upd]
 have:=h.bnd;simp_all
def Rl.freeze{H:A5}(h:Rl g H w){id:Nat}(S:H id=some (.cells cs)):
 ∃g',Al g w g' w/\Rl g' (upd H id none) w/\∀v off,VR g w v (.ref id off)->VR g' w v (.eref cs off):=by
 have⟨b,c,T,O,Z,d,B,N,C⟩:=h.blk id _ S
 let g':Gh:={g with fz:=λx o=>g.fz x o\/(x=b/\o<c.size)}
 have s:Al g w g' w:=⟨λ_ _ e=>e,λ_ _ e=>e,λ_ _ e=>.inl e,rfl,λ_ _ _=>rfl,AC _ _,λ_ _ _=>rfl,C6 _⟩
 have r:g.at H id=some b:=by simp_all[Gh.at]
 have a:∀o,w.cell? ⟨b,o,none⟩=c[o]? :=λo=>by simp[World.cell?,d]
 have i:∀x y,g'.at (upd H id none) x=some y->x≠id/\g.at H x=some y:=by
  exact Px
 refine⟨g',s,⟨λx k M=>?_,λx x' y O Z=>h.inj _ _ _ (i _ _ O).2 (i _ _ Z).2,λy o q=>?_,λx M=>?_,h.bnd,λn=>(h.glb n).mono s⟩,λv off m=>?_⟩
 ·have l:x≠id:=λe=>by simp_all[upd]
  rw[C8 _ _ l]at M
  refine(h.blk x k M).mono M s λy I=>⟨rfl,λo X=>?_⟩
  rcases X with X|⟨e,_⟩
  ·exact X
  subst e;exact absurd (h.inj _ _ _ I r) l
 ·rcases q with q|⟨e,X⟩
  ·exact h.frz y o q
  simp_all
 ·have⟨t,u,A⟩:=h.nxt x M
  have f:x≠id:=λe=>TQ
  grind[upd]
 cases m with
 | ref p=>
  rw[O]at p;cases p
  have:=VR.eref (g:=g') (w:=w) (b:=b) (o:=0) (off:=off) (cs:=cs) (λj=>c.getD j undef) (λj z=>.inr ⟨rfl,AY⟩)
   (λj z=>by rw[a];simp_all) (λj z=>(N j z).1) (λj z=>(N j z).2.mono s)
  simp_all
def BR4:TypeDesc->Bool
 | .struct _=>true
 | .array _ _=>true
 |_=>false
def Hk (P:If)(t:Do):OS Nat:=(P.info? t).map (·.size)
def UI (P:If)(t:Do):OS Nat:=(P.info? t).map (·.bytes)
def ZC (P:If)(t:Do):OS Bool:=(P.underlying t).map BR4
def Ic (P:If)(t:Do):OS TypeId:=
 match P.underlying t with
 |some (.slice e)=>some e
 |_=>none
def Qs (P:If)(t:Do):OS (Nat×Do):=
 match P.underlying t with
 |some (.array n e)=>some (n,e)
 |_=>none
def PM (P:If)(t:Do):Bool:=
 match P.underlying t with
 |some .string=>true
 |_=>false
def ifO (P:If)(t:Do):Bool:=
 match P.underlying t with
 |some (.interface _)=>true
 |none=>true
 |_=>false
def fdO (P:If) (t:Do) (f:Nat):OS (Nat×Do):=
 match P.underlying t with
 |some (.struct fs)=>
  match fs[f]? with
  |some x=>if(Hk P x.type).getD 0=0 then none else some (x.offset,x.type)
  |none=>none
 |_=>none
def cv1:HO->V
 | .bool b=>.bool b
 | .int k n=>.int k n
 | .string s=>.str s
 | .pointer none=>.nilp
 | .slice none 0 0=>.sl [] .nil
 | .map none=>.nilmap
 | .nilFunc=>.nilf
 | .nilIface=>.nili
 |_=>.bad
def cv:HO->V
 | .agg cs=>if cs.all Value.oneCell' then .agg (cs.toList.map cv1)else .bad
 | .func (.func f) fs cs=>if fs.size=0/\cs.size=0 then .func (.func f) [] []else .bad
 |v=>cv1 v
def Lr (P:If)(t:Do):OS V:=((P.info? t).bind (·.zero)).map cv
theorem Ba6 (g:Gh)(w:Is)(v:HO):VR g w v (cv1 v):=by
 unfold cv1
 split<;>first|exact .sl0 rfl|constructor
theorem GL (g:Gh) (w:Is) (v:HO):VR g w v (cv v):=by
 unfold cv
 split
 ·next cs=>
  split
  ·next h=>
   have a:∀i,i<cs.size->(cs.getD i undef).oneCell'=true:=λi U=>by
    have:=(Array.all_eq_true.1 h) i U
    simp_all
   refine .agg OC (λi U=>a i Pw) λi U=>?_
   have b:i<cs.size:=Pw
   have:(cs.toList.map cv1).getD i .bad=cv1 (cs.getD i undef):=by
    simp_all
   rw[this];grind[Ba6]
  exact .bad _
 ·split
  ·next f fs cs h=>exact .func Pw (λi U=>by simp at U) Pw (λi U=>by simp at U)
  exact .bad _
 grind[Ba6]
def ev (fr:Fr):By->V
 | .tmp t=>fr.s t
 | .const v=>cv v
 | .global n=>O7.gl n
 | .func f=>.func (.func f) [] []
def ER (g:Gh)(w:Is)(a:Act)(fr:Fr):Prop:=∀t,VR g w (a.tmps.getD t undef) (fr.s t)
theorem G2{H:A5}{fr:Fr}(C:Rl g H w)(h:ER g w a fr)(x:By):VR g w (a.eval x) (ev fr x):=by
 cases x with
 |tmp t=>exact h t
 |const v=>exact GL g w v
 |global n=>exact C.glb n
 |func f=>exact .func rfl (λi U=>by simp at U) rfl (λi U=>by simp at U)
def ER.mono {g g':Gh}{w w':Is}{a:Act}{fr:Fr}(h:ER g w a fr)(s:Al g w g' w'):ER g' w' a fr:=λt=>(h t).mono s
def J3 (P:If)(K:HO->Is->Prop):Result Next->Prop
 | .ok (.value v) w=>K v w
 | .ok .skip w=>K undef w
 | .ok (.enter f args) w=>CallsIn Fence.wide 0 P f args w λe w'=>∃v,e= .returned v/\K v w'
 | .ok (.round l f b a body) w=>RoundIn Fence.wide 0 P l f b a body w λe w'=>∃v,e= .returned v/\K v w'
 |_=>False
def O6 (g:Gh)(w:Is)(K:V->A5->Prop)(v:HO)(w':Is):Prop:=
 ∃g' x H',Al g w g' w'/\Rl g' H' w'/\VR g' w' v x/\K x H'
def K0 (P:If)(o:Oper)(fr:Fr)(H:A5)(K:V->A5->Prop):Prop:=
 ∀g w a,Rl g H w->ER g w a fr->J3 P (O6 g w K) ((execOp a.eval o).run P w)
theorem O6.here{H:A5}{K:V->A5->Prop}{v:HO}(C:Rl g H w)(j:VR g w v x)(h:K x H):O6 g w K v w:=
 ⟨g,x,H,Al.refl _ _,C,j,h⟩
section
variable {P:Program}{o:Oper}{fr:Fr}{H:A5}{K:V->A5->Prop}
theorem Ar0{x:By}(X:o.op= .move x)(h:K (ev fr x) H):K0 P o fr H K:=by
 exact zbl
theorem Xe{x:By}(X:o.op= .assign x)(h:K (ev fr x) H):K0 P o fr H K:=by
 exact zbl
theorem Br5{c x:By}{t:Bool}(X:o.op= .pick c x y)(d:ev fr c= .bool t)(h:K (if t then ev fr x else ev fr y) H):K0 P o fr H K:=by
 intro g w a C b;have W:=G2 C b c
 rw[d]at W
 have e:a.eval c= .bool t:=by generalize a.eval c=v at W;cases W;rfl
 unfold execOp;rw[X];simp only[e,asBool,B9,C7,B5,J3];cases t
 ·exact O6.here C (G2 C b y) h
 exact O6.here C (G2 C b x) h
def VR.int_inv{v:HO}{n:Int}(h:VR g w v (.int k n)):v= .int k n:=by cases h;rfl
def VR.bool_inv{v:HO}{b:Bool}(h:VR g w v (.bool b)):v= .bool b:=by cases h;rfl
def VR.str_inv{v:HO}{s:Uf}(h:VR g w v (.str s)):v= .string s:=by cases h;rfl
theorem VR.cells {g:Gh} {w:Is} {v:HO} {x:V} (h:VR g w v x) (O:x.one=true):
 v.cells.size=x.cells.length/\∀j,j<x.cells.length->(v.cells.getD j undef).oneCell'=true/\VR g w (v.cells.getD j undef) (x.cells.getD j .bad):=by
 cases h with
 |agg B a b=>exact⟨B,λj z=>⟨a j z,b j z⟩⟩
 |bad v=>simp[V.one]at O
 |tup B b=>simp[V.one]at O
 | _=>
  refine⟨rfl,λj z=>?_⟩
  have:j=0:=by simpa[V.cells]using z
  subst this;refine⟨rfl,?_⟩;simp only[V.cells,Value.cells,Pa]
  first
   |exact .bool _|exact .int _ _|exact .str _|exact .nilp|exact .nilf|exact .nili|exact .nilmap
   |(constructor<;>assumption)
   |(exact .sl0 Xb)
   |(exact .sl _ Xb Xb Xb Xb Xb Xb Xb Xb)
   |(exact .func Xb Xb Xb Xb)
   |(exact .eref _ Xb Xb Xb Xb)
end
def Im (a:Bool)(sz:Nat)(cs:Up V)(off:Nat):OS V:=
 if a then(if off+sz<=cs.length then some (.agg ((cs.drop off).take sz))else none)else cs[off]?
def Z7 (cs:Up V)(off:Nat)(xs:Up V):Up V:=cs.take off++(xs++cs.drop (off+xs.length))
def Mu (P:If) (H:A5) (t:Do) (v:V):OS V:=
 match ZC P t,Hk P t,v with
 |some a,some sz,.eref cs off=>Im a sz cs off
 |some a,some sz,.ref id off=>
  match H id with
  |some (.cells cs)=>Im a sz cs off
  |_=>none
 |_,_,_=>none
def Rx (P:If) (H:A5) (t:Do) (v x:V):OS A5:=
 match Hk P t,v with
 |some sz,.ref id off=>
  match H id with
  |some (.cells cs)=>if x.one=true/\x.cells.length=sz/\off+sz<=cs.length then some (upd H id (some (.cells (Z7 cs off x.cells))))else none
  |_=>none
 |_,_=>none
def An5 (g:Gh)(w:Is)(b o:Nat)(cs:Up V):Prop:=
 ∀j,j<cs.length->∃v,w.cell? ⟨b,o+j,none⟩=some v/\v.oneCell'=true/\VR g w v (cs.getD j .bad)
theorem Bz (b o n:Nat):(⟨b,o,none⟩:Addr).add n=⟨b,o+n,none⟩:=by
 unfold Addr.add;split<;>simp_all
section
variable {P:Program}{o:Oper}{fr:Fr}{H:A5}{K:V->A5->Prop}
def PF{a:Bool}(h:ZC P t=some a)(w:Is):(isAgg t).run P w= .ok a w:=by
 unfold ZC at h
 cases b:P.underlying t with
 |none=>grind
 |some d=>
  simp only[b,K1,E5]at h
  unfold isAgg;rw[B9,run_underlying b w];subst h;cases d<;>rfl
def T5{sz:Nat}(h:Hk P t=some sz)(w:Is):(sizeOf t).run P w= .ok sz w:=by
 unfold Hk at h
 cases U:P.info? t with
 |none=>grind
 |some i=>simp[U]at h;simp[sizeOf,typeInfo,U,h]
def KX{b q:Nat}(d:An5 g w b q cs){l:Bool}{sz off:Nat}(u:ZC P t=some l)(G:Hk P t=some sz)
 (f:Im l sz cs off=some x):∃v,(loadVar t ⟨b,q+off,none⟩).run P w= .ok v w/\VR g w v x:=by
 unfold loadVar;rw[B9,PF u w];simp only[B5]
 cases l with
 | true=>
  simp only[Im,B4]at f
  split at f
  ·next hle=>
   cases f
   have y:∀j,j<sz->w.cell? ((⟨b,q+off,none⟩:Addr).add j)=some ((w.cell? ⟨b,q+off+j,none⟩).getD undef):=by
    intro j z;have⟨v,h,_⟩:=d (off+j) AY;rw[Bz,show q+off+j=q+(off+j) by omega,h];rfl
   refine⟨.agg ((List.range sz).map λj=>(w.cell? ⟨b,q+off+j,none⟩).getD undef).toArray,?_,?_⟩
   ·simp_all[T5,run_loadCells]
   refine .agg ?_ (λi U=>?_) λi U=>?_
   ·simp;omega
   ·have a:i<sz:=Pw
    have⟨v,h,O,_⟩:=d (off+i) AY
    have:(((List.range sz).map λj=>(w.cell? ⟨b,q+off+j,none⟩).getD undef).toArray).getD i undef=v:=by
     exact zcc
    rw[this];exact O
   have a:i<sz:=Pw
   have⟨v,h,_,Z⟩:=d (off+i) AY
   have:(((List.range sz).map λj=>(w.cell? ⟨b,q+off+j,none⟩).getD undef).toArray).getD i undef=v:=by
    exact zcc
   rw[this]
   have e:((cs.drop off).take sz).getD i .bad=cs.getD (off+i) .bad:=by
    grind
   rw[e];exact Z
  cases f
 | false=>
  simp only[Im,D4,B6]at f
  have r:off<cs.length:=by
   grind
  have⟨v,h,_,Z⟩:=d off r
  simp_all
def VO{id b:Nat}(C:Rl g H w)(S:H id=some (.cells cs))(W:g.mu id=some b):An5 g w b 0 cs:=by
 have⟨b',c,T,O,Z,h,i,e,l⟩:=C.blk id _ S
 rw[W]at O;cases O
 intro j z
 have a:j<c.size:=AY
 refine⟨c.getD j undef,?_,(e j z).1,(e j z).2⟩;simp[World.cell?,h,Array.getD,a]
theorem Bs1(X:o.op= .load t y)(B:Mu P H t (ev fr y)=some x)(h:K x H):K0 P o fr H K:=by
 intro g w a C N;have i:=G2 C N y
 unfold Mu at B
 split at B
 ·next ag sz cs off ha hs he=>
  rw[he]at i
  generalize e:a.eval y=v at i
  cases i with
  |eref vs c m O r=>
   rename_i b q;have⟨u,l,Q⟩:=KX (P:=P) (g:=g) (w:=w) (b:=b) (q:=q) (cs:=cs) (λj z=>⟨vs j,m j z,O j z,r j z⟩) ha hs B;unfold execOp;rw[X];simp only[e,Instr.loadAt,Instr.sureAddr,B9,C7,B5,l,J3]
   exact F7
 ·next ag sz id off ha hs he=>
  rw[he]at i
  generalize e:a.eval y=v at i
  cases i with
  | ref p=>
   rename_i b
   split at B
   ·next cs hk=>
    have⟨u,l,Q⟩:=KX (P:=P) (VO C hk p) ha hs B
    rw[P0]at l
    unfold execOp;rw[X];simp only[e,Instr.loadAt,Instr.sureAddr,B9,C7,B5,l,J3]
    exact F7
   cases B
 cases B
theorem Dd{off:Nat}(h:off+xs.length<=cs.length):(Z7 cs off xs).length=cs.length:=by
 grind[Z7]
def My{off j:Nat}(h:off+xs.length<=cs.length):
 (Z7 cs off xs).getD j .bad=if off<=j/\j<off+xs.length then xs.getD (j-off) .bad else cs.getD j .bad:=by
 grind[Z7]
def ZO{z:By}{N:V}{H':A5}(X:o.op= .store t y z)(m:∀g w v,VR g w v (ev fr z)->VR g w v N)(B:Rx P H t (ev fr y) N=some H')(h:K .bad H'):K0 P o fr H K:=by
 intro g w a C E;have x:=G2 C E y;have Y:=m _ _ _ (G2 C E z)
 unfold Rx at B
 split at B
 ·next sz id off hs he=>
  rw[he]at x
  generalize f:a.eval y=v at x
  cases x with
  | ref p=>
   rename_i b
   split at B
   ·next cs hk=>
    split at B
    ·next hcond=>
     have⟨r,i,F⟩:=hcond;cases B;have⟨q,s⟩:=Y.cells r;have⟨b',c,T,O,Z,D,M,Q,R⟩:=C.blk id _ hk
     rw[p]at O;cases O
     have A:(a.eval z).cells.size=sz:=by rw[q,i]
     have l:∀v∈(a.eval z).cells.toList,v.oneCell'=true:=by
      intro v x;obtain⟨j,G,rfl⟩:=R4 x
      have J:j<(a.eval z).cells.size:=AY
      have:=(s j AY).1
      simp_all
     have u:=run_storeCells_at P b off T (a.eval z).cells.toList 0 c w D Ts l
     have e:=C.setNamed (cs':=Z7 cs off N.cells) (c':=(c.toList.take (off+0)++(a.eval z).cells.toList++c.toList.drop (off+0+(a.eval z).cells.toList.length)).toArray)
      hk p D Ts (Dd AY) (λj G=>by
       rw[Dd AY]at G
       rw[My AY]
       have d:((c.toList.take (off+0)++(a.eval z).cells.toList++c.toList.drop (off+0+(a.eval z).cells.toList.length)).toArray).getD j undef=
        if off<=j/\j<off+N.cells.length then(a.eval z).cells.getD (j-off) undef else c.getD j undef:=by
        have L:j<c.size:=AY
        simp only[Cw,Q0,Z6,E1];rw[EM,EM];simp only[EV,LY,LO (show off<=c.size by omega),LW,LV,EP]
        by_cases I:j<off
        ·rw[A2 I,A2 I,A1 AY]
        grind
       rw[d]
       grind)
     unfold execOp;rw[X];simp only[f,Instr.storeAt,Instr.sureAddr,storeVar,B9,C7,B5,T5 hs w,A,ne_eq,Y2,B6,u,J3];exact⟨g,.bad,_,e.1,e.2,.bad _,h⟩
    cases B
   cases B
 cases B
end
def Bn0 (v:V)(n:Nat):OS V:=
 match v with
 | .eref cs off=>some (.eref cs (off+n))
 | .ref id off=>some (.ref id (off+n))
 | .elem id i sz off=>some (.elem id i sz (off+n))
 |_=>none
def Li (P:If)(t:Do)(v:V)(f:Nat):OS V:=
 match fdO P t f with
 |some (off,_)=>Bn0 v off
 |none=>none
def Yr (P:If) (t:Do) (v:V) (f:Nat):OS V:=
 match fdO P t f,v with
 |some (off,a),.agg cs=>
  match ZC P a,Hk P a with
  |some b,some sz=>Im b sz cs off
  |_,_=>none
 |_,_=>none
def GJ (P:If)(t:Do)(v:V)(i:Int):OS V:=
 match Ic P t,Qs P t,v with
 |some e,_,.sl xs _=>if(0<=i/\i<xs.length)/\Hk P e=some (xs.getD i.toNat .bad).cells.length then some (.eref (xs.getD i.toNat .bad).cells 0)else none
 |none,some (n,e),v=>if 0<=i/\i<n then(Hk P e).bind λsz=>Bn0 v (i.toNat*sz)else none
 |_,_,_=>none
def Uy (P:If) (t:Do) (v:V) (i:Int):OS V:=
 match Qs P t,v with
 | some (n,e),.agg cs=>
  if 0<=i/\i<n then
   match ZC P e,Hk P e with
   |some a,some sz=>Im a sz cs (i.toNat*sz)
   |_,_=>none
  else none
 |none,.str s=>if PM P t=true/\0<=i then(s[i.toNat]?).map λb=>.int .u8 b.toNat else none
 |_,_=>none
section
variable {P:Program}{o:Oper}{fr:Fr}{H:A5}{K:V->A5->Prop}
def AE7{v:HO}{y:V}{n:Nat}(h:VR g w v x)(I:Bn0 x n=some y):
 ∃b q,v= .pointer (some ⟨b,q,none⟩)/\VR g w (.pointer (some ⟨b,q+n,none⟩)) y:=by
 unfold Bn0 at I
 split at I
 ·cases I
  cases h with
  |eref vs a m O j=>exact⟨_,_,rfl,by rw[Cy];exact .eref vs a m O j⟩
 ·cases I
  cases h with
  |ref p=>exact⟨_,_,rfl,.ref p⟩
 ·cases I
  cases h with
  |elem p G=>exact⟨_,_,rfl,by rw[Cy];exact .elem p G⟩
 cases I
theorem eds{f:Nat}(X:o.op= .fieldAddr t y f)(B:Li P t (ev fr y) f=some x)(h:K x H):K0 P o fr H K:=by
 intro g w a C l;have j:=G2 C l y
 unfold Li at B
 split at B
 ·next off ft hfd=>
  have⟨b,q,i,Q⟩:=AE7 j B
  unfold fdO at hfd
  split at hfd
  ·next fs hu=>
   split at hfd
   ·next x' hx=>
    split at hfd
    ·cases hfd
    next hne=>
    cases hfd
    cases G:Hk P x'.type with
    |none=>simp_all
    |some sz=>
     have e:sz≠0:=TQ
     unfold execOp;rw[X];simp only[i,Instr.fieldAt,Instr.sureAddr,fieldPlace,B9,C7,B5,run_underlying hu,hx,T5 G,e,B6,J3,Bz]
     exact F7
   cases hfd
  cases hfd
 cases B
def Au6{vs:SI HO}{a:Bool}{sz off:Nat}(j:VR g w (.agg vs) (.agg cs))(u:ZC P t=some a)(G:Hk P t=some sz)
 (f:Im a sz cs off=some x):∃v,(part t vs off).run P w= .ok v w/\VR g w v x:=by
 cases j with
 | agg B O j=>
  unfold part;rw[B9,PF u w];simp only[B5]
  cases a with
  | true=>
   simp only[Im,B4]at f
   split at f
   ·next hle=>
    cases f;refine⟨.agg (vs.extract off (off+sz)),by simp_all[T5],.agg Ts (λi U=>?_) λi U=>?_⟩
    all_goals
     have b:i<sz:=by simp at U;omega
     have r:(vs.extract off (off+sz)).getD i undef=vs.getD (off+i) undef:=by
      simp only[Q0,Pl];rw[A2 AY]
     have e2:((cs.drop off).take sz).getD i .bad=cs.getD (off+i) .bad:=by
      simp[List.getD,LV,b]
    ·rw[r];grind
    grind
   cases f
  | false=>
   simp only[Im,D4,B6]at f
   have h:off<cs.length:=by
    grind
   have l:off<vs.size:=AY
   refine⟨vs.getD off undef,TQ,?_⟩;have e:=j off h
   have:cs.getD off .bad=x:=TQ
   rw[this]at e;exact e
theorem Bf0{f:Nat}(X:o.op= .field t y f)(B:Yr P t (ev fr y) f=some x)(h:K x H):K0 P o fr H K:=by
 intro g w a C l;have j:=G2 C l y
 unfold Yr at B
 split at B
 ·next off ft cs hfd he=>
  split at B
  ·next ag sz ha hs=>
   rw[he]at j
   generalize b:a.eval y=v at j
   cases j with
   | agg e O i=>
    rename_i vs;have⟨u,r,Q⟩:=Au6 (P:=P) (VR.agg e O i) ha hs B
    unfold fdO at hfd
    split at hfd
    ·next fs hun=>
     split at hfd
     ·next x' hx=>
      split at hfd
      ·cases hfd
      cases hfd;unfold execOp;rw[X];simp only[b,Instr.field,asAgg,B9,C7,B5,run_underlying hun,hx,r,J3]
      exact F7
     cases hfd
    cases hfd
  cases B
 cases B
def U7{e:Do}(h:Ic P t=some e):P.underlying t=some (.slice e):=by
 grind[Ic]
def TH{e:Do}{n:Nat}(h:Qs P t=some (n,e)):P.underlying t=some (.array n e):=by
 grind[Qs]
theorem inb{z:By}{i:Int}(X:o.op= .indexAddr t y z)(Y:ev fr z= .int k i)(B:GJ P t (ev fr y) i=some x)(h:K x H):
 K0 P o fr H K:=by
 intro g w a C J;have f:=G2 C J y;have U:=G2 C J z
 rw[Y]at U
 have U:=U.int_inv
 unfold GJ at B
 split at B
 ·next e _ xs tl c he=>
  have D:=U7 c
  split at B
  ·next d=>
   have⟨⟨L,O⟩,G⟩:=d;cases B
   rw[he]at f
   generalize r:a.eval y=v at f
   cases f with
   |sl0 M=>grind
   |sle M=>grind
   |sl vs E d I R m p F M=>
    rename_i b q sz n cap
    have l:i.toNat<n:=AY
    have A:sz=(xs.getD i.toNat .bad).cells.length:=(I _ l).symm;unfold execOp;rw[X]
    have N:i<(n:Int):=AY
    simp only[r,U,Instr.indexAt,asIntOf,B9,C7,B5,run_underlying D,L,N,and_self,B4,T5 G,J3,Bz];refine O6.here C ?_ h;rw[<-A];refine VR.eref (o:=q+i.toNat*sz) (off:=0) (vs i.toNat) (λj u=>R _ j l AY) (λj u=>m _ j l AY) (λj u=>p _ j l AY) λj u=>F _ j l AY
  cases B
 ·rename_i n e c s;have D:=TH s
  split at B
  ·next d=>
   cases G:Hk P e with
   |none=>grind
   |some sz=>
    simp only[G,A4]at B
    have⟨b,q,r,Q⟩:=AE7 f B;unfold execOp;rw[X];simp only[r,U,Instr.indexAt,Instr.sureAddr,asIntOf,B9,C7,B5,run_underlying D,d.1,d.2,and_self,B4,T5 G,J3,Bz]
    exact F7
  cases B
 cases B
theorem Be9{z:By}{i:Int}(X:o.op= .index t y z)(Y:ev fr z= .int k i)(B:Uy P t (ev fr y) i=some x)(h:K x H):
 K0 P o fr H K:=by
 intro g w a C f;have j:=G2 C f y;have U:=G2 C f z
 rw[Y]at U
 have U:=U.int_inv
 unfold Uy at B
 split at B
 ·next n e cs hae he=>
  have r:=TH hae
  split at B
  ·next hc=>
   split at B
   ·next ag sz ha hs=>
    rw[he]at j
    generalize b:a.eval y=v at j
    cases j with
    |agg l O d=>
     have⟨u,N,Q⟩:=Au6 (P:=P) (VR.agg l O d) ha hs B;unfold execOp;rw[X];simp only[b,U,Instr.index,asIntOf,B9,C7,B5,run_underlying r,hc.1,hc.2,and_self,B4,T5 hs,N,J3]
     exact F7
   cases B
  cases B
 ·next s hae he=>
  split at B
  ·next hc=>
   rw[he]at j
   have b:=j.str_inv
   cases W:s[i.toNat]? with
   |none=>grind
   | some c=>
    simp only[W,K1,E5]at B
    subst B
    have r:P.underlying t=some .string:=by
     have:=hc.1
     grind[PM]
    unfold execOp;rw[X];simp only[b,U,Instr.index,asIntOf,B9,C7,B5,run_underlying r,hc.2,B4,W,J3];exact Kl
  cases B
 cases B
theorem Ar5{n:Nat}(X:o.op= .extract y n)(R:ev fr y= .tup cs)(B:cs[n]? =some x)(h:K x H):K0 P o fr H K:=by
 intro g w a C N;have j:=G2 C N y
 rw[R]at j
 generalize i:a.eval y=v at j
 cases j with
 | tup G r=>
  rename_i vs
  have l:n<cs.length:=by
   grind
  have b:n<vs.size:=AY
  unfold execOp;rw[X];simp only[i,Instr.extract,DX b,B9,C7,B5,J3];have e:=r n l
  have t:vs.getD n undef=vs[n]:=TQ
  have e2:cs.getD n .bad=x:=TQ
  rw[t,e2]at e
  exact F7
def MH(C:Rl g H w){v:HO}(T:Do)(h:VR g w v x)(O:x.one=true):
 ∃g' id,H id=none/\Al g w g' (w.alloc (.cells v.cells T))/\Rl g' (upd H id (some (.cells x.cells))) (w.alloc (.cells v.cells T))/\
  VR g' (w.alloc (.cells v.cells T)) (.pointer (some ⟨w.heap.size,0,none⟩)) (.ref id 0):=by
 have s:=Al.new C (.cells v.cells T) False 0;have⟨b,a⟩:=h.cells O;refine⟨g.new w False 0,g.nx,(C.nxt _ (C6 _)).2.2,s,C.newNamed _ _ OC ?_,.ref (by simp[Gh.new])⟩;refine⟨w.heap.size,v.cells,T,by simp[Gh.new],C.bnd,DA,b,λj z=>⟨(a j z).1,(a j z).2.mono s⟩,λo X=>?_⟩
 rcases X with X|⟨e,_⟩
 ·exact absurd (C.fz_lt X) (Y0 _)
 exact e
def An0(C:Rl g H w){v:HO}(T:Do)(h:VR g w v x)(O:x.one=true):
 ∃g',Al g w g' (w.alloc (.cells v.cells T))/\Rl g' H (w.alloc (.cells v.cells T))/\
  VR g' (w.alloc (.cells v.cells T)) (.pointer (some ⟨w.heap.size,0,none⟩)) (.eref x.cells 0):=by
 have s:=Al.new C (.cells v.cells T) True v.cells.size;have⟨e,a⟩:=h.cells O;refine⟨g.new w True v.cells.size,s,C.newFrozen v.cells T v.cells.size (C6 _),?_⟩
 have:=VR.eref (g:=g.new w True v.cells.size) (w:=w.alloc (.cells v.cells T)) (b:=w.heap.size) (o:=0) (off:=0) (cs:=x.cells) (λj=>v.cells.getD j undef)
  (λj z=>.inr ⟨trivial,rfl,AY⟩) (λj z=>by rw[Tz];simp_all)
  (λj z=>(a j z).1) (λj z=>(a j z).2.mono s)
 omega
theorem Ai1(X:o.op= .box t y)(O:(ev fr y).one=true)(h:K (.eref (ev fr y).cells 0) H):K0 P o fr H K:=by
 intro g w a C i;have⟨g',s,b,e⟩:=An0 C t (G2 C i y) O;unfold execOp;rw[X];exact⟨g',_,_,s,b,e,h⟩
theorem rwB(X:o.op= .box t y)(O:(ev fr y).one=true)(h:∀id,H id=none->K (.ref id 0) (upd H id (some (.cells (ev fr y).cells)))):K0 P o fr H K:=by
 intro g w a C l;have⟨g',id,e,s,b,i⟩:=MH C t (G2 C l y) O;unfold execOp;rw[X];exact⟨g',_,_,s,b,i,h id e⟩
def Fu{z:V}(h:Lr P t=some z):∃v,z=cv v/\∀w,(zeroValue t).run P w= .ok v w:=by
 unfold Lr at h
 cases U:P.info? t with
 |none=>grind
 | some i=>
  cases Y:i.zero with
  |none=>simp_all
  |some v=>
   simp[U,Y]at h
   exact⟨v,h.symm,λw=>by simp[zeroValue,typeInfo,U,Y]⟩
def Bf5{z:V}(X:o.op= .alloc t)(Y:Lr P t=some z)(O:z.one=true)(h:∀id,H id=none->K (.ref id 0) (upd H id (some (.cells z.cells)))):K0 P o fr H K:=by
 intro g w a C r;have⟨v,e,j⟩:=Fu Y
 have Q:VR g w v z:=by rw[e];simp[GL]
 have⟨g',id,i,s,b,l⟩:=MH C t Q O;unfold execOp;rw[X];simp only[Instr.alloc,B9,j,B5,J3];exact⟨g',_,_,s,b,l,h id i⟩
end
def Qk (a:Nat->OS (Nat×Nat)) (cs:Up V):Up (Nat×V)->OS (Up V)
 |[]=>some cs
 |(i,v)::rest=>
  match a i with
  |none=>none
  |some (off,size)=>if v.one=true/\v.cells.length=size/\off+size<=cs.length then Qk a (Z7 cs off v.cells) rest else none
def SO (P:If)(t:Do):OS (Up (Nat×Nat)):=
 match P.underlying t with
 |some (.struct a)=>a.toList.mapM (λf=>(P.info? f.type).map λi=>(f.offset,i.size))
 |_=>none
def UK (P:If) (t:Do) (a:Up (Nat×V)):OS V:=
 match Qs P t,SO P t,Lr P t with
 |some (_,e),_,some (.agg cs)=>
  match Hk P e with
  |some sz=>(Qk (λi=>some (i*sz,sz)) cs a).map .agg
  |none=>none
 |none,some pl,some (.agg cs)=>(Qk (pl[·]?) cs a).map .agg
 |_,_,_=>none
def Fa (sz:Nat):Nat->Up (Nat×V)->Bool
 |_,[]=>true
 |k,(i,v)::rest=>i==k&&v.one&&v.cells.length==sz&&Fa sz (k+1) rest
def CR (P:If) (t:Do) (n:Nat) (a:Up (Nat×V)):OS V:=
 match Ic P t with
 |some e=>
  match Hk P e,Lr P e with
  |some sz,some _=>if n*sz<=16777216/\a.length=n/\Fa sz 0 a=true then some (.sl (a.map (λq=>q.2)) .full)else none
  |_,_=>none
 |none=>none
section
variable {P:Program}{o:Oper}{fr:Fr}{H:A5}{K:V->A5->Prop}
def VE (off:Nat):∀(l:Up HO) (k:Nat) (c:SI HO),off+k+l.length<=c.size->
 let R:=(l.zipIdx k).foldl (λcs (x:HO×Nat)=>cs.setIfInBounds (off+x.2) x.1) c
 R.size=c.size/\∀j,R.getD j undef=if off+k<=j/\j<off+k+l.length then l.getD (j-(off+k)) undef else c.getD j undef
 |[],k,c,_=>⟨rfl,λj=>by rw[A1 TQ];rfl⟩
 | v::l,k,c,h=>by
  have B:off+(k+1)+l.length<=(c.setIfInBounds (off+k) v).size:=Pw
  have ih:=VE off l (k+1) (c.setIfInBounds (off+k) v) B
  simp only[List.zipIdx_cons,DN]at ih ⊢
  refine⟨ih.1.trans OC,λj=>?_⟩;rw[ih.2 j];simp only[K8]
  by_cases O:off+(k+1)<=j/\j<off+(k+1)+l.length
  ·rw[A2 O,A2 AY,show j-(off+k)=(j-(off+(k+1)))+1 by omega];rfl
  rw[A1 O]
  by_cases Z:j=off+k
  ·subst Z;rw[A2 AY]
   simp at h
   simp[Array.getD,show off+k<c.size by omega]
  rw[A1 AY];simp only[Q0,Iq];rw[A1 AY]
def cf136 (off:Nat) (v:HO) (c:SI HO) (h:off+v.cells.size<=c.size):
 let R:=v.cells.zipIdx.foldl (λcs (x:HO×Nat)=>cs.setIfInBounds (off+x.2) x.1) c
 R.size=c.size/\∀j,R.getD j undef=if off<=j/\j<off+v.cells.size then v.cells.getD (j-off) undef else c.getD j undef:=by
 have:=VE off v.cells.toList 0 c AY
 simp only[Cw,LY]at this
 have e:v.cells.zipIdx.foldl (λcs (x:HO×Nat)=>cs.setIfInBounds (off+x.2) x.1) c=
  (v.cells.toList.zipIdx 0).foldl (λcs (x:HO×Nat)=>cs.setIfInBounds (off+x.2) x.1) c:=by
  rw[<-Array.foldl_toList];simp
 simp_all
def Wc (g:Gh)(w:Is)(c:SI HO)(cs:Up V):Prop:=
 c.size=cs.length/\∀j,j<cs.length->(c.getD j undef).oneCell'=true/\VR g w (c.getD j undef) (cs.getD j .bad)
def VR.row{v:HO}(h:VR g w v (.agg cs)):∃c,v= .agg c/\Wc g w c cs:=by
 cases h with
 |agg B O j=>simp_all[Wc]
def Wc.agg {g:Gh}{w:Is}{c:SI HO}{cs:Up V}(h:Wc g w c cs):VR g w (.agg c) (.agg cs):=
 .agg h.1 (λj z=>(h.2 j z).1) λj z=>(h.2 j z).2
inductive UP (g:Gh) (w:World):List (Nat×Value)->List (Nat×V)->Prop
 |nil:UP g w [] []
 |cons {i:Nat} {v:Value} {x:V} {l:List (Nat×Value)} {m:List (Nat×V)} (h:VR g w v x) (r:UP g w l m):UP g w ((i,v)::l) ((i,x)::m)
def AJ9 {g:Gh}{w:Is}{H:A5}{a:Act}(C:Rl g H w)(b:ER g w a fr):∀l:Up (Nat×By),UP g w (l.map λx=>(x.1,a.eval x.2)) (l.map λx=>(x.1,ev fr x.2))
 |[]=>.nil
 |x::l=>.cons (G2 C b x.2) (AJ9 C b l)
def AA0{a:Nat->OS (Nat×Nat)}(f:UP g w l m):∀{c:SI HO} {cs ds:Up V},Wc g w c cs->Qk a cs m=some ds->
 ∃d,Instr.fill a c l=some d/\Wc g w d ds:=by
 induction f with
 |nil=>intro c cs ds Q h;simp only[Qk,E5]at h;subst h;exact⟨c,rfl,Q⟩
 | @cons i v x l m N _ ih=>
  intro c cs ds Q h
  simp only[Qk]at h
  cases b:a i with
  |none=>grind
  | some p=>
   have⟨off,size⟩:=p
   simp only[b]at h
   split at h
   ·next hc=>
    have⟨O,Z,T⟩:=hc;have⟨y,s⟩:=N.cells O;have q:=cf136 off v c (by rw[y,Q.1];omega)
    have e:Wc g w (v.cells.zipIdx.foldl (λcs (x:HO×Nat)=>cs.setIfInBounds (off+x.2) x.1) c) (Z7 cs off x.cells):=by
     refine⟨by rw[q.1,Dd AY,Q.1],λj z=>?_⟩
     rw[Dd AY]at z
     rw[q.2 j,My AY,y]
     split
     ·grind
     exact Q.2 j z
    have⟨d,hd,r⟩:=ih e h;refine⟨d,?_,r⟩;simp only[Instr.fill,b];rw[A1]
    ·exact hd
    simp only[y,Z,Q.1,ne_eq,Y2,LF,Jg,B3];omega
   cases h
def Ao0{z:V}(h:Lr P t=some z):∃i v,P.info? t=some i/\i.zero=some v/\z=cv v:=by
 unfold Lr at h
 cases U:P.info? t with
 |none=>grind
 |some i=>
  cases Y:i.zero with
  |none=>simp_all
  |some v=>simp_all
theorem Bf3{b:SI (Nat×By)}(X:o.op= .build t b)(B:UK P t (b.toList.map λ(p:Nat×By)=>(p.1,ev fr p.2))=some x)(h:K x H):K0 P o fr H K:=by
 intro g w a C D;have f:=AJ9 C D b.toList
 have z:(b.map λ(x:Nat×By)=>(x.1,a.eval x.2)).toList=b.toList.map λx=>(x.1,a.eval x.2):=OC
 have key:∃d cs,P.built t (b.toList.map λx=>(x.1,a.eval x.2))=some d/\x= .agg cs/\Wc g w d cs:=by
  unfold UK at B
  split at B
  ·rename_i e cs s q;have A:=TH s
   split at B
   ·next sz hs=>
    have⟨i,v,U,Y,j⟩:=Ao0 q
    have l:VR g w v (.agg cs):=by rw[j];simp[GL]
    obtain⟨c,rfl,r⟩:=l.row
    unfold Hk at hs
    cases u:P.info? e with
    |none=>simp_all
    | some E=>
     simp[u]at hs
     cases y:Qk (λi=>some (i*sz,sz)) cs (b.toList.map λ(p:Nat×By)=>(p.1,ev fr p.2))with
     |none=>simp_all
     |some ds=>
      simp only[y,K1,E5]at B
      have⟨d,hd,m⟩:=AA0 f r y;exact⟨d,ds,by simp[Program.built,U,A,Y,u,hs,Value.cells,hd],B.symm,m⟩
   cases B
  ·next pl cs s hpl q=>
   unfold SO at hpl
   split at hpl
   ·next fields A=>
    have⟨i,v,U,Y,j⟩:=Ao0 q
    have l:VR g w v (.agg cs):=by rw[j];simp[GL]
    obtain⟨c,rfl,r⟩:=l.row
    cases y:Qk (pl[·]?) cs (b.toList.map λ(p:Nat×By)=>(p.1,ev fr p.2))with
    |none=>simp_all
    |some ds=>
     simp only[y,K1,E5]at B
     have⟨d,hd,m⟩:=AA0 f r y
     have N:(λi:Nat=>(pl.toArray)[i]?)=(λi:Nat=>pl[i]?):=by funext i;simp
     exact⟨d,ds,by simp only[Program.built,U,A,Y,hpl,Value.cells,N,hd],B.symm,m⟩
   cases hpl
  cases B
 obtain⟨d,cs,W,rfl,l⟩:=key;unfold execOp;rw[X];have:=run_build (P:=P) w t (b.map λ(x:Nat×By)=>(x.1,a.eval x.2)) d (by rw[z];exact W);simp only[B9,this,B5,C7,J3];exact O6.here C l.agg h
def BB4{sz:Nat}(f:UP g w l m):∀{c:SI HO} {k:Nat},(k+m.length)*sz<=c.size->Fa sz k m=true->
 ∃d,Instr.fill (λi=>some (i*sz,sz)) c l=some d/\d.size=c.size/\(∀j,j<k*sz->d.getD j undef=c.getD j undef)/\
  ∀i j,i<m.length->j<sz->((m.getD i (0,.bad)).2.cells.length=sz)/\(d.getD ((k+i)*sz+j) undef).oneCell'=true/\VR g w (d.getD ((k+i)*sz+j) undef) ((m.getD i (0,.bad)).2.cells.getD j .bad):=by
 induction f with
 |nil=>intro c k e _;exact⟨c,rfl,rfl,λ_ _=>rfl,λi j U=>by simp at U⟩
 | @cons i v x l m s _ ih=>
  intro c k e G
  simp only[Fa,G9,DL]at G
  obtain⟨⟨⟨rfl,O⟩,Z⟩,T⟩:=G;have⟨t,u⟩:=s.cells O
  have b:(i+(m.length+1))*sz=i*sz+sz+m.length*sz:=by rw[F9,F9];omega
  have a:(i+1+m.length)*sz=i*sz+sz+m.length*sz:=by rw[F9,F9];omega
  simp only[K8]at e
  rw[b]at e
  have q:=cf136 (i*sz) v c (by rw[t,Z];omega);have⟨d,hd,r,h,N⟩:=ih (c:=v.cells.zipIdx.foldl (λcs (x:HO×Nat)=>cs.setIfInBounds (i*sz+x.2) x.1) c) (k:=i+1) (by rw[q.1,a];omega) T;refine⟨d,?_,r.trans q.1,λj z=>?_,λy j p z=>?_⟩
  ·simp only[Instr.fill];rw[A1]
   ·exact hd
   grind
  ·rw[h j (by rw[F9];omega),q.2 j,A1 AY]
  cases y with
  |zero=>
   simp_all[F9]
  |succ y=>
   grind
def Ag9(C:Rl g H w)(I:ER g w a fr){n:Nat}{b:SI (Nat×By)}(B:CR P t n (b.toList.map λ(p:Nat×By)=>(p.1,ev fr p.2))=some x):
 ∃e sz z,Ic P t=some e/\Hk P e=some sz/\Lr P e=some z/\x= .sl ((b.toList.map λ(p:Nat×By)=>(p.1,ev fr p.2)).map λ(q:Nat×V)=>q.2) .full/\(b.toList.map λ(p:Nat×By)=>(p.1,ev fr p.2)).length=n/\Fa sz 0 (b.toList.map λ(p:Nat×By)=>(p.1,ev fr p.2))=true/\
 ∃ d:SI HO,(Instr.buildSlice t n (b.map λ(x:Nat×By)=>(x.1,a.eval x.2))).run P w= .ok (.slice (some ⟨w.heap.size,0,none⟩) n n) (w.alloc (.cells d e))/\d.size=n*sz/\
  ∀i j,i<n->j<sz->(((b.toList.map λ(p:Nat×By)=>(p.1,ev fr p.2)).getD i (0,.bad)).2.cells.length=sz)/\(d.getD (i*sz+j) undef).oneCell'=true/\
   VR g w (d.getD (i*sz+j) undef) (((b.toList.map λ(p:Nat×By)=>(p.1,ev fr p.2)).getD i (0,.bad)).2.cells.getD j .bad):=by
 have f:=AJ9 C I b.toList
 have y:(b.map λ(x:Nat×By)=>(x.1,a.eval x.2)).toList=b.toList.map λx=>(x.1,a.eval x.2):=OC
 unfold CR at B
 split at B
 ·next e hse=>
  have F:=U7 hse
  split at B
  ·next sz z hs hze=>
   split at B
   ·next hc=>
    have⟨A,E,N⟩:=hc;cases B;have⟨G,_,u⟩:=Fu hze
    have h:∀m:SI HO,m.size=n*sz->∃d,Instr.fill (λi=>some (i*sz,sz)) m (b.toList.map λx=>(x.1,a.eval x.2))=some d/\d.size=n*sz/\
     ∀i j,i<n->j<sz->(((b.toList.map λ(p:Nat×By)=>(p.1,ev fr p.2)).getD i (0,.bad)).2.cells.length=sz)/\(d.getD (i*sz+j) undef).oneCell'=true/\
      VR g w (d.getD (i*sz+j) undef) (((b.toList.map λ(p:Nat×By)=>(p.1,ev fr p.2)).getD i (0,.bad)).2.cells.getD j .bad):=by
     intro m s;have⟨d,hd,r,_,l⟩:=BB4 (sz:=sz) f (c:=m) (k:=0) (by rw[E,P0,s];omega) N
     grind
    have D:∃d:SI HO,(Instr.buildSlice t n (b.map λ(x:Nat×By)=>(x.1,a.eval x.2))).run P w= .ok (.slice (some ⟨w.heap.size,0,none⟩) n n) (w.alloc (.cells d e))/\d.size=n*sz/\
     ∀i j,i<n->j<sz->(((b.toList.map λ(p:Nat×By)=>(p.1,ev fr p.2)).getD i (0,.bad)).2.cells.length=sz)/\(d.getD (i*sz+j) undef).oneCell'=true/\
      VR g w (d.getD (i*sz+j) undef) (((b.toList.map λ(p:Nat×By)=>(p.1,ev fr p.2)).getD i (0,.bad)).2.cells.getD j .bad):=by
     by_cases L:n*sz=0
     ·have⟨d,hd,r,l⟩:=h ((Array.range (n*sz)).map ((#[]:SI HO)[· % (#[]:SI HO).size]!)) OC;refine⟨d,?_,r,l⟩
      rw[<-y]at hd
      have v:¬(n*sz>2 ^ 24):=AY
      simp only[Instr.buildSlice,B9,run_underlying F,B5,T5 hs,AD,A1 v,C7,A2 L,hd,newRow,run_newObj];rfl
     have⟨d,hd,r,l⟩:=h ((Array.range (n*sz)).map (G.cells[· % G.cells.size]!)) OC;refine⟨d,?_,r,l⟩
     rw[<-y]at hd
     have v:¬(n*sz>2 ^ 24):=AY
     simp only[Instr.buildSlice,B9,run_underlying F,B5,T5 hs,AD,A1 v,C7,A1 L,u,hd,newRow,run_newObj];rfl
    simp_all
   cases B
  cases B
 cases B
theorem evt{n:Nat}{b:SI (Nat×By)}(X:o.op= .buildSlice t n b)(B:CR P t n (b.toList.map λ(p:Nat×By)=>(p.1,ev fr p.2))=some x)(h:K x H):
 K0 P o fr H K:=by
 intro g w a C A;obtain⟨e,sz,z,F,G,I,rfl,E,u,d,c,D,v⟩:=Ag9 C A B;have s:=Al.new C (.cells d e) True d.size;unfold execOp;rw[X];simp only[B9,c,B5,C7,J3]
 have r:∀i,((b.toList.map λ(p:Nat×By)=>(p.1,ev fr p.2)).map (λ(q:Nat×V)=>q.2)).getD i .bad=((b.toList.map λ(p:Nat×By)=>(p.1,ev fr p.2)).getD i (0,.bad)).2:=by
  grind
 have N:∀i j,i<n->j<sz->i*sz+j<d.size:=by
  intro i j U l;have:(i+1)*sz<=n*sz:=J0 _ AY
  rw[F9]at this
  omega
 by_cases f:sz=0
 ·subst f
  have Y:∀i,i<n->((((b.toList.map λ(p:Nat×By)=>(p.1,ev fr p.2)).map (λ(q:Nat×V)=>q.2)).getD i .bad).cells.length=0):=by
   intro i U
   have:∀(m:Up (Nat×V)) (k i:Nat),Fa 0 k m=true->i<m.length->(m.getD i (0,.bad)).2.cells.length=0:=by
    intro m
    induction m with
    |nil=>simp_all
    |cons y m ih=>
     grind[Fa]
   rw[r];grind
  exact⟨_,_,_,s,C.newFrozen d e d.size (C6 _),.sl (sz:=0) (λ_ _=>undef) Pw (C6 _) Y (λi j _ l=>AY) (λi j _ l=>AY) (λi j _ l=>AY)
   (λi j _ l=>AY) (t:=.full) rfl,h⟩
 refine⟨_,_,_,s,C.newFrozen d e d.size (C6 _),.sl (sz:=sz) (λi j=>d.getD (i*sz+j) undef) Pw (C6 _) (λi U=>?_) (λi j U l=>.inr ⟨trivial,rfl,?_⟩)
  (λi j U l=>?_) (λi j U l=>(v i j U l).2.1) (λi j U l=>?_) (t:=.full) rfl,h⟩
 ·rw[r];exact(v i 0 U AY).1
 ·have:=N i j U l;omega
 ·have:=N i j U l;rw[Tz];simp_all
 rw[r];exact(v i j U l).2.2.mono s
end
def Ey:OS V->OS (OS Int)
 |none=>some none
 |some (.int _ i)=>some (some i)
 |some _=>none
def ME (l h n:Nat) (a:OS Int) (t:G5):G5:=
 match a with
 |some m=>if m=h then .full else .ro
 | none=>
  if h=n then
   match t with
   | .full=>.full
   | .nil=>.nil
   | .tok t=>if l<h then .tok t else .ro
   | .ro=>.ro
  else .ro
def WZ (P:If) (t:Do) (v:V) (lo U a:OS Int):OS V:=
 match Ic P t,v with
 | some e,.sl xs tl=>
  match Hk P e with
  | some sz=>
   if 0<=lo.getD 0/\lo.getD 0<=U.getD xs.length/\U.getD xs.length<=a.getD xs.length/\a.getD xs.length<=xs.length/\(a.isSome=true->U.isSome=true)/\
    (lo.getD 0<=0\/xs.all (λx=>x.cells.length==sz)=true)then
    some (.sl ((xs.drop (lo.getD 0).toNat).take ((U.getD xs.length).toNat-(lo.getD 0).toNat)) (ME (lo.getD 0).toNat (U.getD xs.length).toNat xs.length a tl))
   else none
  |none=>none
 |none,.str s=>
  if PM P t=true/\a=none/\0<=lo.getD 0/\lo.getD 0<=U.getD s.size/\U.getD s.size<=s.size then some (.str (s.extract (lo.getD 0).toNat (U.getD s.size).toNat))else none
 |_,_=>none
section
variable {P:Program}{o:Oper}{fr:Fr}{H:A5}{K:V->A5->Prop}
theorem Xj (a:Bool) (len cap:Nat) (lo U b:OS HO) (l h m:Nat) (w:Is) (B:(lo=none/\l=0)\/∃k,lo=some (.int k l)) (e:(U=none/\b=none/\h=len)\/∃k,U=some (.int k h))
 (p:(b=none/\m=cap)\/∃k,b=some (.int k m)) (O:l<=h) (Z:h<=m) (T:m<=cap):(Instr.sliceBounds a len cap lo U b).run P w= .ok (l,h,m) w:=by
 rcases p with⟨rfl,rfl⟩|⟨v,rfl⟩<;>rcases e with⟨rfl,M,rfl⟩|⟨i,rfl⟩<;>rcases B with⟨rfl,rfl⟩|⟨r,rfl⟩<;>
  first
   |(cases M;done)
   |simp[Instr.sliceBounds,Instr.sliceBound,asIntOf,C7,O,Z,T]
def IC{H:A5}(C:Rl g H w)(e:ER g w a fr){x:OS By}{i:OS Int}(h:Ey (x.map (ev fr))=some i):
 (x.map a.eval=none/\i=none)\/∃k j,x.map a.eval=some (.int k j)/\i=some j:=by
 cases x with
 |none=>simp_all[Ey]
 |some x=>
  have b:=G2 C e x
  simp only[K1]at h ⊢
  generalize ev fr x=X at h b
  cases X<;>simp[Ey]at h
  rename_i k j;have:=b.int_inv
  grind
theorem Be4{lo U mx:OS By}{D ih l:OS Int}(X:o.op= .slice t y lo U mx)(al:Ey (lo.map (ev fr))=some D)(ak:Ey (U.map (ev fr))=some ih)
 (am:Ey (mx.map (ev fr))=some l)(B:WZ P t (ev fr y) D ih l=some x)(h:K x H):K0 P o fr H K:=by
 intro g w a C hE;have hv:=G2 C hE y;have aw:=IC C hE al;have av:=IC C hE ak;have ao:=IC C hE am
 have W:∀(p:Bool) (len cap:Nat),0<=D.getD 0->D.getD 0<=ih.getD len->ih.getD len<=l.getD cap->l.getD cap<=cap->(l.isSome=true->ih.isSome=true)->
  (Instr.sliceBounds p len cap (lo.map a.eval) (U.map a.eval) (mx.map a.eval)).run P w= .ok ((D.getD 0).toNat,(ih.getD len).toNat,(l.getD cap).toNat) w:=by
  grind[Xj]
 unfold WZ at B
 split at B
 ·rename_i e xs tl aa R;have hu:=U7 aa
  split at B
  ·rename_i sz G
   split at B
   ·rename_i d;have⟨I,F,c3,c4,c5,c6⟩:=d;cases B
    rw[R]at hv
    generalize N:a.eval y=v at hv
    unfold execOp;rw[X]
    cases hv with
    | sl0 ht=>
     simp only[BV,LT]at F c3 c4
     have J:(D.getD 0).toNat=0:=AY
     have e2:(ih.getD 0).toNat=0:=AY
     have e3:(l.getD 0).toNat=0:=AY
     have c:=W true 0 0 I AY AY AY c5
     simp only[LT]at c
     simp only[N,Instr.sliceAt,Instr.slice,B9,run_underlying hu,B5,c,T5 G,C7,J3,J,e2,e3];refine O6.here C ?_ h;simp only[List.drop_nil,List.take_nil];refine .sl0 ?_;unfold ME
     cases l with
     |some m=>dsimp only;split<;>rfl
     |none=>
      dsimp only
      split
      ·cases tl<;>first|rfl|cases ht
      rfl
    |@sle ad cap _ ht=>
     simp only[BV,LT]at F c3 c4
     have J:(D.getD 0).toNat=0:=AY
     have e2:(ih.getD 0).toNat=0:=AY
     have e3:(l.getD 0).toNat=0:=AY
     have aj:(0:Int)<=(cap:Nat):=AY
     have ai:l.getD (cap:Nat)<=(cap:Nat)/\0<=l.getD (cap:Nat):=by cases l<;>simp at c3 c4 ⊢ <;>omega
     have c:=W true 0 cap I AY Pw ai.1 c5
     simp only[LT]at c
     simp only[N,Instr.sliceAt,Instr.slice,B9,run_underlying hu,B5,c,T5 G,C7,J3,J,e2,Nat.sub_self,Nat.sub_zero,Nat.zero_mul];refine O6.here C ?_ h;simp only[List.drop_nil,List.take_nil,K1,Addr.add,B4,ite_self];refine .sle ?_
     grind[ME]
    | sl vs E ar Y hf hw O ax ht=>
     rename_i b q sz' n cap
     rw[E]at F c3 c4 h
     have ae:l.getD cap<=cap:=by
      grind
     have ac:ih.getD n<=l.getD cap:=by
      grind
     have ah:=W true n cap I F ac ae c5;simp only[N,Instr.sliceAt,Instr.slice,B9,run_underlying hu,B5,ah,T5 G,C7,J3];refine O6.here C ?_ h
     generalize hL:(D.getD 0).toNat=L at *
     generalize aq:(ih.getD (n:Int)).toNat=HH at *
     generalize hM:(l.getD (cap:Int)).toNat=M at *
     have b1:L<=HH:=AY
     have b2:HH<=n:=by
      omega
     have b3:HH<=M:=AY
     have b4:M<=cap:=AY
     have A:∀i,i<HH-L->((xs.drop L).take (HH-L)).getD i .bad=xs.getD (L+i) .bad:=by
      simp_all
     have f:((xs.drop L).take (HH-L)).length=HH-L:=by simp;omega
     have r:∀q',(HH-L=0\/q'=q+L*sz')->(L=0->q'=q)->JW g b q' sz' (HH-L) (M-L) (ME L HH n l tl):=by
      intro q' T au;unfold ME
      cases l with
      |some m=>
       grind[JW]
      | none=>
       dsimp only
       have ag:M=cap:=TQ
       split
       ·rename_i af
        cases tl with
        |full=>simp_all[JW]
        |nil=>exact ht.elim
        |ro=>trivial
        | tok t=>
         dsimp only
         split
         ·rename_i u;have⟨t0,lim,t1,t2⟩:=ht
          rcases T with T|rfl
          ·omega
          have J:q+L*sz'+(n-L)*sz'=q+n*sz':=by rw[Cy,<-F9];grind
          have e2:q+L*sz'+(cap-L)*sz'=q+cap*sz':=by rw[Cy,<-F9];grind
          exact⟨AY,lim,by rw[t1,af,J],by rw[ag,e2];exact t2⟩
         trivial
       trivial
     by_cases Q:M=L
     ·rw[A2 Q]
      have ap:HH-L=0:=AY
      refine .sl (sz:=sz') (λi j=>undef) f AY (λi U=>AY) (λi j U=>AY) (λi j U=>AY) (λi j U=>AY) (λi j U=>AY) (r q (.inl ap) λ_=>rfl)
     rw[A1 Q];simp only[K1,Bz]
     by_cases an:HH-L=0
     ·refine .sl (sz:=sz') (λi j=>undef) f AY (λi U=>AY) (λi j U=>AY) (λi j U=>AY) (λi j U=>AY) (λi j U=>AY)
       (r _ (.inl an) λu=>by rw[u];simp)
     have ab:L*sz=L*sz':=by
      rcases c6 with c6|c6
      ·have:L=0:=AY
       simp_all
      have h0:0<xs.length:=AY
      have:=(List.all_eq_true.1 c6) (xs.getD 0 .bad) TQ;have Z:=Y 0 AY
      have:sz'=sz:=by rw[<-Z];simp_all
      rw[this]
     rw[ab]
     refine .sl (sz:=sz') (λi j=>vs (L+i) j) f AY (λi U=>by rw[A i U];grind)
      (λi j U z=>by have:=hf (L+i) j AY z;rw[F9]at this;rw[show q+L*sz'+i*sz'+j=q+(L*sz'+i*sz')+j by omega];exact this)
      (λi j U z=>by have:=hw (L+i) j AY z;rw[F9]at this;rw[show q+L*sz'+i*sz'+j=q+(L*sz'+i*sz')+j by omega];exact this)
      (λi j U z=>O _ j AY z) (λi j U z=>by rw[A i U];grind) (r _ (.inr rfl) λu=>by rw[u];simp)
   cases B
  cases B
 ·rename_i s aa R
  split at B
  ·rename_i d;obtain⟨c0,rfl,I,F,c3⟩:=d;cases B
   rw[R]at hv
   have N:=hv.str_inv
   have hu:P.underlying t=some .string:=by
    grind[PM]
   rcases ao with⟨e2,_⟩|⟨k,j,e2,e3⟩
   ·have S:=W false s.size s.size I F Pw OC OC
    rw[e2]at S
    unfold execOp;rw[X];simp only[N,e2,Instr.sliceAt,Instr.slice,B9,run_underlying hu,B5,S,GV,D4,B6,C7,J3];exact O6.here C (.str _) h
   cases e3
  cases B
 cases B
theorem Ah8{fn:Fn}{fs cs:SI By}(X:o.op= .makeFunc fn fs cs)(h:K (.func fn (fs.toList.map (ev fr)) (cs.toList.map (ev fr))) H):K0 P o fr H K:=by
 intro g w a C r
 have b:∀l:SI By,(l.map a.eval).size=(l.toList.map (ev fr)).length/\∀i,i<(l.toList.map (ev fr)).length->VR g w ((l.map a.eval).getD i undef) ((l.toList.map (ev fr)).getD i .bad):=by
  intro l;refine⟨OC,λi U=>?_⟩
  have e:i<l.size:=Pw
  have t:(l.map a.eval).getD i undef=a.eval l[i]:=TQ
  have e2:(l.toList.map (ev fr)).getD i .bad=ev fr l[i]:=TQ
  rw[t,e2];grind[G2]
 unfold execOp;rw[X];exact O6.here C (.func (b fs).1 (b fs).2 (b cs).1 (b cs).2) h
theorem za1(X:o.op= .makeInterface t y)(U:ifO P t=false)(h:K (.iface t (ev fr y)) H):K0 P o fr H K:=by
 intro g w a C e;unfold execOp;rw[X]
 unfold ifO at U
 cases b:P.underlying t with
 |none=>grind
 | some d=>
  simp only[b]at U
  cases d<;>first
   |(simp only[Instr.makeInterface,B9,run_underlying b,B5,C7,J3];exact O6.here C (.iface (G2 C e y)) h)
   |cases U
def AV5:V->Bool
 | .ref _ _=>true
 | .eref _ _=>true
 | .elem _ _ _ _=>true
 | .func (.func _) _ _=>true
 | .func (.yield _) _ _=>true
 |_=>false
theorem Ah5(c:o.op= .nilCheck y)(E:AV5 (ev fr y)=true)(h:K (ev fr y) H):K0 P o fr H K:=by
 intro g w a i x;have j:=G2 i x y;unfold execOp;rw[c]
 generalize M:ev fr y=X at E j
 rw[M]at h
 generalize e:a.eval y=v at j
 cases j<;>simp[AV5]at E
 ·rename_i id b off p;simp only[e,C7,J3];exact O6.here i (.ref p) h
 ·rename_i p G;simp only[e,C7,J3];exact O6.here i (.elem p G) h
 ·rename_i b q off cs vs N m O l;simp only[e,C7,J3];exact O6.here i (.eref vs N m O l) h
 rename_i fn fs cs F C O Z T r
 cases fn<;>simp at E
 ·exact zcd
 exact zcd
end
def Nl:V->V->OS Bool
 | .int k a,.int k' b=>if k=k' then some (a==b)else none
 | .str a,.str b=>some (a.toList==b.toList)
 | .bool a,.bool b=>some (a==b)
 |_,_=>none
def Co:Up V->Up V->OS Bool
 |[],[]=>some true
 |x::xs,y::ys=>
  match Nl x y,Co xs ys with
  |some a,some b=>some (a&&b)
  |_,_=>none
 |_,_=>none
def kd:V->Nat
 | .int _ _=>0
 | .bool _=>1
 | .str _=>2
 |_=>9
def Sa (P:If) (q:Do->OS (Up Nat)):Up Field->Nat->OS (Up Nat)
 |[],_=>some []
 | f::fs,n=>
  if f.name≠ "_" /\f.offset=n then
   match q f.type with
   |some k=>(Sa P q fs (n+k.length)).map (k++ ·)
   |none=>none
  else none
def JR (P:If):Nat->Do->OS (Up Nat)
 |0,_=>none
 | d+1,t=>
  match P.underlying t with
  |some .bool=>some [1]
  |some (.int _)=>some [0]
  |some .string=>some [2]
  | some (.struct fs)=>
   if P.stoodInHeld t=false/\P.eqGuardType P.depth t=false then
    match Sa P (JR P d) fs.toList 0 with
    |some n=>if Hk P t=some n.length then some n else none
    |none=>none
   else none
  |_=>none
def Qe (e:BinOp)(k:IntKind)(a b:Int):OS V:=
 match e with
 | .add=>some (.int k (k.wrap (a+b)))
 | .sub=>some (.int k (k.wrap (a-b)))
 | .mul=>some (.int k (k.wrap (a*b)))
 | .quo=>if b=0 then none else some (.int k (k.wrap (a.tdiv b)))
 | .rem=>if b=0 then none else some (.int k (a.tmod b))
 | .and=>some (.int k (k.wrap (BitVec.ofInt k.bits a&&&BitVec.ofInt k.bits b).toNat))
 | .or=>some (.int k (k.wrap (BitVec.ofInt k.bits a|||BitVec.ofInt k.bits b).toNat))
 | .xor=>some (.int k (k.wrap (BitVec.ofInt k.bits a ^^^ BitVec.ofInt k.bits b).toNat))
 | .andNot=>some (.int k (k.wrap (BitVec.ofInt k.bits a&&& ~~~(BitVec.ofInt k.bits b)).toNat))
 | .eql=>some (.bool (a==b))
 | .neq=>some (.bool (a !=b))
 | .lss=>some (.bool (a<b))
 | .leq=>some (.bool (a<=b))
 | .gtr=>some (.bool (a>b))
 | .geq=>some (.bool (a>=b))
 |_=>none
def WW (a:BinOp)(x y:Uf):OS V:=
 match a with
 | .add=>if((x.size+y.size:Nat):Int)>9223372036854775807 then none else some (.str (x++y))
 | .eql=>some (.bool (x.toList==y.toList))
 | .neq=>some (.bool (!(x.toList==y.toList)))
 | .lss=>some (.bool (Op.bytesLess x.toList y.toList))
 | .leq=>some (.bool (Op.bytesLess x.toList y.toList||x.toList==y.toList))
 | .gtr=>some (.bool (!(Op.bytesLess x.toList y.toList||x.toList==y.toList)))
 | .geq=>some (.bool (!Op.bytesLess x.toList y.toList))
 |_=>none
def Xf (e:BinOp) (k:IntKind) (a b:Int):OS V:=
 if b<0 then none else
  match e with
  | .shl=>some (.int k (k.wrap (a*2 ^ (min b.toNat k.bits))))
  | .shr=>some (.int k (a.fdiv (2 ^ (min b.toNat k.bits))))
  |_=>none
def Mx:BinOp->Bool
 | .shl=>true
 | .shr=>true
 |_=>false
def Bb3:OS TypeDesc->Bool
 |some .bool=>true
 |_=>false
def Wa (P:If) (e:BinOp) (t:Do) (x y:V):OS V:=
 match x,y with
 | .int k a,.int k' b=>if Mx e then Xf e k a b else if k=k' then Qe e k a b else none
 | .str a,.str b=>WW e a b
 | .bool a,.bool b=>
  if Bb3 (P.underlying t)=true then
   match e with
   | .eql=>some (.bool (a==b))
   | .neq=>some (.bool (!(a==b)))
   |_=>none
  else none
 | .agg xs,.agg ys=>
  if ZC P t=some true/\JR P 9 t=some (xs.map kd)/\ys.map kd=xs.map kd then
   match e,Co xs ys with
   | .eql,some b=>some (.bool b)
   | .neq,some b=>some (.bool (!b))
   |_,_=>none
  else none
 |_,_=>none
def unV (a:UnOp)(x:V):OS V:=
 match a,x with
 | .not,.bool b=>some (.bool (!b))
 | .neg,.int k n=>some (.int k (k.wrap (0-n)))
 |_,_=>none
def Ae4 (P:If)(s d:Do)(x:V):OS V:=
 match P.underlying s,P.underlying d,x with
 |some (.int _),some (.int k),.int _ n=>some (.int k (k.wrap n))
 |some .string,some .string,.str b=>some (.str b)
 |_,_,_=>none
section
variable {P:Program}{o:Oper}{fr:Fr}{H:A5}{K:V->A5->Prop}
def Ai2{v r:HO}{y:V}{b:Bool}{d:Nat}(j:VR g w v x)(i:VR g w r y)(h:Nl x y=some b)
 (l:match P.underlying t with|some .bool=>kd x=1|some (.int _)=>kd x=0|some .string=>kd x=2|_=>False):(Op.equalIn (d+1) t v r).run P w= .ok b w:=by
 unfold Nl at h
 split at h
 ·rename_i k a k' c
  split at h
  ·rename_i e;subst e;cases h;rw[j.int_inv,i.int_inv]
   split at l<;>simp[kd]at l
   grind[run_equalIn_int]
  cases h
 ·cases h;rw[j.str_inv,i.str_inv]
  split at l<;>simp[kd]at l
  grind[run_equalIn_string]
 ·cases h;rw[j.bool_inv,i.bool_inv]
  split at l<;>simp[kd]at l
  grind[run_equalIn_bool']
 cases h
def btw:∀(a b c d:Up V) (r:Bool),a.length=c.length->Co (a++b) (c++d)=some r->∃p q,Co a c=some p/\Co b d=some q/\r=(p&&q)
 |[],b,[],d,r,_,h=>⟨true,r,rfl,h,OC⟩
 | x::a,b,y::c,d,r,B,h=>by
  simp only[CW,Co]at h
  cases O:Nl x y with
  |none=>grind
  | some s=>
   cases Z:Co (a++b) (c++d)with
   |none=>simp_all
   |some u=>
    simp only[O,Z,E5]at h
    have⟨p,q,t,e2,e⟩:=btw a b c d u Pw Z
    grind[Co]
 |[],_,_::_,_,_,B,_=>by simp at B
 |_::_,_,[],_,_,B,_=>by simp at B
def Uc (cs:Up V)(off k n:Nat):(cs.drop off).take (k+n)=(cs.drop off).take k++(cs.drop (off+k)).take n:=by
 rw[List.take_add,Jh]
def EqAt (P:If) (w:Is) (d:Nat) (t:Do) (xs ys:SI HO) (cs ds:Up V) (e:Up Nat):Prop:=
 ∀off b,off+e.length<=cs.length->((cs.drop off).take e.length).map kd=e->Co ((cs.drop off).take e.length) ((ds.drop off).take e.length)=some b->
  ∃a h,(part t xs off).run P w= .ok a w/\(part t ys off).run P w= .ok h w/\(Op.equalIn d t a h).run P w= .ok b w
def Tq {w:Is} {d:Nat} {q:Do->OS (Up Nat)} {xs ys:SI HO} {cs ds:Up V} (B:cs.length=ds.length)
 (c:∀t i,q t=some i->EqAt P w d t xs ys cs ds i):∀(fs:Up Field) (n:Nat) (i:Up Nat),Sa P q fs n=some i->n+i.length<=cs.length->∀b,((cs.drop n).take i.length).map kd=i->
  Co ((cs.drop n).take i.length) ((ds.drop n).take i.length)=some b->(Op.eqFields d xs ys fs).run P w= .ok b w
 |[],n,i,h,_,b,_,W=>by
  simp only[Sa,E5]at h
  subst h
  simp[Co]at W
  subst W;rfl
 | f ::fs,n,i,h,hle,b,e,W=>by
  simp only[Sa]at h
  split at h
  ·rename_i j;have⟨l,x⟩:=j
   cases S:q f.type with
   |none=>grind
   | some k=>
    simp only[S]at h
    cases Q:Sa P q fs (n+k.length)with
    |none=>grind
    |some m=>
     simp only[Q,K1,E5]at h
     subst h
     simp only[N1]at hle e W
     rw[Uc]at e
     rw[Uc,Uc]at W
     simp only[P8]at e
     have v:(((cs.drop n).take k.length).map kd).length=k.length:=by simp;omega
     have y:=List.append_inj_left e v;have N:=List.append_inj_right e v;obtain⟨p,r,g,e2,rfl⟩:=btw _ _ _ _ b Ts W;have⟨a,s,O,Z,T⟩:=c _ _ S n p AY y g;have ih:=Tq B c fs (n+k.length) m Q AY r N e2;simp only[Op.eqFields,A2 l,x,B9,O,Z,T,B5,AD,C7,ih];cases p<;>rfl
  cases h
def Yp {g:Gh} {w:Is} {xs ys:SI HO} {cs ds:Up V} (M:Wc g w xs cs) (I:Wc g w ys ds) (B:cs.length=ds.length):∀(e d:Nat) (t:Do) (l:Up Nat),JR P d t=some l->EqAt P w (d+e) t xs ys cs ds l
 |e,0,t,l,h=>by simp[JR]at h
 | e, d +1,t,l,h=>by
  intro off b hle x W
  have L:∀i,(match P.underlying t with|some .bool=>i=1|some (.int _)=>i=0|some .string=>i=2|_=>False)->l=[i]->
   ∃a E,(part t xs off).run P w= .ok a w/\(part t ys off).run P w= .ok E w/\(Op.equalIn (d+1+e) t a E).run P w= .ok b w:=by
   intro i U A;subst A
   simp only[Mb]at hle x W
   have f:off<cs.length:=AY
   have j:off<ds.length:=AY
   have F:(cs.drop off).take 1=[cs.getD off .bad]:=by rw[P1 f,List.take_succ_cons,List.take_zero];simp_all
   have e2:(ds.drop off).take 1=[ds.getD off .bad]:=by rw[P1 j,List.take_succ_cons,List.take_zero];simp_all
   rw[F]at x
   rw[F,e2]at W
   simp only[D2,G8,U1,P7]at x
   have G:Nl (cs.getD off .bad) (ds.getD off .bad)=some b:=by
    grind[Co]
   have N:ZC P t=some false:=by
    grind[ZC,BR4]
   have v:∀(r:SI HO),off<r.size->(part t r off).run P w= .ok (r.getD off undef) w:=by
    intro r Y;unfold part;rw[B9,PF N w]
    simp_all
   have s:off<xs.size:=by rw[M.1];exact f
   have u:off<ys.size:=by rw[I.1];exact j
   refine⟨_,_,v xs s,v ys u,?_⟩;rw[show d+1+e=(d+e)+1 by omega];refine Ai2 (M.2 off f).2 (I.2 off j).2 G ?_
   split<;>rename_i z<;>simp only[z]at U<;>first|exact x.trans U|exact U
  simp only[JR]at h
  split at h
  ·simp_all
  ·simp_all
  ·simp_all
  ·rename_i fs z
   split at h
   ·rename_i C
    cases q:Sa P (JR P d) fs.toList 0 with
    |none=>grind
    | some n=>
     simp only[q]at h
     split at h
     ·rename_i G;cases h
      have N:ZC P t=some true:=by grind[ZC,BR4]
      have y:∀(r:SI HO) (m:Up V),Wc g w r m->off+l.length<=m.length->(part t r off).run P w= .ok (.agg (r.extract off (off+l.length))) w/\Wc g w (r.extract off (off+l.length)) ((m.drop off).take l.length):=by
       intro r m Y Q;refine⟨?_,?_,λi U=>?_⟩
       ·unfold part;rw[B9,PF N w]
        simp_all[T5]
       ·have:=Y.1;simp;omega
       have O:i<l.length:=Pw
       have T:(r.extract off (off+l.length)).getD i undef=r.getD (off+i) undef:=by
        have:=Y.1;simp only[Q0,Pl];rw[A2 AY]
       have X:((m.drop off).take l.length).getD i .bad=m.getD (off+i) .bad:=by
        grind
       rw[T,X];exact Y.2 _ AY
      have⟨R,Z⟩:=y xs cs M hle;have⟨S,r2⟩:=y ys ds I AY;refine⟨_,_,R,S,?_⟩;rw[show d+1+e=(d+e)+1 by omega]
      have p:P.fieldsOf t=fs:=by simp[Program.fieldsOf,z]
      rw[run_equalIn_struct w (d+e) t _ _ (by rw[p];exact z) C.1,p]
      have J:((cs.drop off).take l.length).length=l.length:=by simp;omega
      refine Tq Ts (λt' D c=>Yp Z r2 Ts e d t' D c) fs.toList 0 l q Ts b ?_ ?_
      ·simp_all
      grind
     cases h
   cases h
  cases h
theorem Br4{e:UnOp}(X:o.op= .unOp e t y)(B:unV e (ev fr y)=some x)(h:K x H):K0 P o fr H K:=by
 intro g w a C i;have j:=G2 C i y;unfold execOp;rw[X]
 unfold unV at B
 split at B
 ·rename_i b R;cases B
  rw[R]at j
  simp only[j.bool_inv,Op.unary,B9,C7,B5,J3];exact O6.here C (.bool _) h
 ·rename_i k n R;cases B
  rw[R]at j
  simp only[j.int_inv,Op.unary,Op.intArith,B9,C7,B5,J3];exact Kl
 cases B
theorem Ar6{s d:Do}(X:o.op= .convert s d y)(B:Ae4 P s d (ev fr y)=some x)(h:K x H):K0 P o fr H K:=by
 intro g w a C e;have j:=G2 C e y;unfold execOp;rw[X]
 unfold Ae4 at B
 split at B
 ·rename_i i k k' n G hd R;cases B
  rw[R]at j
  simp only[j.int_inv,convert,B9,run_underlying G,run_underlying hd,Conv.intToInt,C7,B5,J3];exact Kl
 ·rename_i b G hd R;cases B
  rw[R]at j
  simp only[j.str_inv,convert,B9,run_underlying G,run_underlying hd,C7,B5,J3];exact O6.here C (.str _) h
 cases B
def Oa (e:BinOp)(t:Do)(p q:By)(u v:HO)(w:Is)(h:(∃k a,u= .int k a)\/(∃s,u= .string s)\/∃b,u= .bool b):(eqGuard e t p q u v).run P w= .ok () w:=by
 rcases h with⟨k,a,rfl⟩|⟨s,rfl⟩|⟨b,rfl⟩<;>cases e<;>simp[eqGuard]
def AI3{b:BinOp}{k':IntKind}{m n:Int}(G:Mx b=true)(h:Xf b k m n=some x)(w:Is):
 ∃v,(binOp b t (.int k m) (.int k' n)).run P w= .ok v w/\∀g,VR g w v x:=by
 unfold Xf at h
 split at h
 ·cases h
 rename_i a
 cases b<;>simp[Mx]at G
 ·simp only[E5]at h;subst h
  exact zce
 simp only[E5]at h;subst h
 exact zce
def AI4{a:BinOp}{m n:Int}(G:Mx a=false)(h:Qe a k m n=some x)(w:Is):
 ∃v,(binOp a t (.int k m) (.int k n)).run P w= .ok v w/\∀g,VR g w v x:=by
 have one:∀r:Int,(binOp a t (.int k m) (.int k n)).run P w= .ok (.int k r) w->x= .int k r->∃v,(binOp a t (.int k m) (.int k n)).run P w= .ok v w/\∀g,VR g w v x:=
  λr O Z=>⟨_,O,λg=>Z▸ .int _ _⟩
 have b:∀r:Bool,(binOp a t (.int k m) (.int k n)).run P w= .ok (.bool r) w->x= .bool r->∃v,(binOp a t (.int k m) (.int k n)).run P w= .ok v w/\∀g,VR g w v x:=
  λr O Z=>⟨_,O,λg=>Z▸ .bool _⟩
 cases a<;>simp[Mx]at G<;>simp only[Qe]at h
 ·exact zas
 ·exact zas
 ·exact zas
 ·split at h
  ·cases h
  exact zb2
 ·split at h
  ·cases h
  exact zb2
 ·exact zai
 ·exact zai
 ·exact zai
 ·exact zai
 all_goals (simp only[E5]at h;exact b _ (by simp[binOp,Op.intCmp]) h.symm)
def AI2{a:BinOp}{m n:Uf}(h:WW a m n=some x)(w:Is):
 ∃v,(binOp a t (.string m) (.string n)).run P w= .ok v w/\∀g,VR g w v x:=by
 have b:∀r:Bool,(binOp a t (.string m) (.string n)).run P w= .ok (.bool r) w->x= .bool r->∃v,(binOp a t (.string m) (.string n)).run P w= .ok v w/\∀g,VR g w v x:=
  λr O Z=>⟨_,O,λg=>Z▸ .bool _⟩
 cases a<;>simp only[WW]at h
 ·split at h
  ·cases h
  rename_i L
  simp only[E5]at h
  have O:¬(((m.size+n.size:Nat):Int)>IntKind.i64.max):=L;subst h;exact⟨.string (m++n),by simp only[binOp,Op.stringOp,A1 O,C7],λg=>.str _⟩
 all_goals
  first
   |(cases h;done)
   |(simp only[E5]at h;exact b _ (by simp[binOp,Op.stringOp]) h.symm)
theorem Bf4{i:BinOp}{ty:Do}{z:By}(X:o.op= .binOp i t y z ty)(B:Wa P i t (ev fr y) (ev fr z)=some x)(h:K x H):K0 P o fr H K:=by
 intro g w a C Q;have j:=G2 C Q y;have Y:=G2 C Q z;unfold execOp;rw[X];simp only[B9]
 unfold Wa at B
 split at B
 ·rename_i k m k' n R q
  rw[R]at j;rw[q]at Y
  rw[j.int_inv,Y.int_inv,Oa i t y z _ _ w (.inl ⟨k,m,rfl⟩)];simp only[B5]
  split at B
  ·rename_i f;have⟨v,O,Z⟩:=AI3 (P:=P) (t:=t) (k':=k') f B w;exact zbb
  rename_i f
  split at B
  ·rename_i S;subst S;have⟨v,O,Z⟩:=AI4 (P:=P) (t:=t) Pw B w;exact zbb
  cases B
 ·rename_i A s R q
  rw[R]at j;rw[q]at Y
  rw[j.str_inv,Y.str_inv,Oa i t y z _ _ w (.inr (.inl ⟨_,rfl⟩))];simp only[B5];have⟨v,O,Z⟩:=AI2 (P:=P) (t:=t) B w;exact zbb
 ·rename_i F I R q
  rw[R]at j;rw[q]at Y
  split at B
  ·rename_i W
   have T:P.underlying t=some .bool:=by
    grind[Bb3]
   rw[j.bool_inv,Y.bool_inv,Oa i t y z _ _ w (.inr (.inr ⟨_,rfl⟩))];simp only[B5];have e:(Op.equal t (.bool F) (.bool I)).run P w= .ok (F==I) w:=run_equalIn_bool' w 9999 t F I T
   cases i<;>simp only[E5,reduceCtorEq]at B<;>subst B<;>
    (simp only[binOp,B9,e,B5,C7,J3];exact O6.here C (.bool _) h)
  cases B
 ·rename_i cs ds R q
  rw[R]at j;rw[q]at Y
  split at B
  ·rename_i L;have⟨J,S,M⟩:=L;have⟨c,L,r⟩:=j.row;have⟨d,hd,N⟩:=Y.row;rw[L,hd]
   have l:cs.length=ds.length:=by have:=J8 List.length M;grind
   cases e:Co cs ds with
   |none=>cases i<;>simp[e]at B
   | some b=>
    have⟨u,u',p,D,U⟩:=Yp (P:=P) r N l (10000-9) 9 t _ S 0 b OC OC (by
     rw[H9,CA,CA,W4 (C6 _),W4 AY];exact e)
    have G:Hk P t=some cs.length/\P.eqGuardType P.depth t=false:=by
     grind[JR,ZC,BR4]
    unfold part at p D
    rw[B9,PF J w]at p D
    simp only[B5,B4,B9,T5 G.1,C7,P0,Result.ok.injEq,P7]at p D
    have q1:c.extract 0 cs.length=c:=by rw[<-r.1];simp
    have q2:d.extract 0 cs.length=d:=by rw[l,<-N.1];simp
    rw[q1]at p;rw[q2]at D
    subst p;subst D;rw[run_eqGuard_agg w i t y z c d G.2];simp only[B5];have E:(Op.equalIn 10000 t (.agg c) (.agg d)).run P w= .ok b w:=U
    cases i<;>simp only[e,E5,reduceCtorEq]at B<;>subst B
    ·rw[run_eql_struct,E];exact O6.here C (.bool _) h
    rw[run_neq_struct,E];exact O6.here C (.bool _) h
  cases B
 cases B
end
def Kn (H:A5):G5->Prop
 | .nil=>True
 | .full=>True
 | .tok t=>H t=some .spare
 | .ro=>False
def H5 (H:A5):G5->A5
 | .tok t=>upd H t none
 |_=>H
def Bi5 (P:If)(t:Do)(v:V):OS V:=
 match Ic P t,Qs P t,v with
 |some _,_,.sl xs _=>some (.int .i64 xs.length)
 |none,some (n,_),_=>some (.int .i64 n)
 |none,none,.str s=>if PM P t=true then some (.int .i64 s.size)else none
 |_,_,_=>none
section
variable {P:Program}{o:Oper}{fr:Fr}{H:A5}{K:V->A5->Prop}
def V3{b:Builtin}{xs:SI By}{e:SI Do}(X:o.op= .call {callee:=.builtin b,args:=xs,argTypes:=e}):
 (execOp a.eval o).run P w=(builtin b e o.type (xs.map λ| .const _=>true|_=>false) (xs.map a.eval)).run P w:=by
 unfold execOp;rw[X];simp only[resolve,B9,C7,B5,invoke];rfl
def Qy(h:PM P t=true):P.underlying t=some .string:=by
 grind[PM]
theorem BI1(X:o.op= .call {callee:=.builtin .len,args:= #[y],argTypes:= #[t]})(B:Bi5 P t (ev fr y)=some x)(h:K x H):K0 P o fr H K:=by
 intro g w a C N;have j:=G2 C N y;rw[V3 X];simp only[builtin,Bl,D2,G8,B9]
 unfold Bi5 at B
 split at B
 ·rename_i e xs tl b R;cases B;have l:=U7 b
  rw[R]at j
  generalize c:a.eval y=v at j
  cases j with
  |sl0 r=>simp[Builtin.len_,run_underlying l,goInt];exact O6.here C (.int _ _) h
  |sle r=>simp[Builtin.len_,run_underlying l,goInt];exact O6.here C (.int _ _) h
  |sl vs E d Y q m O f r=>
   subst E;simp[Builtin.len_,run_underlying l,goInt];exact Kl
 ·rename_i n e b i;cases B;have l:=TH i;simp[Builtin.len_,run_underlying l,goInt];exact Kl
 ·rename_i s b i R
  split at B
  ·rename_i G;cases B
   rw[R]at j
   simp[j.str_inv,Builtin.len_,run_underlying (Qy G),goInt];exact Kl
  cases B
 cases B
def GZ{v:HO}{tl:G5}{sz:Nat}(h:VR g w v (.sl xs tl))(r:xs.all (λx=>x.cells.length==sz)=true):
 ∃ (base:OS Addr) (cap:Nat) (vs:Nat->Nat->HO),v= .slice base xs.length cap/\xs.length<=cap/\
  (∀i j,i<xs.length->j<sz->(vs i j).oneCell'=true/\VR g w (vs i j) ((xs.getD i .bad).cells.getD j .bad))/\
  (∀w':Is,(∀b o,w'.cell? ⟨b,o,none⟩=w.cell? ⟨b,o,none⟩)->(Builtin.firstCells sz xs.length v).run P w'= .ok ((List.range (xs.length*sz)).map λk=>vs (k / sz) (k % sz)).toArray w')/\
  ((xs=[]/\(cap=0\/tl= .ro)/\tl.plain=true)\/∃b q,base=some ⟨b,q,none⟩/\(∀i j,i<xs.length->j<sz->g.fz b (q+i*sz+j)/\w.cell? ⟨b,q+i*sz+j,none⟩=some (vs i j))/\
   (∀i,i<xs.length->(xs.getD i .bad).cells.length=sz)/\∃a,(0<xs.length->a=sz)/\JW g b q a xs.length cap tl):=by
 cases h with
 |sl0 l=>exact⟨none,0,λ_ _=>undef,rfl,C6 _,λi j U=>by simp at U,λ_ _=>by simp[Builtin.firstCells],.inl ⟨rfl,.inl rfl,l⟩⟩
 |sle l=>exact⟨_,_,λ_ _=>undef,rfl,BK _,λi j U=>by simp at U,λ_ _=>by simp[Builtin.firstCells,loadCells,loadCellsFrom],.inl ⟨rfl,Pw,by rcases l with h|⟨h,_⟩<;>subst h<;>rfl⟩⟩
 | sl vs E d Y N m O c l=>
  rename_i b q a n cap;subst E
  have e:0<xs.length->a=sz:=by
   grind
  refine⟨some ⟨b,q,none⟩,cap,vs,rfl,d,λi j U z=>?_,?_,.inr ⟨b,q,rfl,λi j U z=>?_,λi U=>?_,a,e,l⟩⟩
  ·have:=e AY;simp_all
  ·intro w' y;simp only[Builtin.firstCells]
   grind[run_loadCells,Nat.div_lt_iff_lt_mul,Nat.mod_lt,Bz,Nat.div_add_mod]
  ·have:=e AY;simp_all
  simp_all
def Gh.tok (g:Gh)(b e0 e lim:Nat):Gh:=
 {g with tk:=λx=>if x=g.nx then some (b,e,lim)else g.tk x,nx:=g.nx+1,fz:=λb' o=>g.fz b' o\/(b'=b/\e0<=o/\o<e)}
theorem Al.tok {g:Gh}{H:A5}{w w':Is}(h:Rl g H w)(b e0 e lim:Nat)(d:∀b o,g.fz b o->w'.cell? ⟨b,o,none⟩=w.cell? ⟨b,o,none⟩)(B:Below g.base w w')(hd:w.drawn<=w'.drawn:=by first|exact Nat.le_refl _|exact Nat.le_succ _|exact Nat.le_add_right _ _):
 Al g w (g.tok b e0 e lim) w':=by
 refine⟨λ_ _ e=>e,λt x e=>?_,λ_ _ e=>.inl e,rfl,d,B,λ_ _ _=>rfl,hd⟩;simp only[Gh.tok]
 split
 ·next e'=>subst e';rw[(h.nxt _ (C6 _)).2.1]at e;cases e
 exact e
end
section
variable {P:Program}{o:Oper}{fr:Fr}{H:A5}{K:V->A5->Prop}
def HW{H:A5}{tl:G5}{id:Nat}{b:FV}(h:H5 H tl id=some b):H id=some b:=by
 cases tl with
 |tok t=>
  simp_all[H5,upd]
 |_=>exact h
theorem Rl.tok {g:Gh} {H:A5} {w w':Is} (h:Rl g H w) {b e0 e lim:Nat} {c:SI HO} {T:Do} (W:g.base<=b) (l:w'.heap[b]? =some (.cells c T (0,0))) (y:c.size=lim) (R:e<=lim)
 (m:∀o,e0<=o->¬g.fz b o) (A:e0<=e) (r:∀b o,g.fz b o->w'.cell? ⟨b,o,none⟩=w.cell? ⟨b,o,none⟩) (B:Below g.base w w') (i:∀x,x≠b->x<w.heap.size->w'.heap[x]? =w.heap[x]?)
 (d:∀id,g.at H id≠some b) (f:w.drawn<=w'.drawn:=by first|exact C6 _|exact GN _|exact Jm _ _):Rl (g.tok b e0 e lim) (upd H g.nx (some .spare)) w':=by
 have s:=Al.tok h b e0 e lim r B f;have C:=h.nxt g.nx (C6 _)
 have N:∀id,id≠g.nx->(g.tok b e0 e lim).at (upd H g.nx (some .spare)) id=g.at H id:=λid U=>
  TG (C8 _ _ U) rfl (by grind[Gh.tok])
 have z:(g.tok b e0 e lim).at (upd H g.nx (some .spare)) g.nx=some b:=by simp_all[Gh.at,Gh.tok,upd]
 refine⟨λid k S=>?_,λid p x O Z=>?_,λx o q=>?_,λid U=>?_,?_,λn=>(h.glb n).mono s⟩
 ·by_cases U:id=g.nx
  ·subst U;rw[E7]at S;cases S
   refine⟨b,e,lim,c,T,by simp[Gh.tok],W,l,R,y,λo X q=>?_⟩
   grind[Gh.tok]
  rw[C8 _ _ U]at S
  refine(h.blk id k S).mono S s λx M=>⟨i x (λe=>d id (by rw[M,e])) (h.lt M),λo X=>?_⟩
  grind[Gh.tok]
 ·by_cases U:id=g.nx<;>by_cases a:p=g.nx
  ·rw[U,a]
  ·simp_all
  ·simp_all
  rw[N _ U]at O;rw[N _ a]at Z;exact h.inj _ _ _ O Z
 ·rcases q with q|⟨u,O,Z⟩
  ·have⟨v,j⟩:=h.frz x o q
   simp_all
  subst u
  have:o<c.size:=AY
  exact⟨c[o],by simp[World.cell?,l,this]⟩
 ·have a:g.nx<=id:=LU U
  have t:id≠g.nx:=λe=>by grind[Gh.tok]
  have⟨D,E,F⟩:=h.nxt id a
  grind[Gh.tok,upd]
 grind[Gh.tok]
def JD{ys:Up V}:(xs++ys).getD i .bad=if i<xs.length then xs.getD i .bad else ys.getD (i-xs.length) .bad:=by
 grind
def W9{j sz:Nat}(z:j<sz):(i*sz+j) / sz=i/\(i*sz+j) % sz=j:=by
 have f:0<sz:=AY
 simp_all[Nat.add_comm,Nat.add_mul_div_right,OQ]
theorem Gi{j n sz:Nat}(U:i<n)(z:j<sz):i*sz+j<n*sz:=by
 have:(i+1)*sz<=n*sz:=J0 _ U
 rw[F9]at this
 omega
def RA{s:By}{sT yT e:Do}{sz by_:Nat}{z:V}{ys:Up V}{tl bu:G5}(X:o.op= .call {callee:=.builtin .append,args:= #[s,y],argTypes:= #[sT,yT]})
 (hs:ev fr s= .sl xs tl)(I:ev fr y= .sl ys bu)(R:Ic P sT=some e)(bn:(Ic P yT).isSome=true)(a0:Hk P e=some sz)(bx:0<sz)(al:UI P e=some by_)(b1:0<by_)
 (Y:Lr P e=some z)(bo:z.one=true)(bp:z.cells.length=sz)(hA:Kn H tl)(ao:xs.all (λx=>x.cells.length==sz)=true)(ap:ys.all (λx=>x.cells.length==sz)=true)
 (ab:(xs.length+ys.length)*by_<=140737488355328)(L:ys=[]->K (.sl xs tl) H)
 (h:∀t,ys≠[]->H5 H tl t=none->K (.sl (xs++ys) (.tok t)) (upd (H5 H tl) t (some .spare))):K0 P o fr H K:=by
 intro g w a hR hE;have a4:=G2 hR hE s;have a5:=G2 hR hE y
 rw[hs]at a4;rw[I]at a5
 have⟨base,cap,fs,es,bw,au,bl,bd⟩:=GZ (P:=P) a4 ao;have⟨Q,ag,fy,ey,_,av,az,bv⟩:=GZ (P:=P) a5 ap;have hu:=U7 R;have⟨e',a6⟩:=Option.isSome_iff_exists.1 bn;have a3:=U7 a6;have⟨zv,ez,bt⟩:=Fu Y
 have bq:VR g w zv z:=by rw[ez];grind[GL]
 have br:zv.cells.size=sz:=by rw[(bq.cells bo).1,bp]
 have D:∀w,(typeInfo e).run P w= .ok ((P.info? e).getD default) w/\((P.info? e).getD default).bytes=by_:=by
  intro w
  unfold UI at al
  cases U:P.info? e with
  |none=>simp_all
  |some i=>simp[U]at al;simp[typeInfo,U,al]
 rw[V3 X];simp only[builtin,Bl,D2,G8,B9,es,ey]
 have bi:¬(IntKind.i64.max<((xs.length+ys.length:Nat):Int)/\(False\/by_=0)):=by
  grind
 have bc:∀w,(typeInfo e).run P w= .ok ((P.info? e).getD default) w:=λw=>(D w).1;have bb:=(D w).2;have A:Rl g (H5 H tl) w:=hR.less λid b W=>HW W
 have bf:∀i,i<xs.length->(xs.getD i .bad).cells.length=sz:=λi U=>by
  have:=(List.all_eq_true.1 ao) (xs.getD i .bad) TQ
  simp_all
 have bg:∀i,i<ys.length->(ys.getD i .bad).cells.length=sz:=λi U=>by
  have:=(List.all_eq_true.1 ap) (ys.getD i .bad) TQ
  simp_all
 have E:∀i,i<xs.length+ys.length->((xs++ys).getD i .bad).cells.length=sz:=λi U=>by
  rw[JD];grind
 have m:∀(g':Gh) (w':Is),Al g w g' w'->∀i j,i<xs.length+ys.length->j<sz->(if i<xs.length then fs i j else fy (i-xs.length) j).oneCell'=true/\
  VR g' w' (if i<xs.length then fs i j else fy (i-xs.length) j) (((xs++ys).getD i .bad).cells.getD j .bad):=by
  intro g' w' st i j U r;rw[JD]
  split
  ·rename_i ac;exact⟨(au i j ac r).1,(au i j ac r).2.mono st⟩
  exact⟨(av _ j AY r).1,(av _ j AY r).2.mono st⟩
 by_cases d:xs.length+ys.length<=cap
 ·
  have f:∀w',(match base with|some a=>(storeCells (a.add (xs.length*sz)) ((List.range (ys.length*sz)).map λk=>fy (k / sz) (k % sz))).run P w|none=>.ok () w)= .ok () w'->
   (Builtin.append_ #[sT,yT] o.type #[.slice base xs.length cap,.slice Q ys.length ag]).run P w= .ok (.slice base (xs.length+ys.length) cap) w':=by
   intro w' ae;have u:=az w λ_ _=>rfl
   rw[ey]at u
   simp only[Builtin.append_,B9,run_underlying hu,B5,T5 a0,run_underlying a3,C7,Builtin.lenOf,AD,Z6,
    CZ,DV,D4,B6,CS,B4,A2 d,u]
   cases base with
   |none=>simp_all
   |some a=>simp_all
  by_cases J:ys=[]
  ·subst J
   have ad:(match base with|some a=>(storeCells (a.add (xs.length*sz)) ((List.range (([]:Up V).length*sz)).map λk=>fy (k / sz) (k % sz))).run P w|none=>.ok () w)= .ok () w:=by
    cases base<;>simp[storeCells]
   rw[f w ad];simp only[B5,C7,J3,BV,Cw,<-es]
   exact F7
  have am:0<ys.length:=List.length_pos_iff.2 J
  rcases bd with⟨b4,aq|aq,_⟩|⟨b,q,ak,be,_,sz',a1,a2⟩
  ·omega
  ·subst aq;exact hA.elim
  cases tl with
  |nil=>exact a2.elim
  |ro=>exact hA.elim
  |full=>grind[JW]
  | tok t=>
   have⟨bh,lim,bm,b3⟩:=a2;have:=a1 bh;subst this;have a8:H t=some .spare:=hA;have⟨b2,e2,b0,c,T,k1,k2,k3,k4,k5,k6⟩:=hR.blk t _ a8
   rw[bm]at k1
   simp only[E5,LL]at k1
   obtain⟨rfl,rfl,rfl⟩:=k1;have a7:(xs.length+ys.length)*sz'<=cap*sz':=J0 _ d;have an:(xs.length+ys.length)*sz'=xs.length*sz'+ys.length*sz':=F9 _ _ _
   have ay:∀v∈((List.range (ys.length*sz')).map λk=>fy (k / sz') (k % sz')),v.oneCell'=true:=by
    grind[Nat.div_lt_iff_lt_mul,Nat.mod_lt]
   have ad:=run_storeCells_at P b (q+xs.length*sz') T ((List.range (ys.length*sz')).map λk=>fy (k / sz') (k % sz')) 0 c w k3 Ts ay;have bz:=ad
   rw[ak]at f ⊢
   simp only[Bz]at f
   rw[f _ ad];simp only[B5,C7,J3]
   generalize hC:(c.toList.take (q+xs.length*sz'+0)++((List.range (ys.length*sz')).map λk=>fy (k / sz') (k % sz'))++
    c.toList.drop (q+xs.length*sz'+0+((List.range (ys.length*sz')).map λk=>fy (k / sz') (k % sz')).length)).toArray=C
   have ah:C.size=c.size:=by rw[<-hC];simp;omega
   have aa:∀k,k<c.size->C[k]? =if k<q+xs.length*sz' then c[k]? else if k<q+xs.length*sz'+ys.length*sz' then some (fy ((k-(q+xs.length*sz')) / sz') ((k-(q+xs.length*sz')) % sz'))else c[k]? :=by
    intro k S;rw[<-hC];simp only[Cw,Z6,E1,H9,CY];rw[EM,EM];simp only[EV,LY,LO (show q+xs.length*sz'<=c.size by omega),LW,LV,EP,H9,CY,Y1]
    by_cases q1:k<q+xs.length*sz'
    ·rw[A2 q1,A2 q1,A2 q1]
    rw[A1 q1,A1 q1]
    by_cases q2:k<q+xs.length*sz'+ys.length*sz'
    ·rw[A2 AY,A2 q2,Gx AY];rfl
    rw[A1 AY,A1 q2,show q+xs.length*sz'+ys.length*sz'+(k-(q+xs.length*sz')-ys.length*sz')=k by omega]
   have B:∀id,g.at (H5 H (.tok t)) id≠some b:=by
    intro id aw
    have ba:g.at H t=some b:=by simp_all[Gh.at]
    by_cases ax:id=t
    ·simp_all[Gh.at,H5,E7]
    have:g.at H id=some b:=by simp_all[Gh.at,H5,C8]
    exact ax (hR.inj _ _ _ this ba)
   have l:∀x o,g.fz x o->(w.setRow b C).cell? ⟨x,o,none⟩=w.cell? ⟨x,o,none⟩:=by
    intro x o hf
    by_cases M:x=b
    ·subst M
     have X:o<q+xs.length*sz':=by
      grind
     have ae:(w.setRow x C).heap[x]? =some (.cells C T (0,0)):=setRow_heap w x c C T (0,0) k3;simp only[World.cell?,ae,k3,GV,D4,B6];rw[aa o AY,A2 X]
    grind[EG]
   have p:Below g.base w (w.setRow b C):=Kw w b C k2
   have aj:=Rl.tok (e0:=q+xs.length*sz') (e:=q+(xs.length+ys.length)*sz') (lim:=c.size) A k2 (setRow_heap w b c C T (0,0) k3) ah AY k6 AY l p
    (λx M _=>S3 w b C x M) B
   have N:=Al.tok A b (q+xs.length*sz') (q+(xs.length+ys.length)*sz') c.size l p;refine⟨_,_,_,N,aj,?_,h g.nx J (A.nxt _ (C6 _)).2.2⟩
   refine .sl (sz:=sz') (λi j=>if i<xs.length then fs i j else fy (i-xs.length) j) OC d (λi U=>E i U) (λi j U r=>?_) (λi j U r=>?_)
    (λi j U r=>(m _ _ N i j U r).1) (λi j U r=>(m _ _ N i j U r).2) ?_
   ·grind[Gh.tok,Nat.mul_le_mul_right,Gi]
   ·have Z:=Gi U r;have ae:(w.setRow b C).heap[b]? =some (.cells C T (0,0)):=setRow_heap w b c C T (0,0) k3
    by_cases F:i<xs.length
    ·rw[A2 F]
     simp_all
    rw[A1 F];have O:xs.length*sz'<=i*sz':=J0 _ AY;have h3:(i-xs.length)*sz'=i*sz'-xs.length*sz':=DM _ _ _;simp only[World.cell?,ae,GV,D4,B6];rw[aa _ AY,A1 AY,A2 AY];rw[show q+i*sz'+j-(q+xs.length*sz')=(i-xs.length)*sz'+j by omega,(W9 r).1,(W9 r).2]
   refine⟨AY,c.size,?_,AY⟩;simp[Gh.tok]
 have bj:¬(2 ^ 48<Builtin.nextslicecap (xs.length+ys.length) cap*by_):=by
  have:=growslice_fits (LS d) ab;omega
 have ar:∀b o,w.drew.cell? ⟨b,o,none⟩=w.cell? ⟨b,o,none⟩:=λ_ _=>rfl;generalize hG:grownCap w (xs.length+ys.length) cap e=G
 have ai:xs.length+ys.length<=G:=by rw[<-hG];grind[grownCap_ge]
 have f:(Builtin.append_ #[sT,yT] o.type #[.slice base xs.length cap,.slice Q ys.length ag]).run P w=
  .ok (.slice (some ⟨w.heap.size,0,none⟩) (xs.length+ys.length) G)
   (w.drew.alloc (.cells (((List.range (xs.length*sz)).map λk=>fs (k / sz) (k % sz)).toArray++((List.range (ys.length*sz)).map λk=>fy (k / sz) (k % sz)).toArray++
    Builtin.zeroCells zv.cells (G-(xs.length+ys.length))) e)):=by
  have QW:(Question.appendCap (xs.length+ys.length) cap e).cut (w.tape w.drawn (.appendCap (xs.length+ys.length) cap e))=G:=hG;have hf:(Question.appendCap (xs.length+ys.length) cap e).forced=false:=rfl;have af:=bl w.drew ar;have u:=az w.drew ar
  rw[es]at af;rw[ey]at u
  simp only[Builtin.append_,B9,run_underlying hu,B5,T5 a0,run_underlying a3,C7,Builtin.lenOf,AD,bc,bb,Z6,
   CZ,DV,D4,B6,CS,B4,gt_iff_lt,false_or,A1 d,A1 bj,run_choose,hf,QW,LK,run_askRoom,af,u,bt,newRow,run_newObj,
   GR,LN]
  rw[A1 AY]
 rw[f];simp only[B5,C7,J3];generalize hC:((List.range (xs.length*sz)).map λk=>fs (k / sz) (k % sz)).toArray++((List.range (ys.length*sz)).map λk=>fy (k / sz) (k % sz)).toArray++Builtin.zeroCells zv.cells (G-(xs.length+ys.length))=C;have an:(xs.length+ys.length)*sz=xs.length*sz+ys.length*sz:=F9 _ _ _
 have ah:C.size=G*sz:=by
  rw[<-hC];simp only[OW,Jp,H9,CY,size_zeroCells,br,DM];have:(xs.length+ys.length)*sz<=G*sz:=J0 _ ai;omega
 have a9:(xs.length+ys.length)*sz<=G*sz:=J0 _ ai
 have aa:∀k,k<(xs.length+ys.length)*sz->C[k]? =some (if k<xs.length*sz then fs (k / sz) (k % sz)else fy ((k-xs.length*sz) / sz) ((k-xs.length*sz) % sz)):=by
  grind
 have l:∀x o,g.fz x o->(w.drew.alloc (.cells C e)).cell? ⟨x,o,none⟩=w.cell? ⟨x,o,none⟩:=λx o hf=>Fo (w:=w.drew) (hR.fz_lt hf);have p:Below g.base w (w.drew.alloc (.cells C e)):=(AC _ _).drew.alloc hR.bnd _
 have B:∀id,g.at (H5 H tl) id≠some w.heap.size:=λid aw=>absurd (A.lt aw) (Y0 _)
 have aj:=Rl.tok (e0:=0) (e:=(xs.length+ys.length)*sz) (lim:=G*sz) A hR.bnd (DA (w:=w.drew) (o:=.cells C e)) ah a9 (λo _ hf=>absurd (hR.fz_lt hf) (Y0 _)) (BK _) l p
  (λx M ac=>heap_alloc (w:=w.drew) ac) B
 have N:=Al.tok A w.heap.size 0 ((xs.length+ys.length)*sz) (G*sz) l p
 have J:ys≠[]:=by
  grind
 refine⟨_,_,_,N,aj,?_,h g.nx J (A.nxt _ (C6 _)).2.2⟩;have am:0<ys.length:=List.length_pos_iff.2 J
 refine .sl (sz:=sz) (λi j=>if i<xs.length then fs i j else fy (i-xs.length) j) OC ai (λi U=>E i U) (λi j U r=>.inr ⟨rfl,BK _,by have:=Gi U r;omega⟩) (λi j U r=>?_)
  (λi j U r=>(m _ _ N i j U r).1) (λi j U r=>(m _ _ N i j U r).2) ?_
 ·have Z:=Gi U r;rw[show(⟨w.heap.size,0+i*sz+j,none⟩:Addr)=⟨w.drew.heap.size,i*sz+j,none⟩ by simp];rw[Tz (w:=w.drew),aa _ Z]
  congr 1
  by_cases F:i<xs.length
  ·have h3:=Gi F r;rw[A2 h3,A2 F,(W9 r).1,(W9 r).2]
  have O:xs.length*sz<=i*sz:=J0 _ AY;have h3:(i-xs.length)*sz=i*sz-xs.length*sz:=DM _ _ _;rw[A1 AY,A1 F,show i*sz+j-xs.length*sz=(i-xs.length)*sz+j by omega,(W9 r).1,(W9 r).2]
 refine⟨AY,G*sz,?_,OC⟩;simp[Gh.tok]
end
mutual
inductive DI :V->V->Prop
 |refl (x:V):DI x x
 |ro (xs:List V) (t:G5):DI (.sl xs t) (.sl xs .ro)
 |sl {xs ys:List V} (t:G5):M7 xs ys->DI (.sl xs t) (.sl ys .ro)
 |slt {xs ys:List V} (t:G5):M7 xs ys->DI (.sl xs t) (.sl ys t)
 |sub {cs:List V} {d sz:Nat} (h:d+sz<=cs.length):DI (.eref cs d) (.eref ((cs.drop d).take sz) 0)
 |agg {xs ys:List V}:M7 xs ys->DI (.agg xs) (.agg ys)
 |tup {xs ys:List V}:M7 xs ys->DI (.tup xs) (.tup ys)
inductive M7 :List V->List V->Prop
 |nil:M7 [] []
 |cons {x y:V} {xs ys:List V}:DI x y->M7 xs ys->M7 (x::xs) (y::ys)
end
theorem M7.refl:∀xs:Up V,M7 xs xs
 |[]=>.nil
 |x::xs=>.cons (.refl x) (.refl xs)
def M7.length:∀{xs ys:Up V},M7 xs ys->xs.length=ys.length
 |_,_,.nil=>rfl
 |_,_,.cons _ h=>by simp[M7.length h]
theorem M7.at:∀{xs ys:Up V},M7 xs ys->∀i:Nat,DI (xs.getD i .bad) (ys.getD i .bad)
 |_,_,.nil,i=>by simp;exact .refl _
 |_,_,.cons h _,0=>Pw
 |_,_,.cons _ h,i+1=>by simpa using M7.at h i
theorem DI.cells {x y:V}(h:DI x y):M7 x.cells y.cells:=by
 cases h with
 |refl=>exact .refl _
 |ro=>exact .cons (.ro _ _) .nil
 |sl t h=>exact .cons (.sl t h) .nil
 |slt t h=>exact .cons (.slt t h) .nil
 |sub h=>exact .cons (.sub h) .nil
 |agg h=>exact h
 |tup h=>exact .cons (.tup h) .nil
theorem DI.one {x y:V}(h:DI x y)(M:x.one=true):y.one=true:=by
 cases h<;>first|exact M|rfl|cases M
theorem VR.le{v:HO}(h:VR g w v x):∀{y:V},DI x y->VR g w v y:=by
 induction h with
 |sl0 e=>
  intro y k
  cases k with
  |refl=>exact .sl0 e
  |ro=>exact .sl0 rfl
  |sl t G=>cases G;exact .sl0 rfl
  |slt t G=>cases G;exact .sl0 e
 |sle e=>
  intro y k
  cases k with
  |refl=>exact .sle e
  |ro=>exact .sle (.inl rfl)
  |sl t G=>cases G;exact .sle (.inl rfl)
  |slt t G=>cases G;exact .sle e
 | sl vs E d Y q m O a e ih=>
  rename_i b o sz n cap xs t;intro y k
  cases k with
  |refl=>exact .sl vs E d Y q m O a e
  |ro=>exact .sl vs E d Y q m O a trivial
  |sl t G=>
   refine .sl vs (G.length▸E) d (λi U=>?_) q m O (λi j U z=>ih i j U z ((G.at i).cells.at j)) trivial;rw[<-(G.at i).cells.length];grind
  |slt t G=>
   refine .sl vs (G.length▸E) d (λi U=>?_) q m O (λi j U z=>ih i j U z ((G.at i).cells.at j)) e;rw[<-(G.at i).cells.length];grind
 |agg B O a ih=>
  intro y k
  cases k with
  |refl=>exact .agg B O a
  |agg G=>exact .agg (B.trans G.length) (λi U=>O i (G.length▸U)) λi U=>ih i (G.length▸U) (G.at i)
 |tup B a ih=>
  intro y k
  cases k with
  |refl=>exact .tup B a
  |tup G=>exact .tup (B.trans G.length) λi U=>ih i (G.length▸U) (G.at i)
 |bad v=>intro y k;cases k;exact .bad v
 |bool b=>intro y k;cases k;exact .bool b
 |int k n=>intro y k';cases k';exact .int k n
 |str s=>intro y k;cases k;exact .str s
 |nilp=>intro y k;cases k;exact .nilp
 |nilf=>intro y k;cases k;exact .nilf
 |nili=>intro y k;cases k;exact .nili
 |nilmap=>intro y k;cases k;exact .nilmap
 |map h=>intro y k;cases k;exact .map h
 |fmap W m S E B a ih=>intro y k;cases k;exact .fmap W m S E B a
 |ref h=>intro y k;cases k;exact .ref h
 |own h L O Z f=>intro y k;cases k;exact .own h L O Z f
 |elem h G=>intro y k;cases k;exact .elem h G
 | eref vs q m O a ih=>
  rename_i b o off cs;intro y k
  cases k with
  |refl=>exact .eref vs q m O a
  | sub hd=>
   rename_i sz
   have B:((cs.drop off).take sz).length=sz:=by simp;omega
   have N:∀j,j<sz->((cs.drop off).take sz).getD j .bad=cs.getD (off+j) .bad:=λj z=>by
    grind
   have:=VR.eref (g:=g) (w:=w) (b:=b) (o:=o+off) (off:=0) (cs:=(cs.drop off).take sz) (λj=>vs (off+j)) (λj z=>by rw[B]at z;have:=q (off+j) AY;rwa[<-Cy]at this)
    (λj z=>by rw[B]at z;have:=m (off+j) AY;rwa[<-Cy]at this) (λj z=>by rw[B]at z;grind) (λj z=>by rw[B]at z;rw[N j z];grind)
   rwa[Cw]at this
 |func B a l r ih c=>intro y k;cases k;exact .func B a l r
 |yield h=>intro y k;cases k;exact .yield h
 |iface h ih=>intro y k;cases k;exact .iface h
def M7.sz {sz:Nat}:∀{xs ys:Up V},M7 xs ys->ys.all (λx=>x.cells.length==sz)=true->xs.all (λx=>x.cells.length==sz)=true
 |_,_,.nil,_=>rfl
 |_,_,.cons h k,u=>by
  simp only[Jf,G9]at u ⊢
  exact⟨by rw[h.cells.length];exact u.1,M7.sz k u.2⟩
def M7.append:∀{xs ys a ys':Up V},M7 xs a->M7 ys ys'->M7 (xs++ys) (a++ys')
 |_,_,_,_,.nil,k=>k
 |_,_,_,_,.cons h k,k'=>.cons h (M7.append k k')
end Go.Ab
namespace Go.Ab
variable [O7]
def DI.z {v:V}:DI v v:=.refl v
def M7.z {l:Up V}:M7 l l:=.refl l
def M7.r {a:V}{l b:Up V}(h:M7 l b):M7 (a::l) (a::b):=.cons (.refl a) h
end Go.Ab
namespace Go.Ab
open Go.RowKit
variable [O7]
variable{c:SI HO}{cs:SI Bool}{fy:Nat->Nat->HO}{g:Gh}{i:Nat}{k k':IntKind}{m:Int}{s y:By}{t ty:Do}{vs:HO}{w:Is}{x:V}{xs ys:Up V}
def Gh.own (g:Gh)(b:Nat)(hd:Hd):Gh:=
 {g with mu:=λx=>if x=g.nx then some b else g.mu x,ow:=λx=>if x=g.nx then hd else g.ow x,nx:=g.nx+1}
theorem Al.own {g:Gh}{H:A5}{w w':Is}(h:Rl g H w)(b:Nat)(hd:Hd)(d:∀b o,g.fz b o->w'.cell? ⟨b,o,none⟩=w.cell? ⟨b,o,none⟩)(B:Below g.base w w')(a:w.drawn<=w'.drawn:=by first|exact Nat.le_refl _|exact Nat.le_succ _|exact Nat.le_add_right _ _):Al g w (g.own b hd) w':=by
 have E:=(h.nxt _ (C6 _)).1;refine⟨λid b e=>?_,λt x e=>e,λ_ _ e=>e,rfl,d,B,λid b e=>?_,a⟩
 ·grind[Gh.own]
 grind[Gh.own]
def Rl.newArr{H:A5}{w':Is}(h:Rl g H w){b o sz:Nat}(Y:∀i,i<ys.length->(ys.getD i .bad).cells.length=sz)
 (r:∀b o,g.fz b o->w'.cell? ⟨b,o,none⟩=w.cell? ⟨b,o,none⟩)(B:Below g.base w w')(l:∀x,(ys.length=0\/x≠b)->x<w.heap.size->w'.heap[x]? =w.heap[x]?)
 (W:ys.length=0\/∃c T,g.base<=b/\w'.heap[b]? =some (.cells c T (0,0))/\o+ys.length*sz<=c.size/\
  (∀i j,i<ys.length->j<sz->(c.getD (o+i*sz+j) undef).oneCell'=true/\VR g w (c.getD (o+i*sz+j) undef) ((ys.getD i .bad).cells.getD j .bad))/\
  (∀q,o<=q->¬g.fz b q)/\∀id,g.at H id≠some b)(m:w.drawn<=w'.drawn:=by first|exact C6 _|exact GN _|exact Jm _ _):
 Al g w (g.own b ⟨o,ys.length,sz⟩) w'/\Rl (g.own b ⟨o,ys.length,sz⟩) (upd H g.nx (some (.arr sz ys))) w'/\H g.nx=none:=by
 have s:=Al.own h b ⟨o,ys.length,sz⟩ r B m;have p:=h.nxt g.nx (C6 _)
 generalize y:g.own b ⟨o,ys.length,sz⟩=g' at s ⊢
 have em:∀x,g'.mu x=if x=g.nx then some b else g.mu x:=λx=>by rw[<-y];rfl
 have A:∀x,g'.ow x=if x=g.nx then⟨o,ys.length,sz⟩else g.ow x:=λx=>by rw[<-y];rfl
 have et:g'.tk=g.tk:=by rw[<-y];rfl
 have d:g'.fz=g.fz:=by rw[<-y];rfl
 have G:g'.nx=g.nx+1:=by rw[<-y];rfl
 have u:g'.base=g.base:=by rw[<-y];rfl
 have N:∀id,id≠g.nx->g'.at (upd H g.nx (some (.arr sz ys))) id=g.at H id:=λid U=>
  TG (C8 _ _ U) (by rw[em,A1 U]) (by rw[et]) (by rw[A,A1 U])
 have f:g'.at (upd H g.nx (some (.arr sz ys))) g.nx=if ys.length=0 then none else some b:=by grind[Gh.at,upd]
 refine⟨s,⟨λid k S=>?_,λid t x O Z=>?_,λx q C=>?_,λid U=>?_,?_,λn=>(h.glb n).mono s⟩,p.2.2⟩
 ·by_cases U:id=g.nx
  ·subst U;rw[E7]at S;cases S
   refine⟨b,by rw[em,A2 rfl],?_⟩;rw[A,A2 rfl];refine⟨rfl,rfl,Y,W.imp (λh=>h) λ⟨c,T,I,J,L,F,Q,k6⟩=>⟨c,T,by rw[u];exact I,J,L,λi j U z=>⟨(F i j U z).1,(F i j U z).2.mono s⟩,by rw[d];exact Q⟩⟩
  rw[C8 _ _ U]at S
  refine(h.blk id k S).mono S s λx M=>⟨l x ?_ (h.lt M),λq E=>by rw[d]at E;exact E⟩
  grind
 ·have M:∀id,g'.at (upd H g.nx (some (.arr sz ys))) g.nx=some x->g.at H id=some x->False:=λid O Z=>by
   rw[f]at O
   grind
  by_cases U:id=g.nx<;>by_cases a:t=g.nx
  ·rw[U,a]
  ·simp_all
  ·simp_all
  rw[N _ U]at O;rw[N _ a]at Z;exact h.inj _ _ _ O Z
 ·rw[d]at C
  have⟨v,hv⟩:=h.frz x q C
  simp_all
 ·rw[G]at U
  have a:g.nx<=id:=LU U
  have D:id≠g.nx:=λe=>AY
  have⟨R,X,a3⟩:=h.nxt id a
  simp_all[upd]
 have:=h.bnd;have:=B.size;rw[u];omega
def Rl.setArr{H:A5}(h:Rl g H w){id b sz:Nat}{c':SI HO}{T:Do}(S:H id=some (.arr sz xs))(W:g.mu id=some b)(A:xs.length≠0)
 (m:w.heap[b]? =some (.cells c T (0,0)))(E:c'.size=c.size)(C:∀o,o<(g.ow id).o->c'[o]? =c[o]?)(B:ys.length=xs.length)(Y:∀i,i<ys.length->(ys.getD i .bad).cells.length=sz)
 (t:∀i j,i<ys.length->j<sz->(c'.getD ((g.ow id).o+i*sz+j) undef).oneCell'=true/\VR g w (c'.getD ((g.ow id).o+i*sz+j) undef) ((ys.getD i .bad).cells.getD j .bad)):
 Al g w g (w.setRow b c')/\Rl g (upd H id (some (.arr sz ys))) (w.setRow b c'):=by
 have⟨b',O,G,Z,h4,p⟩:=h.blk id _ S
 have e:b'=b:=by rw[W]at O;simp_all
 subst e
 rcases p with p|⟨f,L,u,F,k3,k4,J⟩
 ·omega
 rw[m]at F
 have e2:f=c:=Pw
 subst e2;have a:=setRow_heap w b' f c' T (0,0) m
 have s:Al g w g (w.setRow b' c'):=by
  refine⟨λ_ _ e=>e,λ_ _ e=>e,λ_ _ e=>e,rfl,λb o q=>?_,Kw w b' c' u,λ_ _ _=>rfl,C6 _⟩
  by_cases e:b=b'
  ·subst e
   have X:o<(g.ow id).o:=by
    grind
   simp only[World.cell?,a,m,GV,D4,B6]
   grind
  grind[EG]
 have r:∀x,g.at (upd H id (some (.arr sz ys))) x=g.at H x:=by
  exact Px
 have N:g.at H id=some b':=by simp_all[Gh.at]
 refine⟨s,λx k M=>?_,λx x' y O Z=>h.inj x x' y (r x▸O) (r x'▸Z),λy o q=>?_,λx M=>?_,?_,λn=>(h.glb n).mono s⟩
 ·by_cases l:x=id
  ·subst l;rw[E7]at M;cases M
   exact⟨b',W,G,Z.trans B.symm,Y,.inr ⟨c',T,u,a,by rw[B];omega,λi j U z=>⟨(t i j U z).1,(t i j U z).2.mono s⟩,J⟩⟩
  rw[C8 _ _ l]at M
  refine(h.blk x k M).mono M s λy I=>⟨S3 w b' c' y λe=>?_,λ_ X=>X⟩;subst e;exact l (h.inj _ _ _ I N)
 ·have⟨v,d⟩:=h.frz y o q;exact⟨v,(s.cell y o q).trans d⟩
 ·have⟨Q,R,a3⟩:=h.nxt x M
  have D:x≠id:=λe=>TQ
  simp_all[upd]
 grind
def P2 (xs:Up V)(lo n:Int):Up V:=(xs.drop lo.toNat).take n.toNat
def Rl.freezeArr'{H:A5}(h:Rl g H w){id sz:Nat}(S:H id=some (.arr sz xs)):
 ∃g',(g'.mu=g.mu/\g'.tk=g.tk/\g'.ow=g.ow)/\Al g w g' w/\Rl g' (upd H id none) w/\∀v lo n,VR g' w v (.own id lo n)->VR g' w v (.sl (P2 xs lo n) .ro):=by
 have⟨b,O,G,Z,h4,h6⟩:=h.blk id _ S
 by_cases d:xs.length=0
 ·have M:xs=[]:=List.length_eq_zero_iff.1 d;refine⟨g,⟨rfl,rfl,rfl⟩,Al.refl _ _,h.less λx k M=>?_,λv lo n W=>?_⟩
  ·simp_all[upd]
  subst M
  cases W with
  |own hm L F m f=>
   rename_i p
   have t:lo=0:=AY
   have e2:n=0:=AY
   subst t;subst e2;rw[show(g.ow id).cap=0 by omega]
   cases p with
   |none=>exact .sl0 rfl
   |some a=>exact .sle (.inl rfl)
 rcases h6 with h6|⟨c,T,k1,k2,k3,k4,k5⟩
 ·omega
 let g':Gh:={g with fz:=λx o=>g.fz x o\/(x=b/\o<c.size)}
 have s:Al g w g' w:=⟨λ_ _ e=>e,λ_ _ e=>e,λ_ _ e=>.inl e,rfl,λ_ _ _=>rfl,AC _ _,λ_ _ _=>rfl,C6 _⟩
 have J:g.at H id=some b:=by simp_all[Gh.at]
 have N:∀o,w.cell? ⟨b,o,none⟩=c[o]? :=λo=>by simp[World.cell?,k2]
 have u:∀x y,g'.at (upd H id none) x=some y->x≠id/\g.at H x=some y:=by
  exact Px
 have l:∀i j,i<xs.length->j<sz->(g.ow id).o+i*sz+j<c.size:=λi j U z=>by
  have t:=Gi (n:=xs.length) U z;omega
 refine⟨g',⟨rfl,rfl,rfl⟩,s,⟨λx k M=>?_,λx x' y O Z=>h.inj _ _ _ (u _ _ O).2 (u _ _ Z).2,λy o q=>?_,λx M=>?_,h.bnd,λn=>(h.glb n).mono s⟩,λv lo n W=>?_⟩
 ·have D:x≠id:=λe=>by simp_all[upd]
  rw[C8 _ _ D]at M
  refine(h.blk x k M).mono M s λy I=>⟨rfl,λo X=>?_⟩
  rcases X with X|⟨e,_⟩
  ·exact X
  subst e;exact absurd (h.inj _ _ _ I J) D
 ·rcases q with q|⟨e,X⟩
  ·exact h.frz y o q
  simp_all
 ·have⟨a1,a2,a3⟩:=h.nxt x M
  have aa:x≠id:=λe=>TQ
  grind[upd]
 have r:∀i,i<n.toNat->(P2 xs lo n).getD i .bad=xs.getD (lo.toNat+i) .bad:=λi U=>by
  simp_all[P2]
 cases W with
 | own hm L F m f=>
  rename_i b' p;have B:g.mu id=some b':=hm
  rw[O]at B;cases B
  have Y:lo+n<=((g.ow id).cap:Nat):=m
  have R:(P2 xs lo n).length=n.toNat:=by grind[P2]
  show VR g' w (.slice p n.toNat ((g.ow id).cap-lo.toNat)) _
  by_cases E:n=0
  ·subst E
   have e0:P2 xs lo 0=[]:=by simp[P2]
   rw[e0]
   cases p with
   |none=>
    have:¬(lo<((g.ow id).cap:Nat)):=λl=>by have:=f l;cases this
    rw[show(g.ow id).cap-lo.toNat=0 by omega];exact .sl0 rfl
   |some a=>exact .sle (.inl rfl)
  have A:lo<((g.ow id).cap:Nat):=AY
  have Q:=f A;rw[Q];have C:(g'.ow id)=g.ow id:=rfl;rw[C,G]
  refine .sl (sz:=sz) (λi j=>c.getD ((g.ow id).o+(lo.toNat+i)*sz+j) undef) R AY (λi U=>by rw[r i U];grind) (λi j U z=>?_) (λi j U z=>?_)
   (λi j U z=>(k4 _ j AY z).1) (λi j U z=>by rw[r i U];exact(k4 _ j AY z).2.mono s) trivial
  ·have:=l (lo.toNat+i) j AY z
   rw[F9]at this
   omega
  rw[N];have:=l (lo.toNat+i) j AY z
  rw[F9]at this ⊢
  rw[show(g.ow id).o+lo.toNat*sz+i*sz+j=(g.ow id).o+(lo.toNat*sz+i*sz)+j by omega]
  simp_all
def Rl.freezeArr{H:A5}(h:Rl g H w){id sz:Nat}(S:H id=some (.arr sz xs)):
 ∃g',Al g w g' w/\Rl g' (upd H id none) w/\∀v lo n,VR g' w v (.own id lo n)->VR g' w v (.sl (P2 xs lo n) .ro):=
 let⟨g',_,h⟩:=h.freezeArr' S;⟨g',h⟩
def Lp (H:A5)(id:Nat):OS (Nat×Up V):=
 match H id with
 |some (.arr sz xs)=>some (sz,xs)
 |_=>none
def IJ{H:A5}{id sz:Nat}(h:Lp H id=some (sz,xs)):H id=some (.arr sz xs):=by
 grind[Lp]
def BN1 (P:If)(a:A5)(t:Do)(v:V):OS V:=
 match Ic P t,v with
 |some _,.own _ _ n=>some (.int .i64 n)
 |_,_=>none
def AM2 (P:If) (H:A5) (t:Do) (v:V) (i:Int):OS V:=
 match Ic P t,v with
 |some e,.own id lo n=>
  match Lp H id with
  |some (sz,_)=>if(0<=i/\i<n)/\Hk P e=some sz then some (.elem id (lo+i) sz 0)else none
  |none=>none
 |_,_=>none
def Rh (P:If) (H:A5) (t:Do) (v:V):OS V:=
 match ZC P t,Hk P t,v with
 |some a,some sz,.elem id i _ off=>
  match Lp H id with
  |some (_,xs)=>if 0<=i/\i<xs.length then Im a sz (xs.getD i.toNat .bad).cells off else none
  |none=>none
 |_,_,_=>none
def Ox (x:V)(esz sz off:Nat)(y:V):V:=
 match Nat.beq off 0&&Nat.beq sz esz with
 |true=>y
 |false=>.agg (Z7 x.cells off y.cells)
def Ag7 (P:If) (H:A5) (t:Do) (v y:V):OS A5:=
 match Hk P t,v with
 | some sz,.elem id i esz off=>
  match Lp H id with
  |some (a,xs)=>
   if(0<=i/\i<xs.length)/\a=esz/\y.one=true/\y.cells.length=sz/\off+sz<=esz then some (upd H id (some (.arr esz (xs.set i.toNat (Ox (xs.getD i.toNat .bad) esz sz off y)))))else none
  |none=>none
 |_,_=>none
def AJ6{y:V}{esz sz off:Nat}(M:x.cells.length=esz)(I:y.cells.length=sz)(h:off+sz<=esz):(Ox x esz sz off y).cells=Z7 x.cells off y.cells:=by
 unfold Ox
 split
 ·simp_all[Z7]
 rfl
section
variable {P:Program}{o:Oper}{fr:Fr}{H:A5}{K:V->A5->Prop}
theorem Br7(X:o.op= .call {callee:=.builtin .len,args:= #[y],argTypes:= #[t]})(B:BN1 P H t (ev fr y)=some x)(h:K x H):K0 P o fr H K:=by
 intro g w a C i;have j:=G2 C i y;rw[V3 X];simp only[builtin,Bl,D2,G8,B9]
 unfold BN1 at B
 split at B
 ·rename_i e id lo n b R
  rw[R]at j
  cases B;have l:=U7 b
  generalize a.eval y=v at j
  cases j with
  |own p L O Z f=>
   simp[Builtin.len_,run_underlying l,goInt];rw[show(max n 0:Int)=n by omega];exact Kl
 cases B
theorem Br8{z:By}{i:Int}(X:o.op= .indexAddr t y z)(Y:ev fr z= .int k i)(B:AM2 P H t (ev fr y) i=some x)(h:K x H):K0 P o fr H K:=by
 intro g w a C c;have j:=G2 C c y;have U:=G2 C c z
 rw[Y]at U
 have U:=U.int_inv
 unfold AM2 at B
 split at B
 ·rename_i e id lo n N R
  rw[R]at j
  split at B
  ·rename_i sz xs M
   split at B
   ·rename_i d;cases B;have⟨b',u,G,A,D,E⟩:=C.blk id _ (IJ M);have s:=U7 N
    generalize b:a.eval y=v at j
    cases j with
    |own p L O Z f=>
     have l:lo<((g.ow id).cap:Nat):=AY
     have r:=f l;subst r;unfold execOp;rw[X];have m:=d.1.1
     have q:i<(n.toNat:Int):=AY
     simp only[b,U,Instr.indexAt,asIntOf,B9,C7,B5,run_underlying s,m,q,and_self,B4,T5 d.2,J3,Bz];refine O6.here C ?_ h;have:=VR.elem (g:=g) (w:=w) (i:=lo+i) (off:=0) p G;rw[G]
     rw[show(lo+i).toNat=lo.toNat+i.toNat by omega,F9,Cw,<-Cy]at this
     exact this
   cases B
  cases B
 cases B
theorem Be6(X:o.op= .load t y)(B:Rh P H t (ev fr y)=some x)(h:K x H):K0 P o fr H K:=by
 intro g w a C E;have q:=G2 C E y
 unfold Rh at B
 split at B
 ·rename_i S sz id i esz off F G R
  rw[R]at q
  split at B
  ·rename_i L xs M
   split at B
   ·rename_i d
    generalize N:a.eval y=v at q
    cases q with
    | elem p m=>
     rename_i b;have⟨b',O,f,Z,D,s⟩:=C.blk id _ (IJ M)
     rw[p]at O;cases O
     subst f
     have l:i.toNat<xs.length:=AY
     rcases s with s|⟨c,T,W,J,Y,A,k5⟩
     ·omega
     have e:An5 g w b ((g.ow id).o+i.toNat*(g.ow id).sz) (xs.getD i.toNat .bad).cells:=λj z=>by
      have r:j<(g.ow id).sz:=by rw[<-D _ l];exact z
      have U:=Gi (n:=xs.length) l r;have e2:xs.length*(g.ow id).sz<=(g.ow id).cap*(g.ow id).sz:=J0 _ AY;refine⟨_,?_,(A _ j l r).1,(A _ j l r).2⟩;simp[World.cell?,J,Array.getD,show(g.ow id).o+i.toNat*(g.ow id).sz+j<c.size by omega]
     have⟨u,I,Q⟩:=KX (P:=P) e F G B;unfold execOp;rw[X]
     rw[<-m]at N
     simp only[N,Instr.loadAt,Instr.sureAddr,B9,C7,B5,I,J3]
     exact F7
   cases B
  cases B
 cases B
theorem AH6{z:By}{D:V}{H':A5}(X:o.op= .store t y z)(hle:DI (ev fr z) D)(B:Ag7 P H t (ev fr y) D=some H')(h:K .bad H'):K0 P o fr H K:=by
 intro g w a hR hE;have U:=G2 hR hE y;have Y:=(G2 hR hE z).le hle
 unfold Ag7 at B
 split at B
 ·rename_i sz id i esz off G R
  rw[R]at U
  split at B
  ·rename_i aq xs M
   split at B
   ·rename_i d;have⟨W,u,L,e,F⟩:=d;cases B
    generalize E:a.eval y=v at U
    cases U with
    | elem p ap=>
     rename_i b;have S:=IJ M;have⟨b',O,ao,Z,h4,h6⟩:=hR.blk id _ S
     rw[p]at O;cases O
     have u:=u.symm;subst u
     have I:i.toNat<xs.length:=AY
     rcases h6 with h6|⟨c,T,k1,k2,k3,k4,k5⟩
     ·omega
     have⟨ad,ae⟩:=Y.cells L
     have aj:(a.eval z).cells.size=sz:=by rw[ad,e]
     have J:∀v∈(a.eval z).cells.toList,v.oneCell'=true:=by
      intro v U;obtain⟨j,hj,rfl⟩:=R4 U
      have an:j<(a.eval z).cells.size:=AY
      have:=(ae j AY).1
      simp_all
     have m:xs.length≠0:=AY
     have e2:xs.length*esz<=(g.ow id).cap*esz:=J0 _ AY;have e3:(i.toNat+1)*esz<=xs.length*esz:=J0 _ AY
     rw[F9,Z2]at e3
     generalize hA:(g.ow id).o+i.toNat*esz+off=A
     have al:A+sz<=c.size:=by rw[<-hA];omega
     have Q:=run_storeCells_at P b A T (a.eval z).cells.toList 0 c w k2 Ts J
     generalize hC:(c.toList.take (A+0)++(a.eval z).cells.toList++c.toList.drop (A+0+(a.eval z).cells.toList.length)).toArray=C at Q
     have ac:C.size=c.size:=by rw[<-hC];simp;omega
     have ab:∀j,j<c.size->C[j]? =if A<=j/\j<A+sz then(a.eval z).cells[j-A]? else c[j]? :=by
      intro j I;rw[<-hC];simp only[Cw,Z6,E1];rw[EM,EM];simp only[EV,LY,LO (show A<=c.size by omega),LW,LV,EP]
      by_cases q1:j<A
      ·rw[A2 q1,A2 q1,A1 AY]
      rw[A1 q1]
      by_cases q2:j<A+sz
      ·rw[A2 AY,A2 ⟨AY,q2⟩]
      rw[A1 AY,A1 AY,show A+(a.eval z).cells.size+(j-A-(a.eval z).cells.size)=j by omega]
     have N:=h4 _ I;have ai:=AJ6 (x:=xs.getD i.toNat .bad) (y:=D) N e F
     have r:∀k,k<xs.length->(xs.set i.toNat (Ox (xs.getD i.toNat .bad) esz sz off D)).getD k .bad=if k=i.toNat then Ox (xs.getD i.toNat .bad) esz sz off D else xs.getD k .bad:=by
      grind
     have f:=hR.setArr (c':=C) (ys:=xs.set i.toNat (Ox (xs.getD i.toNat .bad) esz sz off D)) S p m k2 ac (λq hq=>by
      grind) OC (λk ag=>by
      have l:k<xs.length:=Pw
      rw[r k l]
      grind[Dd]) (λk j ag hj=>by
      have l:k<xs.length:=Pw
      rw[r k l];have e1:=Gi (n:=xs.length) l hj
      have af:(g.ow id).o+k*esz+j<c.size:=AY
      have aa:C.getD ((g.ow id).o+k*esz+j) undef=if A<=(g.ow id).o+k*esz+j/\(g.ow id).o+k*esz+j<A+sz then(a.eval z).cells.getD ((g.ow id).o+k*esz+j-A) undef else c.getD ((g.ow id).o+k*esz+j) undef:=by
       simp only[Q0,ab _ af]
       split<;>rfl
      rw[aa]
      by_cases s:k=i.toNat
      ·subst s;rw[A2 rfl,ai,My (by rw[e,N];omega),e];rw[<-hA]
       grind
      rw[A1 s]
      have ah:¬(A<=(g.ow id).o+k*esz+j/\(g.ow id).o+k*esz+j<A+sz):=by
       rw[<-hA];rintro⟨q1,q2⟩
       rcases Nat.lt_or_gt_of_ne s with ak|am
       ·have:=J0 esz (show k+1<=i.toNat by omega)
        rw[F9,Z2]at this
        omega
       have:=J0 esz (show i.toNat+1<=k by omega)
       rw[F9,Z2]at this
       omega
      rw[A1 ah]
      grind)
     unfold execOp;rw[X]
     rw[hA]at E
     simp only[E,Instr.storeAt,Instr.sureAddr,storeVar,B9,C7,B5,T5 G w,aj,ne_eq,Y2,B6,Q,J3];exact⟨g,.bad,_,f.1,f.2,.bad _,h⟩
   cases B
  cases B
 cases B
end
def Hc{H:A5}(C:Rl g H w)(sz:Nat){v:HO}(M:x= .sl [] .nil\/x= .sl [] .full)(j:VR g w v x):
 ∃g',Al g w g' w/\Rl g' (upd H g.nx (some (.arr sz []))) w/\H g.nx=none/\VR g' w v (.own g.nx 0 0):=by
 have⟨s,r,E⟩:=Rl.newArr (w':=w) C (b:=0) (o:=0) (sz:=sz) (ys:=[]) (λi U=>by simp at U) (λ_ _ _=>rfl) (AC _ _) (λ_ _ _=>rfl) (.inl rfl);refine⟨_,s,r,E,?_⟩
 have key:∀p:OS Addr,VR (g.own 0 ⟨0,0,sz⟩) w (.slice p 0 0) (.own g.nx 0 0):=λp=>by
  have e:(g.own 0 ⟨0,0,sz⟩).ow g.nx=⟨0,0,sz⟩:=by simp[Gh.own]
  have:=VR.own (g:=g.own 0 ⟨0,0,sz⟩) (w:=w) (id:=g.nx) (b:=0) (lo:=0) (n:=0) (p:=p) (by simp[Gh.own]) AY AY (by rw[e];simp) (by rw[e];simp)
  rw[e]at this
  exact this
 rcases M with rfl|rfl
 ·cases j with
  |sl0 l=>grind
  |sle h=>rcases h with h|⟨h,_⟩<;>cases h
  |sl vs E d Y q m O j l=>exact l.elim
 cases j with
 |sl0 l=>grind
 |@sle a c t h=>
  simp_all
 |sl vs E d Y q m O j l=>
  simp_all[JW]
section
variable {P:Program}{o:Oper}{fr:Fr}{H:A5}{K:V->A5->Prop}
theorem Ar2{l c:By}{e:Do}{k1 k2:IntKind}{n:Int}{sz by_:Nat}{z:V}(X:o.op= .makeSlice t l c)(B:ev fr l= .int k1 n)(d:ev fr c= .int k2 m)(R:Ic P t=some e)(ah:Hk P e=some sz)
 (an:0<sz)(u:UI P e=some by_)(ao:0<by_)(Y:Lr P e=some z)(ak:z.one=true)(T:z.cells.length=sz)(L:0<=n)(O:n<=m)(Z:m*by_<=281474976710656)
 (h:∀id,H id=none->K (.own id 0 n) (upd H id (some (.arr sz (List.replicate m.toNat z))))):K0 P o fr H K:=by
 intro g w a N hE;have y:=G2 N hE l;have v:=G2 N hE c
 rw[B]at y;rw[d]at v
 have y:=y.int_inv;have v:=v.int_inv;have hu:=U7 R;have⟨zv,ez,am⟩:=Fu Y
 have al:VR g w zv z:=by rw[ez];grind[GL]
 have⟨aa,ar⟩:=al.cells ak
 have W:zv.cells.size=sz:=by rw[aa,T]
 have I:∀w,(typeInfo e).run P w= .ok ((P.info? e).getD default) w/\((P.info? e).getD default).bytes=by_:=by
  intro w
  unfold UI at u
  cases U:P.info? e with
  |none=>simp_all
  |some i=>simp[U]at u;simp[typeInfo,U,u]
 have ad:∀w,(typeInfo e).run P w= .ok ((P.info? e).getD default) w:=λw=>(I w).1;have ae:=(I w).2
 have aq:m<=281474976710656:=by
  have:m*1<=m*by_:=KN AY AY;omega
 have ai:IntKind.i64.wrap n=n:=wrap_small n L AY;have aj:IntKind.i64.wrap m=m:=wrap_small m AY AY;have ap:(by_:Int)*m=m*by_:=Int.mul_comm _ _;generalize G:(if m.toNat*sz=0 then(#[]:SI HO)else zv.cells)=A;generalize hC:(Array.range (m.toNat*sz)).map (λi=>A[i % A.size]!)=C
 have ac:C.size=m.toNat*sz:=by rw[<-hC];simp
 have Q:(Instr.makeSlice t (.int k1 n) (.int k2 m)).run P w= .ok (.slice (some ⟨w.heap.size,0,none⟩) n.toNat m.toNat) (w.alloc (.cells C e)):=by
  have t1:¬(m<0):=AY
  have t2:¬(281474976710656<(by_:Int)*m):=AY
  have t3:¬(n<0):=AY
  have t4:¬(m<n):=AY
  simp only[Instr.makeSlice,B9,run_underlying hu,B5,asInt,asIntOf,C7,ad,ae,ai,aj];simp only[gt_iff_lt,t1,t3,t4,LF,Jg,Bool.or_false,Int.reducePow,t2,D4,B6,B9,B5,run_askRoom,T5 ah]
  by_cases L:m.toNat*sz=0
  ·rw[A2 L]at G
   rw[A2 L];subst G;simp[newRow,run_newObj,<-hC,GR]
  rw[A1 L]at G
  rw[A1 L];subst G;simp[newRow,run_newObj,hC,GR,B9,am]
 have E:n.toNat<=m.toNat:=AY
 have ab:∀k,k<m.toNat*sz->C.getD k undef=zv.cells.getD (k % sz) undef:=by
  intro k S
  have ag:m.toNat*sz≠0:=AY
  rw[A1 ag]at G
  subst G;rw[<-hC]
  have D:k % sz<zv.cells.size:=by rw[W];simp_all[Cz]
  simp only[Q0,Array.getElem?_map,Array.getElem?_range,S,B4,K1,CV,W];simp[D]
 have f:∀i,i<m.toNat->(List.replicate m.toNat z).getD i .bad=z:=λi U=>TQ
 have M:(List.replicate m.toNat z).length=m.toNat:=OC
 have⟨s,r,F⟩:=Rl.newArr (w':=w.alloc (.cells C e)) N (b:=w.heap.size) (o:=0) (sz:=sz) (ys:=List.replicate m.toNat z)
  (λi U=>by rw[f i AY];exact T) (λb q hf=>Fo (N.fz_lt hf)) ((AC _ _).alloc N.bnd _) (λx _ D=>heap_alloc D)
  (.inr ⟨C,e,N.bnd,DA,by simp[ac],λi j U hj=>by
   have J:i<m.toNat:=AY
   have e1:=Gi (n:=m.toNat) J hj;rw[f i J,P0,ab _ e1,(W9 hj).2]
   simp_all,λq _ hf=>absurd (N.fz_lt hf) (Y0 _),λid af=>absurd (N.lt af) (Y0 _)⟩)
 unfold execOp;rw[X];simp only[y,v,B9,Q,B5,C7,J3];refine⟨_,_,_,s,r,?_,h g.nx F⟩;rw[M]
 have e':(g.own w.heap.size ⟨0,m.toNat,sz⟩).ow g.nx=⟨0,m.toNat,sz⟩:=by simp[Gh.own]
 have:=VR.own (g:=g.own w.heap.size ⟨0,m.toNat,sz⟩) (w:=w.alloc (.cells C e)) (id:=g.nx) (b:=w.heap.size) (lo:=0) (n:=n) (p:=some ⟨w.heap.size,0,none⟩) (by simp[Gh.own]) AY L (by rw[e'];simp_all) (by rw[e'];simp)
 rw[e']at this
 exact this
end
def Cp (xs:Up V)(i:Nat)(ys:Up V):Up V:=xs.take i++ys++xs.drop (i+ys.length)
def He(h:i+ys.length<=xs.length):(Cp xs i ys).length=xs.length:=by grind[Cp]
def Aa3{k:Nat}(h:i+ys.length<=xs.length):(Cp xs i ys).getD k .bad=if i<=k/\k<i+ys.length then ys.getD (k-i) .bad else xs.getD k .bad:=by
 simp only[Cp,U2];rw[EM,EM]
 grind
def Zd (H:A5)(v:V):OS (Up V):=
 match v with
 | .sl xs _=>some xs
 | .own id lo n=>(Lp H id).map λq=>P2 q.2 lo n
 |_=>none
def J3.mono {P:If} {K a:HO->Is->Prop} (h:∀v w,K v w->a v w) {r:Result Next} (Q:J3 P K r):J3 P a r:=by
 cases r with
 |halt x w=>exact Q
 | ok n w=>
  cases n<;>first
   |exact h _ _ Q
   |exact CallsIn.mono Q λe w' ⟨v,t,e2⟩=>⟨v,t,h _ _ e2⟩
   |exact RoundIn.mono Q λe w' ⟨v,t,e2⟩=>⟨v,t,h _ _ e2⟩
   |exact Q
section
variable {P:Program}{o:Oper}{fr:Fr}{H:A5}{K:V->A5->Prop}
def VR.ownN{b o cap sz:Nat}{n:Int}(O:0<=n)(Z:n<=cap):VR (g.own b ⟨o,cap,sz⟩) w (.slice (some ⟨b,o,none⟩) n.toNat cap) (.own g.nx 0 n):=by
 have a:(g.own b ⟨o,cap,sz⟩).ow g.nx=⟨o,cap,sz⟩:=by simp[Gh.own]
 have:=VR.own (g:=g.own b ⟨o,cap,sz⟩) (w:=w) (id:=g.nx) (b:=b) (lo:=0) (n:=n) (p:=some ⟨b,o,none⟩) (by simp[Gh.own]) AY O (by rw[a];simp_all) (by rw[a];simp)
 rw[a]at this
 exact this
def Gm{H:A5}(C:Rl g H w){id sz:Nat}{lo n:Int}{v:HO}(S:H id=some (.arr sz xs))(x:VR g w v (.own id lo n)):
 ∃ b p,g.mu id=some b/\v= .slice p n.toNat (xs.length-lo.toNat)/\0<=lo/\0<=n/\lo+n<=(xs.length:Nat)/\(g.ow id).sz=sz/\(g.ow id).cap=xs.length/\
  (lo<(xs.length:Nat)->p=some ⟨b,(g.ow id).o+lo.toNat*sz,none⟩)/\(∀i,i<xs.length->(xs.getD i .bad).cells.length=sz)/\
  (xs.length=0\/∃c T,g.base<=b/\w.heap[b]? =some (.cells c T (0,0))/\(g.ow id).o+xs.length*sz<=c.size/\
   (∀i j,i<xs.length->j<sz->(c.getD ((g.ow id).o+i*sz+j) undef).oneCell'=true/\VR g w (c.getD ((g.ow id).o+i*sz+j) undef) ((xs.getD i .bad).cells.getD j .bad))/\
   (∀o,(g.ow id).o<=o->¬g.fz b o)/\g.at H id=some b):=by
 have⟨b,O,Z,h,r,y⟩:=C.blk id _ S
 cases x with
 |own l L e a f=>
  rename_i p
  rw[O]at l;cases l
  rw[h]at a f
  rw[Z]at f
  refine⟨b,p,O,by rw[h],L,e,a,Z,h,f,r,?_⟩
  grind[Gh.at]
def Nj(P:If){H:A5}(C:Rl g H w){v:HO}{sz:Nat}(M:Zd H x=some xs)(D:VR g w v x)(a:xs.all (λx=>x.cells.length==sz)=true):
 ∃(base:OS Addr) (cap:Nat) (vs:Nat->Nat->HO),v= .slice base xs.length cap/\
  (∀i j,i<xs.length->j<sz->(vs i j).oneCell'=true/\VR g w (vs i j) ((xs.getD i .bad).cells.getD j .bad))/\
  (∀m,m<=xs.length->∀w':Is,(∀b o,w'.cell? ⟨b,o,none⟩=w.cell? ⟨b,o,none⟩)->(Builtin.firstCells sz m v).run P w'= .ok ((List.range (m*sz)).map λk=>vs (k / sz) (k % sz)).toArray w'):=by
 unfold Zd at M
 split at M
 ·cases M;have⟨base,cap,vs,O,_,Z,F,A⟩:=GZ (P:=P) D a;refine⟨base,cap,vs,O,Z,λm d w' h=>?_⟩
  rcases A with⟨rfl,_,_⟩|⟨b,q,rfl,G,_⟩
  ·have:m=0:=Pw
   simp_all
  rw[O];simp only[Builtin.firstCells];refine run_loadCells w' _ _ _ λk S=>?_
  have f:0<sz:=by
   grind
  have U:k / sz<m:=(Pq f).2 S;have z:k % sz<sz:=Cz _ f;rw[Bz,h]
  have y:q+k=q+k / sz*sz+k % sz:=by have:=Pf k sz;rw[GO]at this;omega
  rw[y]
  grind
 ·rename_i id lo n
  cases u:Lp H id with
  |none=>rw[u]at M;cases M
  | some q=>
   have⟨sz0,l⟩:=q
   rw[u]at M
   simp only[K1,E5]at M
   subst M;have⟨b,p,O,Z,F,A,G,Q,R,I,J,r⟩:=Gm C (IJ u) D
   have B:(P2 l lo n).length=n.toNat:=by grind[P2]
   rw[B]
   have e:∀i,i<n.toNat->(P2 l lo n).getD i .bad=l.getD (lo.toNat+i) .bad:=λi U=>by
    grind[P2]
   by_cases E:n.toNat=0
   ·rw[E]at Z ⊢
    refine⟨_,_,λ_ _=>undef,Z,λi j U=>AY,λm d w' _=>?_⟩
    have:m=0:=AY
    subst this;subst Z
    cases p with
    |none=>simp[Builtin.firstCells]
    |some q=>simp[Builtin.firstCells,loadCells,loadCellsFrom]
   have N:lo<(l.length:Nat):=AY
   rcases r with r|⟨c,T,W,L,X,Y,k5,k6⟩
   ·omega
   have f:=I N;subst f
   have s:sz0=sz:=by
    have t:=J (lo.toNat+0) AY;have e2:=(List.all_eq_true.1 a) ((P2 l lo n).getD 0 .bad) Pw
    rw[e 0 AY]at e2
    rw[<-t];grind
   subst s;refine⟨_,_,λi j=>c.getD ((g.ow id).o+(lo.toNat+i)*sz0+j) undef,Z,λi j U z=>?_,λm d w' h=>?_⟩
   ·rw[e i U];grind
   subst Z;simp only[Builtin.firstCells]
   have f:0<sz0\/sz0=0:=AY
   refine run_loadCells w' _ _ _ λk S=>?_
   rcases f with f|f
   ·have U:k / sz0<n.toNat:=OZ ((Pq f).2 S) d;have z:k % sz0<sz0:=Cz _ f;have t:=Gi (n:=l.length) (i:=lo.toNat+k / sz0) AY z;rw[Bz,h]
    have y:(g.ow id).o+lo.toNat*sz0+k=(g.ow id).o+(lo.toNat+k / sz0)*sz0+k % sz0:=by
     have:=Pf k sz0;rw[GO]at this;rw[F9];omega
    rw[y];simp[World.cell?,L,Array.getD,show(g.ow id).o+(lo.toNat+k / sz0)*sz0+k % sz0<c.size by omega]
   simp_all
 cases M
def AY3{C:SI HO}{A m:Nat}{vs:Up HO}(p:vs.length=m)(b:A+m<=c.size)(a:(c.toList.take A++vs++c.toList.drop (A+m)).toArray=C):
 C.size=c.size/\∀k,k<c.size->C[k]? =if A<=k/\k<A+m then vs[k-A]? else c[k]? :=by
 subst a;refine⟨by simp;omega,λk S=>?_⟩
 grind
def AY4(P:If){H:A5}(J:Rl g H w){id sz m:Nat}{b:Nat}{T:Do}(F:0<sz)(S:H id=some (.arr sz xs))(W:g.mu id=some b)
 (M:(g.ow id).sz=sz)(a:i+ys.length<=xs.length)(A:xs.length≠0)(p:ys.length=m)
 (G:w.heap[b]? =some (.cells c T (0,0)))(Y:(g.ow id).o+xs.length*sz<=c.size)
 (Q:∀i j,i<xs.length->j<sz->(c.getD ((g.ow id).o+i*sz+j) undef).oneCell'=true/\VR g w (c.getD ((g.ow id).o+i*sz+j) undef) ((xs.getD i .bad).cells.getD j .bad))
 (q:∀i,i<xs.length->(xs.getD i .bad).cells.length=sz)(s:∀i,i<ys.length->(ys.getD i .bad).cells.length=sz)(fy:Nat->Nat->HO)
 (L:∀i j,i<ys.length->j<sz->(fy i j).oneCell'=true/\VR g w (fy i j) ((ys.getD i .bad).cells.getD j .bad)):
 ∃C,(storeCells ⟨b,(g.ow id).o+i*sz,none⟩ ((List.range (m*sz)).map λk=>fy (k / sz) (k % sz))).run P w= .ok () (w.setRow b C)/\
  Al g w g (w.setRow b C)/\Rl g (upd H id (some (.arr sz (Cp xs i ys)))) (w.setRow b C):=by
 subst p;have E:(i+ys.length)*sz=i*sz+ys.length*sz:=F9 _ _ _;have N:(i+ys.length)*sz<=xs.length*sz:=J0 _ a
 have x:∀v∈((List.range (ys.length*sz)).map λk=>fy (k / sz) (k % sz)),v.oneCell'=true:=by
  grind[Nat.div_lt_iff_lt_mul,Nat.mod_lt]
 have y:=run_storeCells_at P b ((g.ow id).o+i*sz) T ((List.range (ys.length*sz)).map λk=>fy (k / sz) (k % sz)) 0 c w G Ts x
 generalize B:(c.toList.take ((g.ow id).o+i*sz+0)++((List.range (ys.length*sz)).map λk=>fy (k / sz) (k % sz))++
  c.toList.drop ((g.ow id).o+i*sz+0+((List.range (ys.length*sz)).map λk=>fy (k / sz) (k % sz)).length)).toArray=C at y
 have D:((List.range (ys.length*sz)).map λk=>fy (k / sz) (k % sz)).length=ys.length*sz:=OC
 rw[D,Cw]at B
 have⟨f,d⟩:=AY3 D AY B;refine⟨C,y,?_⟩;refine J.setArr S W A G f (λo X=>?_) (He a) (λj z=>?_) (λj t z l=>?_)
 ·grind
 ·rw[He a]at z
  rw[Aa3 a]
  grind
 rw[He a]at z
 have R:=Gi (n:=xs.length) z l
 have r:(g.ow id).o+j*sz+t<c.size:=AY
 rw[Aa3 a];simp only[Q0,d _ r]
 by_cases e:i<=j/\j<i+ys.length
 ·have O:i*sz<=j*sz:=J0 _ e.1;have Z:=Gi (n:=i+ys.length) e.2 l;have U:(j-i)*sz=j*sz-i*sz:=DM _ _ _;rw[A2 ⟨AY,AY⟩,A2 e,show(g.ow id).o+j*sz+t-((g.ow id).o+i*sz)=(j-i)*sz+t by omega,Y1,Gx (by have:=Gi (n:=ys.length) (i:=j-i) AY l;omega)];simp only[K1,CV,(W9 l).1,(W9 l).2]
  grind
 have u:¬((g.ow id).o+i*sz<=(g.ow id).o+j*sz+t/\(g.ow id).o+j*sz+t<(g.ow id).o+i*sz+ys.length*sz):=by
  rintro⟨q1,q2⟩
  rcases R3 j i with h|h
  ·have:=J0 sz (show j+1<=i by omega)
   rw[F9,Z2]at this
   omega
  have I:i+ys.length<=j:=AY
  have:=J0 sz I;omega
 rw[A1 u,A1 e];have:=Q j t z l
 simp_all
def DO{lo n:Int}(L:0<=lo)(O:0<=n)(Z:lo+n<=(xs.length:Nat)):(P2 xs lo n).length=n.toNat:=by grind[P2]
def TW{lo n:Int}(U:i<n.toNat):(P2 xs lo n).getD i .bad=xs.getD (lo.toNat+i) .bad:=by
 simp_all[P2]
def Qt{sz:Nat}(h:∀i,i<xs.length->(xs.getD i .bad).cells.length=sz):xs.all (λx=>x.cells.length==sz)=true:=by
 rw[EL]
 grind[List.getElem_of_mem]
def JC{sz:Nat}(h:xs.all (λx=>x.cells.length==sz)=true):∀i,i<xs.length->(xs.getD i .bad).cells.length=sz:=λi U=>by
 have:=(List.all_eq_true.1 h) (xs.getD i .bad) TQ
 simp_all
def Bb4{H:A5}{K:V->A5->Prop}(A:Rl g H w){e:Do}{sz G:Nat}{z:V}{y:HO}(ae:0<sz)(ac:VR g w y z)(Y:z.one=true)(aa:z.cells.length=sz)
 (W:∀i,i<xs.length->(xs.getD i .bad).cells.length=sz)(X:∀i,i<ys.length->(ys.getD i .bad).cells.length=sz){fs:Nat->Nat->HO}
 (ai:∀i j,i<xs.length->j<sz->(fs i j).oneCell'=true/\VR g w (fs i j) ((xs.getD i .bad).cells.getD j .bad))
 (aj:∀i j,i<ys.length->j<sz->(fy i j).oneCell'=true/\VR g w (fy i j) ((ys.getD i .bad).cells.getD j .bad))(M:xs.length+ys.length<=G)(p:m=((xs.length+ys.length:Nat):Int))
 (E:∀t k,H t=none->K (.own t 0 m) (upd H t (some (.arr sz (xs++ys++List.replicate k z))))):
 O6 g w K (.slice (some ⟨w.heap.size,0,none⟩) (xs.length+ys.length) G)
  (w.drew.alloc (.cells (((List.range (xs.length*sz)).map λk=>fs (k / sz) (k % sz)).toArray++((List.range (ys.length*sz)).map λk=>fy (k / sz) (k % sz)).toArray++
   Builtin.zeroCells y.cells (G-(xs.length+ys.length))) e)):=by
 have⟨F,al⟩:=ac.cells Y
 have ab:y.cells.size=sz:=by rw[F,aa]
 generalize hC:((List.range (xs.length*sz)).map λk=>fs (k / sz) (k % sz)).toArray++((List.range (ys.length*sz)).map λk=>fy (k / sz) (k % sz)).toArray++Builtin.zeroCells y.cells (G-(xs.length+ys.length))=C;have ad:(xs.length+ys.length)*sz=xs.length*sz+ys.length*sz:=F9 _ _ _;have ah:(xs.length+ys.length)*sz<=G*sz:=J0 _ M
 have J:C.size=G*sz:=by
  rw[<-hC]
  grind[size_zeroCells,Nat.sub_mul]
 have B:∀k,k<(xs.length+ys.length)*sz->C[k]? =some (if k<xs.length*sz then fs (k / sz) (k % sz)else fy ((k-xs.length*sz) / sz) ((k-xs.length*sz) % sz)):=by
  grind
 have L:∀k,(xs.length+ys.length)*sz<=k->k<G*sz->C[k]? =y.cells[(k-(xs.length+ys.length)*sz) % sz]? :=by
  intro k S ak;rw[<-hC,GX,A1 Ts];simp only[OW,Jp,H9,CY];rw[show k-(xs.length*sz+ys.length*sz)=k-(xs.length+ys.length)*sz by omega];have hs:=size_zeroCells y.cells (G-(xs.length+ys.length))
  have f:k-(xs.length+ys.length)*sz<(G-(xs.length+ys.length))*sz:=by rw[DM];omega
  generalize k-(xs.length+ys.length)*sz=q at f ⊢
  have c:q % sz<y.cells.size:=by rw[ab];simp_all[Cz]
  unfold Builtin.zeroCells
  simp_all
 have a:∀x o,g.fz x o->(w.drew.alloc (.cells C e)).cell? ⟨x,o,none⟩=w.cell? ⟨x,o,none⟩:=λx o Q=>Fo (w:=w.drew) (A.fz_lt Q);have D:Below g.base w (w.drew.alloc (.cells C e)):=(AC _ _).drew.alloc A.bnd _
 have h:(xs++ys++List.replicate (G-(xs.length+ys.length)) z).length=G:=by simp;omega
 have l:∀i,i<G->(xs++ys++List.replicate (G-(xs.length+ys.length)) z).getD i .bad=if i<xs.length then xs.getD i .bad else if i<xs.length+ys.length then ys.getD (i-xs.length) .bad else z:=by
  grind
 have⟨s,r,u⟩:=Rl.newArr (w':=w.drew.alloc (.cells C e)) A (b:=w.heap.size) (o:=0) (sz:=sz) (ys:=xs++ys++List.replicate (G-(xs.length+ys.length)) z)
  (λi U=>by
   rw[h]at U
   rw[l i U]
   grind) a D (λx _ f=>heap_alloc (w:=w.drew) f)
  (.inr ⟨C,e,A.bnd,DA (w:=w.drew) (o:=.cells C e),by rw[h,J];omega,λi j U v=>by
   rw[h]at U
   have Z:=Gi (n:=G) U v;rw[l i U];simp only[P0]
   by_cases N:i<xs.length
   ·have T:=Gi N v
    have I:i*sz+j<(xs.length+ys.length)*sz:=AY
    simp only[Q0,B _ I,CV];rw[A2 T,A2 N,(W9 v).1,(W9 v).2]
    simp_all
   have O:xs.length*sz<=i*sz:=J0 _ AY;have T:(i-xs.length)*sz=i*sz-xs.length*sz:=DM _ _ _;rw[A1 N]
   by_cases d:i<xs.length+ys.length
   ·have I:=Gi d v;simp only[Q0,B _ I,CV];rw[A1 AY,A2 d,show i*sz+j-xs.length*sz=(i-xs.length)*sz+j by omega,(W9 v).1,(W9 v).2]
    grind
   have af:(xs.length+ys.length)*sz<=i*sz:=J0 _ AY;have ag:(i-(xs.length+ys.length))*sz=i*sz-(xs.length+ys.length)*sz:=DM _ _ _;rw[A1 d]
   have e1:C.getD (i*sz+j) undef=y.cells.getD j undef:=by
    simp only[Q0];rw[L _ AY Z,show i*sz+j-(xs.length+ys.length)*sz=(i-(xs.length+ys.length))*sz+j by omega,(W9 v).2]
   rw[e1]
   simp_all,λq _ Q=>absurd (A.fz_lt Q) (Y0 _),λid R=>absurd (A.lt R) (Y0 _)⟩)
 rw[h]at s r
 refine⟨_,_,_,s,r,?_,E g.nx _ u⟩;have:=VR.ownN (g:=g) (w:=w.drew.alloc (.cells C e)) (b:=w.heap.size) (o:=0) (cap:=G) (sz:=sz) (n:=m) AY AY
 rwa[p,Z5,<-p]at this
def BE2{H:A5}{K:V->A5->Prop}(N:Rl g H w){id sz:Nat}{lo n:Int}(S:H id=some (.arr sz xs))(J:VR g w vs (.own id lo n))(y:0<sz)
 (l:∀i,i<ys.length->(ys.getD i .bad).cells.length=sz)(q:∀i j,i<ys.length->j<sz->(fy i j).oneCell'=true/\VR g w (fy i j) ((ys.getD i .bad).cells.getD j .bad))
 (E:lo+n+(ys.length:Nat)<=(xs.length:Nat))(h:K (.own id lo (n+(ys.length:Nat))) (upd H id (some (.arr sz (Cp xs (lo+n).toNat ys))))):
 ∃base cap w',vs= .slice base n.toNat cap/\n.toNat+ys.length<=cap/\cap=xs.length-lo.toNat/\
  (match base with|some a=>(storeCells (a.add (n.toNat*sz)) ((List.range (ys.length*sz)).map λk=>fy (k / sz) (k % sz))).run P w|none=>.ok () w)= .ok () w'/\
  O6 g w K (.slice base (n.toNat+ys.length) cap) w':=by
 have⟨b,p,O,Z,F,R,U,B,D,G,I,v⟩:=Gm N S J
 by_cases d:lo=(xs.length:Nat)
 ·
  have A:ys=[]:=List.length_eq_zero_iff.1 AY
  have u:n=0:=AY
  subst A;subst u;refine⟨_,_,w,Z,OC,rfl,by cases p<;>simp[storeCells],?_⟩
  have e:Cp xs (lo+0).toNat []=xs:=by simp[Cp]
  rw[e]at h
  refine⟨g,.own id lo 0,H,Al.refl _ _,N,?_,?_⟩
  rotate_right
  ·have:upd H id (some (.arr sz xs))=H:=by
    funext x
    simp_all[upd]
   rw[this]at h
   exact h
  simp_all
 have t:lo<(xs.length:Nat):=AY
 have f:=G t;subst f
 rcases v with v|⟨c,T,W,L,M,Q,X,Y⟩
 ·omega
 have⟨C,z,s,r⟩:=AY4 P N (i:=(lo+n).toNat) (m:=ys.length) (ys:=ys) y S O B AY AY rfl L M Q I l fy q;refine⟨_,_,w.setRow b C,Z,AY,rfl,?_,?_⟩
 ·simp only[Bz];rw[show(g.ow id).o+lo.toNat*sz+n.toNat*sz=(g.ow id).o+(lo+n).toNat*sz by rw[show(lo+n).toNat=lo.toNat+n.toNat by omega,F9];omega];exact z
 refine⟨g,_,_,s,r,?_,h⟩;have:=VR.own (g:=g) (w:=w.setRow b C) (id:=id) (b:=b) (lo:=lo) (n:=n+(ys.length:Nat)) (p:=some ⟨b,(g.ow id).o+lo.toNat*sz,none⟩) O F AY (by rw[D];omega) (λ_=>by rw[B])
 rw[D]at this
 rwa[show(n+(ys.length:Nat)).toNat=n.toNat+ys.length by omega]at this
def MO(C:Rl g H w){vy:HO}{sT yT e:Do}{id sz by_:Nat}{lo n:Int}{z:V}(E:VR g w vs (.own id lo n))
 (J:∀i j,i<ys.length->j<sz->(fy i j).oneCell'=true/\VR g w (fy i j) ((ys.getD i .bad).cells.getD j .bad))(Q:Builtin.lenOf vy=pure ys.length)
 (L:∀w':Is,(∀b o,w'.cell? ⟨b,o,none⟩=w.cell? ⟨b,o,none⟩)->(Builtin.firstCells sz ys.length vy).run P w'= .ok ((List.range (ys.length*sz)).map λk=>fy (k / sz) (k % sz)).toArray w')
 (S:H id=some (.arr sz xs))(R:Ic P sT=some e)(h:(∃e',P.underlying yT=some (.slice e'))\/P.underlying yT=some .string)(M:Hk P e=some sz)(s:0<sz)(A:UI P e=some by_)(am:0<by_)
 (Y:Lr P e=some z)(W:z.one=true)(X:z.cells.length=sz)(ac:ys.all (λx=>x.cells.length==sz)=true)
 (ag:lo+n+(ys.length:Nat)<=(xs.length:Nat)->K (.own id lo (n+(ys.length:Nat))) (upd H id (some (.arr sz (Cp xs (lo+n).toNat ys)))))
 (v:(xs.length:Nat)<lo+n+(ys.length:Nat)->(n.toNat+ys.length)*by_<=140737488355328/\∀t k,H t=none->K (.own t 0 (n+(ys.length:Nat))) (upd H t (some (.arr sz (P2 xs lo n++ys++List.replicate k z))))):
 J3 P (O6 g w K) ((builtin .append #[sT,yT] ty cs #[vs,vy]).run P w):=by
 have r:=JC ac;have hu:=U7 R;have⟨zv,ez,aj⟩:=Fu Y
 have aa:VR g w zv z:=by rw[ez];grind[GL]
 have an:zv.cells.size=sz:=by rw[(aa.cells W).1,X]
 have l:∀w,(typeInfo e).run P w= .ok ((P.info? e).getD default) w/\((P.info? e).getD default).bytes=by_:=by
  intro w
  unfold UI at A
  cases U:P.info? e with
  |none=>simp_all
  |some i=>simp[U]at A;simp[typeInfo,U,A]
 have ae:∀w,(typeInfo e).run P w= .ok ((P.info? e).getD default) w:=λw=>(l w).1;have ad:=(l w).2;have⟨b,p,O,Z,T,h4,h5,h6,h7,h8,h9,al⟩:=Gm C S E;simp only[builtin,B9]
 by_cases d:lo+n+(ys.length:Nat)<=(xs.length:Nat)
 ·have⟨base,cap,w',q1,q2,q3,q4,q5⟩:=BE2 (P:=P) C S E s r J d (ag d);rw[q1]
  have y:(Builtin.append_ #[sT,yT] ty #[.slice base n.toNat cap,vy]).run P w= .ok (.slice base (n.toNat+ys.length) cap) w':=by
   have N:=L w λ_ _=>rfl
   rcases h with⟨e',h⟩|h
   all_goals simp only[Q,Builtin.append_,B9,run_underlying hu,B5,T5 M,run_underlying h,C7,AD,Z6,
    CZ,DV,D4,B6,CS,B4,A2 q2,N]
   all_goals cases base with
    |none=>simp only at q4;cases q4;rfl
    |some a=>simp only at q4;simp only[q4,B9,C7,B5]
  rw[y]
  simp_all[J3]
 have⟨c,v⟩:=v AY
 have f:(P2 xs lo n).all (λx=>x.cells.length==sz)=true:=Qt λi U=>by
  rw[DO T h4 h5]at U
  rw[TW U];grind
 have⟨base,cap,fs,es,af,D⟩:=Nj P C (x:=.own id lo n) (xs:=P2 xs lo n) (by grind[Zd,Lp]) E f;have D:=D _ (C6 _);have ai:=DO T h4 h5
 have ak:cap=xs.length-lo.toNat:=by rw[Z]at es;simp_all
 have F:¬((P2 xs lo n).length+ys.length<=cap):=AY
 have ah:¬(2 ^ 48<Builtin.nextslicecap ((P2 xs lo n).length+ys.length) cap*by_):=by
  have:=growslice_fits (LS F) (by rw[ai];exact c);omega
 have I:∀b o,w.drew.cell? ⟨b,o,none⟩=w.cell? ⟨b,o,none⟩:=λ_ _=>rfl;generalize hG:grownCap w ((P2 xs lo n).length+ys.length) cap e=G
 have ab:(P2 xs lo n).length+ys.length<=G:=by rw[<-hG];grind[grownCap_ge]
 have B:¬(IntKind.i64.max<(((P2 xs lo n).length+ys.length:Nat):Int)/\(False\/by_=0)):=by
  grind
 have y:(Builtin.append_ #[sT,yT] ty #[.slice base (P2 xs lo n).length cap,vy]).run P w=
  .ok (.slice (some ⟨w.heap.size,0,none⟩) ((P2 xs lo n).length+ys.length) G)
   (w.drew.alloc (.cells (((List.range ((P2 xs lo n).length*sz)).map λk=>fs (k / sz) (k % sz)).toArray++((List.range (ys.length*sz)).map λk=>fy (k / sz) (k % sz)).toArray++
    Builtin.zeroCells zv.cells (G-((P2 xs lo n).length+ys.length))) e)):=by
  have QW:(Question.appendCap ((P2 xs lo n).length+ys.length) cap e).cut (w.tape w.drawn (.appendCap ((P2 xs lo n).length+ys.length) cap e))=G:=hG;have q:(Question.appendCap ((P2 xs lo n).length+ys.length) cap e).forced=false:=rfl;have u:=D w.drew I
  rw[es]at u
  have N:=L w.drew I
  rcases h with⟨e',h⟩|h
  all_goals simp only[Q,Builtin.append_,B9,run_underlying hu,B5,T5 M,run_underlying h,C7,AD,ae,ad,Z6,
   CZ,DV,D4,B6,CS,B4,gt_iff_lt,false_or,A1 F,A1 ah,run_choose,q,QW,LK,run_askRoom,u,N,aj,newRow,run_newObj,
   GR,LN]
  all_goals rw[A1 (by simpa using B)]
 rw[es,y];simp only[B5,C7,J3];exact Bb4 (K:=K) C s aa W X (JC f) r af J ab (m:=n+(ys.length:Nat)) AY v
def cf30(C:Rl g H w){G:HO}{L:V}{F J e:Do}{id sz by_:Nat}{lo n:Int}{z:V}{y:Up V}(p:VR g w vs (.own id lo n))(q:VR g w G L)
 (S:H id=some (.arr sz xs))(I:Zd H L=some y)(hle:M7 y ys)(R:Ic P F=some e)(s:(Ic P J).isSome=true)(m:Hk P e=some sz)(l:0<sz)(c:UI P e=some by_)(N:0<by_)
 (Y:Lr P e=some z)(u:z.one=true)(A:z.cells.length=sz)(b:ys.all (λx=>x.cells.length==sz)=true)
 (f:lo+n+(ys.length:Nat)<=(xs.length:Nat)->K (.own id lo (n+(ys.length:Nat))) (upd H id (some (.arr sz (Cp xs (lo+n).toNat ys)))))
 (h:(xs.length:Nat)<lo+n+(ys.length:Nat)->(n.toNat+ys.length)*by_<=140737488355328/\∀t k,H t=none->K (.own t 0 (n+(ys.length:Nat))) (upd H t (some (.arr sz (P2 xs lo n++ys++List.replicate k z))))):
 J3 P (O6 g w K) ((builtin .append #[F,J] ty cs #[vs,G]).run P w):=by
 have⟨B,M,fy,D,a,r⟩:=Nj P C I q (hle.sz b)
 rw[hle.length]at D a r
 have d:∀i j,i<ys.length->j<sz->(fy i j).oneCell'=true/\VR g w (fy i j) ((ys.getD i .bad).cells.getD j .bad):=λi j U E=>⟨(a i j U E).1,(a i j U E).2.le ((hle.at i).cells.at j)⟩;have⟨O,v⟩:=Option.isSome_iff_exists.1 s;exact MO C p d (by rw[D];rfl) (r _ (C6 _)) S R (.inl ⟨_,U7 v⟩) m l c N Y u A b f h
def Wb (sz:Nat)(H:A5)(v:V)(ys':Up V):Prop:=
 match v with
 | .sl xs _=>M7 xs ys'/\ys'.all (λx=>x.cells.length==sz)=true
 | .own id lo n=>∃xs,H id=some (.arr sz xs)/\M7 (P2 xs lo n) ys'
 |_=>False
def Wb.inv{sz:Nat}{v:HO}{ys':Up V}(h:Wb sz H x ys')(C:Rl g H w)(j:VR g w v x):∃a,Zd H x=some a/\M7 a ys'/\ys'.all (λx=>x.cells.length==sz)=true:=by
 unfold Wb at h
 split at h
 ·grind[Zd]
 ·have⟨xs,S,B⟩:=h;have⟨b,p,O,Z,T,l,r,y,N,c,d,e⟩:=Gm C S j;refine⟨_,by grind[Zd,Lp],B,Qt λi U=>?_⟩
  rw[<-B.length]at U
  rw[<-(B.at i).cells.length]
  rw[DO T l r]at U
  rw[TW U]
  grind
 grind
theorem Aq9{p q e:Do}{id sz by_:Nat}{lo n:Int}{z:V}(X:o.op= .call {callee:=.builtin .append,args:= #[s,y],argTypes:= #[p,q]})
 (G:ev fr s= .own id lo n)(S:H id=some (.arr sz xs))(i:Wb sz H (ev fr y) ys)(R:Ic P p=some e)(f:(Ic P q).isSome=true)(d:Hk P e=some sz)(h:0<sz)(N:UI P e=some by_)(x:0<by_)
 (Y:Lr P e=some z)(j:z.one=true)(m:z.cells.length=sz)
 (c:lo+n+(ys.length:Nat)<=(xs.length:Nat)->K (.own id lo (n+(ys.length:Nat))) (upd H id (some (.arr sz (Cp xs (lo+n).toNat ys)))))
 (b:(xs.length:Nat)<lo+n+(ys.length:Nat)->(n.toNat+ys.length)*by_<=140737488355328/\∀t k,H t=none->K (.own t 0 (n+(ys.length:Nat))) (upd H t (some (.arr sz (P2 xs lo n++ys++List.replicate k z))))):K0 P o fr H K:=by
 intro g w a C r;have l:=G2 C r s
 rw[G]at l
 have⟨u,I,hle,v⟩:=i.inv C (G2 C r y);rw[V3 X];simp only[Bl,D2,G8];exact cf30 C l (G2 C r y) S I hle R f d h N x Y j m v c b
theorem Ah4{W Z e:Do}{sz by_:Nat}{z:V}(X:o.op= .call {callee:=.builtin .append,args:= #[s,y],argTypes:= #[W,Z]})
 (G:ev fr s= .sl [] .nil\/ev fr s= .sl [] .full)(r:Wb sz H (ev fr y) ys)(R:Ic P W=some e)(M:(Ic P Z).isSome=true)(B:Hk P e=some sz)(l:0<sz)(u:UI P e=some by_)(q:0<by_)
 (Y:Lr P e=some z)(O:z.one=true)(Q:z.cells.length=sz)
 (c:ys.length*by_<=140737488355328)
 (h:∀t k,H t=none->K (.own t 0 (ys.length:Nat)) (upd H t (some (.arr sz (ys++List.replicate k z))))):K0 P o fr H K:=by
 intro g w a C d;have⟨g',st,f,E,j⟩:=Hc C sz G (G2 C d s);have⟨ys0,I,hle,p⟩:=r.inv C (G2 C d y);have F:=(G2 C d y).mono st;rw[V3 X];simp only[Bl,D2,G8]
 have J:Zd (upd H g.nx (some (.arr sz []))) (ev fr y)=some ys0:=by
  unfold Zd at I ⊢
  grind[Lp,upd]
 refine J3.mono ?_ (cf30 (K:=λv S=>∃N,K v N/\∀id b,N id=some b->S id=some b) f j F (E7 _ _ _) J hle R M B l u q Y O Q p (λT=>?_) (λ_=>⟨TQ,λt k U=>?_⟩))
 ·exact λv w' ⟨g2,x,S,s2,m,D,N,hK,i⟩=>⟨g2,x,N,st.trans s2,m.less i,D,hK⟩
 ·have L:ys=[]:=List.length_eq_zero_iff.1 TQ;subst L;have:=h g.nx 0 E
  grind[upd,Cp]
 have A:t≠g.nx:=λe=>by grind[E7]
 rw[C8 _ _ A]at U
 have:=h t k U;rw[OI]
 grind[upd,P2]
def Id (s:Uf):Up V:=s.data.toList.map λb=>V.int .u8 (b.toNat:Int)
def SG (s:Uf):(Id s).length=s.size:=by simp[Id]
def Bq7(s:Uf)(U:i<(Id s).length):∃b,s.data[i]? =some b/\(Id s).getD i .bad= .int .u8 (b.toNat:Int):=by
 have h:i<s.data.size:=by rw[SG]at U;exact U
 simp_all[Id]
def WV (s:Uf):(Id s).all (λx=>x.cells.length==1)=true:=by
 rw[EL]
 grind[Id,V.cells]
def Bq8 (s:Uf)(i _:Nat):Value:=.int .u8 ((s.data.getD i 0).toNat:Int)
def AT2 (s:Uf)(g:Gh)(w:Is):∀i j,i<(Id s).length->j<1->(Bq8 s i j).oneCell'=true/\VR g w (Bq8 s i j) (((Id s).getD i .bad).cells.getD j .bad):=by
 intro i j U z;have⟨b,O,Z⟩:=Bq7 s U
 have a:j=0:=AY
 subst a;rw[Z]
 have:s.data.getD i 0=b:=by rw[Q0,O];rfl
 exact⟨rfl,by simp only[Bq8,this];exact VR.int _ _⟩
def Aq3 (P:If) (s:Uf) (w':Is):(Builtin.firstCells 1 (Id s).length (.string s)).run P w'= .ok ((List.range ((Id s).length*1)).map λk=>Bq8 s (k / 1) (k % 1)).toArray w':=by
 simp only[Builtin.firstCells,C7,SG,Nat.mul_one,Nat.div_one]
 congr 1
 apply Array.ext';apply CX;intro i
 have M:(s.extract 0 s.size).data=s.data:=by
  have:s.extract 0 s.size=s:=by
   simp_all
  rw[this]
 rw[M]
 by_cases U:i<s.data.size
 ·have G:i<s.size:=U
  simp_all[Bq8]
 simp_all
theorem Ah3{b:Uf}{m p e:Do}{id by_:Nat}{lo n:Int}{z:V}(X:o.op= .call {callee:=.builtin .append,args:= #[s,y],argTypes:= #[m,p]})
 (G:ev fr s= .own id lo n)(S:H id=some (.arr 1 xs))(W:ev fr y= .str b)(R:Ic P m=some e)(c:P.underlying p=some .string)(N:Hk P e=some 1)(v:UI P e=some by_)(r:0<by_)
 (Y:Lr P e=some z)(d:z.one=true)(f:z.cells.length=1)
 (x:lo+n+((Id b).length:Nat)<=(xs.length:Nat)->K (.own id lo (n+((Id b).length:Nat))) (upd H id (some (.arr 1 (Cp xs (lo+n).toNat (Id b))))))
 (h:(xs.length:Nat)<lo+n+((Id b).length:Nat)->(n.toNat+(Id b).length)*by_<=140737488355328/\∀t k,H t=none->K (.own t 0 (n+((Id b).length:Nat))) (upd H t (some (.arr 1 (P2 xs lo n++Id b++List.replicate k z))))):K0 P o fr H K:=by
 intro g w a C j;have i:=G2 C j s
 rw[G]at i
 have l:=G2 C j y
 rw[W]at l
 rw[V3 X];simp only[Bl,D2,G8];rw[l.str_inv];exact MO C i (AT2 b g w) (by rw[SG];rfl) (λw' _=>Aq3 P b w') S R (.inr c) N Sz v r Y d f (WV b) x h
theorem inn{b:Uf}{O Q e:Do}{by_:Nat}{z:V}(X:o.op= .call {callee:=.builtin .append,args:= #[s,y],argTypes:= #[O,Q]})
 (G:ev fr s= .sl [] .nil\/ev fr s= .sl [] .full)(W:ev fr y= .str b)(R:Ic P O=some e)(B:P.underlying Q=some .string)(q:Hk P e=some 1)(m:UI P e=some by_)(f:0<by_)
 (Y:Lr P e=some z)(D:z.one=true)(F:z.cells.length=1)
 (N:(Id b).length*by_<=140737488355328)
 (h:∀t k,H t=none->K (.own t 0 ((Id b).length:Nat)) (upd H t (some (.arr 1 (Id b++List.replicate k z))))):K0 P o fr H K:=by
 intro g w a C J;have⟨g',st,c,E,j⟩:=Hc C 1 G (G2 C J s);have l:=G2 C J y
 rw[W]at l
 rw[V3 X];simp only[Bl,D2,G8];rw[l.str_inv];refine J3.mono ?_ (MO (K:=λv I=>∃r,K v r/\∀id b,r id=some b->I id=some b) c j (AT2 b g' w) (by rw[SG];rfl) (λw' _=>Aq3 P b w') (E7 _ _ _) R (.inr B) q Sz m f Y D F (WV b) (λL=>?_) (λ_=>⟨TQ,λt k M=>?_⟩))
 ·exact λv w' ⟨S,x,I,U,d,u,r,T,i⟩=>⟨S,x,r,st.trans U,d.less i,u,T⟩
 ·have A:Id b=[]:=List.length_eq_zero_iff.1 TQ
  rw[A]at h ⊢
  have:=h g.nx 0 E
  grind[upd,Cp]
 have p:t≠g.nx:=λe=>by grind[E7]
 rw[C8 _ _ p]at M
 have:=h t k M;rw[OI]
 grind[upd,P2]
end
def PA (P:If) (H:A5) (t:Do) (v:V) (lo U a:OS Int):OS V:=
 match Ic P t,v with
 | some e,.own id l n=>
  match Hk P e,Lp H id with
  | some sz,some (b,xs)=>
   if sz=b/\0<=lo.getD 0/\lo.getD 0<=U.getD n/\U.getD n<=a.getD ((xs.length:Nat)-l)/\a.getD ((xs.length:Nat)-l)<=(xs.length:Nat)-l/\(a.isSome=true->U.isSome=true)then
    some (match a with|none=>.own id (l+lo.getD 0) (U.getD n-lo.getD 0)|some _=>.bad)else none
  |_,_=>none
 |_,_=>none
def AP2 (P:If)(H:A5)(t:Do)(v:V):OS V:=
 match Ic P t,v with
 |some _,.own id l _=>(Lp H id).map λq=>.int .i64 ((q.2.length:Nat)-l)
 |some _,.sl [] .nil=>some (.int .i64 0)
 |some _,.sl [] .full=>some (.int .i64 0)
 |_,_=>none
section
variable {P:Program}{o:Oper}{fr:Fr}{H:A5}{K:V->A5->Prop}
def HG{z:V}{m:Nat}(h:i<m):(List.replicate m z).getD i .bad=z:=by
 simp_all
theorem As8(C:Rl g H w){vy:HO}{sT yT e:Do}{id sz by_:Nat}{lo n:Int}{z:V}(M:VR g w vs (.own id lo n))(av:VR g w vy (.int k m))
 (S:H id=some (.arr sz xs))(R:Ic P sT=some e)(ah:P.underlying yT=some (.int k'))(af:Hk P e=some sz)(E:0<sz)(I:UI P e=some by_)(am:0<by_)
 (Y:Lr P e=some z)(ai:z.one=true)(Q:z.cells.length=sz)(a2:0<=m)
 (l:(n.toNat+m.toNat)*by_<=140737488355328)
 (ap:lo+n+m<=(xs.length:Nat)->K (.own id lo (n+m)) (upd H id (some (.arr sz (Cp xs (lo+n).toNat (List.replicate m.toNat z))))))
 (f:(xs.length:Nat)<lo+n+m->∀t k,H t=none->K (.own t 0 (n+m)) (upd H t (some (.arr sz (P2 xs lo n++List.replicate m.toNat z++List.replicate k z))))):
 J3 P (O6 g w K) ((builtin .append #[sT,yT] ty cs #[vs,vy]).run P w):=by
 have ey:=av.int_inv;have hu:=U7 R;have⟨y,ez,A⟩:=Fu Y
 have aj:VR g w y z:=by rw[ez];grind[GL]
 have⟨ak,a6⟩:=aj.cells ai
 have ax:y.cells.size=sz:=by rw[ak,Q]
 have r:∀w,(typeInfo e).run P w= .ok ((P.info? e).getD default) w/\((P.info? e).getD default).bytes=by_:=by
  intro w
  unfold UI at I
  cases U:P.info? e with
  |none=>simp_all
  |some i=>simp[U]at I;simp[typeInfo,U,I]
 have X:∀w,(typeInfo e).run P w= .ok ((P.info? e).getD default) w:=λw=>(r w).1;have W:=(r w).2
 have aq:m=(m.toNat:Nat):=AY
 generalize a5:m.toNat=mm at *
 subst aq
 have v:(List.replicate mm z).length=mm:=OC
 have a4:mm*by_<=140737488355328:=U0 (J0 _ (Nat.le_add_left _ _)) l;have a3:mm<=mm*by_:=Pm _ am;have ag:IntKind.i64.wrap (mm:Int)=mm:=wrap_small _ AY AY
 have N:∀i,i<(List.replicate mm z).length->((List.replicate mm z).getD i .bad).cells.length=sz:=λi U=>by rw[HG AY];exact Q
 have ab:∀i j,i<(List.replicate mm z).length->j<sz->(y.cells.getD j undef).oneCell'=true/\VR g w (y.cells.getD j undef) (((List.replicate mm z).getD i .bad).cells.getD j .bad):=λi j U hj=>by
  rw[HG AY];simp_all
 have aw:((List.range (mm*sz)).map λk=>y.cells.getD (k % sz) undef).toArray=Builtin.zeroCells y.cells mm:=by
  apply Jd
  ·grind[size_zeroCells]
  intro i O Z
  have U:i<mm*sz:=Pw
  have c:i % sz<y.cells.size:=by rw[ax];simp_all[Cz]
  unfold Builtin.zeroCells
  simp_all
 have ac:¬((mm:Int)<0):=AY
 have ad:¬(281474976710656<(mm:Int)*(by_:Int)):=by
  have:((mm*by_:Nat):Int)<=140737488355328:=AY
  rw[Int.natCast_mul]at this
  omega
 have D:∀w':Is,(if mm*sz=0 then pure #[]else(do pure (Builtin.zeroCells (<-zeroValue e).cells mm):Sem (SI HO))).run P w'= .ok ((List.range (mm*sz)).map λk=>y.cells.getD (k % sz) undef).toArray w':=by
  intro w'
  by_cases L:mm*sz=0
  ·rw[A2 L,L];rfl
  simp_all
 have⟨b,p,O,Z,T,h4,h5,h6,h7,h8,h9,a0⟩:=Gm C S M;simp only[builtin,B9,ey]
 by_cases d:lo+n+(mm:Int)<=(xs.length:Nat)
 ·have⟨base,cap,w',q1,q2,q3,q4,q5⟩:=BE2 (P:=P) (K:=K) (ys:=List.replicate mm z) (fy:=λ_ j=>y.cells.getD j undef) C S M E N ab (by rw[v];exact d) (by rw[v];exact ap d)
  rw[v]at q2 q4 q5
  rw[q1]
  have s:(Builtin.append_ #[sT,yT] ty #[.slice base n.toNat cap,.int k mm]).run P w= .ok (.slice base (n.toNat+mm) cap) w':=by
   have u:=D w
   simp only[AD,B9,A,C7,B5]at u
   simp only[Builtin.append_,B9,run_underlying hu,B5,T5 af,run_underlying ah,C7,AD,Z6,asInt,asIntOf,ag,X,W,
    CZ,DV,D4,B6,W3,B4,gt_iff_lt,A1 ac,Int.reducePow,A1 ad,Z5,A2 q2,A,u]
   cases base with
   |none=>simp_all
   |some a=>simp_all
  rw[s]
  simp_all[J3]
 have f:=f AY
 have B:(P2 xs lo n).all (λx=>x.cells.length==sz)=true:=Qt λi U=>by
  rw[DO T h4 h5]at U
  rw[TW U];grind
 have⟨base,cap,fs,es,ao,J⟩:=Nj P C (x:=.own id lo n) (xs:=P2 xs lo n) (by grind[Zd,Lp]) M B;have J:=J _ (C6 _);have ae:=DO T h4 h5
 have ay:cap=xs.length-lo.toNat:=by rw[Z]at es;simp_all
 have aa:¬((P2 xs lo n).length+mm<=cap):=AY
 have au:¬(2 ^ 48<Builtin.nextslicecap ((P2 xs lo n).length+mm) cap*by_):=by
  have:=growslice_fits (LS aa) (by rw[ae];exact l);omega
 have an:∀b o,w.drew.cell? ⟨b,o,none⟩=w.cell? ⟨b,o,none⟩:=λ_ _=>rfl;generalize hG:grownCap w ((P2 xs lo n).length+mm) cap e=G
 have al:(P2 xs lo n).length+mm<=G:=by rw[<-hG];grind[grownCap_ge]
 have ar:¬(IntKind.i64.max<(((P2 xs lo n).length+mm:Nat):Int)/\(True\/by_=0)):=by
  rintro⟨h,_⟩
  have az:((P2 xs lo n).length+mm)<=(n.toNat+mm)*by_:=by rw[ae];simp_all[Pm]
  have a1:(9223372036854775807:Int)<(((P2 xs lo n).length+mm:Nat):Int):=h;omega
 have s:(Builtin.append_ #[sT,yT] ty #[.slice base (P2 xs lo n).length cap,.int k mm]).run P w=
  .ok (.slice (some ⟨w.heap.size,0,none⟩) ((P2 xs lo n).length+mm) G)
   (w.drew.alloc (.cells (((List.range ((P2 xs lo n).length*sz)).map λk=>fs (k / sz) (k % sz)).toArray++((List.range (mm*sz)).map λk=>y.cells.getD (k % sz) undef).toArray++
    Builtin.zeroCells y.cells (G-((P2 xs lo n).length+mm))) e)):=by
  have QW:(Question.appendCap ((P2 xs lo n).length+mm) cap e).cut (w.tape w.drawn (.appendCap ((P2 xs lo n).length+mm) cap e))=G:=hG;have q:(Question.appendCap ((P2 xs lo n).length+mm) cap e).forced=false:=rfl;have F:=J w.drew an
  rw[es]at F
  have u:=D w.drew
  simp only[AD,B9,A,C7,B5]at u
  simp only[Builtin.append_,B9,run_underlying hu,B5,T5 af,run_underlying ah,C7,AD,X,W,Z6,asInt,asIntOf,ag,
   CZ,DV,D4,B6,W3,B4,gt_iff_lt,true_or,A1 ac,Int.reducePow,A1 ad,Z5,A1 aa,A1 au,run_choose,q,QW,LK,run_askRoom,F,u,A,newRow,run_newObj,
   GR,LN]
  rw[A1 TQ]
 rw[es,s];simp only[B5,C7,J3];have:=Bb4 (K:=K) (e:=e) (ys:=List.replicate mm z) (fs:=fs) (fy:=λ_ j=>y.cells.getD j undef) C E aj ai Q (JC B) N ao ab (by rw[v];exact al) (m:=n+(mm:Int)) (by rw[v];omega) f
 rw[v]at this
 exact this
def Ah2{x N e:Do}{id sz by_:Nat}{lo n:Int}{z:V}(X:o.op= .call {callee:=.builtin .append,args:= #[s,y],argTypes:= #[x,N]})
 (G:ev fr s= .own id lo n)(I:ev fr y= .int k m)(S:H id=some (.arr sz xs))(R:Ic P x=some e)(q:P.underlying N=some (.int k'))(p:Hk P e=some sz)(v:0<sz)(d:UI P e=some by_)(c:0<by_)
 (Y:Lr P e=some z)(u:z.one=true)(A:z.cells.length=sz)(j:0<=m)
 (b:(n.toNat+m.toNat)*by_<=140737488355328)
 (f:lo+n+m<=(xs.length:Nat)->K (.own id lo (n+m)) (upd H id (some (.arr sz (Cp xs (lo+n).toNat (List.replicate m.toNat z))))))
 (r:(xs.length:Nat)<lo+n+m->∀t k,H t=none->K (.own t 0 (n+m)) (upd H t (some (.arr sz (P2 xs lo n++List.replicate m.toNat z++List.replicate k z))))):K0 P o fr H K:=by
 intro g w a C l;have h:=G2 C l s;have i:=G2 C l y
 rw[G]at h
 rw[I]at i
 rw[V3 X]
 grind[As8]
theorem eps{U W e:Do}{sz by_:Nat}{z:V}(X:o.op= .call {callee:=.builtin .append,args:= #[s,y],argTypes:= #[U,W]})
 (G:ev fr s= .sl [] .nil\/ev fr s= .sl [] .full)(I:ev fr y= .int k m)(R:Ic P U=some e)(J:P.underlying W=some (.int k'))(D:Hk P e=some sz)(l:0<sz)(u:UI P e=some by_)(q:0<by_)
 (Y:Lr P e=some z)(L:z.one=true)(M:z.cells.length=sz)(A:0<=m)
 (c:m.toNat*by_<=140737488355328)
 (i:∀t k,H t=none->K (.own t 0 m) (upd H t (some (.arr sz (List.replicate m.toNat z++List.replicate k z))))):K0 P o fr H K:=by
 intro g w a C Q;have⟨g',st,d,E,j⟩:=Hc C sz G (G2 C Q s);have r:=(G2 C Q y).mono st
 rw[I]at r
 rw[V3 X];simp only[Bl,D2,G8];refine J3.mono ?_ (As8 (K:=λv O=>∃N,K v N/\∀id b,N id=some b->O id=some b) d j r (E7 _ _ _) R J D l u q Y L M A TQ (λS=>?_) (λ_ t k T=>?_))
 ·exact λv w' ⟨Z,x,O,s2,f,F,N,hK,h⟩=>⟨Z,x,N,st.trans s2,f.less h,F,hK⟩
 ·have p:m=0:=Pw
  grind[upd,Cp]
 have B:t≠g.nx:=λe=>by grind[E7]
 rw[C8 _ _ B]at T
 have:=i t k T;rw[OI]
 grind[upd,P2]
theorem Aq8{lo U L:OS By}{i ih f:OS Int}(X:o.op= .slice t y lo U L)(E:Ey (lo.map (ev fr))=some i)(D:Ey (U.map (ev fr))=some ih)
 (I:Ey (L.map (ev fr))=some f)(B:PA P H t (ev fr y) i ih f=some x)(h:K x H):K0 P o fr H K:=by
 intro g w a C u;have j:=G2 C u y;have ac:=IC C u E;have ab:=IC C u D;have ad:=IC C u I
 have W:∀(v:Bool) (len cap:Nat),0<=i.getD 0->i.getD 0<=ih.getD len->ih.getD len<=f.getD cap->f.getD cap<=cap->(f.isSome=true->ih.isSome=true)->
  (Instr.sliceBounds v len cap (lo.map a.eval) (U.map a.eval) (L.map a.eval)).run P w= .ok ((i.getD 0).toNat,(ih.getD len).toNat,(f.getD cap).toNat) w:=by
  grind[Xj]
 unfold PA at B
 split at B
 ·rename_i e id l n J R;have hu:=U7 J
  split at B
  ·rename_i sz ae xs G M
   split at B
   ·rename_i d;have⟨Q,Y,c2,c3,c4,c5⟩:=d;subst Q
    rw[R]at j
    have S:=IJ M;have⟨b,p,O,Z,T,h4,h5,h6,A,h8,h9,aa⟩:=Gm C S j
    have r:(((xs.length-l.toNat:Nat):Nat):Int)=(xs.length:Nat)-l:=AY
    have z:((n.toNat:Nat):Int)=n:=AY
    have s:=W true n.toNat (xs.length-l.toNat) Y (by rw[z];exact c2) (by rw[z,r];exact c3) (by rw[r];exact c4) c5
    rw[z,r]at s
    unfold execOp;rw[X];simp only[Z,Instr.sliceAt,Instr.slice,B9,run_underlying hu,B5,s,T5 G,C7,J3]
    cases c:f with
    |some m=>
     rw[c]at B
     simp only[E5]at B
     subst B;exact O6.here C (.bad _) h
    | none=>
     rw[c]at B
     simp only[E5]at B
     subst B;refine O6.here C ?_ h
     simp only[c,LR]at c3 c4
     simp only[LR]
     have N:=VR.own (g:=g) (w:=w) (id:=id) (b:=b) (lo:=l+i.getD 0) (n:=ih.getD n-i.getD 0) (p:=if((xs.length:Nat)-l:Int).toNat=(i.getD 0).toNat then p else p.map λq=>q.add ((i.getD 0).toNat*sz)) O AY AY (by rw[A];omega)
      (λF=>by
       rw[A]at F
       rw[A1 AY,h8 AY,h6];simp only[K1,Bz]
       rw[show(l+i.getD 0).toNat=l.toNat+(i.getD 0).toNat by omega,F9,Cy])
     rw[A]at N
     have e1:(ih.getD n-i.getD 0).toNat=(ih.getD n).toNat-(i.getD 0).toNat:=AY
     have e2:xs.length-(l+i.getD 0).toNat=((xs.length:Nat)-l:Int).toNat-(i.getD 0).toNat:=AY
     rw[e1,e2]at N
     omega
   cases B
  cases B
 cases B
theorem Br9(X:o.op= .call {callee:=.builtin .cap,args:= #[y],argTypes:= #[t]})(B:AP2 P H t (ev fr y)=some x)(h:K x H):K0 P o fr H K:=by
 intro g w a C u;have j:=G2 C u y;rw[V3 X];simp only[builtin,Bl,D2,G8,B9]
 unfold AP2 at B
 split at B
 ·rename_i e id l n i R
  rw[R]at j
  cases M:Lp H id with
  |none=>rw[M]at B;cases B
  |some q=>
   have⟨sz,xs⟩:=q
   rw[M]at B
   simp only[K1,E5]at B
   subst B;have⟨b,p,O,Z,T,A,D,F,G,I,J,s⟩:=Gm C (IJ M) j;have r:=U7 i;simp[Builtin.cap_,run_underlying r,goInt,Z];rw[show(((xs.length-l.toNat:Nat):Nat):Int)=(xs.length:Nat)-l by omega];exact Kl
 ·rename_i e i R
  rw[R]at j
  cases B;have r:=U7 i
  generalize a.eval y=v at j
  cases j with
  |sl0 c=>simp[Builtin.cap_,run_underlying r,goInt];exact O6.here C (.int _ _) h
  |sle h=>rcases h with h|⟨h,_⟩<;>cases h
  |sl vs E d Y z m O j c=>exact c.elim
 ·rename_i e i R
  rw[R]at j
  cases B;have r:=U7 i
  generalize a.eval y=v at j
  cases j with
  |sl0 c=>simp[Builtin.cap_,run_underlying r,goInt];exact O6.here C (.int _ _) h
  |sle N=>
   rcases N with N|⟨_,N⟩
   ·cases N
   subst N;simp[Builtin.cap_,run_underlying r,goInt];exact Kl
  |sl vs E d Y z m O j c=>
   rename_i b o sz n cap
   have f:n=0:=TQ
   have e2:cap=n:=c;subst e2;subst f;simp[Builtin.cap_,run_underlying r,goInt];exact Kl
 cases B
def Ae2{id sz m:Nat}{H:A5}{b:Nat}{p:OS Addr}{lo:Int}(q:Rl g H w)(S:H id=some (.arr sz xs))(O:g.mu id=some b)(u:(g.ow id).sz=sz)(z:lo<(xs.length:Nat)->p=some ⟨b,(g.ow id).o+lo.toNat*sz,none⟩)
 (A:∀i,i<xs.length->(xs.getD i .bad).cells.length=sz)
 (l:xs.length=0\/∃c T,g.base<=b/\w.heap[b]? =some (.cells c T (0,0))/\(g.ow id).o+xs.length*sz<=c.size/\
  (∀i j,i<xs.length->j<sz->(c.getD ((g.ow id).o+i*sz+j) undef).oneCell'=true/\VR g w (c.getD ((g.ow id).o+i*sz+j) undef) ((xs.getD i .bad).cells.getD j .bad))/\
  (∀o,(g.ow id).o<=o->¬g.fz b o)/\g.at H id=some b)
 (v:0<sz)(t:ys.length=m)(B:lo.toNat+m<=xs.length)(h:∀i,i<ys.length->(ys.getD i .bad).cells.length=sz)(fy:Nat->Nat->HO)
 (y:∀i j,i<ys.length->j<sz->(fy i j).oneCell'=true/\VR g w (fy i j) ((ys.getD i .bad).cells.getD j .bad)):
 ∃w',(match p with|some a=>(storeCells a ((List.range (m*sz)).map λk=>fy (k / sz) (k % sz))).run P w|none=>.ok () w)= .ok () w'/\
  Al g w g w'/\Rl g (upd H id (some (.arr sz (Cp xs lo.toNat ys)))) w':=by
 by_cases N:m=0
 ·subst N;have d:ys=[]:=List.length_eq_zero_iff.1 t;subst d;refine⟨w,by cases p<;>simp[storeCells],Al.refl _ _,?_⟩
  have e:Cp xs lo.toNat []=xs:=by simp[Cp]
  have:upd H id (some (.arr sz xs))=H:=by
   funext x
   simp_all[upd]
  rw[e,this];exact q
 have f:=z AY;subst f
 rcases l with l|⟨c,T,I,E,F,G,J,L⟩
 ·omega
 have⟨C,D,s,r⟩:=AY4 P q (i:=lo.toNat) (m:=m) (ys:=ys) v S O u AY AY t E F G A h fy y
 simp_all
theorem Be7{Q yT e:Do}{id sz:Nat}{lo n:Int}(X:o.op= .call {callee:=.builtin .copy,args:= #[s,y],argTypes:= #[Q,yT]})
 (G:ev fr s= .own id lo n)(S:H id=some (.arr sz xs))(q:Wb sz H (ev fr y) ys)(R:Ic P Q=some e)(L:Hk P e=some sz)(c:0<sz)
 (h:K (.int .i64 (if n<(ys.length:Nat)then n else(ys.length:Nat))) (upd H id (some (.arr sz (Cp xs lo.toNat (ys.take n.toNat)))))):K0 P o fr H K:=by
 intro g w a C Y;have t:=G2 C Y s;have u:=G2 C Y y
 rw[G]at t
 have⟨ae,I,hle,v⟩:=q.inv C u;have⟨W,aa,fy,A,l,f⟩:=Nj P C I u (hle.sz v)
 rw[hle.length]at A l f
 have ab:∀i j,i<ys.length->j<sz->(fy i j).oneCell'=true/\VR g w (fy i j) ((ys.getD i .bad).cells.getD j .bad):=λi j U z=>⟨(l i j U z).1,(l i j U z).2.le ((hle.at i).cells.at j)⟩;have D:=JC v;have hu:=U7 R;have⟨b,p,O,Z,T,h4,h5,h6,h7,h8,h9,B⟩:=Gm C S t;rw[V3 X];simp only[builtin,Bl,D2,G8,B9];generalize hm:Nat.min ys.length n.toNat=m;have ac:m=min ys.length n.toNat:=hm.symm
 have E:(m:Int)=if n<(ys.length:Nat)then n else(ys.length:Nat):=by split<;>omega
 have M:ys.take n.toNat=ys.take m:=by
  grind
 rw[M,<-E]at h
 have r:(ys.take m).length=m:=by simp;omega
 have N:∀i,i<m->(ys.take m).getD i .bad=ys.getD i .bad:=λi U=>by
  grind
 have x:=f m AY w λ_ _=>rfl;have⟨w',ad,J,F⟩:=Ae2 (P:=P) (m:=m) (ys:=ys.take m) C S O h6 h8 h9 B c r AY (λi U=>by rw[r]at U;rw[N i U];grind) fy (λi j U z=>by rw[r]at U;rw[N i U];grind)
 rw[A]at x
 have d:(Builtin.copy_ #[Q,yT] o.type #[a.eval s,a.eval y]).run P w= .ok (.int .i64 m) w':=by
  rw[A,Z]
  simp only[Builtin.copy_,B9,run_underlying hu,B5,T5 L,C7,Builtin.lenOf,Z6,
   CZ,DV,hm,x,goInt]
  grind[Sem.run_bind,Sem.run_pure,Result.andThen_ok]
 rw[d];simp only[B5,C7,J3];exact⟨g,.int .i64 m,_,J,F,.int _ _,h⟩
theorem AH7{F e:Do}{id sz:Nat}{lo n:Int}{z:V}(X:o.op= .call {callee:=.builtin .clear,args:= #[s],argTypes:= #[F]})
 (G:ev fr s= .own id lo n)(S:H id=some (.arr sz xs))(R:Ic P F=some e)(aa:Hk P e=some sz)(v:0<sz)(Y:Lr P e=some z)(B:z.one=true)(N:z.cells.length=sz)
 (h:K (.tup []) (upd H id (some (.arr sz (Cp xs lo.toNat (List.replicate n.toNat z)))))):K0 P o fr H K:=by
 intro g w a C Q;have y:=G2 C Q s
 rw[G]at y
 have hu:=U7 R;have⟨d,I,ad⟩:=Fu Y
 have D:VR g w d z:=by rw[I];grind[GL]
 have⟨c,ab⟩:=D.cells B
 have ac:d.cells.size=sz:=by rw[c,N]
 have⟨b,p,O,Z,T,h4,h5,J,h7,L,M,f⟩:=Gm C S y
 have t:(List.replicate n.toNat z).length=n.toNat:=OC
 have r:(Builtin.zeroCells d.cells n.toNat).toList=(List.range (n.toNat*sz)).map λk=>d.cells.getD (k % sz) undef:=by
  unfold Builtin.zeroCells
  simp_all[Cz]
 have⟨w',l,A,u⟩:=Ae2 (P:=P) (m:=n.toNat) (ys:=List.replicate n.toNat z) C S O J L M f v t AY (λi U=>by rw[HG AY];exact N)
  (λ_ j=>d.cells.getD j undef) (λi j U hj=>by rw[HG AY];simp_all)
 rw[V3 X];simp only[builtin,Bl,D2,G8,B9]
 have x:(Builtin.clear_ #[F] o.type #[a.eval s]).run P w= .ok (.tuple #[]) w':=by
  rw[Z];simp only[Builtin.clear_,B9,run_underlying hu,B5,Z6,CZ]
  generalize W:p=base at l ⊢
  cases base with
  |none=>simp_all
  | some q=>
   simp only at l
   cases E:n.toNat with
   |zero=>rw[E]at l;simp[storeCells]at l;subst l;rfl
   |succ k=>
    rw[E]at l r
    simp_all
 rw[x];simp only[B5,C7,J3];exact⟨g,.tup [],_,A,u,.und _ _,h⟩
end
def Bh8 (v:V):OS Prop:=
 match v with
 | .sl xs _=>some (xs=[])
 | .own _ _ n=>some (n=0)
 |_=>none
def Bv4{v:HO}{p:Prop}(h:Bh8 x=some p)(j:VR g w v x):∃a n c,v= .slice a n c/\(a.isNone=true->p):=by
 unfold Bh8 at h
 split at h
 ·cases h
  cases j with
  |sl0 b=>simp_all
  |sle b=>simp_all
  |sl vs E d Y q m O j b=>simp_all
 ·cases h
  cases j with
  |own e L O Z f=>
   grind
 cases h
def Ba1:BinOp->OS Bool
 | .eql=>some true
 | .neq=>some false
 |_=>none
section
variable {P:Program}{o:Oper}{fr:Fr}{H:A5}{K:V->A5->Prop}
theorem BI0{i:BinOp}{e:Do}{z:By}{p:Prop}{q:Bool}(X:o.op= .binOp i t y z ty)(N:Ba1 i=some q)(D:Ic P t=some e)(I:Bh8 (ev fr y)=some p)(Y:ev fr z= .sl [] .nil)
 (O:p->K (.bool q) H)(L:K (.bool (!q)) H):K0 P o fr H K:=by
 intro g w a C x;have j:=G2 C x y;have b:=G2 C x z
 rw[Y]at b
 have⟨p',n,c,u,f⟩:=Bv4 I j
 have A:a.eval z= .slice none 0 0:=by
  generalize a.eval z=v at b
  cases b with
  |sl0 s=>rfl
  |sle h=>rcases h with h|⟨h,_⟩<;>cases h
  |sl vs E d Y F m O j s=>exact s.elim
 have r:=U7 D;unfold execOp;rw[X];simp only[B9,u,A]
 have B:(eqGuard i t y z (.slice p' n c) (.slice none 0 0)).run P w= .ok () w:=by
  cases i<;>simp[eqGuard]
 rw[B];simp only[B5]
 have W:(binOp i t (.slice p' n c) (.slice none 0 0)).run P w= .ok (.bool (if p'.isNone then q else !q)) w:=by
  cases i<;>simp only[Ba1,E5,reduceCtorEq]at N<;>subst N
  ·rw[Lib.run_eql_slice_nil w t e p' n c 0 0 r];cases p'<;>rfl
  grind[run_neq_slice_nil_any]
 rw[W];simp only[B5,C7,J3]
 cases l:p'.isNone with
 |true=>exact O6.here C (.bool _) (O (f l))
 |false=>exact O6.here C (.bool _) L
end
end Go.Ab
namespace Go.Ab
open Go.MapKept
structure KG (P:Program) (kt:TypeId) (G:Value->Prop):Prop where
 check:∀(w:World) (em:Bool) {v:Value},G v->(Instr.checkKey em 10000 kt v).run P w= .ok () w
 find:∀(w:World) {x:Value},G x->∀es:List MapEntry,(∀e∈es,G e.key)->
  ((Instr.findKey kt x es).run P w= .ok none w/\∀e∈es,e.key≠x)\/∃j e,(Instr.findKey kt x es).run P w= .ok (some (j,e.val)) w/\es[j]? =some e/\e.key=x
 stays:∀(w:World) {v:Value},G v->(Instr.keyThatStays v v).run P w= .ok v w
def KG.scalar {P:If} {kt:Do} {d:TypeDesc} (hd:P.underlying kt=some d):KG P kt (IsKey d) where
 check:=λw em v h=>run_checkKey hd h em 9999
 find:=λw x M a h=>by
  rcases findNow_spec M a 0 h with⟨O,Z⟩|⟨j,e,O,Z,T⟩
  ·grind[run_findKey]
  exact .inr ⟨j,e,by rw[run_findKey hd O,P0],Z,T⟩
 stays:=λw v h=>run_keyThatStays h
section
variable {P:Program}{kt el n:Nat}{k:IntKind}
def Sk (k:IntKind)(n:Nat)(v:HO):Prop:=∃l:Up Int,l.length=n/\v= .agg (l.map (Value.int k)).toArray
end
section
variable {P:Program}{kt n:Nat}{k:IntKind}
structure An4 (P:Program) (k:IntKind) (n:Nat) (fs:List Field):Prop where
 all:∀f∈fs,f.name≠ "_" /\P.underlying f.type=some (.int k)/\f.offset<n
 cov:∀i,i<n->∃f∈fs,f.offset=i
def XF (w:Is){e:Do}(R:P.underlying e=some (.int k)){xs:Up Int}{i:Nat}(U:i<xs.length):(part e (xs.map (Value.int k)).toArray i).run P w= .ok (.int k (xs[i])) w:=
 run_part_plain w (by simp[Program.plainKey,R]) (by simp[U])
def AE8 (w:Is) (d:Nat) {xs ys:Up Int} (B:ys.length=xs.length):∀fs:Up Field,(∀f∈fs,f.name≠ "_" /\P.underlying f.type=some (.int k)/\f.offset<xs.length)->
 ∃r:Bool,(Op.eqFields (d+1) (xs.map (Value.int k)).toArray (ys.map (Value.int k)).toArray fs).run P w= .ok r w/\(r=true<->∀f∈fs,xs[f.offset]? =ys[f.offset]?)
 |[],_=>⟨true,by simp[Op.eqFields],OC⟩
 |f::fs,h=>by
  have⟨E,R,U⟩:=h f (.head _)
  have z:f.offset<ys.length:=AY
  have⟨r,Q,a⟩:=AE8 w d B fs λg b=>h g (.tail _ b);have e:=XF w R U;have i:=XF (xs:=ys) w R z;simp only[Op.eqFields,E,ne_eq,not_false_eq_true,B4,B9,e,i,B5,run_equalIn_int w d f.type k k _ _ R];have t:xs[f.offset]? =some xs[f.offset]:=D9 U;have e2:ys[f.offset]? =some ys[f.offset]:=D9 z
  by_cases M:xs[f.offset]=ys[f.offset]
  ·simp_all
  simp_all
def AN2 (w:Is) (hd:P.underlying kt=some (.struct (P.fieldsOf kt))) (G:P.stoodInHeld kt=false) (q:An4 P k n (P.fieldsOf kt).toList) {a b:HO} (u:Sk k n a) (W:Sk k n b):
 ∃r:Bool,(Op.equal kt a b).run P w= .ok r w/\(r=true<->b=a):=by
 obtain⟨xs,M,rfl⟩:=u;obtain⟨ys,I,rfl⟩:=W;obtain⟨r,Q,i⟩:=AE8 (P:=P) w 9998 (xs:=xs) (ys:=ys) AY (P.fieldsOf kt).toList (λf h=>by rw[M];exact q.all f h);refine⟨r,?_,?_⟩
 ·exact(run_equalIn_struct w 9999 kt (xs.map (Value.int k)).toArray (ys.map (Value.int k)).toArray hd G).trans Q
 rw[i]
 constructor
 ·intro h
  have:xs=ys:=by
   apply CX;intro j
   by_cases z:j<n
   ·obtain⟨f,v,e⟩:=q.cov j z;rw[<-e];grind
   simp_all
  rw[this]
 intro h
 have Z:(ys.map (Value.int k))=xs.map (Value.int k):=Pw
 have:ys=xs:=by
  apply CX;intro j;have:=J8 (λl=>l[j]?) Z
  grind
 simp_all
theorem Ai6 (w:Is) (hd:P.underlying kt=some (.struct (P.fieldsOf kt))) (G:P.stoodInHeld kt=false) (l:An4 P k n (P.fieldsOf kt).toList) {x:HO} (M:Sk k n x):∀(b:Up MapEntry) (i:Nat),(∀e∈b,Sk k n e.key)->
 ((Instr.findAsking kt x b i).run P w= .ok none w/\∀e∈b,e.key≠x)\/∃j e,(Instr.findAsking kt x b i).run P w= .ok (some (i+j,e.val)) w/\b[j]? =some e/\e.key=x
 |[],i,_=>.inl ⟨by simp[Instr.findAsking],OC⟩
 | e::b,i,h=>by
  have⟨r,Q,a⟩:=AN2 w hd G l M (h e (.head _))
  cases r with
  |true=>exact .inr ⟨0,e,by simp[Instr.findAsking,Q],rfl,a.1 rfl⟩
  | false=>
   have N:e.key≠x:=λq=>by have:=a.2 q;cases this
   rcases Ai6 w hd G l M b (i+1) (λy I=>h y (.tail _ I))with⟨O,Z⟩|⟨j,v,O,Z,T⟩
   ·refine .inl ⟨by simp[Instr.findAsking,Q,O],λy I=>?_⟩
    grind
   exact .inr ⟨j+1,v,by simp[Instr.findAsking,Q,O,Cy,Nat.add_comm 1 j],Pw,T⟩
def KG.flds (hd:P.underlying kt=some (.struct (P.fieldsOf kt))) (G:P.stoodInHeld kt=false) (q:An4 P k n (P.fieldsOf kt).toList):KG P kt (Sk k n) where
 check:=λw em v j=>by
  obtain⟨xs,M,rfl⟩:=j;rw[Instr.checkKey];simp only[B9,run_underlying hd,B5];rw[<-Array.forIn_toList];have z:=q.all
  generalize (P.fieldsOf kt).toList=b at z
  induction b with
  |nil=>simp
  |cons f b ih=>
   have⟨E,R,U⟩:=z f (.head _);have y:=XF (P:=P) (xs:=xs) w R (i:=f.offset) AY;have N:(Instr.checkKey em 9999 f.type (.int k (xs[f.offset]' AY))).run P w= .ok () w:=run_checkKey (k:=.int k (xs[f.offset]' AY)) R rfl em 9998
   simp_all
 find:=λw x M r h=>by
  rw[run_findKey_eq w (k:=kt) (by simp[hd])]
  grind[Ai6]
 stays:=λw v j=>by
  obtain⟨xs,_,rfl⟩:=j
  have e:∀l:Up Int,((l.map (Value.int k)).zip (l.map (Value.int k))).all (λx=>Instr.sameBits 9999 x.1 x.2)=true:=by
   intro l
   induction l with
   |nil=>rfl
   |cons a l ih=>simp only[D2,List.zip_cons_cons,Jf,ih,Je];simp[Instr.sameBits]
  have Z:Instr.sameBits 10000 (.agg (xs.map (Value.int k)).toArray) (.agg (xs.map (Value.int k)).toArray)=true:=by
   rw[Instr.sameBits]
   grind
  simp[Instr.keyThatStays,Z]
end
end Go.Ab
