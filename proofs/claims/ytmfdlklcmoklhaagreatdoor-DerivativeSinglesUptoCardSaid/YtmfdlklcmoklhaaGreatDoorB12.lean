/- GHSh GHSo GHCo1 -/
import Derived.Test.YtmfdlklcmoklhaaGreatDoorB11
import Derived.Shelf.Strconv.Itoa1
import Derived.Shelf.SlSortCmp.NoneTotal
import Derived.Test.YtmfdlklcmoklhaaGreatDoorProg
import Derived.KernelRfl
set_option linter.all false
/- The shelf laid at this program: plain. -/
open List (append_assoc append_nil)
open Go.Ab.Ar (cmp lst nt_eq)
namespace Go.Proofs
open Go.Shelf
set_option maxRecDepth 100000
def Tryz.laysNm283_ren :Ren:=
{
  f :=fun x=>
    match x with
    |283=>191
    |n=>n,
  t :=fun x=>
    match x with
    |3=>3
    |9=>9
    |4=>4
    |n=>n,
  g :=fun x=>
    x}
theorem Tryz.laysNm283 :Lays.n283 Tryz.prog Tryz.laysNm283_ren:=
{ mixed :=(by kernel_rfl),f283:=Eq.trans Tryz.func191 (congrArg some (by kernel_rfl)),
  t3:=Tryz.underlying3,a3:=Tryz.isAgg3,z3:=Tryz.sizeOf3,v3:=Tryz.zeroValue3,t4:=Tryz.underlying4,
  a4:=Tryz.isAgg4,z4:=Tryz.sizeOf4,v4:=Tryz.zeroValue4,t9:=Tryz.underlying9,a9:=Tryz.isAgg9,
  z9:=Tryz.sizeOf9,v9:=Tryz.zeroValue9}
def Tryz.laysSlsf14_200_ren :Ren:=
{
  f :=fun x=>
    match x with
    |14=>200
    |20=>217
    |21=>218
    |22=>219
    |23=>220
    |24=>221
    |25=>222
    |26=>223
    |27=>224
    |46=>230
    |47=>145
    |48=>146
    |49=>231
    |50=>232
    |15=>74
    |57=>234
    |28=>111
    |29=>112
    |n=>n,
  t :=fun x=>
    match x with
    |24=>118
    |22=>115
    |3=>3
    |25=>242
    |4=>4
    |0=>0
    |46=>169
    |45=>168
    |50=>173
    |66=>200
    |39=>150
    |55=>178
    |70=>204
    |76=>228
    |77=>120
    |53=>176
    |5=>5
    |9=>9
    |n=>n,
  g :=fun x=>
    x}
theorem Tryz.laysSlsf14_200 :SlLaysF0.n14 Tryz.prog Tryz.laysSlsf14_200_ren:=
{ mixed :=(by kernel_rfl),
  f14 :=
    Exists.intro "slices.pdqsortCmpFunc[tidegate/semantics.bound]"
      ⟨of_decide_eq_true (id ((by kernel_rfl))),
        Eq.trans Tryz.func200
          (congrArg some (by kernel_rfl))⟩,
  f15:=Eq.trans Tryz.func74 (congrArg some (by kernel_rfl)),
  f20 :=
    Exists.intro "slices.insertionSortCmpFunc[tidegate/semantics.bound]"
      ⟨of_decide_eq_true (id ((by kernel_rfl))),
        Eq.trans Tryz.func217
          (congrArg some (by kernel_rfl))⟩,
  f21 :=
    Exists.intro "slices.heapSortCmpFunc[tidegate/semantics.bound]"
      ⟨of_decide_eq_true (id ((by kernel_rfl))),
        Eq.trans Tryz.func218
          (congrArg some (by kernel_rfl))⟩,
  f22 :=
    Exists.intro "slices.breakPatternsCmpFunc[tidegate/semantics.bound]"
      ⟨of_decide_eq_true (id ((by kernel_rfl))),
        Eq.trans Tryz.func219
          (congrArg some (by kernel_rfl))⟩,
  f23 :=
    Exists.intro "slices.choosePivotCmpFunc[tidegate/semantics.bound]"
      ⟨of_decide_eq_true (id ((by kernel_rfl))),
        Eq.trans Tryz.func220
          (congrArg some (by kernel_rfl))⟩,
  f24 :=
    Exists.intro "slices.reverseRangeCmpFunc[tidegate/semantics.bound]"
      ⟨of_decide_eq_true (id ((by kernel_rfl))),
        Eq.trans Tryz.func221
          (congrArg some (by kernel_rfl))⟩,
  f25 :=
    Exists.intro "slices.partialInsertionSortCmpFunc[tidegate/semantics.bound]"
      ⟨of_decide_eq_true (id ((by kernel_rfl))),
        Eq.trans Tryz.func222
          (congrArg some (by kernel_rfl))⟩,
  f26 :=
    Exists.intro "slices.partitionEqualCmpFunc[tidegate/semantics.bound]"
      ⟨of_decide_eq_true (id ((by kernel_rfl))),
        Eq.trans Tryz.func223
          (congrArg some (by kernel_rfl))⟩,
  f27 :=
    Exists.intro "slices.partitionCmpFunc[tidegate/semantics.bound]"
      ⟨of_decide_eq_true (id ((by kernel_rfl))),
        Eq.trans Tryz.func224
          (congrArg some (by kernel_rfl))⟩,
  f28:=Eq.trans Tryz.func111 (congrArg some (by kernel_rfl)),
  f29:=Eq.trans Tryz.func112 (congrArg some (by kernel_rfl)),
  f46 :=
    Exists.intro "slices.siftDownCmpFunc[tidegate/semantics.bound]"
      ⟨of_decide_eq_true (id ((by kernel_rfl))),
        Eq.trans Tryz.func230
          (congrArg some (by kernel_rfl))⟩,
  f47:=Eq.trans Tryz.func145 (congrArg some (by kernel_rfl)),
  f48:=Eq.trans Tryz.func146 (congrArg some (by kernel_rfl)),
  f49 :=
    Exists.intro "slices.medianAdjacentCmpFunc[tidegate/semantics.bound]"
      ⟨of_decide_eq_true (id ((by kernel_rfl))),
        Eq.trans Tryz.func231
          (congrArg some (by kernel_rfl))⟩,
  f50 :=
    Exists.intro "slices.medianCmpFunc[tidegate/semantics.bound]"
      ⟨of_decide_eq_true (id ((by kernel_rfl))),
        Eq.trans Tryz.func232
          (congrArg some (by kernel_rfl))⟩,
  f57 :=
    Exists.intro "slices.order2CmpFunc[tidegate/semantics.bound]"
      ⟨of_decide_eq_true (id ((by kernel_rfl))),
        Eq.trans Tryz.func234
          (congrArg some (by kernel_rfl))⟩,
  t0:=Tryz.underlying0,a0:=Tryz.isAgg0,z0:=Tryz.sizeOf0,v0:=Tryz.zeroValue0,t3:=Tryz.underlying3,
  a3:=Tryz.isAgg3,z3:=Tryz.sizeOf3,v3:=Tryz.zeroValue3,t4:=Tryz.underlying4,a4:=Tryz.isAgg4,
  z4:=Tryz.sizeOf4,v4:=Tryz.zeroValue4,t5:=Tryz.underlying5,a5:=Tryz.isAgg5,z5:=Tryz.sizeOf5,
  v5:=Tryz.zeroValue5,t9:=Tryz.underlying9,a9:=Tryz.isAgg9,z9:=Tryz.sizeOf9,v9:=Tryz.zeroValue9,
  t22:=Tryz.underlying115,a22:=Tryz.isAgg115,z22:=Tryz.sizeOf115,v22:=Tryz.zeroValue115,
  t25:=Tryz.underlying242,a25:=Tryz.isAgg242,z25:=Tryz.sizeOf242,v25:=Tryz.zeroValue242,
  t39:=Tryz.underlying150,a39:=Tryz.isAgg150,z39:=Tryz.sizeOf150,v39:=Tryz.zeroValue150,
  t45:=Tryz.underlying168,a45:=Tryz.isAgg168,z45:=Tryz.sizeOf168,v45:=Tryz.zeroValue168,
  t46:=Tryz.underlying169,a46:=Tryz.isAgg169,z46:=Tryz.sizeOf169,v46:=Tryz.zeroValue169,
  t50:=Tryz.underlying173,a50:=Tryz.isAgg173,z50:=Tryz.sizeOf173,v50:=Tryz.zeroValue173,
  t53:=Tryz.underlying176,a53:=Tryz.isAgg176,z53:=Tryz.sizeOf176,v53:=Tryz.zeroValue176,
  t55:=Tryz.underlying178,a55:=Tryz.isAgg178,z55:=Tryz.sizeOf178,v55:=Tryz.zeroValue178,
  t66:=Tryz.underlying200,a66:=Tryz.isAgg200,z66:=Tryz.sizeOf200,v66:=Tryz.zeroValue200,
  t70:=Tryz.underlying204,a70:=Tryz.isAgg204,z70:=Tryz.sizeOf204,v70:=Tryz.zeroValue204,
  t76:=Tryz.underlying228,a76:=Tryz.isAgg228,z76:=Tryz.sizeOf228,v76:=Tryz.zeroValue228,
  t77:=Tryz.underlying120,a77:=Tryz.isAgg120,z77:=Tryz.sizeOf120,v77:=Tryz.zeroValue120}
def Tryz.laysSlsf15_74_ren :Ren:=
{
  f :=fun x=>
    match x with
    |15=>74
    |28=>111
    |29=>112
    |n=>n,
  t :=fun x=>
    match x with
    |39=>150
    |3=>3
    |53=>176
    |55=>178
    |4=>4
    |5=>5
    |9=>9
    |n=>n,
  g :=fun x=>
    x}
theorem Tryz.laysSlsf15_74 :SlLaysF0.n15 Tryz.prog Tryz.laysSlsf15_74_ren:=
{ mixed :=(by kernel_rfl),f15:=Eq.trans Tryz.func74 (congrArg some (by kernel_rfl)),
  f28:=Eq.trans Tryz.func111 (congrArg some (by kernel_rfl)),
  f29:=Eq.trans Tryz.func112 (congrArg some (by kernel_rfl)),t3:=Tryz.underlying3,
  a3:=Tryz.isAgg3,z3:=Tryz.sizeOf3,v3:=Tryz.zeroValue3,t4:=Tryz.underlying4,a4:=Tryz.isAgg4,
  z4:=Tryz.sizeOf4,v4:=Tryz.zeroValue4,t5:=Tryz.underlying5,a5:=Tryz.isAgg5,z5:=Tryz.sizeOf5,
  v5:=Tryz.zeroValue5,t9:=Tryz.underlying9,a9:=Tryz.isAgg9,z9:=Tryz.sizeOf9,v9:=Tryz.zeroValue9,
  t39:=Tryz.underlying150,a39:=Tryz.isAgg150,z39:=Tryz.sizeOf150,v39:=Tryz.zeroValue150,
  t53:=Tryz.underlying176,a53:=Tryz.isAgg176,z53:=Tryz.sizeOf176,v53:=Tryz.zeroValue176,
  t55:=Tryz.underlying178,a55:=Tryz.isAgg178,z55:=Tryz.sizeOf178,v55:=Tryz.zeroValue178}
def Tryz.laysSlsf6_51_ren :Ren:=
{
  f :=fun x=>
    match x with
    |6=>51
    |15=>74
    |14=>73
    |28=>111
    |29=>112
    |20=>103
    |21=>104
    |22=>105
    |23=>106
    |24=>107
    |25=>108
    |26=>109
    |27=>110
    |46=>144
    |47=>145
    |48=>146
    |49=>147
    |50=>148
    |57=>174
    |n=>n,
  t :=fun x=>
    match x with
    |22=>40
    |24=>61
    |25=>98
    |3=>3
    |39=>150
    |0=>0
    |53=>176
    |55=>178
    |4=>4
    |46=>169
    |45=>168
    |50=>173
    |5=>5
    |9=>9
    |66=>200
    |70=>204
    |76=>228
    |77=>120
    |n=>n,
  g :=fun x=>
    x}
theorem Tryz.laysSlsf6_51 :SlLaysF0.n6 Tryz.prog Tryz.laysSlsf6_51_ren:=
{ mixed :=(by kernel_rfl),
  f6 :=
    Exists.intro "slices.SortFunc[[]tidegate/api.Match,tidegate/api.Match]"
      ⟨of_decide_eq_true (id ((by kernel_rfl))),
        Eq.trans Tryz.func51
          (congrArg some (by kernel_rfl))⟩,
  f14 :=
    Exists.intro "slices.pdqsortCmpFunc[tidegate/api.Match]"
      ⟨of_decide_eq_true (id ((by kernel_rfl))),
        Eq.trans Tryz.func73
          (congrArg some (by kernel_rfl))⟩,
  f15:=Eq.trans Tryz.func74 (congrArg some (by kernel_rfl)),
  f20 :=
    Exists.intro "slices.insertionSortCmpFunc[tidegate/api.Match]"
      ⟨of_decide_eq_true (id ((by kernel_rfl))),
        Eq.trans Tryz.func103
          (congrArg some (by kernel_rfl))⟩,
  f21 :=
    Exists.intro "slices.heapSortCmpFunc[tidegate/api.Match]"
      ⟨of_decide_eq_true (id ((by kernel_rfl))),
        Eq.trans Tryz.func104
          (congrArg some (by kernel_rfl))⟩,
  f22 :=
    Exists.intro "slices.breakPatternsCmpFunc[tidegate/api.Match]"
      ⟨of_decide_eq_true (id ((by kernel_rfl))),
        Eq.trans Tryz.func105
          (congrArg some (by kernel_rfl))⟩,
  f23 :=
    Exists.intro "slices.choosePivotCmpFunc[tidegate/api.Match]"
      ⟨of_decide_eq_true (id ((by kernel_rfl))),
        Eq.trans Tryz.func106
          (congrArg some (by kernel_rfl))⟩,
  f24 :=
    Exists.intro "slices.reverseRangeCmpFunc[tidegate/api.Match]"
      ⟨of_decide_eq_true (id ((by kernel_rfl))),
        Eq.trans Tryz.func107
          (congrArg some (by kernel_rfl))⟩,
  f25 :=
    Exists.intro "slices.partialInsertionSortCmpFunc[tidegate/api.Match]"
      ⟨of_decide_eq_true (id ((by kernel_rfl))),
        Eq.trans Tryz.func108
          (congrArg some (by kernel_rfl))⟩,
  f26 :=
    Exists.intro "slices.partitionEqualCmpFunc[tidegate/api.Match]"
      ⟨of_decide_eq_true (id ((by kernel_rfl))),
        Eq.trans Tryz.func109
          (congrArg some (by kernel_rfl))⟩,
  f27 :=
    Exists.intro "slices.partitionCmpFunc[tidegate/api.Match]"
      ⟨of_decide_eq_true (id ((by kernel_rfl))),
        Eq.trans Tryz.func110
          (congrArg some (by kernel_rfl))⟩,
  f28:=Eq.trans Tryz.func111 (congrArg some (by kernel_rfl)),
  f29:=Eq.trans Tryz.func112 (congrArg some (by kernel_rfl)),
  f46 :=
    Exists.intro "slices.siftDownCmpFunc[tidegate/api.Match]"
      ⟨of_decide_eq_true (id ((by kernel_rfl))),
        Eq.trans Tryz.func144
          (congrArg some (by kernel_rfl))⟩,
  f47:=Eq.trans Tryz.func145 (congrArg some (by kernel_rfl)),
  f48:=Eq.trans Tryz.func146 (congrArg some (by kernel_rfl)),
  f49 :=
    Exists.intro "slices.medianAdjacentCmpFunc[tidegate/api.Match]"
      ⟨of_decide_eq_true (id ((by kernel_rfl))),
        Eq.trans Tryz.func147
          (congrArg some (by kernel_rfl))⟩,
  f50 :=
    Exists.intro "slices.medianCmpFunc[tidegate/api.Match]"
      ⟨of_decide_eq_true (id ((by kernel_rfl))),
        Eq.trans Tryz.func148
          (congrArg some (by kernel_rfl))⟩,
  f57 :=
    Exists.intro "slices.order2CmpFunc[tidegate/api.Match]"
      ⟨of_decide_eq_true (id ((by kernel_rfl))),
        Eq.trans Tryz.func174
          (congrArg some (by kernel_rfl))⟩,
  t0:=Tryz.underlying0,a0:=Tryz.isAgg0,z0:=Tryz.sizeOf0,v0:=Tryz.zeroValue0,t3:=Tryz.underlying3,
  a3:=Tryz.isAgg3,z3:=Tryz.sizeOf3,v3:=Tryz.zeroValue3,t4:=Tryz.underlying4,a4:=Tryz.isAgg4,
  z4:=Tryz.sizeOf4,v4:=Tryz.zeroValue4,t5:=Tryz.underlying5,a5:=Tryz.isAgg5,z5:=Tryz.sizeOf5,
  v5:=Tryz.zeroValue5,t9:=Tryz.underlying9,a9:=Tryz.isAgg9,z9:=Tryz.sizeOf9,v9:=Tryz.zeroValue9,
  t22:=Tryz.underlying40,a22:=Tryz.isAgg40,z22:=Tryz.sizeOf40,v22:=Tryz.zeroValue40,
  t25:=Tryz.underlying98,a25:=Tryz.isAgg98,z25:=Tryz.sizeOf98,v25:=Tryz.zeroValue98,
  t39:=Tryz.underlying150,a39:=Tryz.isAgg150,z39:=Tryz.sizeOf150,v39:=Tryz.zeroValue150,
  t45:=Tryz.underlying168,a45:=Tryz.isAgg168,z45:=Tryz.sizeOf168,v45:=Tryz.zeroValue168,
  t46:=Tryz.underlying169,a46:=Tryz.isAgg169,z46:=Tryz.sizeOf169,v46:=Tryz.zeroValue169,
  t50:=Tryz.underlying173,a50:=Tryz.isAgg173,z50:=Tryz.sizeOf173,v50:=Tryz.zeroValue173,
  t53:=Tryz.underlying176,a53:=Tryz.isAgg176,z53:=Tryz.sizeOf176,v53:=Tryz.zeroValue176,
  t55:=Tryz.underlying178,a55:=Tryz.isAgg178,z55:=Tryz.sizeOf178,v55:=Tryz.zeroValue178,
  t66:=Tryz.underlying200,a66:=Tryz.isAgg200,z66:=Tryz.sizeOf200,v66:=Tryz.zeroValue200,
  t70:=Tryz.underlying204,a70:=Tryz.isAgg204,z70:=Tryz.sizeOf204,v70:=Tryz.zeroValue204,
  t76:=Tryz.underlying228,a76:=Tryz.isAgg228,z76:=Tryz.sizeOf228,v76:=Tryz.zeroValue228,
  t77:=Tryz.underlying120,a77:=Tryz.isAgg120,z77:=Tryz.sizeOf120,v77:=Tryz.zeroValue120}
end Go.Proofs
namespace Go.Proofs
open Go.Shelf Go.RowKit Go.Lib Go.Sort Go.Ab
set_option maxRecDepth 100000
theorem Tryz.sorts51 :Wm Tryz.prog 51 1:=Ak6 Tryz.laysSlsf6_51 Tryz.isAgg61 Tryz.sizeOf61
set_option maxHeartbeats 2000000 in
theorem Tryz.sorts186 :Wm Tryz.prog 186 2 where
 zero p cap fv w:=by
  have hp:=fun lim W=>AnyF.pdqsortCmpFunc_none Tryz.laysSlsf14_200 p cap lim fv W
  have hl:∀W,Calls Tryz.prog 74 #[.int .u64 0] W fun e w'=>e= .returned (.int .i64 (Lib.bitLen 0:Nat))∧w'=W:=fun W=>by
   have h:=Any.bits_Len (SlLaysF0.n15.bits Tryz.laysSlsf15_74) 0 W (by omega) (by omega);exact h
  change ∀lim W,Calls Tryz.prog 200 _ _ _ at hp
  go_enter Tryz.func186,Tryz.ntmps186
  go_wp2_with (first|(go_at_call 74;refine(hl _).mono ?_;rintro e w' ⟨rfl,rfl⟩)|(go_at_call 200;refine(hp _ _).mono ?_;rintro e w' ⟨rfl,rfl⟩))
  go_end0
  exact⟨rfl,rfl⟩
 pos α _ enc hk h1 cf hO g cb blk off cap d w eg hcmp hH hblk hsz hT:=by
  have hlim:Lib.bitLen d.size<4611686018427387904:=Nat.lt_of_le_of_lt (Lib.bitLen_le d.size 62 (by omega) (by omega)) (by omega);have hp:=AnyQ.pdqsortCmpFunc_all Tryz.laysSlsf14_200 2 Tryz.isAgg118 Tryz.sizeOf118 enc cf g cb hO blk off cap d w eg hcmp ⟨hk,h1,hH,hblk⟩ (d.size+1) 0 d.size (Lib.bitLen d.size) d w (by omega) rfl (SWK.start hH) (Nat.zero_le _) (Nat.le_refl _) hsz hlim (Or.inl rfl)
  have hl:Calls Tryz.prog 74 #[.int .u64 (d.size:Int)] w fun e w'=>e= .returned (.int .i64 (Lib.bitLen d.size:Nat))∧w'=w:=by
   have h:=Any.bits_Len (SlLaysF0.n15.bits Tryz.laysSlsf15_74) (d.size:Int) w (by omega) (by omega)
   rwa[Int.toNat_natCast]at h
  have wr:IntKind.u64.wrap (d.size:Int)=d.size:=by simp[IntKind.wrap,IntKind.bits,IntKind.signed];omega
  change Calls Tryz.prog 200 _ _ _ at hp
  have hps:=pdq_sorts (ltOf cf) hO d 0 d.size (Lib.bitLen d.size) true true (Nat.zero_le _) (Nat.le_refl _) (Or.inl rfl);have hu:=sorted_unique_holds hO hT d _ hps.1 hps.2;clear hH hcmp hk h1 hps
  generalize pdq (ltOf cf) d 0 d.size (Lib.bitLen d.size) true true=r at hp hu
  rw[←hu];clear hu
  go_enter Tryz.func186,Tryz.ntmps186
  go_wp2_with (first|(go_at_call 74;refine hl.mono ?_;rintro e w' ⟨rfl,rfl⟩)|(go_at_call 200;refine hp.mono ?_;rintro e w' ⟨rfl,n,os,rfl⟩))
  go_end0
  exact⟨rfl,n,os,rfl⟩
end Go.Proofs
namespace Go.Ab
open Go.RowKit Go.Proofs Go.Proofs.Tryz L9
abbrev vi (n:Int):V:=.int .i64 n
abbrev sr [Ar]{α:Type}(f:α→V)(l:List α):V:=.sl (lst f l) .ro
abbrev cb (b:Nat)(l:List V):En:=.blk b (.cells l)
abbrev ob [Ar]{α:Type}(q:OG)(n:Nat)(f:α→V)(l:List α):En:=.blk q.id (.arr n (q.pre++lst f l++q.rest))
abbrev fi (k:Nat)(n:Int):Nat×Sl:=(k,.v (vi n))
instance globs :M9:=⟨fun n=>match n with
 |0=>.eref [vi 0,vi 0,.bool true,.bool true,.bool false,.bool false,vi 2,vi 64,.bool false,.bool false,.bool false,.bool false,vi 2,vi 64,.bool false,.bool false,.bool false,.bool false,vi 2,vi 64,.bool false,.bool false,.bool false,.bool false,vi 1,vi 1,.bool false,.bool false,.bool false,.bool false,vi 1,vi 1,.bool true,.bool true,.bool true,.bool false,vi 1,vi 1,.bool false,.bool false,.bool true,.bool true,vi 1,vi 1,.bool false,.bool true,.bool false,.bool false,vi 2,vi 2,.bool false,.bool false,.bool false,.bool false,vi 1,vi 1,.bool true,.bool true,.bool true,.bool false,vi 1,vi 1,.bool false,.bool false,.bool true,.bool true] 0
 |_=>.bad⟩
variable [Ar][L9]
set_option maxRecDepth 100000
theorem Q6 :YH prog TT:=⟨okT,by rfl⟩
def cf0 :Cf:=⟨[],[],[],[],[],[]⟩
theorem Jv.e2 {l r:Fl}{k1 k2:Nat}{x1 x2:V}(hr:Jv l r)(h1:Dp l k1=x1:=by rfl)(h2:Dp l k2=x2:=by rfl):Jv l ((k1,.v x1)::(k2,.v x2)::r):=.e h1 (.e h2 hr)
theorem Jv.e4 {l r:Fl}{k1 k2 k3 k4:Nat}{x1 x2 x3 x4:V}(hr:Jv l r)(h1:Dp l k1=x1:=by rfl)(h2:Dp l k2=x2:=by rfl)(h3:Dp l k3=x3:=by rfl)(h4:Dp l k4=x4:=by rfl):Jv l ((k1,.v x1)::(k2,.v x2)::(k3,.v x3)::(k4,.v x4)::r):=.e2 (.e2 hr h3 h4) h1 h2
theorem O7 {f:FuncId}{fn:Func}{c:Code}{n:Nat}{rs:List ResultVar}{args:List V}{r:V}(cf:Cf)(hf:prog.funcs[f]? =some fn)(hcall:∀vals w,(callFunc f vals).run prog w= .ok (.enter f vals) w)(hnt:fn.ntmps=n)
 (h:∀(E:GF) (H:A5) (K:V→A5→Prop),E=I8 prog n none→(∀{x L H'},C3 Eq H L H'→Ew x r→K x H')→C3 Eq H [] H→run E TT n cf c ⟨FF args 0,[]⟩ H (TJ E TT rs K))
 (hb:fn.body=some c:=by rfl) (hd:M2 cf c=true:=by kernel_rfl) (hrs:fn.results.toList=rs:=by rfl) (hn:Nat.ble args.length n=true:=by rfl):C0 prog f args r:=
 TP cf Q6 hf hb hd hcall hnt hrs hn fun E H K hE hK=>h E H K hE (fun a b=>hK _ _ _ a b) (.start G4 rfl)
def XT :Go.TypeDesc:=Go.TypeDesc.struct #[{name:= "source",type:=3,offset:=0,embedded:=false,tag:= "",pkgPath:= "tidegate/stream",byteOffset:=0},{name:= "seq",type:=3,offset:=1,embedded:=false,tag:= "",pkgPath:= "tidegate/stream",byteOffset:=8}]
theorem Ag1 :Ac4 prog XT eBg2:=Ap1 (g:=fun(x:G0)=>[x.source,x.seq]) (fun x=>(eBg7 x).trans rfl) (fun _=>rfl) (fun x y h=>by cases x;cases y;cases h;rfl) (by kernel_rfl)
theorem c18 (N:Nat):∀n aA bK r,Cr N n aA bK=some r→C0 prog 18 [(D2 aA),vi bK] (vi r):=by
 intro n
 induction n with
 |zero=>intro aA bK r h;cases h
 |succ n ih=>
 intro aA bK r h
 unfold Cr at h
 refine O7 cf0 func18 call18 ntmps18 ?_;intro E H0 K hE hK hO;cbv;obtain⟨s2,hx,h⟩:=bind_some h;refine K0 cf0 hE Q6 (fun s1=>[fi 1 bK,(2,.v (.eref (E3 aA) 0)),fi 5 s1.1,fi 6 s1.2]) (fun s1 H1=>C3 Eq H0 [] H1) (fun x e l H1=>e= .exit 0∧l=[fi 5 x]∧C3 Eq H0 [] H1) (by kernel_rfl) ?_ hx ?_ hO ?_
 ·intro s1 H o hO h;clear hx;cbv;refine G1 hE ?_;cbv;refine B1 hE h (fun _ h=>?_) fun _ h=>?_
  ·cbv;refine C9 hE eBe1 h fun x3 h=>?_;cbv;refine A8 hE h (ih x3 bK) (.refl _) fun r4 h=>?_;cbv;cases h;exact⟨_,rfl,.e4 .z,rfl,hO⟩
  cbv;cases h;exact⟨_,_,rfl,⟨rfl,rfl,hO⟩,.e rfl .z,rfl⟩
 ·exact .e4 .z
 clear hx;rintro e l H ⟨rfl,rfl,hO⟩;cbv;cases h;exact hK hO (.refl _)
theorem c19 (N:Nat):∀n aA r,Cs N n aA=some r→C0 prog 19 [(D2 aA)] (sr eBe0 r):=by
 intro n
 induction n with
 |zero=>intro aA r h;cases h
 |succ n ih=>
 intro aA r h
 unfold Cs at h
 refine O7 cf0 func19 call19 ntmps19 ?_;intro E H0 K hE hK hO;cbv;replace hO:=hO.tl0 (t:=.full) rfl;obtain⟨s3,hx,h⟩:=bind_some h;refine Bm cf0 hE Q6 (γ:=G3) (fun s1 g=>[(1,.v (.eref (E3 aA) 0)),(3,.v (.sl (lst eBe0 s1.1) g)),fi 4 s1.2]) (fun s1 g H1=>Au g∧C3 Eq H0 [.tl g] H1) (fun x e l H1=>∃u1:G3,Au u1∧e= .exit 0∧l=[(3,.v (.sl (lst eBe0 x) u1))]∧C3 Eq H0 [.tl u1] H1) (by kernel_rfl) ?_ .full hx ?_ ?_ ?_
 ·rintro s1 t2 H o ⟨ht2,hO⟩ h;clear hx;cbv;refine G1 hE ?_;cbv;refine B1 hE h (fun _ h=>?_) fun _ h=>?_
  ·cbv;refine C9 hE eBe1 h fun x4 h=>?_;cbv;refine A8 hE h (ih x4) (.refl _) fun r5 h=>?_;cbv;refine BS (f:=eBe0) hE AR (by decide) hO 0 rfl ht2 (l:=s1.1) (m:=r5) (.refl _) (.refl _) h fun l7 t6 H hO ht6 h=>?_;cbv;cases h;exact⟨_,t6,rfl,.e rfl (.e2 .z),rfl,ht6,hO⟩
  cbv;cases h;exact⟨_,_,rfl,⟨t2,ht2,rfl,rfl,hO⟩,.e rfl .z,rfl⟩
 ·exact .e rfl (.v (.slt _ (.lstc (.eq (eBe1 aA) (.refl _)) (.lst0))) (.e rfl (.z)))
 ·exact⟨trivial,hO⟩
 clear hx;rintro e l H ⟨t8,ht8,rfl,rfl,hO⟩;cbv;cases h;exact hK hO (.ro _ _)
theorem c20 (N:Nat):∀n aC bK r,AT N n aC bK=some r→C0 prog 20 [(V9 aC),vi bK] (vi r):=by
 intro n
 induction n with
 |zero=>intro aC bK r h;cases h
 |succ n ih=>
 intro aC bK r h
 unfold AT at h
 refine O7 cf0 func20 call20 ntmps20 ?_;intro E H0 K hE hK hO;cbv;obtain⟨s2,hx,h⟩:=bind_some h;refine K0 cf0 hE Q6 (fun s1=>[fi 1 bK,(2,.v (.eref (CO aC) 0)),fi 5 s1.1,fi 6 s1.2]) (fun s1 H1=>C3 Eq H0 [] H1) (fun x e l H1=>e= .exit 0∧l=[fi 5 x]∧C3 Eq H0 [] H1) (by kernel_rfl) ?_ hx ?_ hO ?_
 ·intro s1 H o hO h;clear hx;cbv;refine G1 hE ?_;cbv;refine B1 hE h (fun _ h=>?_) fun _ h=>?_
  ·cbv;refine C9 hE eBf0 h fun x3 h=>?_;cbv;refine A8 hE h (ih x3 bK) (.refl _) fun r4 h=>?_;cbv;cases h;exact⟨_,rfl,.e4 .z,rfl,hO⟩
  cbv;cases h;exact⟨_,_,rfl,⟨rfl,rfl,hO⟩,.e rfl .z,rfl⟩
 ·exact .e4 .z
 clear hx;rintro e l H ⟨rfl,rfl,hO⟩;cbv;cases h;exact hK hO (.refl _)
theorem c4 (N aA r) (h:GW N aA=some r):C0 prog 4 [(D2 aA)] (.bool r):=by
 unfold GW at h
 refine O7 cf0 func4 call4 ntmps4 ?_;intro E H0 K hE hK hO;cbv;refine A8 hE h (c18 N N aA 9) (.refl _) fun r1 h=>?_;cbv;refine B1 hE h (fun _ h=>?_) fun _ h=>?_
 ·cbv;cases h;exact hK hO (.refl _)
 cbv;refine A8 hE h (c19 N N aA) (.refl _) fun r2 h=>?_;cbv;obtain⟨s4,hx,h⟩:=bind_some h;refine K0 cf0 hE Q6 (fun s3=>[(3,.v (sr eBe0 r2)),fi 4 s3]) (fun s3 H1=>C3 Eq H0 [] H1) (fun x e l H1=>match(generalizing:=false) x with| .inl y=>e= .exit 0∧l=[]∧C3 Eq H0 [] H1| .inr y=>e= .ret∧l=[(2,.b false)]∧C3 Eq H0 [] H1) (by kernel_rfl) ?_ hx ?_ hO ?_
 ·intro s3 H o hO h;clear hx;cbv;refine G1 hE ?_;cbv;refine B1 hE h (fun _ h=>?_) fun _ h=>?_
  ·cbv;refine C9 hE eBe1 h fun x5 h=>?_;cbv;refine A8 hE h (c20 N N x5.dE 20) (.refl _) fun r6 h=>?_;cbv;refine B1 hE h (fun _ h=>?_) fun _ h=>?_
   ·cbv;cases h;exact⟨_,_,rfl,⟨rfl,rfl,hO⟩,.b rfl (.z),rfl⟩
   cbv;cases h;exact⟨_,rfl,.e2 .z,rfl,hO⟩
  cbv;cases h;exact⟨_,_,rfl,⟨rfl,rfl,hO⟩,.z,rfl⟩
 ·exact .e2 .z
 clear hx
 rcases s4 with y7|y8
 ·rintro e l H ⟨rfl,rfl,hO⟩;cbv;cases h;exact hK hO (.refl _)
 rintro e l H ⟨rfl,rfl,hO⟩;cbv;cases h;exact hK hO (.refl _)
theorem c63 (N:Nat):∀n aA r,AN N n aA=some r→Hh prog 63 (fun yv=>[(D2 aA),yv]) (List.map (fun(x:A0)=>[(D2 x)]) r) rbB:=by
 intro n
 induction n with
 |zero=>intro aA r h;cases h
 |succ n ih=>
 intro aA r h
 unfold AN at h
 obtain⟨⟨w0,u0⟩,h1,hr⟩:=bind_some h;clear h;have hr:=M6 hr;subst hr;have h:=h1;clear h1;refine O4 cf0 Q6 func63 (by rfl) (by kernel_rfl) call63 ntmps63 (by rfl) (fun _=>rfl) ?_;intro yv I D hI hD hy tl F E H K hE hO hK hKD
 have hO:C3 (I (List.map (fun(x:A0)=>[(D2 x)]) (w0++[])++tl)) F [] H:=by rw[append_nil];exact hO
 cbv;obtain⟨w1,h1,he⟩:=S8 h;clear h;have h:=h1;clear h1
 rw[he,append_assoc]at hO
 clear he;have hO:C3 (I ([(D2 aA)]::(List.map (fun(x:A0)=>[(D2 x)]) (w1++[])++tl))) F [] _:=hO;refine CI hE hI hD hy hO (.refl _) (fun H hO=>?_) (fun H hO=>?_)
 ·cbv;refine Id hE (nt_eq _) ?_;cbv;refine G1 hE ?_;cbv;obtain⟨w3,w4,s7,hx,h1,he⟩:=N4 h;clear h;have h:=h1;clear h1
  rw[he,append_assoc]at hO
  clear he;refine Fx cf0 hE Q6 (γ:=Unit) (fun s2 g=>[(1,.v (yv)),(12,.v (sr eBe0 aA.dD)),fi 13 (Ar.len aA.dD),fi 14 s2]) (fun s2 g w H1=>C3 (I (List.map (fun(x:A0)=>[(D2 x)]) w++tl)) F [] H1) (fun x e l w H1=>e= .exit 0∧l=[]∧C3 (I (List.map (fun(x:A0)=>[(D2 x)]) w++tl)) F [] H1) (fun e l H1=>(e= .ret∧l=[(4,.b false)]∧C3 D F [] H1)) (by kernel_rfl) ?_ (w':=w4++[]) () hx ?_ ?_ ?_ ?_
  ·rintro s2 _ w5 w6 H o hO h;clear hx
   skip
   cbv;refine B1 hE h (fun _ h=>?_) fun _ h=>?_
   ·cbv;refine C9 hE eBe1 h fun x8 h=>?_;cbv;obtain⟨l9,hl,h⟩:=bind_some h;obtain⟨w10,h1,he⟩:=S8 h;clear h;have h:=h1;clear h1
    rw[he,append_assoc]at hO
    clear he
    rw[List.map_append,append_assoc]at hO
    refine VJ hE hI hD hy (ih x8 l9 hl) hO (.refl _) (fun v H hb hO=>?_) (fun v H hb hO=>?_)
    ·cases hb;clear hl;cbv;refine Id hE (nt_eq _) ?_;cbv;obtain⟨hw,rfl⟩:=D0 h
     rw[←hw]at hO
     exact⟨_,(),rfl,.e4 .z,rfl,hO⟩
    cases hb;clear h hl;cbv;refine Ic hE (nt_eq _) ?_;cbv;exact .inr ⟨_,⟨rfl,rfl,hO⟩,.b rfl (.z),rfl⟩
   cbv;obtain⟨hw,rfl⟩:=D0 h
   rw[←hw]at hO
   exact .inl ⟨_,_,rfl,⟨rfl,rfl,hO⟩,.z,rfl⟩
  ·exact .e4 .z
  ·exact hO
  ·rintro e l H ⟨rfl,rfl,hO⟩;clear hx;cbv;obtain⟨hw,_⟩:=D0 h
   rw[←hw]at hO
   exact hK _ _ _ hO rfl
  rintro e l H hX;obtain⟨rfl,rfl,hO⟩:=hX;clear h;cbv;exact hKD _ _ _ hO rfl
 clear h;cbv;refine Ic hE (nt_eq _) ?_;cbv;exact hKD _ _ _ hO rfl
theorem c62 (N aF r) (h:CG N aF=some r):Hh prog 62 (fun yv=>[yv,.eref (E3 aF) 0]) (List.map (fun(x:A0)=>[(D2 x)]) r) rbN:=by
 unfold CG at h
 obtain⟨⟨w0,u0⟩,h1,hr⟩:=bind_some h;clear h;have hr:=M6 hr;subst hr;have h:=h1;clear h1;refine O4 cf0 Q6 func62 (by rfl) (by kernel_rfl) call62 ntmps62 (by rfl) (fun _=>rfl) ?_;intro yv I D hI hD hy tl F E H K hE hO hK hKD
 have hO:C3 (I (List.map (fun(x:A0)=>[(D2 x)]) (w0++[])++tl)) F [] H:=by rw[append_nil];exact hO
 cbv;obtain⟨l1,hl,h⟩:=bind_some h;obtain⟨w2,h1,he⟩:=S8 h;clear h;have h:=h1;clear h1
 rw[he,append_assoc]at hO
 clear he
 rw[List.map_append,append_assoc]at hO
 refine VJ hE hI hD hy (c63 N N aF l1 hl) hO (.refl _) (fun v H hb hO=>?_) (fun v H hb hO=>?_)
 ·cases hb;clear hl;cbv;obtain⟨hw,_⟩:=D0 h
  rw[←hw]at hO
  exact hK _ _ _ hO trivial
 cases hb;clear h hl;cbv;exact hKD _ _ _ hO trivial
theorem c44 (N aA r)(h:Ac N aA=some r):Bp prog 44 [(D2 aA)] (fun v=>FM prog v (r.map fun(x:A0)=>[(D2 x)])):=by
 unfold Ac at h
 refine P7 cf0 Q6 func44 (by rfl) (by kernel_rfl) call44 ntmps44 (by rfl) (by rfl) ?_;intro E H0 K hE hK;have hO:C3 Eq H0 [] H0:=.start G4 rfl;cbv;exact hK _ _ _ hO (S5 call62 (c62 N aA r h))
theorem c53 (N:Nat):∀n aA r,AO N n aA=some r→C0 prog 53 [(D2 aA)] (.tup [vi r.1,vi r.2]):=by
 intro n
 induction n with
 |zero=>intro aA r h;cases h
 |succ n ih=>
 intro aA r h
 unfold AO at h
 refine O7 cf0 func53 call53 ntmps53 ?_;intro E H0 K hE hK hO;cbv;refine G1 hE ?_;cbv;obtain⟨s2,hx,h⟩:=bind_some h;refine K0 cf0 hE Q6 (fun s1=>[fi 4 s1.1,fi 5 s1.2.1,(11,.v (sr eBe0 aA.dD)),fi 12 (Ar.len aA.dD),fi 13 s1.2.2]) (fun s1 H1=>C3 Eq H0 [] H1) (fun x e l H1=>e= .exit 0∧l=[fi 4 x.1,fi 5 x.2]∧C3 Eq H0 [] H1) (by kernel_rfl) ?_ hx ?_ hO ?_
 ·intro s1 H o hO h;clear hx;cbv;refine B1 hE h (fun _ h=>?_) fun _ h=>?_
  ·cbv;refine C9 hE eBe1 h fun x3 h=>?_;cbv;refine A8 hE h (ih x3) (.refl _) fun r4 h=>?_;cbv;cases h;exact⟨_,rfl,.e rfl (.e4 .z),rfl,hO⟩
  cbv;cases h;exact⟨_,_,rfl,⟨rfl,rfl,hO⟩,.e2 .z,rfl⟩
 ·exact .e rfl (.e4 .z)
 clear hx;rintro e l H ⟨rfl,rfl,hO⟩;cbv;cases h;exact hK hO (.refl _)
theorem c80 (N bR aR cC r)(h:Al N bR aR cC=some r):C0 prog 80 [.bool bR,vi aR,vi cC] (.bool r):=by
 unfold Al at h
 refine O7 cf0 func80 call80 ntmps80 ?_;intro E H0 K hE hK hO;cbv;cases h;exact hK hO (.refl _)
theorem c114 (N:Nat):∀n aC r,DV N n aC=some r→C0 prog 114 [(V9 aC)] (.tup [vi r.1,vi r.2]):=by
 intro n
 induction n with
 |zero=>intro aC r h;cases h
 |succ n ih=>
 intro aC r h
 unfold DV at h
 refine O7 cf0 func114 call114 ntmps114 ?_;intro E H0 K hE hK hO;cbv;refine G1 hE ?_;cbv;obtain⟨s2,hx,h⟩:=bind_some h;refine K0 cf0 hE Q6 (fun s1=>[fi 4 s1.1,fi 5 s1.2.1,(11,.v (sr eBe5 aC.dD)),fi 12 (Ar.len aC.dD),fi 13 s1.2.2]) (fun s1 H1=>C3 Eq H0 [] H1) (fun x e l H1=>e= .exit 0∧l=[fi 4 x.1,fi 5 x.2]∧C3 Eq H0 [] H1) (by kernel_rfl) ?_ hx ?_ hO ?_
 ·intro s1 H o hO h;clear hx;cbv;refine B1 hE h (fun _ h=>?_) fun _ h=>?_
  ·cbv;refine C9 hE eBf0 h fun x3 h=>?_;cbv;refine A8 hE h (ih x3) (.refl _) fun r4 h=>?_;cbv;cases h;exact⟨_,rfl,.e rfl (.e4 .z),rfl,hO⟩
  cbv;cases h;exact⟨_,_,rfl,⟨rfl,rfl,hO⟩,.e2 .z,rfl⟩
 ·exact .e rfl (.e4 .z)
 clear hx;rintro e l H ⟨rfl,rfl,hO⟩;cbv;cases h;exact hK hO (.refl _)
theorem c115 (N:Nat):∀(n:Nat) (aC:B0) (bC:V) (aW:B0→Option Int) (bM:∀y1 q,aW y1=some q→Y5 prog bC [(V9 y1)] (vi q)) (r:Int),EK N n aC aW=some r→C0 prog 115 [(V9 aC),bC] (vi r):=by
 intro n
 induction n with
 |zero=>intro aC bC aW bM r h;cases h
 |succ n ih=>
 intro aC bC aW bM r h
 unfold EK at h
 refine O7 cf0 func115 call115 ntmps115 ?_;intro E H0 K hE hK hO;cbv;refine Bn hE (g:=fun r1=>vi r1) h (fun r1 hx=>bM aC r1 hx) (.refl _) fun r1 h=>?_;cbv;refine B1 hE h (fun _ h=>?_) fun _ h=>?_
 ·cbv;cases h;exact hK hO (.refl _)
 cbv;refine G1 hE ?_;cbv;obtain⟨s3,hx,h⟩:=bind_some h;refine K0 cf0 hE Q6 (fun s2=>[(1,.v (bC)),(16,.v (sr eBe5 aC.dD)),fi 17 (Ar.len aC.dD),fi 18 s2]) (fun s2 H1=>C3 Eq H0 [] H1) (fun x e l H1=>match(generalizing:=false) x with| .inl y=>e= .exit 0∧l=[]∧C3 Eq H0 [] H1| .inr y=>e= .ret∧l=[fi 4 y]∧C3 Eq H0 [] H1) (by kernel_rfl) ?_ hx ?_ hO ?_
 ·intro s2 H o hO h;clear hx;cbv;refine B1 hE h (fun _ h=>?_) fun _ h=>?_
  ·cbv;refine C9 hE eBf0 h fun x4 h=>?_;cbv;refine A8 hE h (ih x4 bC aW bM) (.refl _) fun r5 h=>?_;cbv;refine B1 hE h (fun _ h=>?_) fun _ h=>?_
   ·cbv;cases h;exact⟨_,_,rfl,⟨rfl,rfl,hO⟩,.e rfl .z,rfl⟩
   cbv;cases h;exact⟨_,rfl,.e4 .z,rfl,hO⟩
  cbv;cases h;exact⟨_,_,rfl,⟨rfl,rfl,hO⟩,.z,rfl⟩
 ·exact .e4 .z
 clear hx
 rcases s3 with y6|y7
 ·rintro e l H ⟨rfl,rfl,hO⟩;cbv;cases h;exact hK hO (.refl _)
 rintro e l H ⟨rfl,rfl,hO⟩;cbv;cases h;exact hK hO (.refl _)
theorem c149 (N aK r)(h:Ip N aK=some r):C0 prog 149 [vi aK] (.tup [vi r.1,.bool r.2]):=by
 unfold Ip at h
 refine O7 cf0 func149 call149 ntmps149 ?_;intro E H0 K hE hK hO;cbv;refine B1 hE h (fun _ h=>?_) fun _ h=>?_
 ·cbv;cases h;exact hK hO (.refl _)
 cbv;refine B1 hE h (fun _ h=>?_) fun _ h=>?_
 ·cbv;cases h;exact hK hO (.refl _)
 cbv;refine B1 hE h (fun _ h=>?_) fun _ h=>?_
 ·cbv;cases h;exact hK hO (.refl _)
 cbv;cases h;exact hK hO (.refl _)
def cf150 :Cf:=⟨[],[],[(5,4)],[],[],[]⟩
theorem c150 (N aK r) (h:JX N aK=some r):C0 prog 150 [vi aK] (.tup [.bool r.1,.bool r.2]):=by
 unfold JX at h
 refine O7 cf150 func150 call150 ntmps150 ?_;intro E H0 K hE hK hO;cbv;obtain⟨s1,hx,h⟩:=bind_some h;refine Y4 cf150 hE Q6 (fun e l H1=>e= .normal∧l=[fi 4 aK,(5,.v (.bool s1))]∧C3 Eq H0 [] H1) (by kernel_rfl) ?_ ?_
 ·clear h;have h:=hx;clear hx;cbv;refine B1 hE h (fun _ h=>?_) fun _ h=>?_
  ·cbv;cases h;exact⟨_,⟨rfl,rfl,hO⟩,.e2 .z,rfl⟩
  cbv;cases h;exact⟨_,⟨rfl,rfl,hO⟩,.e2 .z,rfl⟩
 clear hx;rintro e l H ⟨rfl,rfl,hO⟩;cbv;refine B1 hE h (fun _ h=>?_) fun _ h=>?_
 ·cbv;cases h;exact hK hO (.refl _)
 cbv;refine B1 hE h (fun _ h=>?_) fun _ h=>?_
 ·cbv;cases h;exact hK hO (.refl _)
 cbv;refine B1 hE h (fun _ h=>?_) fun _ h=>?_
 ·cbv;cases h;exact hK hO (.refl _)
 cbv;cases h;exact hK hO (.refl _)
theorem c195 (N aI r)(h:HP N aI=some r):C0 prog 195 [(E7 aI)] (vi r):=by
 unfold HP at h
 refine O7 cf0 func195 call195 ntmps195 ?_;intro E H0 K hE hK hO;cbv;refine B1 hE h (fun _ h=>?_) fun _ h=>?_
 ·cbv;cases h;exact hK hO (.refl _)
 cbv;refine B1 hE h (fun _ h=>?_) fun _ h=>?_
 ·cbv;cases h;exact hK hO (.refl _)
 cbv;refine B1 hE h (fun _ h=>?_) fun _ h=>?_
 ·cbv;cases h;exact hK hO (.refl _)
 cbv;cases h;exact hK hO (.refl _)
def cf175 :Cf:=⟨[],[],[(5,5)],[],[],[]⟩
theorem c175 (N aI r) (h:AQ N aI=some r):C0 prog 175 [(E7 aI)] (vi r):=by
 unfold AQ at h
 refine O7 cf175 func175 call175 ntmps175 ?_;intro E H0 K hE hK hO;cbv;obtain⟨s1,hx,h⟩:=bind_some h;refine Y4 cf175 hE Q6 (fun e l H1=>e= .normal∧l=[(1,.v (.eref (W1 aI) 0)),fi 4 aI.Kind,(5,.v (.bool s1))]∧C3 Eq H0 [] H1) (by kernel_rfl) ?_ ?_
 ·clear h;have h:=hx;clear hx;cbv;refine B1 hE h (fun _ h=>?_) fun _ h=>?_
  ·cbv;cases h;exact⟨_,⟨rfl,rfl,hO⟩,.e rfl (.e2 .z),rfl⟩
  cbv;cases h;exact⟨_,⟨rfl,rfl,hO⟩,.e rfl (.e2 .z),rfl⟩
 clear hx;rintro e l H ⟨rfl,rfl,hO⟩;cbv;refine B1 hE h (fun _ h=>?_) fun _ h=>?_
 ·cbv;refine B1 hE h (fun _ h=>?_) fun _ h=>?_
  ·cbv;cases h;exact hK hO (.refl _)
  cbv;refine A8 hE h (c195 N aI) (.refl _) fun r2 h=>?_;cbv;cases h;exact hK hO (.refl _)
 cbv;refine B1 hE h (fun _ h=>?_) fun _ h=>?_
 ·cbv;refine B1 hE h (fun _ h=>?_) fun _ h=>?_
  ·cbv;cases h;exact hK hO (.refl _)
  cbv;refine A8 hE h (c195 N aI) (.refl _) fun r3 h=>?_;cbv;cases h;exact hK hO (.refl _)
 cbv;cases h;exact hK hO (.refl _)
theorem c176 (N aS aI r)(h:Io N aS aI=some r):C0 prog 176 [vi aS,(E7 aI)] (.bool r):=by
 unfold Io at h
 refine O7 cf0 func176 call176 ntmps176 ?_;intro E H0 K hE hK hO;cbv;cases h;exact hK hO (.refl _)
theorem c151 (N aC r) (h:FD N aC=some r):C0 prog 151 [(V9 aC)] (vi r):=by
 unfold FD at h
 refine O7 cf0 func151 call151 ntmps151 ?_;intro E H0 K hE hK hO;cbv;refine A8 hE h (c175 N aC.Value) (.refl _) fun r1 h=>?_;cbv;refine B1 hE h (fun _ h=>?_) fun _ h=>?_
 ·cbv;cases h;exact hK hO (.refl _)
 cbv;refine B1 hE h (fun _ h=>?_) fun _ h=>?_
 ·cbv;refine A8 hE h (c176 N aC.Kind aC.Value) (.refl _) fun r2 h=>?_;cbv;refine B1 hE h (fun _ h=>?_) fun _ h=>?_
  ·cbv;cases h;exact hK hO (.refl _)
  cbv;cases h;exact hK hO (.refl _)
 cbv;cases h;exact hK hO (.refl _)
def cf116 :Cf:=⟨[],[],[(73,15)],[],[],[]⟩
theorem c116 (N aC r) (h:HK N aC=some r):C0 prog 116 [(V9 aC)] (vi r):=by
 unfold HK at h
 refine O7 cf116 func116 call116 ntmps116 ?_;intro E H0 K hE hK hO;cbv;refine A8 hE h (c149 N aC.Op) (.refl _) fun r1 h=>?_;cbv;refine B1 hE h (fun _ h=>?_) fun _ h=>?_
 ·cbv;cases h;exact hK hO (.refl _)
 cbv;refine G1 hE ?_;cbv;refine B1 hE h (fun _ h=>?_) fun _ h=>?_
 ·cbv;cases h;exact hK hO (.refl _)
 cbv;refine A8 hE h (c150 N aC.Op) (.refl _) fun r2 h=>?_;cbv;refine B1 hE h (fun _ h=>?_) fun _ h=>?_
 ·cbv;cases h;exact hK hO (.refl _)
 cbv;refine B1 hE h (fun _ h=>?_) fun _ h=>?_
 ·cbv;cases h;exact hK hO (.refl _)
 cbv;obtain⟨s3,hx,h⟩:=bind_some h;refine Y4 cf116 hE Q6 (fun e l H1=>match(generalizing:=false) s3 with| .inl y=>e= .normal∧l=[(1,.v (.eref (CO aC) 0)),(5,.v (.bool r2.1)),(6,.v (.bool r2.2)),(7,.v (.bool (cmp .eql aC.Op 4))),(8,.v (.bool (Ar.or (cmp .eql aC.Op 4) (cmp .eql aC.Op 0))))]∧C3 Eq H0 [] H1| .inr y=>e= .ret∧l=[fi 2 y]∧C3 Eq H0 [] H1) (by kernel_rfl) ?_ ?_
 ·clear h;have h:=hx;clear hx;cbv;refine B1 hE h (fun _ h=>?_) fun _ h=>?_
  ·cbv;refine A8 hE h (c151 N aC) (.refl _) fun r4 h=>?_;cbv;refine B1 hE h (fun _ h=>?_) fun _ h=>?_
   ·cbv;cases h;exact⟨_,⟨rfl,rfl,hO⟩,.e rfl .z,rfl⟩
   cbv;cases h;exact⟨_,⟨rfl,rfl,hO⟩,.e rfl (.e4 .z),rfl⟩
  cbv;cases h;exact⟨_,⟨rfl,rfl,hO⟩,.e rfl (.e4 .z),rfl⟩
 clear hx
 rcases s3 with y5|y6
 ·rintro e l H ⟨rfl,rfl,hO⟩;cbv;refine B1 hE h (fun _ h=>?_) fun _ h=>?_
  ·cbv;cases h;exact hK hO (.refl _)
  cbv;cases h;exact hK hO (.refl _)
 rintro e l H ⟨rfl,rfl,hO⟩;cbv;cases h;exact hK hO (.refl _)
theorem c81 (N aC r)(h:Gn N aC=some r):C0 prog 81 [(V9 aC)] (vi r):=by
 unfold Gn at h
 refine O7 cf0 func81 call81 ntmps81 ?_;intro E H0 K hE hK hO;cbv;refine A8 hE h (c114 N N aC) (.refl _) fun r1 h=>?_;cbv;refine B1 hE h (fun _ h=>?_) fun _ h=>?_
 ·cbv;cases h;exact hK hO (.refl _)
 cbv;refine B1 hE h (fun _ h=>?_) fun _ h=>?_
 ·cbv;cases h;exact hK hO (.refl _)
 cbv;refine A8 hE (g:=fun r2=>vi r2) h (fun r2 hx=>c115 N N aC (.func (.func 116) [] []) (fun y1=>HK N y1) (fun y1 r hx=>C0.value (F:=[]) (C:=[]) (c116 N y1 r hx)) r2 hx) (.refl _) fun r2 h=>?_;cbv;cases h;exact hK hO (.refl _)
def cf82 :Cf:=⟨[],[(6,10)],[],[],[],[]⟩
theorem c82 (N:Nat):∀n aB aD r,Ch N n aB aD=some r→C0 prog 82 [(V9 aB),(V9 aD)] (.bool r):=by
 intro n
 induction n with
 |zero=>intro aB aD r h;cases h
 |succ n ih=>
 intro aB aD r h
 unfold Ch at h
 refine O7 cf82 func82 call82 ntmps82 ?_;intro E H0 K hE hK hO;cbv;refine G1 hE ?_;cbv;refine G1 hE ?_;cbv;refine B1 hE h (fun _ h=>?_) fun _ h=>?_
 ·cbv;cases h;exact hK hO (.refl _)
 cbv;refine G1 hE ?_;cbv;obtain⟨s2,hx,h⟩:=bind_some h;refine K0 cf82 hE Q6 (fun s1=>[(2,.v (.eref (CO aB) 0)),(3,.v (.eref (CO aD) 0)),fi 50 (Ar.len aB.dD),fi 51 s1]) (fun s1 H1=>C3 Eq H0 [] H1) (fun x e l H1=>match(generalizing:=false) x with| .inl y=>e= .exit 0∧l=[]∧C3 Eq H0 [] H1| .inr y=>e= .ret∧l=[(4,.b false)]∧C3 Eq H0 [] H1) (by kernel_rfl) ?_ hx ?_ hO ?_
 ·intro s1 H o hO h;clear hx;cbv;refine B1 hE h (fun _ h=>?_) fun _ h=>?_
  ·cbv;refine C9 hE eBf0 h fun x3 h=>?_;cbv;refine C9 hE eBf0 h fun x4 h=>?_;cbv;refine A8 hE h (ih x3 x4) (.refl _) fun r5 h=>?_;cbv;refine B1 hE h (fun _ h=>?_) fun _ h=>?_
   ·cbv;cases h;exact⟨_,_,rfl,⟨rfl,rfl,hO⟩,.b rfl (.z),rfl⟩
   cbv;cases h;exact⟨_,rfl,.e4 .z,rfl,hO⟩
  cbv;cases h;exact⟨_,_,rfl,⟨rfl,rfl,hO⟩,.z,rfl⟩
 ·exact .e4 .z
 clear hx
 rcases s2 with y6|y7
 ·rintro e l H ⟨rfl,rfl,hO⟩;cbv;cases h;exact hK hO (.refl _)
 rintro e l H ⟨rfl,rfl,hO⟩;cbv;cases h;exact hK hO (.refl _)
theorem c83 (N bR aR r)(h:S4 N bR aR=some r):C0 prog 83 [.bool bR,vi aR] (.bool r):=by
 unfold S4 at h
 refine O7 cf0 func83 call83 ntmps83 ?_;intro E H0 K hE hK hO;cbv;cases h;exact hK hO (.refl _)
def cf54 :Cf:=⟨[],[],[(64,10)],[],[],[]⟩
theorem c54 (N aA r) (h:Ah N aA=some r):C0 prog 54 [(D2 aA)] (vi r):=by
 unfold Ah at h
 refine O7 cf54 func54 call54 ntmps54 ?_;intro E H0 K hE hK hO;cbv;refine B1 hE h (fun _ h=>?_) fun _ h=>?_
 ·cbv;cases h;exact hK hO (.refl _)
 cbv;refine AA4 hE (g:=fun x=>(KE x)) (l:=K8) rfl (fun _=>rfl) rfl rfl h fun x1 h=>?_;cbv;refine G1 hE ?_;cbv;refine G1 hE ?_;cbv;refine B1 hE h (fun _ h=>?_) fun _ h=>?_
 ·cbv;cases h;exact hK hO (.refl _)
 cbv;refine A8 hE h (c80 N x1.typed aA.Typ 15) (.refl _) fun r2 h=>?_;cbv;refine B1 hE h (fun _ h=>?_) fun _ h=>?_
 ·cbv;cases h;exact hK hO (.refl _)
 cbv;refine A8 hE h (c80 N x1.typed aA.Var 15) (.refl _) fun r3 h=>?_;cbv;refine B1 hE h (fun _ h=>?_) fun _ h=>?_
 ·cbv;cases h;exact hK hO (.refl _)
 cbv;refine A8 hE h (c80 N x1.scope aA.dG 63) (.refl _) fun r4 h=>?_;cbv;refine B1 hE h (fun _ h=>?_) fun _ h=>?_
 ·cbv;cases h;exact hK hO (.refl _)
 cbv;refine A8 hE h (c80 N x1.span aA.Span 1099511627776) (.refl _) fun r5 h=>?_;cbv;refine B1 hE h (fun _ h=>?_) fun _ h=>?_
 ·cbv;cases h;exact hK hO (.refl _)
 cbv;obtain⟨s6,hx,h⟩:=bind_some h;refine Y4 cf54 hE Q6 (fun e l H1=>match(generalizing:=false) s6 with| .inl y=>e= .normal∧l=[(1,.v (.eref (E3 aA) 0)),(3,.v (.eref (Hl x1) 0))]∧C3 Eq H0 [] H1| .inr y=>e= .ret∧l=[fi 2 y]∧C3 Eq H0 [] H1) (by kernel_rfl) ?_ ?_
 ·clear h;have h:=hx;clear hx;cbv;refine B1 hE h (fun _ h=>?_) fun _ h=>?_
  ·cbv;refine A8 hE h (c81 N aA.dE) (.refl _) fun r7 h=>?_;cbv;refine B1 hE h (fun _ h=>?_) fun _ h=>?_
   ·cbv;cases h;exact⟨_,⟨rfl,rfl,hO⟩,.e rfl .z,rfl⟩
   cbv;cases h;exact⟨_,⟨rfl,rfl,hO⟩,.e2 .z,rfl⟩
  cbv;cases h;exact⟨_,⟨rfl,rfl,hO⟩,.e2 .z,rfl⟩
 clear hx
 rcases s6 with y8|y18
 ·rintro e l H ⟨rfl,rfl,hO⟩;cbv;refine B1 hE h (fun _ h=>?_) fun _ h=>?_
  ·cbv;refine A8 hE h (c82 N N aA.dE (⟨0,[],0,0,0,(⟨0,0,⟨#[]⟩⟩:A7)⟩:B0)) (.cons (.refl _) (.cons (.agg (.cons (.refl _) (.cons (.lit _ (E0)) (.refl _)))) (.refl _))) fun r9 h=>?_;cbv;refine B1 hE h (fun _ h=>?_) fun _ h=>?_
   ·cbv;cases h;exact hK hO (.refl _)
   cbv;refine A8 hE h (c83 N x1.typed aA.Typ) (.refl _) fun r10 h=>?_;cbv;refine B1 hE h (fun _ h=>?_) fun _ h=>?_
   ·cbv;cases h;exact hK hO (.refl _)
   cbv;refine A8 hE h (c83 N x1.typed aA.Var) (.refl _) fun r11 h=>?_;cbv;refine B1 hE h (fun _ h=>?_) fun _ h=>?_
   ·cbv;cases h;exact hK hO (.refl _)
   cbv;refine A8 hE h (c83 N x1.scope aA.dG) (.refl _) fun r12 h=>?_;cbv;refine B1 hE h (fun _ h=>?_) fun _ h=>?_
   ·cbv;cases h;exact hK hO (.refl _)
   cbv;refine A8 hE h (c83 N x1.span aA.Span) (.refl _) fun r13 h=>?_;cbv;refine B1 hE h (fun _ h=>?_) fun _ h=>?_
   ·cbv;cases h;exact hK hO (.refl _)
   cbv;cases h;exact hK hO (.refl _)
  cbv;refine A8 hE h (c83 N x1.typed aA.Typ) (.refl _) fun r14 h=>?_;cbv;refine B1 hE h (fun _ h=>?_) fun _ h=>?_
  ·cbv;cases h;exact hK hO (.refl _)
  cbv;refine A8 hE h (c83 N x1.typed aA.Var) (.refl _) fun r15 h=>?_;cbv;refine B1 hE h (fun _ h=>?_) fun _ h=>?_
  ·cbv;cases h;exact hK hO (.refl _)
  cbv;refine A8 hE h (c83 N x1.scope aA.dG) (.refl _) fun r16 h=>?_;cbv;refine B1 hE h (fun _ h=>?_) fun _ h=>?_
  ·cbv;cases h;exact hK hO (.refl _)
  cbv;refine A8 hE h (c83 N x1.span aA.Span) (.refl _) fun r17 h=>?_;cbv;refine B1 hE h (fun _ h=>?_) fun _ h=>?_
  ·cbv;cases h;exact hK hO (.refl _)
  cbv;cases h;exact hK hO (.refl _)
 rintro e l H ⟨rfl,rfl,hO⟩;cbv;cases h;exact hK hO (.refl _)
def cf36 :Cf:=⟨[2],[],[],[],[],[]⟩
theorem c36 (N aA r) (h:R0 N aA=some r):C0 prog 36 [(D2 aA)] (vi r):=by
 unfold R0 at h
 refine O7 cf36 func36 call36 ntmps36 ?_;intro E H0 K hE hK hO;cbv;refine D3 hE hO fun b1 H hO=>?_;cbv;refine A8 hE h (c53 N N aA) (.refl _) fun r2 h=>?_;cbv;refine B1 hE h (fun _ h=>?_) fun _ h=>?_
 ·cbv;refine A9 hE hO 0 rfl rfl fun H hO=>?_;cbv;refine B2 hE hO 0 rfl ?_;cbv;cases h;exact hK hO (.refl _)
 cbv;refine B1 hE h (fun _ h=>?_) fun _ h=>?_
 ·cbv;refine A9 hE hO 0 rfl rfl fun H hO=>?_;cbv;refine B2 hE hO 0 rfl ?_;cbv;cases h;exact hK hO (.refl _)
 cbv;refine De hE h (c44 N aA) (.refl _) fun r3 v4 hv4 h=>?_;cbv;obtain⟨o9,hx,h⟩:=bind_some h;refine OF cf36 hE Q6 (ι:=Unit) (enc:=fun(x:A0)=>[(D2 x)]) (fun(s6:Unit) F H=>C3 Eq F [cb b1 [vi 0]] H) (fun(r:Int) e F H=>e= .ret∧C3 Eq F [cb b1 [vi r]] H) (fun i s6 y5=>[(2,.v (.ref b1 0)),(5,.v (.eref (E3 y5) 0))]) (fun i s6 y5 F H=>C3 Eq F [cb b1 [vi 0]] H) (fun _=>C3.stable G4 _) (fun _ _=>H6.con (C3.stable G4 _)) (fun _ _ _=>C3.stable G4 _) hv4 hx (hO) (by decide) (fun _=>rfl) (by kernel_rfl) (by kernel_rfl) ?_ ?_ ?_ ?_
 ·rintro E i8 y5 s6 F7 H hE hO;clear hx h;cbv;exact⟨(),hO,.e2 .z,rfl⟩
 ·rintro E i8 _ y5 s6 F7 H o hE hF h hO;clear hx;cbv;refine A8 hE h (c54 N y5) (.refl _) fun r10 h=>?_;cbv;refine B1 hE h (fun _ h=>?_) fun _ h=>?_
  ·cbv;refine A9 hE hO 0 rfl rfl fun H hO=>?_;cbv;cases h;exact⟨_,rfl,rfl,⟨rfl,hO⟩⟩
  cbv;cases h;exact⟨_,rfl,hO⟩
 ·rintro d11 s13 H rfl hd hO;have hO:C3 Eq H0 [cb b1 [vi 0],.blk d11 DB] H:=C3.dblk hd hO;clear hd;clear hx;cbv;refine A9 hE hO 0 rfl rfl fun H hO=>?_;cbv;refine Ia hE hO 1 rfl fun H hO=>?_;cbv;refine B2 hE hO 0 rfl ?_;cbv;cases h;exact hK hO (.refl _)
 rintro d11 y14 e H rfl hd hX;clear hx
 rcases hX with⟨rfl,hO⟩
 have hO:C3 Eq H0 [cb b1 [vi y14],.blk d11 DB] H:=C3.dblk hd hO;clear hd;cbv;refine Ia hE hO 1 rfl fun H hO=>?_;cbv;refine B2 hE hO 0 rfl ?_;cbv;cases h;exact hK hO (.refl _)
def cf21 :Cf:=⟨[2],[],[],[],[],[]⟩
theorem c21 (N aA r) (h:El N aA=some r):C0 prog 21 [(D2 aA)] (vi r):=by
 unfold El at h
 refine O7 cf21 func21 call21 ntmps21 ?_;intro E H0 K hE hK hO;cbv;refine D3 hE hO fun b1 H hO=>?_;cbv;refine A8 hE h (c36 N aA) (.refl _) fun r2 h=>?_;cbv;refine B1 hE h (fun _ h=>?_) fun _ h=>?_
 ·cbv;refine A9 hE hO 0 rfl rfl fun H hO=>?_;cbv;refine B2 hE hO 0 rfl ?_;cbv;cases h;exact hK hO (.refl _)
 cbv;refine De hE h (c44 N aA) (.refl _) fun r3 v4 hv4 h=>?_;cbv;obtain⟨o9,hx,h⟩:=bind_some h;refine OF cf21 hE Q6 (ι:=Unit) (enc:=fun(x:A0)=>[(D2 x)]) (fun(s6:Unit) F H=>C3 Eq F [cb b1 [vi 0]] H) (fun(r:Int) e F H=>e= .ret∧C3 Eq F [cb b1 [vi r]] H) (fun i s6 y5=>[(2,.v (.ref b1 0)),(4,.v (.eref (E3 y5) 0))]) (fun i s6 y5 F H=>C3 Eq F [cb b1 [vi 0]] H) (fun _=>C3.stable G4 _) (fun _ _=>H6.con (C3.stable G4 _)) (fun _ _ _=>C3.stable G4 _) hv4 hx (hO) (by decide) (fun _=>rfl) (by kernel_rfl) (by kernel_rfl) ?_ ?_ ?_ ?_
 ·rintro E i8 y5 s6 F7 H hE hO;clear hx h;cbv;exact⟨(),hO,.e2 .z,rfl⟩
 ·rintro E i8 _ y5 s6 F7 H o hE hF h hO;clear hx;cbv;refine B1 hE h (fun _ h=>?_) fun _ h=>?_
  ·cbv;refine A9 hE hO 0 rfl rfl fun H hO=>?_;cbv;cases h;exact⟨_,rfl,rfl,⟨rfl,hO⟩⟩
  cbv;cases h;exact⟨_,rfl,hO⟩
 ·rintro d10 s12 H rfl hd hO;have hO:C3 Eq H0 [cb b1 [vi 0],.blk d10 DB] H:=C3.dblk hd hO;clear hd;clear hx;cbv;refine A9 hE hO 0 rfl rfl fun H hO=>?_;cbv;refine Ia hE hO 1 rfl fun H hO=>?_;cbv;refine B2 hE hO 0 rfl ?_;cbv;cases h;exact hK hO (.refl _)
 rintro d10 y13 e H rfl hd hX;clear hx
 rcases hX with⟨rfl,hO⟩
 have hO:C3 Eq H0 [cb b1 [vi y13],.blk d10 DB] H:=C3.dblk hd hO;clear hd;cbv;refine Ia hE hO 1 rfl fun H hO=>?_;cbv;refine B2 hE hO 0 rfl ?_;cbv;cases h;exact hK hO (.refl _)
def cf22 :Cf:=⟨[5,6,7],[(11,5)],[(18,7)],[],[],[]⟩
theorem c22 (N aA r) (h:Er N aA=some r):C0 prog 22 [(D2 aA)] (.tup [vi r.1,vi r.2.1,.bool r.2.2]):=by
 unfold Er at h
 refine O7 cf22 func22 call22 ntmps22 ?_;intro E H0 K hE hK hO;cbv;refine D3 hE hO fun b1 H hO=>?_;cbv;refine D3 hE hO fun b2 H hO=>?_;cbv;refine D3 hE hO fun b3 H hO=>?_;cbv;refine A9 hE hO 2 rfl rfl fun H hO=>?_;cbv;refine A9 hE hO 1 rfl rfl fun H hO=>?_;cbv;refine A9 hE hO 0 rfl rfl fun H hO=>?_;cbv;refine De hE h (c44 N aA) (.refl _) fun r4 v5 hv5 h=>?_;cbv;obtain⟨o10,hx,h⟩:=bind_some h;refine OF cf22 hE Q6 (ι:=Unit) (enc:=fun(x:A0)=>[(D2 x)]) (fun(s7:Bool×Int×Int) F H=>C3 Eq F [cb b3 [.bool s7.1],cb b2 [vi s7.2.1],cb b1 [vi s7.2.2]] H) (fun(r:Unit) e F H=>False) (fun i s7 y6=>[(5,.v (.ref b1 0)),(6,.v (.ref b2 0)),(7,.v (.ref b3 0)),(8,.v (.eref (E3 y6) 0))]) (fun i s7 y6 F H=>C3 Eq F [cb b3 [.bool s7.1],cb b2 [vi s7.2.1],cb b1 [vi s7.2.2]] H) (fun _=>C3.stable G4 _) (fun _ _=>⟨fun h=>h.elim,fun _ _ h=>h.elim⟩) (fun _ _ _=>C3.stable G4 _) hv5 hx (hO) (by decide) (fun _=>rfl) (by kernel_rfl) (by kernel_rfl) ?_ ?_ ?_ ?_
 ·rintro E i9 y6 s7 F8 H hE hO;clear hx h;cbv;exact⟨(),hO,.e4 .z,rfl⟩
 ·rintro E i9 _ y6 s7 F8 H o hE hF h hO;clear hx;cbv;refine AA4 hE (g:=fun x=>(KE x)) (l:=K8) rfl (fun _=>rfl) rfl rfl h fun x11 h=>?_;cbv;obtain⟨s12,hx,h⟩:=bind_some h;refine Y4 cf22 hE Q6 (fun e l H1=>e= .normal∧l=[(6,.v (.ref b2 0)),(7,.v (.ref b3 0)),(8,.v (.eref (E3 y6) 0)),(9,.v (.eref (Hl x11) 0))]∧C3 Eq F8 [cb b3 [.bool s12.1],cb b2 [vi s7.2.1],cb b1 [vi s12.2]] H1) (by kernel_rfl) ?_ ?_
  ·clear h;have h:=hx;clear hx;cbv;refine B1 hE h (fun _ h=>?_) fun _ h=>?_
   ·cbv;refine B2 hE hO 0 rfl ?_;cbv;refine B2 hE hO 2 rfl ?_;cbv;refine A9 hE hO 0 rfl rfl fun H hO=>?_;cbv;refine B2 hE hO 2 rfl ?_;cbv;refine A9 hE hO 2 rfl rfl fun H hO=>?_;cbv;cases h;exact⟨_,⟨rfl,rfl,hO⟩,.e4 .z,rfl⟩
   cbv;cases h;exact⟨_,⟨rfl,rfl,hO⟩,.e4 .z,rfl⟩
  clear hx;rintro e l H ⟨rfl,rfl,hO⟩;cbv;refine B1 hE h (fun _ h=>?_) fun _ h=>?_
  ·cbv;refine B2 hE hO 0 rfl ?_;cbv;refine B2 hE hO 1 rfl ?_;cbv;refine A9 hE hO 0 rfl rfl fun H hO=>?_;cbv;refine B2 hE hO 1 rfl ?_;cbv;refine A9 hE hO 1 rfl rfl fun H hO=>?_;cbv;cases h;exact⟨_,rfl,hO⟩
  cbv;cases h;exact⟨_,rfl,hO⟩
 ·rintro d13 s15 H rfl hd hO;have hO:C3 Eq H0 [cb b3 [.bool s15.1],cb b2 [vi s15.2.1],cb b1 [vi s15.2.2],.blk d13 DB] H:=C3.dblk hd hO;clear hd;clear hx;cbv;refine B2 hE hO 2 rfl ?_;cbv;refine B2 hE hO 1 rfl ?_;cbv;refine B2 hE hO 0 rfl ?_;cbv;refine Ia hE hO 3 rfl fun H hO=>?_;cbv;cases h;exact hK hO (.refl _)
 rintro d r e H rfl hd hO;exact hO.elim
theorem c5 (N aA r)(h:BR N aA=some r):C0 prog 5 [(D2 aA)] (vi r):=by
 unfold BR at h
 refine O7 cf0 func5 call5 ntmps5 ?_;intro E H0 K hE hK hO;cbv;refine A8 hE h (c21 N aA) (.refl _) fun r1 h=>?_;cbv;refine B1 hE h (fun _ h=>?_) fun _ h=>?_
 ·cbv;cases h;exact hK hO (.refl _)
 cbv;refine A8 hE h (c22 N aA) (.refl _) fun r2 h=>?_;cbv;refine B1 hE h (fun _ h=>?_) fun _ h=>?_
 ·cbv;cases h;exact hK hO (.refl _)
 cbv;cases h;exact hK hO (.refl _)
theorem c23 (N aG r) (h:HF N aG=some r):C0 prog 23 [sr eBe8 aG] (.bool r):=by
 unfold HF at h
 refine O7 cf0 func23 call23 ntmps23 ?_;intro E H0 K hE hK hO;cbv;obtain⟨s2,hx,h⟩:=bind_some h;refine K0 cf0 hE Q6 (fun s1=>[(0,.v (sr eBe8 aG)),fi 3 s1]) (fun s1 H1=>C3 Eq H0 [] H1) (fun x e l H1=>match(generalizing:=false) x with| .inl y=>e= .exit 0∧l=[(0,.v (sr eBe8 aG))]∧C3 Eq H0 [] H1| .inr y=>e= .ret∧l=[(2,.b false)]∧C3 Eq H0 [] H1) (by kernel_rfl) ?_ hx ?_ hO ?_
 ·intro s1 H o hO h;clear hx;cbv;refine G1 hE ?_;cbv;refine B1 hE h (fun _ h=>?_) fun _ h=>?_
  ·cbv;refine C9 hE eBe3 h fun x3 h=>?_;cbv;refine B1 hE h (fun _ h=>?_) fun _ h=>?_
   ·cbv;cases h;exact⟨_,_,rfl,⟨rfl,rfl,hO⟩,.b rfl (.z),rfl⟩
   cbv;cases h;exact⟨_,rfl,.e2 .z,rfl,hO⟩
  cbv;cases h;exact⟨_,_,rfl,⟨rfl,rfl,hO⟩,.e rfl .z,rfl⟩
 ·exact .e2 .z
 clear hx
 rcases s2 with y4|y5
 ·rintro e l H ⟨rfl,rfl,hO⟩;cbv;refine G1 hE ?_;cbv;cases h;exact hK hO (.refl _)
 rintro e l H ⟨rfl,rfl,hO⟩;cbv;cases h;exact hK hO (.refl _)
theorem c6 (N aG r) (h:JR N aG=some r):C0 prog 6 [sr eBe2 aG] (.bool r):=by
 unfold JR at h
 refine O7 cf0 func6 call6 ntmps6 ?_;intro E H0 K hE hK hO;cbv;obtain⟨s2,hx,h⟩:=bind_some h;refine K0 cf0 hE Q6 (fun s1=>[(0,.v (sr eBe2 aG)),fi 3 s1]) (fun s1 H1=>C3 Eq H0 [] H1) (fun x e l H1=>match(generalizing:=false) x with| .inl y=>e= .exit 0∧l=[(0,.v (sr eBe2 aG))]∧C3 Eq H0 [] H1| .inr y=>e= .ret∧l=[(2,.b false)]∧C3 Eq H0 [] H1) (by kernel_rfl) ?_ hx ?_ hO ?_
 ·intro s1 H o hO h;clear hx;cbv;refine G1 hE ?_;cbv;refine B1 hE h (fun _ h=>?_) fun _ h=>?_
  ·cbv;refine C9 hE eBe6 h fun x3 h=>?_;cbv;refine G1 hE ?_;cbv;refine B1 hE h (fun _ h=>?_) fun _ h=>?_
   ·cbv;cases h;exact⟨_,_,rfl,⟨rfl,rfl,hO⟩,.b rfl (.z),rfl⟩
   cbv;refine C9 hE eBe6 h fun x4 h=>?_;cbv;refine A8 hE h (c23 N x4.Values) (.refl _) fun r5 h=>?_;cbv;refine B1 hE h (fun _ h=>?_) fun _ h=>?_
   ·cbv;cases h;exact⟨_,_,rfl,⟨rfl,rfl,hO⟩,.b rfl (.z),rfl⟩
   cbv;cases h;exact⟨_,rfl,.e2 .z,rfl,hO⟩
  cbv;cases h;exact⟨_,_,rfl,⟨rfl,rfl,hO⟩,.e rfl .z,rfl⟩
 ·exact .e2 .z
 clear hx
 rcases s2 with y6|y7
 ·rintro e l H ⟨rfl,rfl,hO⟩;cbv;refine G1 hE ?_;cbv;cases h;exact hK hO (.refl _)
 rintro e l H ⟨rfl,rfl,hO⟩;cbv;cases h;exact hK hO (.refl _)
def cf12 :Cf:=⟨[2],[],[],[],[],[]⟩
theorem c12 (N aC r)(h:CV N aC=some r):C0 prog 12 [(Af aC)] ((KF r)):=by
 unfold CV at h
 refine O7 cf12 func12 call12 ntmps12 ?_;intro E H0 K hE hK hO;cbv;refine D3 hE hO fun b1 H hO=>?_;cbv;refine A9 hE hO 0 rfl rfl fun H hO=>?_;cbv;refine B2 hE hO 0 rfl ?_;cbv;cases h;exact hK hO (.refl _)
theorem c24 (N aC r)(h:Hx N aC=some r):C0 prog 24 [(Af aC)] (.bool r):=by
 unfold Hx at h
 refine O7 cf0 func24 call24 ntmps24 ?_;intro E H0 K hE hK hO;cbv;cases h;exact hK hO (.refl _)
theorem c25 (N aB aD r) (h:Fg N aB aD=some r):C0 prog 25 [(KF aB),(KF aD)] (vi r):=by
 unfold Fg at h
 refine O7 cf0 func25 call25 ntmps25 ?_;intro E H0 K hE hK hO;cbv;refine B1 hE h (fun _ h=>?_) fun _ h=>?_
 ·cbv;refine B1 hE h (fun _ h=>?_) fun _ h=>?_
  ·cbv;cases h;exact hK hO (.refl _)
  cbv;cases h;exact hK hO (.refl _)
 cbv;refine B1 hE h (fun _ h=>?_) fun _ h=>?_
 ·cbv;refine B1 hE h (fun _ h=>?_) fun _ h=>?_
  ·cbv;cases h;exact hK hO (.refl _)
  cbv;cases h;exact hK hO (.refl _)
 cbv;refine B1 hE h (fun _ h=>?_) fun _ h=>?_
 ·cbv;cases h;exact hK hO (.refl _)
 cbv;refine B1 hE h (fun _ h=>?_) fun _ h=>?_
 ·cbv;cases h;exact hK hO (.refl _)
 cbv;cases h;exact hK hO (.refl _)
theorem c26 (N aB aD r)(h:Gg N aB aD=some r):C0 prog 26 [(Af aB),(Af aD)] (.bool r):=by
 unfold Gg at h
 refine O7 cf0 func26 call26 ntmps26 ?_;intro E H0 K hE hK hO;cbv;cases h;exact hK hO (.refl _)
def cf7 :Cf:=⟨[],[(8,13),(13,8)],[],[],[],[]⟩
theorem c7 (N aG r) (h:GY N aG=some r):C0 prog 7 [sr eBe2 aG] (vi r):=by
 unfold GY at h
 refine O7 cf7 func7 call7 ntmps7 ?_;intro E H0 K hE hK hO;cbv;refine G1 hE ?_;cbv;refine B1 hE h (fun _ h=>?_) fun _ h=>?_
 ·cbv;cases h;exact hK hO (.refl _)
 cbv;obtain⟨s2,hx,h⟩:=bind_some h;refine K0 cf7 hE Q6 (fun s1=>[(0,.v (sr eBe2 aG)),fi 3 s1]) (fun s1 H1=>C3 Eq H0 [] H1) (fun x e l H1=>match(generalizing:=false) x with| .inl y=>e= .exit 0∧l=[]∧C3 Eq H0 [] H1| .inr y=>e= .ret∧l=[fi 2 y]∧C3 Eq H0 [] H1) (by kernel_rfl) ?_ hx ?_ hO ?_
 ·intro s1 H o hO h;clear hx;cbv;refine G1 hE ?_;cbv;refine B1 hE h (fun _ h=>?_) fun _ h=>?_
  ·cbv;refine C9 hE eBe6 h fun x3 h=>?_;cbv;refine A8 hE h (c24 N x3) (.refl _) fun r4 h=>?_;cbv;refine B1 hE h (fun _ h=>?_) fun _ h=>?_
   ·cbv;cases h;exact⟨_,_,rfl,⟨rfl,rfl,hO⟩,.e rfl .z,rfl⟩
   cbv;refine B1 hE h (fun _ h=>?_) fun _ h=>?_
   ·cbv;refine C9 hE eBe6 h fun x5 h=>?_;cbv;refine R3 hE (g:=fun r6=>(KF r6)) h (c12 N x5) (.refl _) fun r6 h=>?_;cbv;refine C9 hE eBe6 h fun x7 h=>?_;cbv;refine A8 hE h (c12 N x7) (.refl _) fun r8 h=>?_;cbv;refine A8 hE h (c25 N r6 r8) (.refl _) fun r9 h=>?_;cbv;refine B1 hE h (fun _ h=>?_) fun _ h=>?_
    ·cbv;cases h;exact⟨_,_,rfl,⟨rfl,rfl,hO⟩,.e rfl .z,rfl⟩
    cbv;obtain⟨s11,hx,h⟩:=bind_some h;refine K0 cf7 hE Q6 (fun s10=>[(0,.v (sr eBe2 aG)),fi 3 s1,fi 4 s10]) (fun s10 H1=>C3 Eq H0 [] H1) (fun x e l H1=>match(generalizing:=false) x with| .inl y=>e= .exit 2∧l=[(0,.v (sr eBe2 aG)),fi 3 s1]∧C3 Eq H0 [] H1| .inr y=>e= .ret∧l=[fi 2 7]∧C3 Eq H0 [] H1) (by kernel_rfl) ?_ hx ?_ hO ?_
    ·intro s10 H o hO h;clear hx;cbv;refine B1 hE h (fun _ h=>?_) fun _ h=>?_
     ·cbv;refine C9 hE eBe6 h fun x12 h=>?_;cbv;refine C9 hE eBe6 h fun x13 h=>?_;cbv;refine A8 hE h (c26 N x12 x13) (.refl _) fun r14 h=>?_;cbv;refine B1 hE h (fun _ h=>?_) fun _ h=>?_
      ·cbv;cases h;exact⟨_,_,rfl,⟨rfl,rfl,hO⟩,.e rfl .z,rfl⟩
      cbv;cases h;exact⟨_,rfl,.e rfl (.e2 .z),rfl,hO⟩
     cbv;cases h;exact⟨_,_,rfl,⟨rfl,rfl,hO⟩,.e2 .z,rfl⟩
    ·exact .e rfl (.e2 .z)
    clear hx
    rcases s11 with y15|y16
    ·rintro e l H ⟨rfl,rfl,hO⟩;cbv;cases h;exact⟨_,rfl,.e2 .z,rfl,hO⟩
    rintro e l H ⟨rfl,rfl,hO⟩;cbv;cases h;exact⟨_,_,rfl,⟨rfl,rfl,hO⟩,.e rfl .z,rfl⟩
   cbv;obtain⟨s18,hx,h⟩:=bind_some h;refine K0 cf7 hE Q6 (fun s17=>[(0,.v (sr eBe2 aG)),fi 3 s1,fi 4 s17]) (fun s17 H1=>C3 Eq H0 [] H1) (fun x e l H1=>match(generalizing:=false) x with| .inl y=>e= .exit 2∧l=[(0,.v (sr eBe2 aG)),fi 3 s1]∧C3 Eq H0 [] H1| .inr y=>e= .ret∧l=[fi 2 7]∧C3 Eq H0 [] H1) (by kernel_rfl) ?_ hx ?_ hO ?_
   ·intro s17 H o hO h;clear hx;cbv;refine B1 hE h (fun _ h=>?_) fun _ h=>?_
    ·cbv;refine C9 hE eBe6 h fun x19 h=>?_;cbv;refine C9 hE eBe6 h fun x20 h=>?_;cbv;refine A8 hE h (c26 N x19 x20) (.refl _) fun r21 h=>?_;cbv;refine B1 hE h (fun _ h=>?_) fun _ h=>?_
     ·cbv;cases h;exact⟨_,_,rfl,⟨rfl,rfl,hO⟩,.e rfl .z,rfl⟩
     cbv;cases h;exact⟨_,rfl,.e rfl (.e2 .z),rfl,hO⟩
    cbv;cases h;exact⟨_,_,rfl,⟨rfl,rfl,hO⟩,.e2 .z,rfl⟩
   ·exact .e rfl (.e2 .z)
   clear hx
   rcases s18 with y22|y23
   ·rintro e l H ⟨rfl,rfl,hO⟩;cbv;cases h;exact⟨_,rfl,.e2 .z,rfl,hO⟩
   rintro e l H ⟨rfl,rfl,hO⟩;cbv;cases h;exact⟨_,_,rfl,⟨rfl,rfl,hO⟩,.e rfl .z,rfl⟩
  cbv;cases h;exact⟨_,_,rfl,⟨rfl,rfl,hO⟩,.z,rfl⟩
 ·exact .e2 .z
 clear hx
 rcases s2 with y24|y25
 ·rintro e l H ⟨rfl,rfl,hO⟩;cbv;cases h;exact hK hO (.refl _)
 rintro e l H ⟨rfl,rfl,hO⟩;cbv;cases h;exact hK hO (.refl _)
theorem c64 (N:Nat) (aH:List A0) (bC:V) (aW:A0→Option Bool) (bM:∀y1 q,aW y1=some q→Y5 prog bC [(D2 y1)] (.bool q)) (r:Int) (h:M0 N aH aW=some r):C0 prog 64 [sr eBe0 aH,bC] (vi r):=by
 unfold M0 at h
 refine O7 cf0 func64 call64 ntmps64 ?_;intro E H0 K hE hK hO;cbv;refine G1 hE ?_;cbv;obtain⟨s2,hx,h⟩:=bind_some h;refine K0 cf0 hE Q6 (fun s1=>[(0,.v (sr eBe0 aH)),(1,.v (bC)),fi 7 (Ar.len aH),fi 8 s1]) (fun s1 H1=>C3 Eq H0 [] H1) (fun x e l H1=>match(generalizing:=false) x with| .inl y=>e= .exit 0∧l=[]∧C3 Eq H0 [] H1| .inr y=>e= .ret∧l=[fi 4 y]∧C3 Eq H0 [] H1) (by kernel_rfl) ?_ hx ?_ hO ?_
 ·intro s1 H o hO h;clear hx;cbv;refine B1 hE h (fun _ h=>?_) fun _ h=>?_
  ·cbv;refine C9 hE eBe1 h fun x3 h=>?_;cbv;refine Bn hE (g:=fun r4=>.bool r4) h (fun r4 hx=>bM x3 r4 hx) (.refl _) fun r4 h=>?_;cbv;refine B1 hE h (fun _ h=>?_) fun _ h=>?_
   ·cbv;cases h;exact⟨_,_,rfl,⟨rfl,rfl,hO⟩,.e rfl .z,rfl⟩
   cbv;cases h;exact⟨_,rfl,.e4 .z,rfl,hO⟩
  cbv;cases h;exact⟨_,_,rfl,⟨rfl,rfl,hO⟩,.z,rfl⟩
 ·exact .e4 .z
 clear hx
 rcases s2 with y5|y6
 ·rintro e l H ⟨rfl,rfl,hO⟩;cbv;cases h;exact hK hO (.refl _)
 rintro e l H ⟨rfl,rfl,hO⟩;cbv;cases h;exact hK hO (.refl _)
def cf95 :Cf:=⟨[8],[],[],[],[],[]⟩
theorem c95 (N:Nat) (aX:List A0) (bB:List A0) (cA:V) (bS:A0→A0→Option Bool) (cS:∀y1 y2 q,bS y1 y2=some q→Y5 prog cA [(D2 y1),(D2 y2)] (.bool q)) (r:Bool) (h:J3 N aX bB bS=some r):C0 prog 95 [sr eBe0 aX,sr eBe0 bB,cA] (.bool r):=by
 unfold J3 at h
 refine O7 cf95 func95 call95 ntmps95 ?_;intro E H0 K hE hK hO;cbv;refine G1 hE ?_;cbv;refine G1 hE ?_;cbv;refine B1 hE h (fun _ h=>?_) fun _ h=>?_
 ·cbv;cases h;exact hK hO (.refl _)
 cbv;refine G1 hE ?_;cbv;obtain⟨s2,hx,h⟩:=bind_some h;refine K0 cf95 hE Q6 (fun s1=>[(1,.v (sr eBe0 bB)),(2,.v (cA)),(15,.v (sr eBe0 aX)),fi 16 (Ar.len aX),fi 17 s1]) (fun s1 H1=>C3 Eq H0 [] H1) (fun x e l H1=>match(generalizing:=false) x with| .inl y=>e= .exit 0∧l=[]∧C3 Eq H0 [] H1| .inr y=>e= .ret∧l=[(6,.b false)]∧C3 Eq H0 [] H1) (by kernel_rfl) ?_ hx ?_ hO ?_
 ·intro s1 H o hO h;clear hx;cbv;refine B1 hE h (fun _ h=>?_) fun _ h=>?_
  ·cbv;refine C9 hE eBe1 h fun x3 h=>?_;cbv;refine D3 hE hO fun b4 H hO=>?_;cbv;refine A9 hE hO 0 rfl rfl fun H hO=>?_;cbv;refine C9 hE eBe1 h fun x5 h=>?_;cbv;refine B2 hE hO 0 rfl ?_;cbv;refine Bn hE (g:=fun r6=>.bool r6) h (fun r6 hx=>cS x3 x5 r6 hx) (.refl _) fun r6 h=>?_;cbv;refine B1 hE h (fun _ h=>?_) fun _ h=>?_
   ·cbv;cases h;exact⟨_,_,rfl,⟨rfl,rfl,hO.tail⟩,.b rfl (.z),rfl⟩
   cbv;cases h;exact⟨_,rfl,.e rfl (.e4 .z),rfl,hO.tail⟩
  cbv;cases h;exact⟨_,_,rfl,⟨rfl,rfl,hO⟩,.z,rfl⟩
 ·exact .e rfl (.e4 .z)
 clear hx
 rcases s2 with y7|y8
 ·rintro e l H ⟨rfl,rfl,hO⟩;cbv;cases h;exact hK hO (.refl _)
 rintro e l H ⟨rfl,rfl,hO⟩;cbv;cases h;exact hK hO (.refl _)
theorem c66 (N:Nat):∀n aB aD r,CH N n aB aD=some r→C0 prog 66 [(D2 aB),(D2 aD)] (.bool r):=by
 intro n
 induction n with
 |zero=>intro aB aD r h;cases h
 |succ n ih=>
 intro aB aD r h
 unfold CH at h
 refine O7 cf0 func66 call66 ntmps66 ?_;intro E H0 K hE hK hO;cbv;refine B1 hE h (fun _ h=>?_) fun _ h=>?_
 ·cbv;cases h;exact hK hO (.refl _)
 cbv;refine A8 hE h (c82 N N aB.dE aD.dE) (.refl _) fun r1 h=>?_;cbv;refine B1 hE h (fun _ h=>?_) fun _ h=>?_
 ·cbv;cases h;exact hK hO (.refl _)
 cbv;refine A8 hE (g:=fun r2=>.bool r2) h (fun r2 hx=>c95 N aB.dD aD.dD (.func (.func 66) [] []) (fun y1 y2=>CH N n y1 y2) (fun y1 y2 r hx=>C0.value (F:=[]) (C:=[]) (ih y1 y2 r hx)) r2 hx) (.refl _) fun r2 h=>?_;cbv;cases h;exact hK hO (.refl _)
theorem c65 (N cI aF r)(h:Bk N cI aF=some r):C0 prog 65 [(D2 cI),.eref (E3 aF) 0] (.bool r):=by
 unfold Bk at h
 refine O7 cf0 func65 call65 ntmps65 ?_;intro E H0 K hE hK hO;cbv;refine A8 hE h (c66 N N aF cI) (.refl _) fun r1 h=>?_;cbv;cases h;exact hK hO (.refl _)
theorem c45 (N aG aA r)(h:Ad N aG aA=some r):C0 prog 45 [sr eBe0 aG,(D2 aA)] (vi r):=by
 unfold Ad at h
 refine O7 cf0 func45 call45 ntmps45 ?_;intro E H0 K hE hK hO;cbv;refine A8 hE (g:=fun r1=>vi r1) h (fun r1 hx=>c64 N aG (.func (.func 65) [] [.eref (E3 aA) 0]) (fun y1=>Bk N y1 aA) (fun y1 r hx=>C0.value (F:=[]) (C:=[.eref (E3 aA) 0]) (c65 N y1 aA r hx)) r1 hx) (.refl _) fun r1 h=>?_;cbv;cases h;exact hK hO (.refl _)
theorem c84 (N aF r) (h:CL N aF=some r):Hh prog 84 (fun yv=>[yv,.eref (E3 aF) 0]) (List.map (fun(x:(D7×A6))=>[(K3 x.1),(B8 x.2)]) r) rbN:=by
 unfold CL at h
 obtain⟨⟨w0,u0⟩,h1,hr⟩:=bind_some h;clear h;have hr:=M6 hr;subst hr;have h:=h1;clear h1;refine O4 cf0 Q6 func84 (by rfl) (by kernel_rfl) call84 ntmps84 (by rfl) (fun _=>rfl) ?_;intro yv I D hI hD hy tl F E H K hE hO hK hKD
 have hO:C3 (I (List.map (fun(x:(D7×A6))=>[(K3 x.1),(B8 x.2)]) (w0++[])++tl)) F [] H:=by rw[append_nil];exact hO
 cbv;obtain⟨w1,h1,he⟩:=S8 h;clear h;have h:=h1;clear h1
 rw[he,append_assoc]at hO
 clear he;have hO:C3 (I ([.agg [vi 0,vi 0,vi aF.Var,vi aF.Typ,vi aF.dE.Op,sr eBe5 aF.dE.dD,vi aF.dE.Var,vi aF.dE.Field,vi aF.dE.Kind,vi aF.dE.Value.Kind,vi aF.dE.Value.Num,.str aF.dE.Value.Text,sr (V.int .i64) ([]),sr (V.int .i64) ([]),sr eBe5 ([]),sr eBe9 ([]),sr (V.int .i64) ([])],.agg [.bool true,vi 0,sr eBe0 ([]),vi 0,vi 0,vi 0,vi 0,vi 0,sr eBe5 ([]),vi 0,vi 0,vi 0,vi 0,vi 0,.str (⟨#[]⟩)]]::(List.map (fun(x:(D7×A6))=>[(K3 x.1),(B8 x.2)]) (w1++[])++tl))) F [] _:=hO;refine CI hE hI hD hy hO (.cons (.agg (.cons (.refl _) (.cons (.refl _) (.cons (.refl _) (.cons (.refl _) (.cons (.refl _) (.cons (.refl _) (.cons (.refl _) (.cons (.refl _) (.cons (.refl _) (.cons (.refl _) (.cons (.refl _) (.cons (.refl _) (.cons (.lit _ (E0)) (.cons (.lit _ (E0)) (.cons (.lit _ (E0)) (.cons (.lit _ (E0)) (.cons (.lit _ (E0)) (.refl _))))))))))))))))))) (.cons (.agg (.cons (.refl _) (.cons (.refl _) (.cons (.lit _ (E0)) (.cons (.refl _) (.cons (.refl _) (.cons (.refl _) (.cons (.refl _) (.cons (.refl _) (.cons (.lit _ (E0)) (.refl _))))))))))) (.refl _))) (fun H hO=>?_) (fun H hO=>?_)
 ·cbv;obtain⟨hw,_⟩:=D0 h
  rw[←hw]at hO
  exact hK _ _ _ hO trivial
 clear h;cbv;exact hKD _ _ _ hO trivial
end Go.Ab
