/- GTSh GTSo GTCo1 -/
import Derived.Test.YtanbgjgaafeplaaGreatDoorI11
import Derived.Shelf.Strconv.Itoa1
import Derived.Shelf.SlSortCmp.NoneTotal
import Derived.Test.YtanbgjgaafeplaaGreatDoorProg
import Derived.KernelRfl
set_option linter.all false
/- The shelf laid at this program: plain. -/
open List (append_assoc)
open Go.Ab.Ar (cmp lst nt_eq)
namespace Go.Proofs
open Go.Shelf
set_option maxRecDepth 100000
def Tryz.laysNm283_ren :Ren:=
{
  f :=fun x=>
    match x with
    |283=>291
    |n=>n,
  t :=fun x=>
    match x with
    |3=>3
    |9=>9
    |4=>4
    |n=>n,
  g :=fun x=>
    x}
theorem Tryz.laysNm283 :Lays.n283 Tryz.prog Tryz.laysNm283_ren:=
{ mixed :=(by kernel_rfl),f283:=Eq.trans Tryz.func291 (congrArg some (by kernel_rfl)),
  t3:=Tryz.underlying3,a3:=Tryz.isAgg3,z3:=Tryz.sizeOf3,v3:=Tryz.zeroValue3,t4:=Tryz.underlying4,
  a4:=Tryz.isAgg4,z4:=Tryz.sizeOf4,v4:=Tryz.zeroValue4,t9:=Tryz.underlying9,a9:=Tryz.isAgg9,
  z9:=Tryz.sizeOf9,v9:=Tryz.zeroValue9}
def Tryz.laysSlsf14_300_ren :Ren:=
{
  f :=fun x=>
    match x with
    |14=>300
    |20=>317
    |21=>318
    |22=>319
    |23=>320
    |24=>321
    |25=>322
    |26=>323
    |27=>324
    |46=>330
    |47=>244
    |48=>245
    |49=>331
    |50=>332
    |15=>162
    |57=>334
    |28=>205
    |29=>206
    |n=>n,
  t :=fun x=>
    match x with
    |24=>174
    |22=>171
    |3=>3
    |25=>318
    |4=>4
    |0=>0
    |46=>243
    |45=>242
    |50=>137
    |66=>277
    |39=>186
    |55=>251
    |70=>281
    |76=>304
    |77=>199
    |53=>249
    |5=>5
    |9=>9
    |n=>n,
  g :=fun x=>
    x}
theorem Tryz.laysSlsf14_300 :SlLaysF0.n14 Tryz.prog Tryz.laysSlsf14_300_ren:=
{ mixed :=(by kernel_rfl),
  f14 :=
    Exists.intro "slices.pdqsortCmpFunc[tidegate/semantics.bound]"
      ⟨of_decide_eq_true (id ((by kernel_rfl))),
        Eq.trans Tryz.func300
          (congrArg some (by kernel_rfl))⟩,
  f15:=Eq.trans Tryz.func162 (congrArg some (by kernel_rfl)),
  f20 :=
    Exists.intro "slices.insertionSortCmpFunc[tidegate/semantics.bound]"
      ⟨of_decide_eq_true (id ((by kernel_rfl))),
        Eq.trans Tryz.func317
          (congrArg some (by kernel_rfl))⟩,
  f21 :=
    Exists.intro "slices.heapSortCmpFunc[tidegate/semantics.bound]"
      ⟨of_decide_eq_true (id ((by kernel_rfl))),
        Eq.trans Tryz.func318
          (congrArg some (by kernel_rfl))⟩,
  f22 :=
    Exists.intro "slices.breakPatternsCmpFunc[tidegate/semantics.bound]"
      ⟨of_decide_eq_true (id ((by kernel_rfl))),
        Eq.trans Tryz.func319
          (congrArg some (by kernel_rfl))⟩,
  f23 :=
    Exists.intro "slices.choosePivotCmpFunc[tidegate/semantics.bound]"
      ⟨of_decide_eq_true (id ((by kernel_rfl))),
        Eq.trans Tryz.func320
          (congrArg some (by kernel_rfl))⟩,
  f24 :=
    Exists.intro "slices.reverseRangeCmpFunc[tidegate/semantics.bound]"
      ⟨of_decide_eq_true (id ((by kernel_rfl))),
        Eq.trans Tryz.func321
          (congrArg some (by kernel_rfl))⟩,
  f25 :=
    Exists.intro "slices.partialInsertionSortCmpFunc[tidegate/semantics.bound]"
      ⟨of_decide_eq_true (id ((by kernel_rfl))),
        Eq.trans Tryz.func322
          (congrArg some (by kernel_rfl))⟩,
  f26 :=
    Exists.intro "slices.partitionEqualCmpFunc[tidegate/semantics.bound]"
      ⟨of_decide_eq_true (id ((by kernel_rfl))),
        Eq.trans Tryz.func323
          (congrArg some (by kernel_rfl))⟩,
  f27 :=
    Exists.intro "slices.partitionCmpFunc[tidegate/semantics.bound]"
      ⟨of_decide_eq_true (id ((by kernel_rfl))),
        Eq.trans Tryz.func324
          (congrArg some (by kernel_rfl))⟩,
  f28:=Eq.trans Tryz.func205 (congrArg some (by kernel_rfl)),
  f29:=Eq.trans Tryz.func206 (congrArg some (by kernel_rfl)),
  f46 :=
    Exists.intro "slices.siftDownCmpFunc[tidegate/semantics.bound]"
      ⟨of_decide_eq_true (id ((by kernel_rfl))),
        Eq.trans Tryz.func330
          (congrArg some (by kernel_rfl))⟩,
  f47:=Eq.trans Tryz.func244 (congrArg some (by kernel_rfl)),
  f48:=Eq.trans Tryz.func245 (congrArg some (by kernel_rfl)),
  f49 :=
    Exists.intro "slices.medianAdjacentCmpFunc[tidegate/semantics.bound]"
      ⟨of_decide_eq_true (id ((by kernel_rfl))),
        Eq.trans Tryz.func331
          (congrArg some (by kernel_rfl))⟩,
  f50 :=
    Exists.intro "slices.medianCmpFunc[tidegate/semantics.bound]"
      ⟨of_decide_eq_true (id ((by kernel_rfl))),
        Eq.trans Tryz.func332
          (congrArg some (by kernel_rfl))⟩,
  f57 :=
    Exists.intro "slices.order2CmpFunc[tidegate/semantics.bound]"
      ⟨of_decide_eq_true (id ((by kernel_rfl))),
        Eq.trans Tryz.func334
          (congrArg some (by kernel_rfl))⟩,
  t0:=Tryz.underlying0,a0:=Tryz.isAgg0,z0:=Tryz.sizeOf0,v0:=Tryz.zeroValue0,t3:=Tryz.underlying3,
  a3:=Tryz.isAgg3,z3:=Tryz.sizeOf3,v3:=Tryz.zeroValue3,t4:=Tryz.underlying4,a4:=Tryz.isAgg4,
  z4:=Tryz.sizeOf4,v4:=Tryz.zeroValue4,t5:=Tryz.underlying5,a5:=Tryz.isAgg5,z5:=Tryz.sizeOf5,
  v5:=Tryz.zeroValue5,t9:=Tryz.underlying9,a9:=Tryz.isAgg9,z9:=Tryz.sizeOf9,v9:=Tryz.zeroValue9,
  t22:=Tryz.underlying171,a22:=Tryz.isAgg171,z22:=Tryz.sizeOf171,v22:=Tryz.zeroValue171,
  t25:=Tryz.underlying318,a25:=Tryz.isAgg318,z25:=Tryz.sizeOf318,v25:=Tryz.zeroValue318,
  t39:=Tryz.underlying186,a39:=Tryz.isAgg186,z39:=Tryz.sizeOf186,v39:=Tryz.zeroValue186,
  t45:=Tryz.underlying242,a45:=Tryz.isAgg242,z45:=Tryz.sizeOf242,v45:=Tryz.zeroValue242,
  t46:=Tryz.underlying243,a46:=Tryz.isAgg243,z46:=Tryz.sizeOf243,v46:=Tryz.zeroValue243,
  t50:=Tryz.underlying137,a50:=Tryz.isAgg137,z50:=Tryz.sizeOf137,v50:=Tryz.zeroValue137,
  t53:=Tryz.underlying249,a53:=Tryz.isAgg249,z53:=Tryz.sizeOf249,v53:=Tryz.zeroValue249,
  t55:=Tryz.underlying251,a55:=Tryz.isAgg251,z55:=Tryz.sizeOf251,v55:=Tryz.zeroValue251,
  t66:=Tryz.underlying277,a66:=Tryz.isAgg277,z66:=Tryz.sizeOf277,v66:=Tryz.zeroValue277,
  t70:=Tryz.underlying281,a70:=Tryz.isAgg281,z70:=Tryz.sizeOf281,v70:=Tryz.zeroValue281,
  t76:=Tryz.underlying304,a76:=Tryz.isAgg304,z76:=Tryz.sizeOf304,v76:=Tryz.zeroValue304,
  t77:=Tryz.underlying199,a77:=Tryz.isAgg199,z77:=Tryz.sizeOf199,v77:=Tryz.zeroValue199}
def Tryz.laysSlsf15_162_ren :Ren:=
{
  f :=fun x=>
    match x with
    |15=>162
    |28=>205
    |29=>206
    |n=>n,
  t :=fun x=>
    match x with
    |39=>186
    |3=>3
    |53=>249
    |55=>251
    |4=>4
    |5=>5
    |9=>9
    |n=>n,
  g :=fun x=>
    x}
theorem Tryz.laysSlsf15_162 :SlLaysF0.n15 Tryz.prog Tryz.laysSlsf15_162_ren:=
{ mixed :=(by kernel_rfl),f15:=Eq.trans Tryz.func162 (congrArg some (by kernel_rfl)),
  f28:=Eq.trans Tryz.func205 (congrArg some (by kernel_rfl)),
  f29:=Eq.trans Tryz.func206 (congrArg some (by kernel_rfl)),t3:=Tryz.underlying3,
  a3:=Tryz.isAgg3,z3:=Tryz.sizeOf3,v3:=Tryz.zeroValue3,t4:=Tryz.underlying4,a4:=Tryz.isAgg4,
  z4:=Tryz.sizeOf4,v4:=Tryz.zeroValue4,t5:=Tryz.underlying5,a5:=Tryz.isAgg5,z5:=Tryz.sizeOf5,
  v5:=Tryz.zeroValue5,t9:=Tryz.underlying9,a9:=Tryz.isAgg9,z9:=Tryz.sizeOf9,v9:=Tryz.zeroValue9,
  t39:=Tryz.underlying186,a39:=Tryz.isAgg186,z39:=Tryz.sizeOf186,v39:=Tryz.zeroValue186,
  t53:=Tryz.underlying249,a53:=Tryz.isAgg249,z53:=Tryz.sizeOf249,v53:=Tryz.zeroValue249,
  t55:=Tryz.underlying251,a55:=Tryz.isAgg251,z55:=Tryz.sizeOf251,v55:=Tryz.zeroValue251}
def Tryz.laysSlsf6_128_ren :Ren:=
{
  f :=fun x=>
    match x with
    |6=>128
    |15=>162
    |14=>161
    |28=>205
    |29=>206
    |20=>197
    |21=>198
    |22=>199
    |23=>200
    |24=>201
    |25=>202
    |26=>203
    |27=>204
    |46=>243
    |47=>244
    |48=>245
    |49=>246
    |50=>247
    |57=>274
    |n=>n,
  t :=fun x=>
    match x with
    |22=>33
    |24=>48
    |25=>67
    |3=>3
    |39=>186
    |0=>0
    |53=>249
    |55=>251
    |4=>4
    |46=>243
    |45=>242
    |50=>137
    |5=>5
    |9=>9
    |66=>277
    |70=>281
    |76=>304
    |77=>199
    |n=>n,
  g :=fun x=>
    x}
theorem Tryz.laysSlsf6_128 :SlLaysF0.n6 Tryz.prog Tryz.laysSlsf6_128_ren:=
{ mixed :=(by kernel_rfl),
  f6 :=
    Exists.intro "slices.SortFunc[[]tidegate/api.Match,tidegate/api.Match]"
      ⟨of_decide_eq_true (id ((by kernel_rfl))),
        Eq.trans Tryz.func128
          (congrArg some (by kernel_rfl))⟩,
  f14 :=
    Exists.intro "slices.pdqsortCmpFunc[tidegate/api.Match]"
      ⟨of_decide_eq_true (id ((by kernel_rfl))),
        Eq.trans Tryz.func161
          (congrArg some (by kernel_rfl))⟩,
  f15:=Eq.trans Tryz.func162 (congrArg some (by kernel_rfl)),
  f20 :=
    Exists.intro "slices.insertionSortCmpFunc[tidegate/api.Match]"
      ⟨of_decide_eq_true (id ((by kernel_rfl))),
        Eq.trans Tryz.func197
          (congrArg some (by kernel_rfl))⟩,
  f21 :=
    Exists.intro "slices.heapSortCmpFunc[tidegate/api.Match]"
      ⟨of_decide_eq_true (id ((by kernel_rfl))),
        Eq.trans Tryz.func198
          (congrArg some (by kernel_rfl))⟩,
  f22 :=
    Exists.intro "slices.breakPatternsCmpFunc[tidegate/api.Match]"
      ⟨of_decide_eq_true (id ((by kernel_rfl))),
        Eq.trans Tryz.func199
          (congrArg some (by kernel_rfl))⟩,
  f23 :=
    Exists.intro "slices.choosePivotCmpFunc[tidegate/api.Match]"
      ⟨of_decide_eq_true (id ((by kernel_rfl))),
        Eq.trans Tryz.func200
          (congrArg some (by kernel_rfl))⟩,
  f24 :=
    Exists.intro "slices.reverseRangeCmpFunc[tidegate/api.Match]"
      ⟨of_decide_eq_true (id ((by kernel_rfl))),
        Eq.trans Tryz.func201
          (congrArg some (by kernel_rfl))⟩,
  f25 :=
    Exists.intro "slices.partialInsertionSortCmpFunc[tidegate/api.Match]"
      ⟨of_decide_eq_true (id ((by kernel_rfl))),
        Eq.trans Tryz.func202
          (congrArg some (by kernel_rfl))⟩,
  f26 :=
    Exists.intro "slices.partitionEqualCmpFunc[tidegate/api.Match]"
      ⟨of_decide_eq_true (id ((by kernel_rfl))),
        Eq.trans Tryz.func203
          (congrArg some (by kernel_rfl))⟩,
  f27 :=
    Exists.intro "slices.partitionCmpFunc[tidegate/api.Match]"
      ⟨of_decide_eq_true (id ((by kernel_rfl))),
        Eq.trans Tryz.func204
          (congrArg some (by kernel_rfl))⟩,
  f28:=Eq.trans Tryz.func205 (congrArg some (by kernel_rfl)),
  f29:=Eq.trans Tryz.func206 (congrArg some (by kernel_rfl)),
  f46 :=
    Exists.intro "slices.siftDownCmpFunc[tidegate/api.Match]"
      ⟨of_decide_eq_true (id ((by kernel_rfl))),
        Eq.trans Tryz.func243
          (congrArg some (by kernel_rfl))⟩,
  f47:=Eq.trans Tryz.func244 (congrArg some (by kernel_rfl)),
  f48:=Eq.trans Tryz.func245 (congrArg some (by kernel_rfl)),
  f49 :=
    Exists.intro "slices.medianAdjacentCmpFunc[tidegate/api.Match]"
      ⟨of_decide_eq_true (id ((by kernel_rfl))),
        Eq.trans Tryz.func246
          (congrArg some (by kernel_rfl))⟩,
  f50 :=
    Exists.intro "slices.medianCmpFunc[tidegate/api.Match]"
      ⟨of_decide_eq_true (id ((by kernel_rfl))),
        Eq.trans Tryz.func247
          (congrArg some (by kernel_rfl))⟩,
  f57 :=
    Exists.intro "slices.order2CmpFunc[tidegate/api.Match]"
      ⟨of_decide_eq_true (id ((by kernel_rfl))),
        Eq.trans Tryz.func274
          (congrArg some (by kernel_rfl))⟩,
  t0:=Tryz.underlying0,a0:=Tryz.isAgg0,z0:=Tryz.sizeOf0,v0:=Tryz.zeroValue0,t3:=Tryz.underlying3,
  a3:=Tryz.isAgg3,z3:=Tryz.sizeOf3,v3:=Tryz.zeroValue3,t4:=Tryz.underlying4,a4:=Tryz.isAgg4,
  z4:=Tryz.sizeOf4,v4:=Tryz.zeroValue4,t5:=Tryz.underlying5,a5:=Tryz.isAgg5,z5:=Tryz.sizeOf5,
  v5:=Tryz.zeroValue5,t9:=Tryz.underlying9,a9:=Tryz.isAgg9,z9:=Tryz.sizeOf9,v9:=Tryz.zeroValue9,
  t22:=Tryz.underlying33,a22:=Tryz.isAgg33,z22:=Tryz.sizeOf33,v22:=Tryz.zeroValue33,
  t25:=Tryz.underlying67,a25:=Tryz.isAgg67,z25:=Tryz.sizeOf67,v25:=Tryz.zeroValue67,
  t39:=Tryz.underlying186,a39:=Tryz.isAgg186,z39:=Tryz.sizeOf186,v39:=Tryz.zeroValue186,
  t45:=Tryz.underlying242,a45:=Tryz.isAgg242,z45:=Tryz.sizeOf242,v45:=Tryz.zeroValue242,
  t46:=Tryz.underlying243,a46:=Tryz.isAgg243,z46:=Tryz.sizeOf243,v46:=Tryz.zeroValue243,
  t50:=Tryz.underlying137,a50:=Tryz.isAgg137,z50:=Tryz.sizeOf137,v50:=Tryz.zeroValue137,
  t53:=Tryz.underlying249,a53:=Tryz.isAgg249,z53:=Tryz.sizeOf249,v53:=Tryz.zeroValue249,
  t55:=Tryz.underlying251,a55:=Tryz.isAgg251,z55:=Tryz.sizeOf251,v55:=Tryz.zeroValue251,
  t66:=Tryz.underlying277,a66:=Tryz.isAgg277,z66:=Tryz.sizeOf277,v66:=Tryz.zeroValue277,
  t70:=Tryz.underlying281,a70:=Tryz.isAgg281,z70:=Tryz.sizeOf281,v70:=Tryz.zeroValue281,
  t76:=Tryz.underlying304,a76:=Tryz.isAgg304,z76:=Tryz.sizeOf304,v76:=Tryz.zeroValue304,
  t77:=Tryz.underlying199,a77:=Tryz.isAgg199,z77:=Tryz.sizeOf199,v77:=Tryz.zeroValue199}
end Go.Proofs
namespace Go.Proofs
open Go.Shelf Go.RowKit Go.Lib Go.Sort Go.Ab
set_option maxRecDepth 100000
theorem Tryz.sorts128 :PI Tryz.prog 128 1:=Vi Tryz.laysSlsf6_128 Tryz.isAgg48 Tryz.sizeOf48
set_option maxHeartbeats 2000000 in
theorem Tryz.sorts286 :PI Tryz.prog 286 2 where
 zero p cap fv w:=by
  have hp:=fun lim W=>AnyF.pdqsortCmpFunc_none Tryz.laysSlsf14_300 p cap lim fv W
  have hl:∀W,Calls Tryz.prog 162 #[.int .u64 0] W fun e w'=>e= .returned (.int .i64 (Lib.bitLen 0:Nat))∧w'=W:=fun W=>by
   have h:=Any.bits_Len (SlLaysF0.n15.bits Tryz.laysSlsf15_162) 0 W (by omega) (by omega);exact h
  change ∀lim W,Calls Tryz.prog 300 _ _ _ at hp
  go_enter Tryz.func286,Tryz.ntmps286
  go_wp2_with (first|(go_at_call 162;refine(hl _).mono ?_;rintro e w' ⟨rfl,rfl⟩)|(go_at_call 300;refine(hp _ _).mono ?_;rintro e w' ⟨rfl,rfl⟩))
  go_end0
  exact⟨rfl,rfl⟩
 pos α _ enc hk h1 cf hO g cb blk off cap d w eg hcmp hH hblk hsz hT:=by
  have hlim:Lib.bitLen d.size<4611686018427387904:=Nat.lt_of_le_of_lt (Lib.bitLen_le d.size 62 (by omega) (by omega)) (by omega);have hp:=AnyQ.pdqsortCmpFunc_all Tryz.laysSlsf14_300 2 Tryz.isAgg174 Tryz.sizeOf174 enc cf g cb hO blk off cap d w eg hcmp ⟨hk,h1,hH,hblk⟩ (d.size+1) 0 d.size (Lib.bitLen d.size) d w (by omega) rfl (SWK.start hH) (Nat.zero_le _) (Nat.le_refl _) hsz hlim (Or.inl rfl)
  have hl:Calls Tryz.prog 162 #[.int .u64 (d.size:Int)] w fun e w'=>e= .returned (.int .i64 (Lib.bitLen d.size:Nat))∧w'=w:=by
   have h:=Any.bits_Len (SlLaysF0.n15.bits Tryz.laysSlsf15_162) (d.size:Int) w (by omega) (by omega)
   rwa[Int.toNat_natCast]at h
  have wr:IntKind.u64.wrap (d.size:Int)=d.size:=by simp[IntKind.wrap,IntKind.bits,IntKind.signed];omega
  change Calls Tryz.prog 300 _ _ _ at hp
  have hps:=pdq_sorts (ltOf cf) hO d 0 d.size (Lib.bitLen d.size) true true (Nat.zero_le _) (Nat.le_refl _) (Or.inl rfl);have hu:=sorted_unique_holds hO hT d _ hps.1 hps.2;clear hH hcmp hk h1 hps
  generalize pdq (ltOf cf) d 0 d.size (Lib.bitLen d.size) true true=r at hp hu
  rw[←hu];clear hu
  go_enter Tryz.func286,Tryz.ntmps286
  go_wp2_with (first|(go_at_call 162;refine hl.mono ?_;rintro e w' ⟨rfl,rfl⟩)|(go_at_call 300;refine hp.mono ?_;rintro e w' ⟨rfl,n,os,rfl⟩))
  go_end0
  exact⟨rfl,n,os,rfl⟩
end Go.Proofs
namespace Go.Ab
open Go.RowKit Go.Proofs Go.Proofs.Tryz H6
abbrev vi (n:Int):V:=.int .i64 n
abbrev sr [Ar]{α:Type}(f:α→V)(l:List α):V:=.sl (lst f l) .ro
abbrev cb (b:Nat)(l:List V):En:=.blk b (.cells l)
abbrev ob [Ar]{α:Type}(q:OG)(n:Nat)(f:α→V)(l:List α):En:=.blk q.id (.arr n (q.pre++lst f l++q.rest))
abbrev fi (k:Nat)(n:Int):Nat×Sl:=(k,.v (vi n))
instance globs :I5:=⟨fun n=>match n with
 |0=>.eref [vi 0,vi 0,.bool true,.bool true,.bool false,.bool false,vi 2,vi 64,.bool false,.bool false,.bool false,.bool false,vi 2,vi 64,.bool false,.bool false,.bool false,.bool false,vi 2,vi 64,.bool false,.bool false,.bool false,.bool false,vi 1,vi 1,.bool false,.bool false,.bool false,.bool false,vi 1,vi 1,.bool true,.bool true,.bool true,.bool false,vi 1,vi 1,.bool false,.bool false,.bool true,.bool true,vi 1,vi 1,.bool false,.bool true,.bool false,.bool false,vi 2,vi 2,.bool false,.bool false,.bool false,.bool false,vi 1,vi 1,.bool true,.bool true,.bool true,.bool false,vi 1,vi 1,.bool false,.bool false,.bool true,.bool true] 0
 |_=>.bad⟩
variable [Ar][H6]
set_option maxRecDepth 100000
theorem M4 :Sc prog TT:=⟨okT,by rfl⟩
def cf0 :Cf:=⟨[],[],[],[],[],[]⟩
theorem Gn.e2 {l r:Fl}{k1 k2:Nat}{x1 x2:V}(hr:Gn l r)(h1:AI l k1=x1:=by rfl)(h2:AI l k2=x2:=by rfl):Gn l ((k1,.v x1)::(k2,.v x2)::r):=.e h1 (.e h2 hr)
theorem Gn.e4 {l r:Fl}{k1 k2 k3 k4:Nat}{x1 x2 x3 x4:V}(hr:Gn l r)(h1:AI l k1=x1:=by rfl)(h2:AI l k2=x2:=by rfl)(h3:AI l k3=x3:=by rfl)(h4:AI l k4=x4:=by rfl):Gn l ((k1,.v x1)::(k2,.v x2)::(k3,.v x3)::(k4,.v x4)::r):=.e2 (.e2 hr h3 h4) h1 h2
theorem I8 {f:FuncId}{fn:Func}{c:Code}{n:Nat}{rs:List ResultVar}{args:List V}{r:V}(cf:Cf)(hf:prog.funcs[f]? =some fn)(hcall:∀vals w,(callFunc f vals).run prog w= .ok (.enter f vals) w)(hnt:fn.ntmps=n)
 (h:∀(E:Dj) (H:A2) (K:V→A2→Prop),E=F5 prog n none→(∀{x L H'},B8 Eq H L H'→Cq x r→K x H')→B8 Eq H [] H→run E TT n cf c ⟨Ck args 0,[]⟩ H (Nn E TT rs K))
 (hb:fn.body=some c:=by rfl) (hd:G7 cf c=true:=by kernel_rfl) (hrs:fn.results.toList=rs:=by rfl) (hn:Nat.ble args.length n=true:=by rfl):B3 prog f args r:=
 Nq cf M4 hf hb hd hcall hnt hrs hn fun E H K hE hK=>h E H K hE (fun a b=>hK _ _ _ a b) (.start H5 rfl)
def Rt :Go.TypeDesc:=Go.TypeDesc.struct #[{name:= "source",type:=3,offset:=0,embedded:=false,tag:= "",pkgPath:= "tidegate/stream",byteOffset:=0},{name:= "seq",type:=3,offset:=1,embedded:=false,tag:= "",pkgPath:= "tidegate/stream",byteOffset:=8}]
theorem Uw :TO prog Rt eAs9:=VW (g:=fun(x:C9)=>[x.source,x.seq]) (fun x=>(eAt1 x).trans rfl) (fun _=>rfl) (fun x y h=>by cases x;cases y;cases h;rfl) (by kernel_rfl)
theorem c75 (N:Nat):∀n aA r,K7 N n aA=some r→B3 prog 75 [(B6 aA)] (sr eAr4 r):=by
 intro n
 induction n with
 |zero=>intro aA r h;cases h
 |succ n ih=>
 intro aA r h
 unfold K7 at h
 refine I8 cf0 func75 call75 ntmps75 ?_;intro E H0 K hE hK hO;cbv;replace hO:=hO.tl0 (t:=.full) rfl;obtain⟨s3,hx,h⟩:=bind_some h;refine W3 cf0 hE M4 (γ:=D7) (fun s1 g=>[(1,.v (.eref (C0 aA) 0)),(3,.v (.sl (lst eAr4 s1.1) g)),fi 4 s1.2]) (fun s1 g H1=>W6 g∧B8 Eq H0 [.tl g] H1) (fun x e l H1=>∃u1:D7,W6 u1∧e= .exit 0∧l=[(3,.v (.sl (lst eAr4 x) u1))]∧B8 Eq H0 [.tl u1] H1) (by kernel_rfl) ?_ .full hx ?_ ?_ ?_
 ·rintro s1 t2 H o ⟨ht2,hO⟩ h;clear hx;cbv;refine D4 hE ?_;cbv;refine A8 hE h (fun _ h=>?_) fun _ h=>?_
  ·cbv;refine B9 hE eAr3 h fun x4 h=>?_;cbv;refine A4 hE h (ih x4) (.refl _) fun r5 h=>?_;cbv;refine Cd (f:=eAr4) hE N0 (by decide) hO 0 rfl ht2 (l:=s1.1) (m:=r5) (.refl _) (.refl _) h fun l7 t6 H hO ht6 h=>?_;cbv;cases h;exact⟨_,t6,rfl,.e rfl (.e2 .z),rfl,ht6,hO⟩
  cbv;cases h;exact⟨_,_,rfl,⟨t2,ht2,rfl,rfl,hO⟩,.e rfl .z,rfl⟩
 ·exact .e rfl (.v (.slt _ (.lstc (.eq (eAr3 aA) (.refl _)) (.lst0))) (.e rfl (.z)))
 ·exact⟨trivial,hO⟩
 clear hx;rintro e l H ⟨t8,ht8,rfl,rfl,hO⟩;cbv;cases h;exact hK hO (.ro _ _)
theorem c104 (N:Nat):∀n aA aY r,U6 N n aA aY=some r→B3 prog 104 [(B6 aA),vi aY] (vi r):=by
 intro n
 induction n with
 |zero=>intro aA aY r h;cases h
 |succ n ih=>
 intro aA aY r h
 unfold U6 at h
 refine I8 cf0 func104 call104 ntmps104 ?_;intro E H0 K hE hK hO;cbv;obtain⟨s2,hx,h⟩:=bind_some h;refine E3 cf0 hE M4 (fun s1=>[fi 1 aY,(2,.v (.eref (C0 aA) 0)),fi 5 s1.1,fi 6 s1.2]) (fun s1 H1=>B8 Eq H0 [] H1) (fun x e l H1=>e= .exit 0∧l=[fi 5 x]∧B8 Eq H0 [] H1) (by kernel_rfl) ?_ hx ?_ hO ?_
 ·intro s1 H o hO h;clear hx;cbv;refine D4 hE ?_;cbv;refine A8 hE h (fun _ h=>?_) fun _ h=>?_
  ·cbv;refine B9 hE eAr3 h fun x3 h=>?_;cbv;refine A4 hE h (ih x3 aY) (.refl _) fun r4 h=>?_;cbv;cases h;exact⟨_,rfl,.e4 .z,rfl,hO⟩
  cbv;cases h;exact⟨_,_,rfl,⟨rfl,rfl,hO⟩,.e rfl .z,rfl⟩
 ·exact .e4 .z
 clear hx;rintro e l H ⟨rfl,rfl,hO⟩;cbv;cases h;exact hK hO (.refl _)
theorem c124 (N:Nat):∀n aA r,U7 N n aA=some r→B3 prog 124 [(B6 aA)] (vi r):=by
 intro n
 induction n with
 |zero=>intro aA r h;cases h
 |succ n ih=>
 intro aA r h
 unfold U7 at h
 refine I8 cf0 func124 call124 ntmps124 ?_;intro E H0 K hE hK hO;cbv;obtain⟨s2,hx,h⟩:=bind_some h;refine E3 cf0 hE M4 (fun s1=>[(1,.v (.eref (C0 aA) 0)),fi 3 s1.1,fi 4 s1.2]) (fun s1 H1=>B8 Eq H0 [] H1) (fun x e l H1=>e= .exit 0∧l=[fi 3 x]∧B8 Eq H0 [] H1) (by kernel_rfl) ?_ hx ?_ hO ?_
 ·intro s1 H o hO h;clear hx;cbv;refine D4 hE ?_;cbv;refine A8 hE h (fun _ h=>?_) fun _ h=>?_
  ·cbv;refine B9 hE eAr3 h fun x3 h=>?_;cbv;refine A4 hE h (ih x3) (.refl _) fun r4 h=>?_;cbv;cases h;exact⟨_,rfl,.e rfl (.e2 .z),rfl,hO⟩
  cbv;cases h;exact⟨_,_,rfl,⟨rfl,rfl,hO⟩,.e rfl .z,rfl⟩
 ·exact .e rfl (.e2 .z)
 clear hx;rintro e l H ⟨rfl,rfl,hO⟩;cbv;cases h;exact hK hO (.refl _)
theorem c105 (N:Nat):∀n aB aY r,U9 N n aB aY=some r→B3 prog 105 [(G0 aB),vi aY] (vi r):=by
 intro n
 induction n with
 |zero=>intro aB aY r h;cases h
 |succ n ih=>
 intro aB aY r h
 unfold U9 at h
 refine I8 cf0 func105 call105 ntmps105 ?_;intro E H0 K hE hK hO;cbv;obtain⟨s2,hx,h⟩:=bind_some h;refine E3 cf0 hE M4 (fun s1=>[fi 1 aY,(2,.v (.eref (Ak aB) 0)),fi 5 s1.1,fi 6 s1.2]) (fun s1 H1=>B8 Eq H0 [] H1) (fun x e l H1=>e= .exit 0∧l=[fi 5 x]∧B8 Eq H0 [] H1) (by kernel_rfl) ?_ hx ?_ hO ?_
 ·intro s1 H o hO h;clear hx;cbv;refine D4 hE ?_;cbv;refine A8 hE h (fun _ h=>?_) fun _ h=>?_
  ·cbv;refine B9 hE eAs1 h fun x3 h=>?_;cbv;refine A4 hE h (ih x3 aY) (.refl _) fun r4 h=>?_;cbv;cases h;exact⟨_,rfl,.e4 .z,rfl,hO⟩
  cbv;cases h;exact⟨_,_,rfl,⟨rfl,rfl,hO⟩,.e rfl .z,rfl⟩
 ·exact .e4 .z
 clear hx;rintro e l H ⟨rfl,rfl,hO⟩;cbv;cases h;exact hK hO (.refl _)
theorem c155 (N:Nat):∀n aB r,U8 N n aB=some r→B3 prog 155 [(G0 aB)] (vi r):=by
 intro n
 induction n with
 |zero=>intro aB r h;cases h
 |succ n ih=>
 intro aB r h
 unfold U8 at h
 refine I8 cf0 func155 call155 ntmps155 ?_;intro E H0 K hE hK hO;cbv;obtain⟨s2,hx,h⟩:=bind_some h;refine E3 cf0 hE M4 (fun s1=>[(1,.v (.eref (Ak aB) 0)),fi 3 s1.1,fi 4 s1.2]) (fun s1 H1=>B8 Eq H0 [] H1) (fun x e l H1=>e= .exit 0∧l=[fi 3 x]∧B8 Eq H0 [] H1) (by kernel_rfl) ?_ hx ?_ hO ?_
 ·intro s1 H o hO h;clear hx;cbv;refine D4 hE ?_;cbv;refine A8 hE h (fun _ h=>?_) fun _ h=>?_
  ·cbv;refine B9 hE eAs1 h fun x3 h=>?_;cbv;refine A4 hE h (ih x3) (.refl _) fun r4 h=>?_;cbv;cases h;exact⟨_,rfl,.e rfl (.e2 .z),rfl,hO⟩
  cbv;cases h;exact⟨_,_,rfl,⟨rfl,rfl,hO⟩,.e rfl .z,rfl⟩
 ·exact .e rfl (.e2 .z)
 clear hx;rintro e l H ⟨rfl,rfl,hO⟩;cbv;cases h;exact hK hO (.refl _)
theorem c125 (N aB r)(h:BR N aB=some r):B3 prog 125 [(G0 aB)] (.bool r):=by
 unfold BR at h
 refine I8 cf0 func125 call125 ntmps125 ?_;intro E H0 K hE hK hO;cbv;refine A4 hE h (c105 N N aB 200) (.refl _) fun r1 h=>?_;cbv;refine A8 hE h (fun _ h=>?_) fun _ h=>?_
 ·cbv;refine A4 hE h (c155 N N aB) (.refl _) fun r2 h=>?_;cbv;cases h;exact hK hO (.refl _)
 cbv;cases h;exact hK hO (.refl _)
theorem c58 (N aA r) (h:Ff N aA=some r):B3 prog 58 [(B6 aA)] (.bool r):=by
 unfold Ff at h
 refine I8 cf0 func58 call58 ntmps58 ?_;intro E H0 K hE hK hO;cbv;refine A4 hE h (c104 N N aA 150) (.refl _) fun r1 h=>?_;cbv;refine A8 hE h (fun _ h=>?_) fun _ h=>?_
 ·cbv;cases h;exact hK hO (.refl _)
 cbv;refine A4 hE h (c124 N N aA) (.refl _) fun r2 h=>?_;cbv;refine A8 hE h (fun _ h=>?_) fun _ h=>?_
 ·cbv;cases h;exact hK hO (.refl _)
 cbv;refine A4 hE h (c75 N N aA) (.refl _) fun r3 h=>?_;cbv;obtain⟨s5,hx,h⟩:=bind_some h;refine E3 cf0 hE M4 (fun s4=>[(3,.v (sr eAr4 r3)),fi 4 s4]) (fun s4 H1=>B8 Eq H0 [] H1) (fun x e l H1=>match(generalizing:=false) x with| .inl y=>e= .exit 0∧l=[]∧B8 Eq H0 [] H1| .inr y=>e= .ret∧l=[(2,.b false)]∧B8 Eq H0 [] H1) (by kernel_rfl) ?_ hx ?_ hO ?_
 ·intro s4 H o hO h;clear hx;cbv;refine D4 hE ?_;cbv;refine A8 hE h (fun _ h=>?_) fun _ h=>?_
  ·cbv;refine B9 hE eAr3 h fun x6 h=>?_;cbv;refine A4 hE h (c125 N x6.cP) (.refl _) fun r7 h=>?_;cbv;refine A8 hE h (fun _ h=>?_) fun _ h=>?_
   ·cbv;cases h;exact⟨_,_,rfl,⟨rfl,rfl,hO⟩,.b rfl (.z),rfl⟩
   cbv;cases h;exact⟨_,rfl,.e2 .z,rfl,hO⟩
  cbv;cases h;exact⟨_,_,rfl,⟨rfl,rfl,hO⟩,.z,rfl⟩
 ·exact .e2 .z
 clear hx
 rcases s5 with y8|y9
 ·rintro e l H ⟨rfl,rfl,hO⟩;cbv;cases h;exact hK hO (.refl _)
 rintro e l H ⟨rfl,rfl,hO⟩;cbv;cases h;exact hK hO (.refl _)
def cf59 :Cf:=⟨[],[],[(7,4)],[],[],[]⟩
theorem c59 (N:Nat):∀n aA r,U0 N n aA=some r→B3 prog 59 [(B6 aA)] (vi r):=by
 intro n
 induction n with
 |zero=>intro aA r h;cases h
 |succ n ih=>
 intro aA r h
 unfold U0 at h
 refine I8 cf59 func59 call59 ntmps59 ?_;intro E H0 K hE hK hO;cbv;obtain⟨s1,hx,h⟩:=bind_some h;refine U4 cf59 hE M4 (fun e l H1=>e= .normal∧l=[(1,.v (.eref (C0 aA) 0)),fi 3 s1]∧B8 Eq H0 [] H1) (by kernel_rfl) ?_ ?_
 ·clear h;have h:=hx;clear hx;cbv;refine A8 hE h (fun _ h=>?_) fun _ h=>?_
  ·cbv;cases h;exact⟨_,⟨rfl,rfl,hO⟩,.e2 .z,rfl⟩
  cbv;cases h;exact⟨_,⟨rfl,rfl,hO⟩,.e2 .z,rfl⟩
 clear hx;rintro e l H ⟨rfl,rfl,hO⟩;cbv;obtain⟨s3,hx,h⟩:=bind_some h;refine E3 cf59 hE M4 (fun s2=>[(1,.v (.eref (C0 aA) 0)),fi 3 s2.1,fi 4 s2.2]) (fun s2 H1=>B8 Eq H0 [] H1) (fun x e l H1=>e= .exit 0∧l=[fi 3 x]∧B8 Eq H0 [] H1) (by kernel_rfl) ?_ hx ?_ hO ?_
 ·intro s2 H o hO h;clear hx;cbv;refine D4 hE ?_;cbv;refine A8 hE h (fun _ h=>?_) fun _ h=>?_
  ·cbv;refine B9 hE eAr3 h fun x4 h=>?_;cbv;refine A4 hE h (ih x4) (.refl _) fun r5 h=>?_;cbv;cases h;exact⟨_,rfl,.e rfl (.e2 .z),rfl,hO⟩
  cbv;cases h;exact⟨_,_,rfl,⟨rfl,rfl,hO⟩,.e rfl .z,rfl⟩
 ·exact .e rfl (.e2 .z)
 clear hx;rintro e l H ⟨rfl,rfl,hO⟩;cbv;cases h;exact hK hO (.refl _)
theorem c60 (N aZ aW aY r) (h:BQ N aZ aW aY=some r):B3 prog 60 [vi aZ,vi aW,vi aY] (vi r):=by
 unfold BQ at h
 refine I8 cf0 func60 call60 ntmps60 ?_;intro E H0 K hE hK hO;cbv;obtain⟨s2,hx,h⟩:=bind_some h;refine E3 cf0 hE M4 (fun s1=>[fi 0 aZ,fi 1 aW,fi 2 aY,fi 7 s1.1,fi 8 s1.2]) (fun s1 H1=>B8 Eq H0 [] H1) (fun x e l H1=>e= .exit 0∧l=[fi 7 x]∧B8 Eq H0 [] H1) (by kernel_rfl) ?_ hx ?_ hO ?_
 ·intro s1 H o hO h;clear hx;cbv;refine A8 hE h (fun _ h=>?_) fun _ h=>?_
  ·cbv;cases h;exact⟨_,rfl,.e rfl (.e4 .z),rfl,hO⟩
  cbv;cases h;exact⟨_,_,rfl,⟨rfl,rfl,hO⟩,.e rfl .z,rfl⟩
 ·exact .e rfl (.e4 .z)
 clear hx;rintro e l H ⟨rfl,rfl,hO⟩;cbv;cases h;exact hK hO (.refl _)
theorem c61 (N:Nat):∀n aA r,Y8 N n aA=some r→B3 prog 61 [(B6 aA)] (.bool r):=by
 intro n
 induction n with
 |zero=>intro aA r h;cases h
 |succ n ih=>
 intro aA r h
 unfold Y8 at h
 refine I8 cf0 func61 call61 ntmps61 ?_;intro E H0 K hE hK hO;cbv;refine A8 hE h (fun _ h=>?_) fun _ h=>?_
 ·cbv;cases h;exact hK hO (.refl _)
 cbv;obtain⟨s2,hx,h⟩:=bind_some h;refine E3 cf0 hE M4 (fun s1=>[(1,.v (.eref (C0 aA) 0)),fi 3 s1]) (fun s1 H1=>B8 Eq H0 [] H1) (fun x e l H1=>match(generalizing:=false) x with| .inl y=>e= .exit 0∧l=[]∧B8 Eq H0 [] H1| .inr y=>e= .ret∧l=[(2,.b true)]∧B8 Eq H0 [] H1) (by kernel_rfl) ?_ hx ?_ hO ?_
 ·intro s1 H o hO h;clear hx;cbv;refine D4 hE ?_;cbv;refine A8 hE h (fun _ h=>?_) fun _ h=>?_
  ·cbv;refine B9 hE eAr3 h fun x3 h=>?_;cbv;refine A4 hE h (ih x3) (.refl _) fun r4 h=>?_;cbv;refine A8 hE h (fun _ h=>?_) fun _ h=>?_
   ·cbv;cases h;exact⟨_,_,rfl,⟨rfl,rfl,hO⟩,.b rfl (.z),rfl⟩
   cbv;cases h;exact⟨_,rfl,.e2 .z,rfl,hO⟩
  cbv;cases h;exact⟨_,_,rfl,⟨rfl,rfl,hO⟩,.z,rfl⟩
 ·exact .e2 .z
 clear hx
 rcases s2 with y5|y6
 ·rintro e l H ⟨rfl,rfl,hO⟩;cbv;cases h;exact hK hO (.refl _)
 rintro e l H ⟨rfl,rfl,hO⟩;cbv;cases h;exact hK hO (.refl _)
theorem c12 (N aA aF r) (h:CW N aA aF=some r):B3 prog 12 [(B6 aA),sr eAr6 aF] (.bool r):=by
 unfold CW at h
 refine I8 cf0 func12 call12 ntmps12 ?_;intro E H0 K hE hK hO;cbv;refine A4 hE h (c58 N aA) (.refl _) fun r1 h=>?_;cbv;refine D4 hE ?_;cbv;refine A8 hE h (fun _ h=>?_) fun _ h=>?_
 ·cbv;cases h;exact hK hO (.refl _)
 cbv;obtain⟨s3,hx,h⟩:=bind_some h;refine E3 cf0 hE M4 (fun s2=>[(1,.v (sr eAr6 aF)),(2,.v (.eref (C0 aA) 0)),fi 5 s2]) (fun s2 H1=>B8 Eq H0 [] H1) (fun x e l H1=>match(generalizing:=false) x with| .inl y=>e= .exit 0∧l=[(1,.v (sr eAr6 aF)),(2,.v (.eref (C0 aA) 0))]∧B8 Eq H0 [] H1| .inr y=>e= .ret∧l=[(4,.b false)]∧B8 Eq H0 [] H1) (by kernel_rfl) ?_ hx ?_ hO ?_
 ·intro s2 H o hO h;clear hx;cbv;refine D4 hE ?_;cbv;refine A8 hE h (fun _ h=>?_) fun _ h=>?_
  ·cbv;refine B9 hE eAs0 h fun x4 h=>?_;cbv;refine D4 hE ?_;cbv;refine A8 hE h (fun _ h=>?_) fun _ h=>?_
   ·cbv;cases h;exact⟨_,_,rfl,⟨rfl,rfl,hO⟩,.b rfl (.z),rfl⟩
   cbv;cases h;exact⟨_,rfl,.e rfl (.e2 .z),rfl,hO⟩
  cbv;cases h;exact⟨_,_,rfl,⟨rfl,rfl,hO⟩,.e2 .z,rfl⟩
 ·exact .e rfl (.e2 .z)
 clear hx
 rcases s3 with y5|y10
 ·rintro e l H ⟨rfl,rfl,hO⟩;cbv;refine A4 hE h (c59 N N aA) (.refl _) fun r6 h=>?_;cbv;refine D4 hE ?_;cbv;refine A4 hE h (c60 N (Ar.ar .add .i64 r6 1) (Ar.len aF) 1500) (.refl _) fun r7 h=>?_;cbv;refine A8 hE h (fun _ h=>?_) fun _ h=>?_
  ·cbv;cases h;exact hK hO (.refl _)
  cbv;refine A4 hE h (c61 N N aA) (.refl _) fun r8 h=>?_;cbv;refine D4 hE ?_;cbv;refine A8 hE h (fun _ h=>?_) fun _ h=>?_
  ·cbv;refine A4 hE h (c60 N (Ar.len aF) r6 1500) (.refl _) fun r9 h=>?_;cbv;cases h;exact hK hO (.refl _)
  cbv;cases h;exact hK hO (.refl _)
 rintro e l H ⟨rfl,rfl,hO⟩;cbv;cases h;exact hK hO (.refl _)
theorem c174 (N:Nat):∀n aA r,U1 N n aA=some r→Fx prog 174 (fun yv=>[(B6 aA),yv]) (List.map (fun(x:A0)=>[(B6 x)]) r) rbB:=by
 intro n
 induction n with
 |zero=>intro aA r h;cases h
 |succ n ih=>
 intro aA r h
 unfold U1 at h
 obtain⟨⟨w0,u0⟩,h1,hr⟩:=bind_some h;clear h;have hr:=AL hr;subst hr;have h:=h1;clear h1;refine N8 cf0 M4 func174 (by rfl) (by kernel_rfl) call174 ntmps174 (by rfl) (fun _=>rfl) ?_;intro yv I D hI hD hy tl F E H K hE hO hK hKD
 have hO:B8 (I (List.map (fun(x:A0)=>[(B6 x)]) (w0++[])++tl)) F [] H:=by rw[List.append_nil];exact hO
 cbv;obtain⟨w1,h1,he⟩:=V3 h;clear h;have h:=h1;clear h1
 rw[he,append_assoc]at hO
 clear he;have hO:B8 (I ([(B6 aA)]::(List.map (fun(x:A0)=>[(B6 x)]) (w1++[])++tl))) F [] _:=hO;refine DD hE hI hD hy hO (.refl _) (fun H hO=>?_) (fun H hO=>?_)
 ·cbv;refine HW hE (nt_eq _) ?_;cbv;refine D4 hE ?_;cbv;obtain⟨w3,w4,s7,hx,h1,he⟩:=Q3 h;clear h;have h:=h1;clear h1
  rw[he,append_assoc]at hO
  clear he;refine Cc cf0 hE M4 (γ:=Unit) (fun s2 g=>[(1,.v (yv)),(12,.v (sr eAr4 aA.cO)),fi 13 (Ar.len aA.cO),fi 14 s2]) (fun s2 g w H1=>B8 (I (List.map (fun(x:A0)=>[(B6 x)]) w++tl)) F [] H1) (fun x e l w H1=>e= .exit 0∧l=[]∧B8 (I (List.map (fun(x:A0)=>[(B6 x)]) w++tl)) F [] H1) (fun e l H1=>(e= .ret∧l=[(4,.b false)]∧B8 D F [] H1)) (by kernel_rfl) ?_ (w':=w4++[]) () hx ?_ ?_ ?_ ?_
  ·rintro s2 _ w5 w6 H o hO h;clear hx
   skip
   cbv;refine A8 hE h (fun _ h=>?_) fun _ h=>?_
   ·cbv;refine B9 hE eAr3 h fun x8 h=>?_;cbv;obtain⟨l9,hl,h⟩:=bind_some h;obtain⟨w10,h1,he⟩:=V3 h;clear h;have h:=h1;clear h1
    rw[he,append_assoc]at hO
    clear he
    rw[List.map_append,append_assoc]at hO
    refine Pd hE hI hD hy (ih x8 l9 hl) hO (.refl _) (fun v H hb hO=>?_) (fun v H hb hO=>?_)
    ·cases hb;clear hl;cbv;refine HW hE (nt_eq _) ?_;cbv;obtain⟨hw,rfl⟩:=C7 h
     rw[←hw]at hO
     exact⟨_,(),rfl,.e4 .z,rfl,hO⟩
    cases hb;clear h hl;cbv;refine HV hE (nt_eq _) ?_;cbv;exact .inr ⟨_,⟨rfl,rfl,hO⟩,.b rfl (.z),rfl⟩
   cbv;obtain⟨hw,rfl⟩:=C7 h
   rw[←hw]at hO
   exact .inl ⟨_,_,rfl,⟨rfl,rfl,hO⟩,.z,rfl⟩
  ·exact .e4 .z
  ·exact hO
  ·rintro e l H ⟨rfl,rfl,hO⟩;clear hx;cbv;obtain⟨hw,_⟩:=C7 h
   rw[←hw]at hO
   exact hK _ _ _ hO rfl
  rintro e l H hX;obtain⟨rfl,rfl,hO⟩:=hX;clear h;cbv;exact hKD _ _ _ hO rfl
 clear h;cbv;refine HV hE (nt_eq _) ?_;cbv;exact hKD _ _ _ hO rfl
theorem c173 (N aH r) (h:Af N aH=some r):Fx prog 173 (fun yv=>[yv,.eref (C0 aH) 0]) (List.map (fun(x:A0)=>[(B6 x)]) r) rbN:=by
 unfold Af at h
 obtain⟨⟨w0,u0⟩,h1,hr⟩:=bind_some h;clear h;have hr:=AL hr;subst hr;have h:=h1;clear h1;refine N8 cf0 M4 func173 (by rfl) (by kernel_rfl) call173 ntmps173 (by rfl) (fun _=>rfl) ?_;intro yv I D hI hD hy tl F E H K hE hO hK hKD
 have hO:B8 (I (List.map (fun(x:A0)=>[(B6 x)]) (w0++[])++tl)) F [] H:=by rw[List.append_nil];exact hO
 cbv;obtain⟨l1,hl,h⟩:=bind_some h;obtain⟨w2,h1,he⟩:=V3 h;clear h;have h:=h1;clear h1
 rw[he,append_assoc]at hO
 clear he
 rw[List.map_append,append_assoc]at hO
 refine Pd hE hI hD hy (c174 N N aH l1 hl) hO (.refl _) (fun v H hb hO=>?_) (fun v H hb hO=>?_)
 ·cases hb;clear hl;cbv;obtain⟨hw,_⟩:=C7 h
  rw[←hw]at hO
  exact hK _ _ _ hO trivial
 cases hb;clear h hl;cbv;exact hKD _ _ _ hO trivial
theorem c145 (N aA r)(h:Q4 N aA=some r):As prog 145 [(B6 aA)] (fun v=>EP prog v (r.map fun(x:A0)=>[(B6 x)])):=by
 unfold Q4 at h
 refine R4 cf0 M4 func145 (by rfl) (by kernel_rfl) call145 ntmps145 (by rfl) (by rfl) ?_;intro E H0 K hE hK;have hO:B8 Eq H0 [] H0:=.start H5 rfl;cbv;exact hK _ _ _ hO (V1 call173 (c173 N aA r h))
theorem c148 (N:Nat):∀n aA r,U2 N n aA=some r→B3 prog 148 [(B6 aA)] (.tup [vi r.1,vi r.2]):=by
 intro n
 induction n with
 |zero=>intro aA r h;cases h
 |succ n ih=>
 intro aA r h
 unfold U2 at h
 refine I8 cf0 func148 call148 ntmps148 ?_;intro E H0 K hE hK hO;cbv;refine D4 hE ?_;cbv;obtain⟨s2,hx,h⟩:=bind_some h;refine E3 cf0 hE M4 (fun s1=>[fi 4 s1.1,fi 5 s1.2.1,(11,.v (sr eAr4 aA.cO)),fi 12 (Ar.len aA.cO),fi 13 s1.2.2]) (fun s1 H1=>B8 Eq H0 [] H1) (fun x e l H1=>e= .exit 0∧l=[fi 4 x.1,fi 5 x.2]∧B8 Eq H0 [] H1) (by kernel_rfl) ?_ hx ?_ hO ?_
 ·intro s1 H o hO h;clear hx;cbv;refine A8 hE h (fun _ h=>?_) fun _ h=>?_
  ·cbv;refine B9 hE eAr3 h fun x3 h=>?_;cbv;refine A4 hE h (ih x3) (.refl _) fun r4 h=>?_;cbv;cases h;exact⟨_,rfl,.e rfl (.e4 .z),rfl,hO⟩
  cbv;cases h;exact⟨_,_,rfl,⟨rfl,rfl,hO⟩,.e2 .z,rfl⟩
 ·exact .e rfl (.e4 .z)
 clear hx;rintro e l H ⟨rfl,rfl,hO⟩;cbv;cases h;exact hK hO (.refl _)
theorem c177 (N bH aW bP r)(h:R7 N bH aW bP=some r):B3 prog 177 [.bool bH,vi aW,vi bP] (.bool r):=by
 unfold R7 at h
 refine I8 cf0 func177 call177 ntmps177 ?_;intro E H0 K hE hK hO;cbv;cases h;exact hK hO (.refl _)
theorem c214 (N:Nat):∀n aB r,Bf N n aB=some r→B3 prog 214 [(G0 aB)] (.tup [vi r.1,vi r.2]):=by
 intro n
 induction n with
 |zero=>intro aB r h;cases h
 |succ n ih=>
 intro aB r h
 unfold Bf at h
 refine I8 cf0 func214 call214 ntmps214 ?_;intro E H0 K hE hK hO;cbv;refine D4 hE ?_;cbv;obtain⟨s2,hx,h⟩:=bind_some h;refine E3 cf0 hE M4 (fun s1=>[fi 4 s1.1,fi 5 s1.2.1,(11,.v (sr eAr7 aB.cO)),fi 12 (Ar.len aB.cO),fi 13 s1.2.2]) (fun s1 H1=>B8 Eq H0 [] H1) (fun x e l H1=>e= .exit 0∧l=[fi 4 x.1,fi 5 x.2]∧B8 Eq H0 [] H1) (by kernel_rfl) ?_ hx ?_ hO ?_
 ·intro s1 H o hO h;clear hx;cbv;refine A8 hE h (fun _ h=>?_) fun _ h=>?_
  ·cbv;refine B9 hE eAs1 h fun x3 h=>?_;cbv;refine A4 hE h (ih x3) (.refl _) fun r4 h=>?_;cbv;cases h;exact⟨_,rfl,.e rfl (.e4 .z),rfl,hO⟩
  cbv;cases h;exact⟨_,_,rfl,⟨rfl,rfl,hO⟩,.e2 .z,rfl⟩
 ·exact .e rfl (.e4 .z)
 clear hx;rintro e l H ⟨rfl,rfl,hO⟩;cbv;cases h;exact hK hO (.refl _)
theorem c215 (N:Nat):∀(n:Nat) (aB:A3) (aU:V) (aT:A3→Option Int) (bC:∀y1 q,aT y1=some q→Q7 prog aU [(G0 y1)] (vi q)) (r:Int),AR N n aB aT=some r→B3 prog 215 [(G0 aB),aU] (vi r):=by
 intro n
 induction n with
 |zero=>intro aB aU aT bC r h;cases h
 |succ n ih=>
 intro aB aU aT bC r h
 unfold AR at h
 refine I8 cf0 func215 call215 ntmps215 ?_;intro E H0 K hE hK hO;cbv;refine Y5 hE (g:=fun r1=>vi r1) h (fun r1 hx=>bC aB r1 hx) (.refl _) fun r1 h=>?_;cbv;refine A8 hE h (fun _ h=>?_) fun _ h=>?_
 ·cbv;cases h;exact hK hO (.refl _)
 cbv;refine D4 hE ?_;cbv;obtain⟨s3,hx,h⟩:=bind_some h;refine E3 cf0 hE M4 (fun s2=>[(1,.v (aU)),(16,.v (sr eAr7 aB.cO)),fi 17 (Ar.len aB.cO),fi 18 s2]) (fun s2 H1=>B8 Eq H0 [] H1) (fun x e l H1=>match(generalizing:=false) x with| .inl y=>e= .exit 0∧l=[]∧B8 Eq H0 [] H1| .inr y=>e= .ret∧l=[fi 4 y]∧B8 Eq H0 [] H1) (by kernel_rfl) ?_ hx ?_ hO ?_
 ·intro s2 H o hO h;clear hx;cbv;refine A8 hE h (fun _ h=>?_) fun _ h=>?_
  ·cbv;refine B9 hE eAs1 h fun x4 h=>?_;cbv;refine A4 hE h (ih x4 aU aT bC) (.refl _) fun r5 h=>?_;cbv;refine A8 hE h (fun _ h=>?_) fun _ h=>?_
   ·cbv;cases h;exact⟨_,_,rfl,⟨rfl,rfl,hO⟩,.e rfl .z,rfl⟩
   cbv;cases h;exact⟨_,rfl,.e4 .z,rfl,hO⟩
  cbv;cases h;exact⟨_,_,rfl,⟨rfl,rfl,hO⟩,.z,rfl⟩
 ·exact .e4 .z
 clear hx
 rcases s3 with y6|y7
 ·rintro e l H ⟨rfl,rfl,hO⟩;cbv;cases h;exact hK hO (.refl _)
 rintro e l H ⟨rfl,rfl,hO⟩;cbv;cases h;exact hK hO (.refl _)
theorem c252 (N aQ r)(h:Ei N aQ=some r):B3 prog 252 [vi aQ] (.tup [vi r.1,.bool r.2]):=by
 unfold Ei at h
 refine I8 cf0 func252 call252 ntmps252 ?_;intro E H0 K hE hK hO;cbv;refine A8 hE h (fun _ h=>?_) fun _ h=>?_
 ·cbv;cases h;exact hK hO (.refl _)
 cbv;refine A8 hE h (fun _ h=>?_) fun _ h=>?_
 ·cbv;cases h;exact hK hO (.refl _)
 cbv;refine A8 hE h (fun _ h=>?_) fun _ h=>?_
 ·cbv;cases h;exact hK hO (.refl _)
 cbv;cases h;exact hK hO (.refl _)
def cf253 :Cf:=⟨[],[],[(5,4)],[],[],[]⟩
theorem c253 (N aQ r) (h:Fq N aQ=some r):B3 prog 253 [vi aQ] (.tup [.bool r.1,.bool r.2]):=by
 unfold Fq at h
 refine I8 cf253 func253 call253 ntmps253 ?_;intro E H0 K hE hK hO;cbv;obtain⟨s1,hx,h⟩:=bind_some h;refine U4 cf253 hE M4 (fun e l H1=>e= .normal∧l=[fi 4 aQ,(5,.v (.bool s1))]∧B8 Eq H0 [] H1) (by kernel_rfl) ?_ ?_
 ·clear h;have h:=hx;clear hx;cbv;refine A8 hE h (fun _ h=>?_) fun _ h=>?_
  ·cbv;cases h;exact⟨_,⟨rfl,rfl,hO⟩,.e2 .z,rfl⟩
  cbv;cases h;exact⟨_,⟨rfl,rfl,hO⟩,.e2 .z,rfl⟩
 clear hx;rintro e l H ⟨rfl,rfl,hO⟩;cbv;refine A8 hE h (fun _ h=>?_) fun _ h=>?_
 ·cbv;cases h;exact hK hO (.refl _)
 cbv;refine A8 hE h (fun _ h=>?_) fun _ h=>?_
 ·cbv;cases h;exact hK hO (.refl _)
 cbv;refine A8 hE h (fun _ h=>?_) fun _ h=>?_
 ·cbv;cases h;exact hK hO (.refl _)
 cbv;cases h;exact hK hO (.refl _)
theorem c295 (N aJ r)(h:DT N aJ=some r):B3 prog 295 [(D3 aJ)] (vi r):=by
 unfold DT at h
 refine I8 cf0 func295 call295 ntmps295 ?_;intro E H0 K hE hK hO;cbv;refine A8 hE h (fun _ h=>?_) fun _ h=>?_
 ·cbv;cases h;exact hK hO (.refl _)
 cbv;refine A8 hE h (fun _ h=>?_) fun _ h=>?_
 ·cbv;cases h;exact hK hO (.refl _)
 cbv;refine A8 hE h (fun _ h=>?_) fun _ h=>?_
 ·cbv;cases h;exact hK hO (.refl _)
 cbv;cases h;exact hK hO (.refl _)
def cf275 :Cf:=⟨[],[],[(5,5)],[],[],[]⟩
theorem c275 (N aJ r) (h:U5 N aJ=some r):B3 prog 275 [(D3 aJ)] (vi r):=by
 unfold U5 at h
 refine I8 cf275 func275 call275 ntmps275 ?_;intro E H0 K hE hK hO;cbv;obtain⟨s1,hx,h⟩:=bind_some h;refine U4 cf275 hE M4 (fun e l H1=>e= .normal∧l=[(1,.v (.eref (P9 aJ) 0)),fi 4 aJ.Kind,(5,.v (.bool s1))]∧B8 Eq H0 [] H1) (by kernel_rfl) ?_ ?_
 ·clear h;have h:=hx;clear hx;cbv;refine A8 hE h (fun _ h=>?_) fun _ h=>?_
  ·cbv;cases h;exact⟨_,⟨rfl,rfl,hO⟩,.e rfl (.e2 .z),rfl⟩
  cbv;cases h;exact⟨_,⟨rfl,rfl,hO⟩,.e rfl (.e2 .z),rfl⟩
 clear hx;rintro e l H ⟨rfl,rfl,hO⟩;cbv;refine A8 hE h (fun _ h=>?_) fun _ h=>?_
 ·cbv;refine A8 hE h (fun _ h=>?_) fun _ h=>?_
  ·cbv;cases h;exact hK hO (.refl _)
  cbv;refine A4 hE h (c295 N aJ) (.refl _) fun r2 h=>?_;cbv;cases h;exact hK hO (.refl _)
 cbv;refine A8 hE h (fun _ h=>?_) fun _ h=>?_
 ·cbv;refine A8 hE h (fun _ h=>?_) fun _ h=>?_
  ·cbv;cases h;exact hK hO (.refl _)
  cbv;refine A4 hE h (c295 N aJ) (.refl _) fun r3 h=>?_;cbv;cases h;exact hK hO (.refl _)
 cbv;cases h;exact hK hO (.refl _)
theorem c276 (N aR aJ r)(h:Eh N aR aJ=some r):B3 prog 276 [vi aR,(D3 aJ)] (.bool r):=by
 unfold Eh at h
 refine I8 cf0 func276 call276 ntmps276 ?_;intro E H0 K hE hK hO;cbv;cases h;exact hK hO (.refl _)
theorem c254 (N aB r) (h:Cj N aB=some r):B3 prog 254 [(G0 aB)] (vi r):=by
 unfold Cj at h
 refine I8 cf0 func254 call254 ntmps254 ?_;intro E H0 K hE hK hO;cbv;refine A4 hE h (c275 N aB.Value) (.refl _) fun r1 h=>?_;cbv;refine A8 hE h (fun _ h=>?_) fun _ h=>?_
 ·cbv;cases h;exact hK hO (.refl _)
 cbv;refine A8 hE h (fun _ h=>?_) fun _ h=>?_
 ·cbv;refine A4 hE h (c276 N aB.Kind aB.Value) (.refl _) fun r2 h=>?_;cbv;refine A8 hE h (fun _ h=>?_) fun _ h=>?_
  ·cbv;cases h;exact hK hO (.refl _)
  cbv;cases h;exact hK hO (.refl _)
 cbv;cases h;exact hK hO (.refl _)
def cf216 :Cf:=⟨[],[],[(73,15)],[],[],[]⟩
theorem c216 (N aB r) (h:DQ N aB=some r):B3 prog 216 [(G0 aB)] (vi r):=by
 unfold DQ at h
 refine I8 cf216 func216 call216 ntmps216 ?_;intro E H0 K hE hK hO;cbv;refine A4 hE h (c252 N aB.Op) (.refl _) fun r1 h=>?_;cbv;refine A8 hE h (fun _ h=>?_) fun _ h=>?_
 ·cbv;cases h;exact hK hO (.refl _)
 cbv;refine D4 hE ?_;cbv;refine A8 hE h (fun _ h=>?_) fun _ h=>?_
 ·cbv;cases h;exact hK hO (.refl _)
 cbv;refine A4 hE h (c253 N aB.Op) (.refl _) fun r2 h=>?_;cbv;refine A8 hE h (fun _ h=>?_) fun _ h=>?_
 ·cbv;cases h;exact hK hO (.refl _)
 cbv;refine A8 hE h (fun _ h=>?_) fun _ h=>?_
 ·cbv;cases h;exact hK hO (.refl _)
 cbv;obtain⟨s3,hx,h⟩:=bind_some h;refine U4 cf216 hE M4 (fun e l H1=>match(generalizing:=false) s3 with| .inl y=>e= .normal∧l=[(1,.v (.eref (Ak aB) 0)),(5,.v (.bool r2.1)),(6,.v (.bool r2.2)),(7,.v (.bool (cmp .eql aB.Op 4))),(8,.v (.bool (Ar.or (cmp .eql aB.Op 4) (cmp .eql aB.Op 0))))]∧B8 Eq H0 [] H1| .inr y=>e= .ret∧l=[fi 2 y]∧B8 Eq H0 [] H1) (by kernel_rfl) ?_ ?_
 ·clear h;have h:=hx;clear hx;cbv;refine A8 hE h (fun _ h=>?_) fun _ h=>?_
  ·cbv;refine A4 hE h (c254 N aB) (.refl _) fun r4 h=>?_;cbv;refine A8 hE h (fun _ h=>?_) fun _ h=>?_
   ·cbv;cases h;exact⟨_,⟨rfl,rfl,hO⟩,.e rfl .z,rfl⟩
   cbv;cases h;exact⟨_,⟨rfl,rfl,hO⟩,.e rfl (.e4 .z),rfl⟩
  cbv;cases h;exact⟨_,⟨rfl,rfl,hO⟩,.e rfl (.e4 .z),rfl⟩
 clear hx
 rcases s3 with y5|y6
 ·rintro e l H ⟨rfl,rfl,hO⟩;cbv;refine A8 hE h (fun _ h=>?_) fun _ h=>?_
  ·cbv;cases h;exact hK hO (.refl _)
  cbv;cases h;exact hK hO (.refl _)
 rintro e l H ⟨rfl,rfl,hO⟩;cbv;cases h;exact hK hO (.refl _)
theorem c178 (N aB r)(h:CH N aB=some r):B3 prog 178 [(G0 aB)] (vi r):=by
 unfold CH at h
 refine I8 cf0 func178 call178 ntmps178 ?_;intro E H0 K hE hK hO;cbv;refine A4 hE h (c214 N N aB) (.refl _) fun r1 h=>?_;cbv;refine A8 hE h (fun _ h=>?_) fun _ h=>?_
 ·cbv;cases h;exact hK hO (.refl _)
 cbv;refine A8 hE h (fun _ h=>?_) fun _ h=>?_
 ·cbv;cases h;exact hK hO (.refl _)
 cbv;refine A4 hE (g:=fun r2=>vi r2) h (fun r2 hx=>c215 N N aB (.func (.func 216) [] []) (fun y1=>DQ N y1) (fun y1 r hx=>B3.value (F:=[]) (C:=[]) (c216 N y1 r hx)) r2 hx) (.refl _) fun r2 h=>?_;cbv;cases h;exact hK hO (.refl _)
def cf179 :Cf:=⟨[],[(6,10)],[],[],[],[]⟩
theorem c179 (N:Nat):∀n aC aD r,DR N n aC aD=some r→B3 prog 179 [(G0 aC),(G0 aD)] (.bool r):=by
 intro n
 induction n with
 |zero=>intro aC aD r h;cases h
 |succ n ih=>
 intro aC aD r h
 unfold DR at h
 refine I8 cf179 func179 call179 ntmps179 ?_;intro E H0 K hE hK hO;cbv;refine D4 hE ?_;cbv;refine D4 hE ?_;cbv;refine A8 hE h (fun _ h=>?_) fun _ h=>?_
 ·cbv;cases h;exact hK hO (.refl _)
 cbv;refine D4 hE ?_;cbv;obtain⟨s2,hx,h⟩:=bind_some h;refine E3 cf179 hE M4 (fun s1=>[(2,.v (.eref (Ak aC) 0)),(3,.v (.eref (Ak aD) 0)),fi 50 (Ar.len aC.cO),fi 51 s1]) (fun s1 H1=>B8 Eq H0 [] H1) (fun x e l H1=>match(generalizing:=false) x with| .inl y=>e= .exit 0∧l=[]∧B8 Eq H0 [] H1| .inr y=>e= .ret∧l=[(4,.b false)]∧B8 Eq H0 [] H1) (by kernel_rfl) ?_ hx ?_ hO ?_
 ·intro s1 H o hO h;clear hx;cbv;refine A8 hE h (fun _ h=>?_) fun _ h=>?_
  ·cbv;refine B9 hE eAs1 h fun x3 h=>?_;cbv;refine B9 hE eAs1 h fun x4 h=>?_;cbv;refine A4 hE h (ih x3 x4) (.refl _) fun r5 h=>?_;cbv;refine A8 hE h (fun _ h=>?_) fun _ h=>?_
   ·cbv;cases h;exact⟨_,_,rfl,⟨rfl,rfl,hO⟩,.b rfl (.z),rfl⟩
   cbv;cases h;exact⟨_,rfl,.e4 .z,rfl,hO⟩
  cbv;cases h;exact⟨_,_,rfl,⟨rfl,rfl,hO⟩,.z,rfl⟩
 ·exact .e4 .z
 clear hx
 rcases s2 with y6|y7
 ·rintro e l H ⟨rfl,rfl,hO⟩;cbv;cases h;exact hK hO (.refl _)
 rintro e l H ⟨rfl,rfl,hO⟩;cbv;cases h;exact hK hO (.refl _)
theorem c180 (N bH aW r)(h:K8 N bH aW=some r):B3 prog 180 [.bool bH,vi aW] (.bool r):=by
 unfold K8 at h
 refine I8 cf0 func180 call180 ntmps180 ?_;intro E H0 K hE hK hO;cbv;cases h;exact hK hO (.refl _)
def cf149 :Cf:=⟨[],[],[(64,10)],[],[],[]⟩
theorem c149 (N aA r) (h:Q8 N aA=some r):B3 prog 149 [(B6 aA)] (vi r):=by
 unfold Q8 at h
 refine I8 cf149 func149 call149 ntmps149 ?_;intro E H0 K hE hK hO;cbv;refine A8 hE h (fun _ h=>?_) fun _ h=>?_
 ·cbv;cases h;exact hK hO (.refl _)
 cbv;refine XQ hE (g:=fun x=>(Gg x)) (l:=D0) rfl (fun _=>rfl) rfl rfl h fun x1 h=>?_;cbv;refine D4 hE ?_;cbv;refine D4 hE ?_;cbv;refine A8 hE h (fun _ h=>?_) fun _ h=>?_
 ·cbv;cases h;exact hK hO (.refl _)
 cbv;refine A4 hE h (c177 N x1.cS aA.Typ 15) (.refl _) fun r2 h=>?_;cbv;refine A8 hE h (fun _ h=>?_) fun _ h=>?_
 ·cbv;cases h;exact hK hO (.refl _)
 cbv;refine A4 hE h (c177 N x1.cS aA.Var 15) (.refl _) fun r3 h=>?_;cbv;refine A8 hE h (fun _ h=>?_) fun _ h=>?_
 ·cbv;cases h;exact hK hO (.refl _)
 cbv;refine A4 hE h (c177 N x1.scope aA.cR 63) (.refl _) fun r4 h=>?_;cbv;refine A8 hE h (fun _ h=>?_) fun _ h=>?_
 ·cbv;cases h;exact hK hO (.refl _)
 cbv;refine A4 hE h (c177 N x1.span aA.Span 1099511627776) (.refl _) fun r5 h=>?_;cbv;refine A8 hE h (fun _ h=>?_) fun _ h=>?_
 ·cbv;cases h;exact hK hO (.refl _)
 cbv;obtain⟨s6,hx,h⟩:=bind_some h;refine U4 cf149 hE M4 (fun e l H1=>match(generalizing:=false) s6 with| .inl y=>e= .normal∧l=[(1,.v (.eref (C0 aA) 0)),(3,.v (.eref (Dr x1) 0))]∧B8 Eq H0 [] H1| .inr y=>e= .ret∧l=[fi 2 y]∧B8 Eq H0 [] H1) (by kernel_rfl) ?_ ?_
 ·clear h;have h:=hx;clear hx;cbv;refine A8 hE h (fun _ h=>?_) fun _ h=>?_
  ·cbv;refine A4 hE h (c178 N aA.cP) (.refl _) fun r7 h=>?_;cbv;refine A8 hE h (fun _ h=>?_) fun _ h=>?_
   ·cbv;cases h;exact⟨_,⟨rfl,rfl,hO⟩,.e rfl .z,rfl⟩
   cbv;cases h;exact⟨_,⟨rfl,rfl,hO⟩,.e2 .z,rfl⟩
  cbv;cases h;exact⟨_,⟨rfl,rfl,hO⟩,.e2 .z,rfl⟩
 clear hx
 rcases s6 with y8|y18
 ·rintro e l H ⟨rfl,rfl,hO⟩;cbv;refine A8 hE h (fun _ h=>?_) fun _ h=>?_
  ·cbv;refine A4 hE h (c179 N N aA.cP (⟨0,[],0,0,0,(⟨0,0,⟨#[]⟩⟩:A5)⟩:A3)) (.cons (.refl _) (.cons (.agg (.cons (.refl _) (.cons (.lit _ (C2)) (.refl _)))) (.refl _))) fun r9 h=>?_;cbv;refine A8 hE h (fun _ h=>?_) fun _ h=>?_
   ·cbv;cases h;exact hK hO (.refl _)
   cbv;refine A4 hE h (c180 N x1.cS aA.Typ) (.refl _) fun r10 h=>?_;cbv;refine A8 hE h (fun _ h=>?_) fun _ h=>?_
   ·cbv;cases h;exact hK hO (.refl _)
   cbv;refine A4 hE h (c180 N x1.cS aA.Var) (.refl _) fun r11 h=>?_;cbv;refine A8 hE h (fun _ h=>?_) fun _ h=>?_
   ·cbv;cases h;exact hK hO (.refl _)
   cbv;refine A4 hE h (c180 N x1.scope aA.cR) (.refl _) fun r12 h=>?_;cbv;refine A8 hE h (fun _ h=>?_) fun _ h=>?_
   ·cbv;cases h;exact hK hO (.refl _)
   cbv;refine A4 hE h (c180 N x1.span aA.Span) (.refl _) fun r13 h=>?_;cbv;refine A8 hE h (fun _ h=>?_) fun _ h=>?_
   ·cbv;cases h;exact hK hO (.refl _)
   cbv;cases h;exact hK hO (.refl _)
  cbv;refine A4 hE h (c180 N x1.cS aA.Typ) (.refl _) fun r14 h=>?_;cbv;refine A8 hE h (fun _ h=>?_) fun _ h=>?_
  ·cbv;cases h;exact hK hO (.refl _)
  cbv;refine A4 hE h (c180 N x1.cS aA.Var) (.refl _) fun r15 h=>?_;cbv;refine A8 hE h (fun _ h=>?_) fun _ h=>?_
  ·cbv;cases h;exact hK hO (.refl _)
  cbv;refine A4 hE h (c180 N x1.scope aA.cR) (.refl _) fun r16 h=>?_;cbv;refine A8 hE h (fun _ h=>?_) fun _ h=>?_
  ·cbv;cases h;exact hK hO (.refl _)
  cbv;refine A4 hE h (c180 N x1.span aA.Span) (.refl _) fun r17 h=>?_;cbv;refine A8 hE h (fun _ h=>?_) fun _ h=>?_
  ·cbv;cases h;exact hK hO (.refl _)
  cbv;cases h;exact hK hO (.refl _)
 rintro e l H ⟨rfl,rfl,hO⟩;cbv;cases h;exact hK hO (.refl _)
def cf117 :Cf:=⟨[2],[],[],[],[],[]⟩
theorem c117 (N aA r) (h:X5 N aA=some r):B3 prog 117 [(B6 aA)] (vi r):=by
 unfold X5 at h
 refine I8 cf117 func117 call117 ntmps117 ?_;intro E H0 K hE hK hO;cbv;refine C3 hE hO fun b1 H hO=>?_;cbv;refine A4 hE h (c148 N N aA) (.refl _) fun r2 h=>?_;cbv;refine A8 hE h (fun _ h=>?_) fun _ h=>?_
 ·cbv;refine A9 hE hO 0 rfl rfl fun H hO=>?_;cbv;refine B1 hE hO 0 rfl ?_;cbv;cases h;exact hK hO (.refl _)
 cbv;refine A8 hE h (fun _ h=>?_) fun _ h=>?_
 ·cbv;refine A9 hE hO 0 rfl rfl fun H hO=>?_;cbv;refine B1 hE hO 0 rfl ?_;cbv;cases h;exact hK hO (.refl _)
 cbv;refine HG hE h (c145 N aA) (.refl _) fun r3 v4 hv4 h=>?_;cbv;obtain⟨o9,hx,h⟩:=bind_some h;refine Lk cf117 hE M4 (ι:=Unit) (enc:=fun(x:A0)=>[(B6 x)]) (fun(s6:Unit) F H=>B8 Eq F [cb b1 [vi 0]] H) (fun(r:Int) e F H=>e= .ret∧B8 Eq F [cb b1 [vi r]] H) (fun i s6 y5=>[(2,.v (.ref b1 0)),(5,.v (.eref (C0 y5) 0))]) (fun i s6 y5 F H=>B8 Eq F [cb b1 [vi 0]] H) (fun _=>B8.stable H5 _) (fun _ _=>E0.con (B8.stable H5 _)) (fun _ _ _=>B8.stable H5 _) hv4 hx (hO) (by decide) (fun _=>rfl) (by kernel_rfl) (by kernel_rfl) ?_ ?_ ?_ ?_
 ·rintro E i8 y5 s6 F7 H hE hO;clear hx h;cbv;exact⟨(),hO,.e2 .z,rfl⟩
 ·rintro E i8 _ y5 s6 F7 H o hE hF h hO;clear hx;cbv;refine A4 hE h (c149 N y5) (.refl _) fun r10 h=>?_;cbv;refine A8 hE h (fun _ h=>?_) fun _ h=>?_
  ·cbv;refine A9 hE hO 0 rfl rfl fun H hO=>?_;cbv;cases h;exact⟨_,rfl,rfl,⟨rfl,hO⟩⟩
  cbv;cases h;exact⟨_,rfl,hO⟩
 ·rintro d11 s13 H rfl hd hO;have hO:B8 Eq H0 [cb b1 [vi 0],.blk d11 DB] H:=B8.dblk hd hO;clear hd;clear hx;cbv;refine A9 hE hO 0 rfl rfl fun H hO=>?_;cbv;refine Jj hE hO 1 rfl fun H hO=>?_;cbv;refine B1 hE hO 0 rfl ?_;cbv;cases h;exact hK hO (.refl _)
 rintro d11 y14 e H rfl hd hX;clear hx
 rcases hX with⟨rfl,hO⟩
 have hO:B8 Eq H0 [cb b1 [vi y14],.blk d11 DB] H:=B8.dblk hd hO;clear hd;cbv;refine Jj hE hO 1 rfl fun H hO=>?_;cbv;refine B1 hE hO 0 rfl ?_;cbv;cases h;exact hK hO (.refl _)
def cf106 :Cf:=⟨[2],[],[],[],[],[]⟩
theorem c106 (N aA r) (h:Bt N aA=some r):B3 prog 106 [(B6 aA)] (vi r):=by
 unfold Bt at h
 refine I8 cf106 func106 call106 ntmps106 ?_;intro E H0 K hE hK hO;cbv;refine C3 hE hO fun b1 H hO=>?_;cbv;refine A4 hE h (c117 N aA) (.refl _) fun r2 h=>?_;cbv;refine A8 hE h (fun _ h=>?_) fun _ h=>?_
 ·cbv;refine A9 hE hO 0 rfl rfl fun H hO=>?_;cbv;refine B1 hE hO 0 rfl ?_;cbv;cases h;exact hK hO (.refl _)
 cbv;refine HG hE h (c145 N aA) (.refl _) fun r3 v4 hv4 h=>?_;cbv;obtain⟨o9,hx,h⟩:=bind_some h;refine Lk cf106 hE M4 (ι:=Unit) (enc:=fun(x:A0)=>[(B6 x)]) (fun(s6:Unit) F H=>B8 Eq F [cb b1 [vi 0]] H) (fun(r:Int) e F H=>e= .ret∧B8 Eq F [cb b1 [vi r]] H) (fun i s6 y5=>[(2,.v (.ref b1 0)),(4,.v (.eref (C0 y5) 0))]) (fun i s6 y5 F H=>B8 Eq F [cb b1 [vi 0]] H) (fun _=>B8.stable H5 _) (fun _ _=>E0.con (B8.stable H5 _)) (fun _ _ _=>B8.stable H5 _) hv4 hx (hO) (by decide) (fun _=>rfl) (by kernel_rfl) (by kernel_rfl) ?_ ?_ ?_ ?_
 ·rintro E i8 y5 s6 F7 H hE hO;clear hx h;cbv;exact⟨(),hO,.e2 .z,rfl⟩
 ·rintro E i8 _ y5 s6 F7 H o hE hF h hO;clear hx;cbv;refine A8 hE h (fun _ h=>?_) fun _ h=>?_
  ·cbv;refine A9 hE hO 0 rfl rfl fun H hO=>?_;cbv;cases h;exact⟨_,rfl,rfl,⟨rfl,hO⟩⟩
  cbv;cases h;exact⟨_,rfl,hO⟩
 ·rintro d10 s12 H rfl hd hO;have hO:B8 Eq H0 [cb b1 [vi 0],.blk d10 DB] H:=B8.dblk hd hO;clear hd;clear hx;cbv;refine A9 hE hO 0 rfl rfl fun H hO=>?_;cbv;refine Jj hE hO 1 rfl fun H hO=>?_;cbv;refine B1 hE hO 0 rfl ?_;cbv;cases h;exact hK hO (.refl _)
 rintro d10 y13 e H rfl hd hX;clear hx
 rcases hX with⟨rfl,hO⟩
 have hO:B8 Eq H0 [cb b1 [vi y13],.blk d10 DB] H:=B8.dblk hd hO;clear hd;cbv;refine Jj hE hO 1 rfl fun H hO=>?_;cbv;refine B1 hE hO 0 rfl ?_;cbv;cases h;exact hK hO (.refl _)
def cf107 :Cf:=⟨[5,6,7],[(11,5)],[(18,7)],[],[],[]⟩
theorem c107 (N aA r) (h:Bu N aA=some r):B3 prog 107 [(B6 aA)] (.tup [vi r.1,vi r.2.1,.bool r.2.2]):=by
 unfold Bu at h
 refine I8 cf107 func107 call107 ntmps107 ?_;intro E H0 K hE hK hO;cbv;refine C3 hE hO fun b1 H hO=>?_;cbv;refine C3 hE hO fun b2 H hO=>?_;cbv;refine C3 hE hO fun b3 H hO=>?_;cbv;refine A9 hE hO 2 rfl rfl fun H hO=>?_;cbv;refine A9 hE hO 1 rfl rfl fun H hO=>?_;cbv;refine A9 hE hO 0 rfl rfl fun H hO=>?_;cbv;refine HG hE h (c145 N aA) (.refl _) fun r4 v5 hv5 h=>?_;cbv;obtain⟨o10,hx,h⟩:=bind_some h;refine Lk cf107 hE M4 (ι:=Unit) (enc:=fun(x:A0)=>[(B6 x)]) (fun(s7:Bool×Int×Int) F H=>B8 Eq F [cb b3 [.bool s7.1],cb b2 [vi s7.2.1],cb b1 [vi s7.2.2]] H) (fun(r:Unit) e F H=>False) (fun i s7 y6=>[(5,.v (.ref b1 0)),(6,.v (.ref b2 0)),(7,.v (.ref b3 0)),(8,.v (.eref (C0 y6) 0))]) (fun i s7 y6 F H=>B8 Eq F [cb b3 [.bool s7.1],cb b2 [vi s7.2.1],cb b1 [vi s7.2.2]] H) (fun _=>B8.stable H5 _) (fun _ _=>⟨fun h=>h.elim,fun _ _ h=>h.elim⟩) (fun _ _ _=>B8.stable H5 _) hv5 hx (hO) (by decide) (fun _=>rfl) (by kernel_rfl) (by kernel_rfl) ?_ ?_ ?_ ?_
 ·rintro E i9 y6 s7 F8 H hE hO;clear hx h;cbv;exact⟨(),hO,.e4 .z,rfl⟩
 ·rintro E i9 _ y6 s7 F8 H o hE hF h hO;clear hx;cbv;refine XQ hE (g:=fun x=>(Gg x)) (l:=D0) rfl (fun _=>rfl) rfl rfl h fun x11 h=>?_;cbv;obtain⟨s12,hx,h⟩:=bind_some h;refine U4 cf107 hE M4 (fun e l H1=>e= .normal∧l=[(6,.v (.ref b2 0)),(7,.v (.ref b3 0)),(8,.v (.eref (C0 y6) 0)),(9,.v (.eref (Dr x11) 0))]∧B8 Eq F8 [cb b3 [.bool s12.1],cb b2 [vi s7.2.1],cb b1 [vi s12.2]] H1) (by kernel_rfl) ?_ ?_
  ·clear h;have h:=hx;clear hx;cbv;refine A8 hE h (fun _ h=>?_) fun _ h=>?_
   ·cbv;refine B1 hE hO 0 rfl ?_;cbv;refine B1 hE hO 2 rfl ?_;cbv;refine A9 hE hO 0 rfl rfl fun H hO=>?_;cbv;refine B1 hE hO 2 rfl ?_;cbv;refine A9 hE hO 2 rfl rfl fun H hO=>?_;cbv;cases h;exact⟨_,⟨rfl,rfl,hO⟩,.e4 .z,rfl⟩
   cbv;cases h;exact⟨_,⟨rfl,rfl,hO⟩,.e4 .z,rfl⟩
  clear hx;rintro e l H ⟨rfl,rfl,hO⟩;cbv;refine A8 hE h (fun _ h=>?_) fun _ h=>?_
  ·cbv;refine B1 hE hO 0 rfl ?_;cbv;refine B1 hE hO 1 rfl ?_;cbv;refine A9 hE hO 0 rfl rfl fun H hO=>?_;cbv;refine B1 hE hO 1 rfl ?_;cbv;refine A9 hE hO 1 rfl rfl fun H hO=>?_;cbv;cases h;exact⟨_,rfl,hO⟩
  cbv;cases h;exact⟨_,rfl,hO⟩
 ·rintro d13 s15 H rfl hd hO;have hO:B8 Eq H0 [cb b3 [.bool s15.1],cb b2 [vi s15.2.1],cb b1 [vi s15.2.2],.blk d13 DB] H:=B8.dblk hd hO;clear hd;clear hx;cbv;refine B1 hE hO 2 rfl ?_;cbv;refine B1 hE hO 1 rfl ?_;cbv;refine B1 hE hO 0 rfl ?_;cbv;refine Jj hE hO 3 rfl fun H hO=>?_;cbv;cases h;exact hK hO (.refl _)
 rintro d r e H rfl hd hO;exact hO.elim
theorem c49 (N aA r)(h:Bv N aA=some r):B3 prog 49 [(B6 aA)] (vi r):=by
 unfold Bv at h
 refine I8 cf0 func49 call49 ntmps49 ?_;intro E H0 K hE hK hO;cbv;refine A4 hE h (c106 N aA) (.refl _) fun r1 h=>?_;cbv;refine A8 hE h (fun _ h=>?_) fun _ h=>?_
 ·cbv;cases h;exact hK hO (.refl _)
 cbv;refine A4 hE h (c107 N aA) (.refl _) fun r2 h=>?_;cbv;refine A8 hE h (fun _ h=>?_) fun _ h=>?_
 ·cbv;cases h;exact hK hO (.refl _)
 cbv;cases h;exact hK hO (.refl _)
def cf96 :Cf:=⟨[2],[],[],[],[],[]⟩
theorem c96 (N aB r)(h:CI N aB=some r):B3 prog 96 [(BF aB)] ((IW r)):=by
 unfold CI at h
 refine I8 cf96 func96 call96 ntmps96 ?_;intro E H0 K hE hK hO;cbv;refine C3 hE hO fun b1 H hO=>?_;cbv;refine A9 hE hO 0 rfl rfl fun H hO=>?_;cbv;refine B1 hE hO 0 rfl ?_;cbv;cases h;exact hK hO (.refl _)
def cf140 :Cf:=⟨[8],[],[],[],[],[]⟩
theorem c140 (N:Nat) (bN:List E8) (bR:List E8) (cE:V) (cA:E8→E8→Option Int) (cL:∀y1 y2 q,cA y1 y2=some q→Q7 prog cE [(DK y1),(DK y2)] (vi q)) (r:Int) (h:E1 N bN bR cA=some r):B3 prog 140 [sr eAs3 bN,sr eAs3 bR,cE] (vi r):=by
 unfold E1 at h
 refine I8 cf140 func140 call140 ntmps140 ?_;intro E H0 K hE hK hO;cbv;refine D4 hE ?_;cbv;obtain⟨s2,hx,h⟩:=bind_some h;refine E3 cf140 hE M4 (fun s1=>[(0,.v (sr eAs3 bN)),(1,.v (sr eAs3 bR)),(2,.v (cE)),(11,.v (sr eAs3 bN)),fi 12 (Ar.len bN),fi 13 s1]) (fun s1 H1=>B8 Eq H0 [] H1) (fun x e l H1=>match(generalizing:=false) x with| .inl y=>e= .exit 0∧l=[(0,.v (sr eAs3 bN)),(1,.v (sr eAs3 bR))]∧B8 Eq H0 [] H1| .inr y=>e= .ret∧l=[fi 6 y]∧B8 Eq H0 [] H1) (by kernel_rfl) ?_ hx ?_ hO ?_
 ·intro s1 H o hO h;clear hx;cbv;refine A8 hE h (fun _ h=>?_) fun _ h=>?_
  ·cbv;refine B9 hE eAs5 h fun x3 h=>?_;cbv;refine C3 hE hO fun b4 H hO=>?_;cbv;refine A9 hE hO 0 rfl rfl fun H hO=>?_;cbv;refine D4 hE ?_;cbv;refine A8 hE h (fun _ h=>?_) fun _ h=>?_
   ·cbv;cases h;exact⟨_,_,rfl,⟨rfl,rfl,hO.tail⟩,.e rfl .z,rfl⟩
   cbv;refine B9 hE eAs5 h fun x5 h=>?_;cbv;refine B1 hE hO 0 rfl ?_;cbv;refine Y5 hE (g:=fun r6=>vi r6) h (fun r6 hx=>cL x3 x5 r6 hx) (.refl _) fun r6 h=>?_;cbv;refine A8 hE h (fun _ h=>?_) fun _ h=>?_
   ·cbv;cases h;exact⟨_,_,rfl,⟨rfl,rfl,hO.tail⟩,.e rfl .z,rfl⟩
   cbv;cases h;exact⟨_,rfl,.e2 (.e4 .z),rfl,hO.tail⟩
  cbv;cases h;exact⟨_,_,rfl,⟨rfl,rfl,hO⟩,.e2 .z,rfl⟩
 ·exact .e2 (.e4 .z)
 clear hx
 rcases s2 with y7|y8
 ·rintro e l H ⟨rfl,rfl,hO⟩;cbv;refine D4 hE ?_;cbv;refine D4 hE ?_;cbv;refine A8 hE h (fun _ h=>?_) fun _ h=>?_
  ·cbv;cases h;exact hK hO (.refl _)
  cbv;cases h;exact hK hO (.refl _)
 rintro e l H ⟨rfl,rfl,hO⟩;cbv;cases h;exact hK hO (.refl _)
theorem c142 (N bS r) (h:BN N bS=some r):B3 prog 142 [sr (V.int .i64) bS] (vi r):=by
 unfold BN at h
 refine I8 cf0 func142 call142 ntmps142 ?_;intro E H0 K hE hK hO;cbv;refine D4 hE ?_;cbv;obtain⟨s2,hx,h⟩:=bind_some h;refine E3 cf0 hE M4 (fun s1=>[fi 3 0,(6,.v (sr (V.int .i64) bS)),fi 7 (Ar.len bS),fi 8 s1]) (fun s1 H1=>B8 Eq H0 [] H1) (fun x e l H1=>match(generalizing:=false) x with| .inl y=>e= .exit 0∧l=[fi 3 0]∧B8 Eq H0 [] H1| .inr y=>e= .ret∧l=[fi 2 y]∧B8 Eq H0 [] H1) (by kernel_rfl) ?_ hx ?_ hO ?_
 ·intro s1 H o hO h;clear hx;cbv;refine A8 hE h (fun _ h=>?_) fun _ h=>?_
  ·cbv;refine B9 hE (fun _=>rfl) h fun x3 h=>?_;cbv;refine A8 hE h (fun _ h=>?_) fun _ h=>?_
   ·cbv;cases h;exact⟨_,_,rfl,⟨rfl,rfl,hO⟩,.e rfl .z,rfl⟩
   cbv;cases h;exact⟨_,rfl,.e4 .z,rfl,hO⟩
  cbv;cases h;exact⟨_,_,rfl,⟨rfl,rfl,hO⟩,.e rfl .z,rfl⟩
 ·exact .e4 .z
 clear hx
 rcases s2 with y4|y5
 ·rintro e l H ⟨rfl,rfl,hO⟩;cbv;cases h;exact hK hO (.refl _)
 rintro e l H ⟨rfl,rfl,hO⟩;cbv;cases h;exact hK hO (.refl _)
theorem c172 (N aI r)(h:BB N aI=some r):B3 prog 172 [vi aI] (.bool r):=by
 unfold BB at h
 refine I8 cf0 func172 call172 ntmps172 ?_;intro E H0 K hE hK hO;cbv;cases h;exact hK hO (.refl _)
theorem c143 (N aI aN r) (h:J2 N aI aN=some r):B3 prog 143 [vi aI,vi aN] (vi r):=by
 unfold J2 at h
 refine I8 cf0 func143 call143 ntmps143 ?_;intro E H0 K hE hK hO;cbv;refine A4 hE h (c172 N aI) (.refl _) fun r1 h=>?_;cbv;refine A4 hE h (c172 N aN) (.refl _) fun r2 h=>?_;cbv;refine A8 hE h (fun _ h=>?_) fun _ h=>?_
 ·cbv;refine A8 hE h (fun _ h=>?_) fun _ h=>?_
  ·cbv;cases h;exact hK hO (.refl _)
  cbv;cases h;exact hK hO (.refl _)
 cbv;refine A8 hE h (fun _ h=>?_) fun _ h=>?_
 ·cbv;cases h;exact hK hO (.refl _)
 cbv;refine A8 hE h (fun _ h=>?_) fun _ h=>?_
 ·cbv;cases h;exact hK hO (.refl _)
 cbv;refine A8 hE h (fun _ h=>?_) fun _ h=>?_
 ·cbv;cases h;exact hK hO (.refl _)
 cbv;cases h;exact hK hO (.refl _)
def cf139 :Cf:=⟨[],[(1,14)],[],[],[],[]⟩
theorem c139 (N aC aD r)(h:Ea N aC aD=some r):B3 prog 139 [(IW aC),(IW aD)] (vi r):=by
 unfold Ea at h
 refine I8 cf139 func139 call139 ntmps139 ?_;intro E H0 K hE hK hO;cbv;refine D5 hE (g:=fun r1=>vi r1) h (c143 N aC.Time aD.Time) (.refl _) fun r1 h=>?_;cbv;refine D5 hE (g:=fun r2=>vi r2) h (c143 N aC.Source aD.Source) (.refl _) fun r2 h=>?_;cbv;refine A4 hE h (c143 N aC.Seq aD.Seq) (.refl _) fun r3 h=>?_;cbv;refine A4 hE h (c142 N ([r1,r2,r3])) (.cons (.lit _ (D6 (rfl) (D6 (rfl) (D6 (rfl) (C2))))) (.refl _)) fun r4 h=>?_;cbv;cases h;exact hK hO (.refl _)
end Go.Ab
