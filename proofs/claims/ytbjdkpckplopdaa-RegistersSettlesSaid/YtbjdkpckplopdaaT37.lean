/- GRCo5 AbG1 AbG2 AbG3 -/
import Derived.Test.YtbjdkpckplopdaaT36
import Derived.Test.YtbjdkpckplopdaaT26
import Derived.Deep.Slices
import Derived.Carry
import Derived.Lib.LaidTab
set_option linter.all false

namespace Go.Ab
open Go.RowKit Go.Proofs
variable [Ar] [Encs]
set_option maxRecDepth 100000
def cf72 : Cf := ⟨[], [(6, 8)], [], [], [], []⟩
theorem c72 (N : Nat) (x_s1 : List GValue) (x_s2 : List GValue) (r : Bool) (h : slices_Equal_LValue_Value N x_s1 x_s2 = some r) : CallP Try.prog 72 [.sl (Ar.lst Encs.eGValue x_s1) .ro, .sl (Ar.lst Encs.eGValue x_s2) .ro] (.bool r) := by
 unfold slices_Equal_LValue_Value at h
 refine callP_of_spec cf72 okP Try.func72 (by rfl) (by kernel_rfl) Try.call72 Try.ntmps72 (by rfl) (by rfl) ?_;intro E H0 K hE hK
 have hO : Own Eq H0 [] H0 := .start stable_eq rfl
 cbv;refine n_ln hE ?_;cbv;refine n_ln hE ?_;cbv;refine n_br hE h (fun hc h => ?_) (fun hc h => ?_)
 ·cbv;have h := ret_some h;subst h;exact hK _ _ _ hO (.refl _)
 cbv;refine n_ln hE ?_;cbv;obtain ⟨s2, hx, h⟩ := bind_some h;refine n_loopN cf72 hE okP (fun s1 => [(0, .v (.sl (Ar.lst Encs.eGValue x_s1) .ro)), (1, .v (.sl (Ar.lst Encs.eGValue x_s2) .ro)), (12, .v (.int .i64 (Ar.len x_s1))), (13, .v (.int .i64 s1))]) (fun s1 H1 => Own Eq H0 [] H1) (fun x e l H1 => match (generalizing := false) x with | .inl y => e = .exit 0 ∧ l = [] ∧ Own Eq H0 [] H1 | .inr y => e = .ret ∧ l = [(4, .b false)] ∧ Own Eq H0 [] H1) (by kernel_rfl) ?_ hx ?_ hO ?_
 ·intro s1 H o hO h;clear hx;cbv;refine n_br hE h (fun hc h => ?_) (fun hc h => ?_)
  ·cbv;refine n_idx hE Encs.eGValue_eq h fun x3 h => ?_;cbv;refine n_idx hE Encs.eGValue_eq h fun x4 h => ?_;cbv;refine n_br hE h (fun hc h => ?_) (fun hc h => ?_)
   ·cbv;have h := ret_some h;subst h;exact ⟨_, _, rfl, ⟨rfl, rfl, hO⟩, .b rfl (.z), rfl⟩
   cbv;have h := ret_some h;subst h;exact ⟨_, rfl, .e rfl (.e rfl (.e rfl (.e rfl (.z)))), rfl, hO⟩
  cbv;have h := ret_some h;subst h;exact ⟨_, _, rfl, ⟨rfl, rfl, hO⟩, .z, rfl⟩
 ·exact .e rfl (.e rfl (.e rfl (.e rfl (.z))))
 clear hx
 rcases s2 with y5 | y6
 ·rintro e l H ⟨rfl, rfl, hO⟩;cbv;have h := ret_some h;subst h;exact hK _ _ _ hO (.refl _)
 rintro e l H ⟨rfl, rfl, hO⟩;cbv;have h := ret_some h;subst h;exact hK _ _ _ hO (.refl _)
def cf50 : Cf := ⟨[], [], [], [], [], []⟩
theorem c50 (N : Nat) (x_a : GEvent) (x_b : GEvent) (r : Bool) (h : registers_same N x_a x_b = some r) : CallP Try.prog 50 [.agg [.int .i64 x_a.Source, .int .i64 x_a.Seq, .int .i64 x_a.Typ, .int .i64 x_a.Time, .sl (Ar.lst Encs.eGValue x_a.Values) .ro], .agg [.int .i64 x_b.Source, .int .i64 x_b.Seq, .int .i64 x_b.Typ, .int .i64 x_b.Time, .sl (Ar.lst Encs.eGValue x_b.Values) .ro]] (.bool r) := by
 unfold registers_same at h
 refine callP_of_spec cf50 okP Try.func50 (by rfl) (by kernel_rfl) Try.call50 Try.ntmps50 (by rfl) (by rfl) ?_;intro E H0 K hE hK
 have hO : Own Eq H0 [] H0 := .start stable_eq rfl
 cbv;refine n_br hE h (fun hc h => ?_) (fun hc h => ?_)
 ·cbv;refine n_call hE (g := fun r1 => .bool r1) h (fun r1 hx => c72 N x_a.Values x_b.Values r1 hx) (.refl _) fun r1 h => ?_;cbv;have h := ret_some h;subst h;exact hK _ _ _ hO (.refl _)
 cbv;have h := ret_some h;subst h;exact hK _ _ _ hO (.refl _)
def cf48 : Cf := ⟨[], [], [], [], [], []⟩
theorem c48 (N : Nat) (x_x : List GEvent) (x_y : List GEvent) (r : Bool) (h : registers_Agree_1 N x_x x_y = some r) : CallP Try.prog 48 [.sl (Ar.lst Encs.eGEvent x_x) .ro, .sl (Ar.lst Encs.eGEvent x_y) .ro] (.bool r) := by
 unfold registers_Agree_1 at h
 refine callP_of_spec cf48 okP Try.func48 (by rfl) (by kernel_rfl) Try.call48 Try.ntmps48 (by rfl) (by rfl) ?_;intro E H0 K hE hK
 have hO : Own Eq H0 [] H0 := .start stable_eq rfl
 cbv;refine n_call hE (g := fun r1 => .bool r1) h (fun r1 hx => c49 N x_x x_y (.func (.func 50) [] []) (fun y1 y2 => registers_same N y1 y2) (fun y1 y2 r hx => CallP.value (F := []) (C := []) (c50 N y1 y2 r hx)) r1 hx) (.refl _) fun r1 h => ?_;cbv;have h := ret_some h;subst h;exact hK _ _ _ hO (.refl _)
def cf20 : Cf := ⟨[], [(4, 8)], [], [], [], []⟩
theorem c20 (N : Nat) (x_l : List GNeed) (x_a : GEnv) (x_b : GEnv) (r : (Bool × Int)) (h : registers_Agree N x_l x_a x_b = some r) : CallP Try.prog 20 [.sl (Ar.lst Encs.eGNeed x_l) .ro, .agg [.sl (Ar.lst Encs.eLGEvent x_a.Vars) .ro], .agg [.sl (Ar.lst Encs.eLGEvent x_b.Vars) .ro]] (.tup [.bool r.1, .int .i64 r.2]) := by
 unfold registers_Agree at h
 refine callP_of_spec cf20 okP Try.func20 (by rfl) (by kernel_rfl) Try.call20 Try.ntmps20 (by rfl) (by rfl) ?_;intro E H0 K hE hK
 have hO : Own Eq H0 [] H0 := .start stable_eq rfl
 cbv;refine n_call hE (g := fun r1 => .int .i64 r1) h (fun r1 hx => c27 N x_l r1 hx) (.refl _) fun r1 h => ?_;cbv;refine n_br hE h (fun hc h => ?_) (fun hc h => ?_)
 ·cbv;have h := ret_some h;subst h;exact hK _ _ _ hO (.refl _)
 cbv;refine n_pcall hE (g := fun r2 => .agg [.sl (Ar.lst Encs.eLGEvent r2.Vars) .ro]) h (fun r2 hx => c45 N x_l x_a r2 hx) (.refl _) fun r2 h => ?_;cbv;refine n_pcall hE (g := fun r3 => .agg [.sl (Ar.lst Encs.eLGEvent r3.Vars) .ro]) h (fun r3 hx => c45 N x_l x_b r3 hx) (.refl _) fun r3 h => ?_;cbv;refine n_call hE (g := fun r4 => .bool r4) h (fun r4 hx => c47 N r2.Vars r3.Vars (.func (.func 48) [] []) (fun y1 y2 => registers_Agree_1 N y1 y2) (fun y1 y2 r hx => CallP.value (F := []) (C := []) (c48 N y1 y2 r hx)) r4 hx) (.refl _) fun r4 h => ?_;cbv;have h := ret_some h;subst h;exact hK _ _ _ hO (.refl _)
def cf51 : Cf := ⟨[], [], [], [], [], []⟩
theorem c51 (N : Nat) (x_a : List GNeed) (x_b : List GNeed) (r : Int) (h : registers_both N x_a x_b = some r) : CallP Try.prog 51 [.sl (Ar.lst Encs.eGNeed x_a) .ro, .sl (Ar.lst Encs.eGNeed x_b) .ro] (.int .i64 r) := by
 unfold registers_both at h
 refine callP_of_spec cf51 okP Try.func51 (by rfl) (by kernel_rfl) Try.call51 Try.ntmps51 (by rfl) (by rfl) ?_;intro E H0 K hE hK
 have hO : Own Eq H0 [] H0 := .start stable_eq rfl
 cbv;refine n_call hE (g := fun r1 => .int .i64 r1) h (fun r1 hx => c27 N x_a r1 hx) (.refl _) fun r1 h => ?_;cbv;refine n_br hE h (fun hc h => ?_) (fun hc h => ?_)
 ·cbv;have h := ret_some h;subst h;exact hK _ _ _ hO (.refl _)
 cbv;refine n_call hE (g := fun r2 => .int .i64 r2) h (fun r2 hx => c27 N x_b r2 hx) (.refl _) fun r2 h => ?_;cbv;have h := ret_some h;subst h;exact hK _ _ _ hO (.refl _)
def cf23 : Cf := ⟨[], [], [], [], [], []⟩
theorem c23 (N : Nat) (x_a : List GNeed) (x_b : List GNeed) (r : ((List GNeed) × Int)) (h : registers_Join N x_a x_b = some r) : CallP Try.prog 23 [.sl (Ar.lst Encs.eGNeed x_a) .ro, .sl (Ar.lst Encs.eGNeed x_b) .ro] (.tup [.sl (Ar.lst Encs.eGNeed r.1) .ro, .int .i64 r.2]) := by
 unfold registers_Join at h
 refine callP_of_spec cf23 okP Try.func23 (by rfl) (by kernel_rfl) Try.call23 Try.ntmps23 (by rfl) (by rfl) ?_;intro E H0 K hE hK
 have hO : Own Eq H0 [] H0 := .start stable_eq rfl
 cbv;refine n_call hE (g := fun r1 => .int .i64 r1) h (fun r1 hx => c51 N x_a x_b r1 hx) (.refl _) fun r1 h => ?_;cbv;refine n_br hE h (fun hc h => ?_) (fun hc h => ?_)
 ·cbv;have h := ret_some h;subst h;exact hK _ _ _ hO (.tup (.cons (.lit _ (lst_nil)) (.refl _)))
 cbv;refine n_callMF hE h (fun l2 hx => c52 N x_a l2 hx) (.refl _) hO fun l2 m3 o4 H ho4 hO h => ?_;cbv;refine n_callMF hE h (fun l5 hx => c52 N x_b l5 hx) (.refl _) hO fun l5 m6 o7 H ho7 hO h => ?_;cbv;refine n_callM2 hE (g := fun l8 => .bool l8) hO ho4 1 rfl (hO.ne 1 0 rfl rfl (by decide)) (hO.get 0 rfl) ho7 h (fun l8 hx => c41 N l2 l5 l8 hx) fun l8 o9 H ho9 hO _ h => ?_;cbv;refine n_callMR hE (g := fun l10 => .sl (Ar.lst Encs.eGNeed l10) .ro) (hO.get 1 rfl) ho9 h (fun l10 hx => c36 N l8.2 l10 hx) fun l10 h => ?_;cbv;have h := ret_some h;subst h;exact hK _ _ _ hO (.refl _)
def cf6 : Cf := ⟨[], [], [], [], [], []⟩
theorem c6 (N : Nat) (x_a : List GNeed) (x_b : List GNeed) (x_l : GS62) (r : Bool) (h : law26_RegistersSettles N x_a x_b x_l = some r) : CallP Try.prog 6 [.sl (Ar.lst Encs.eGNeed x_a) .ro, .sl (Ar.lst Encs.eGNeed x_b) .ro, .agg [.sl (Ar.lst Encs.eLGEvent x_l.E0.Vars) .ro, .sl (Ar.lst Encs.eLGEvent x_l.E1.Vars) .ro]] (.bool r) := by
 unfold law26_RegistersSettles at h
 refine callP_of_spec cf6 okP Try.func6 (by rfl) (by kernel_rfl) Try.call6 Try.ntmps6 (by rfl) (by rfl) ?_;intro E H0 K hE hK
 have hO : Own Eq H0 [] H0 := .start stable_eq rfl
 cbv;refine n_ln hE ?_;cbv;refine n_ln hE ?_;cbv;refine n_br hE h (fun hc h => ?_) (fun hc h => ?_)
 ·cbv;refine n_call hE (g := fun r1 => .bool r1) h (fun r1 hx => c9 N  r1 hx) (.refl _) fun r1 h => ?_;cbv;have h := ret_some h;subst h;exact hK _ _ _ hO (.refl _)
 cbv;refine n_elemK hE (by kernel_rfl) rfl ?_;cbv;refine n_call hE (g := fun r2 => .bool r2) h (fun r2 hx => c17 N x_l.E0 r2 hx) (.refl _) fun r2 h => ?_;cbv;refine n_br hE h (fun hc h => ?_) (fun hc h => ?_)
 ·cbv;refine n_call hE (g := fun r3 => .bool r3) h (fun r3 hx => c9 N  r3 hx) (.refl _) fun r3 h => ?_;cbv;have h := ret_some h;subst h;exact hK _ _ _ hO (.refl _)
 cbv;refine n_elemK hE (by kernel_rfl) rfl ?_;cbv;refine n_call hE (g := fun r4 => .bool r4) h (fun r4 hx => c17 N x_l.E1 r4 hx) (.refl _) fun r4 h => ?_;cbv;refine n_br hE h (fun hc h => ?_) (fun hc h => ?_)
 ·cbv;refine n_call hE (g := fun r5 => .bool r5) h (fun r5 hx => c9 N  r5 hx) (.refl _) fun r5 h => ?_;cbv;have h := ret_some h;subst h;exact hK _ _ _ hO (.refl _)
 cbv;refine n_call hE (g := fun r6 => .tup [.sl (Ar.lst Encs.eGNeed r6.1) .ro, .int .i64 r6.2]) h (fun r6 hx => c23 N x_a x_b r6 hx) (.refl _) fun r6 h => ?_;cbv;refine n_call hE (g := fun r7 => .tup [.sl (Ar.lst Encs.eGNeed r7.1) .ro, .int .i64 r7.2]) h (fun r7 hx => c23 N x_b x_a r7 hx) (.refl _) fun r7 h => ?_;cbv;refine n_br hE h (fun hc h => ?_) (fun hc h => ?_)
 ·cbv;refine n_call hE (g := fun r8 => .bool r8) h (fun r8 hx => c9 N  r8 hx) (.refl _) fun r8 h => ?_;cbv;have h := ret_some h;subst h;exact hK _ _ _ hO (.refl _)
 cbv;refine n_elemK hE (by kernel_rfl) rfl ?_;cbv;refine n_call hE (g := fun r9 => .tup [.agg [.sl (Ar.lst Encs.eLGEvent r9.1.Vars) .ro], .int .i64 r9.2]) h (fun r9 hx => c18 N x_a x_l.E0 r9 hx) (.refl _) fun r9 h => ?_;cbv;refine n_call hE (g := fun r10 => .tup [.agg [.sl (Ar.lst Encs.eLGEvent r10.1.Vars) .ro], .int .i64 r10.2]) h (fun r10 hx => c18 N x_a r9.1 r10 hx) (.refl _) fun r10 h => ?_;cbv;refine n_elemK hE (by kernel_rfl) rfl ?_;cbv;refine n_call hE (g := fun r11 => .tup [.agg [.sl (Ar.lst Encs.eLGEvent r11.1.Vars) .ro], .int .i64 r11.2]) h (fun r11 hx => c18 N r6.1 x_l.E0 r11 hx) (.refl _) fun r11 h => ?_;cbv;refine n_call hE (g := fun r12 => .tup [.agg [.sl (Ar.lst Encs.eLGEvent r12.1.Vars) .ro], .int .i64 r12.2]) h (fun r12 hx => c18 N x_a r11.1 r12 hx) (.refl _) fun r12 h => ?_;cbv;refine n_elemK hE (by kernel_rfl) rfl ?_;cbv;refine n_elemK hE (by kernel_rfl) rfl ?_;cbv;refine n_call hE (g := fun r13 => .tup [.bool r13.1, .int .i64 r13.2]) h (fun r13 hx => c20 N r6.1 x_l.E0 x_l.E1 r13 hx) (.refl _) fun r13 h => ?_;cbv;refine n_elemK hE (by kernel_rfl) rfl ?_;cbv;refine n_elemK hE (by kernel_rfl) rfl ?_;cbv;refine n_call hE (g := fun r14 => .tup [.bool r14.1, .int .i64 r14.2]) h (fun r14 hx => c20 N x_a x_l.E0 x_l.E1 r14 hx) (.refl _) fun r14 h => ?_;cbv;refine n_br hE h (fun hc h => ?_) (fun hc h => ?_)
 ·cbv;have h := ret_some h;subst h;exact hK _ _ _ hO (.refl _)
 cbv;refine n_call hE (g := fun r15 => .bool r15) h (fun r15 hx => c9 N  r15 hx) (.refl _) fun r15 h => ?_;cbv;refine n_br hE h (fun hc h => ?_) (fun hc h => ?_)
 ·cbv;refine n_call hE (g := fun r16 => .bool r16) h (fun r16 hx => c12 N r6.1 r7.1 r16 hx) (.refl _) fun r16 h => ?_;cbv;refine n_br hE h (fun hc h => ?_) (fun hc h => ?_)
  ·cbv;refine n_call hE (g := fun r17 => .bool r17) h (fun r17 hx => c22 N r9.1 r10.1 r17 hx) (.refl _) fun r17 h => ?_;cbv;refine n_br hE h (fun hc h => ?_) (fun hc h => ?_)
   ·cbv;refine n_call hE (g := fun r18 => .bool r18) h (fun r18 hx => c22 N r9.1 r12.1 r18 hx) (.refl _) fun r18 h => ?_;cbv;have h := ret_some h;subst h;exact hK _ _ _ hO (.refl _)
   cbv;have h := ret_some h;subst h;exact hK _ _ _ hO (.refl _)
  cbv;have h := ret_some h;subst h;exact hK _ _ _ hO (.refl _)
 cbv;have h := ret_some h;subst h;exact hK _ _ _ hO (.refl _)
end Go.Ab

namespace Go.Ab
open Go.RowKit Go.ChangeShapes Go.WideShapes
variable [Glob]
def g0 (W : World) : Gh := ⟨fun _ => none, fun _ => ⟨0, 0, 0⟩, fun _ => none, fun b o => ∃ v, W.cell? ⟨b, o, none⟩ = some v, 0, W.heap.size⟩
theorem rl0 {W : World} (hg : ∀ n, VR (g0 W) W (.pointer (some ⟨n, 0, none⟩)) (Glob.gl n)) : Rl (g0 W) (fun _ => none) W :=
 ⟨fun id b h => (by cases h), fun id id' b h => (by simp [Gh.at] at h), fun b o h => h, fun id _ => ⟨rfl, rfl, rfl⟩, Nat.le_refl _, hg⟩
def RowV (g : Gh) (w : World) (cs : List Value) (xs : List V) : Prop :=
 cs.length = xs.length ∧ ∀ i, i < xs.length → (cs.getD i undef).oneCell' = true ∧ VR g w (cs.getD i undef) (xs.getD i .bad)
theorem RowV.nil (g : Gh) (w : World) : RowV g w [] [] := ⟨rfl, fun i hi => by simp at hi⟩
theorem RowV.one {g : Gh} {w : World} {v : Value} {x : V} (h1 : v.oneCell' = true) (h : VR g w v x) : RowV g w [v] [x] := by
 refine ⟨rfl, fun i hi => ?_⟩
 have : i = 0 := by simpa using hi
 subst this
 exact ⟨h1, h⟩
theorem RowV.append {g : Gh} {w : World} {cs ds : List Value} {xs ys : List V} (h : RowV g w cs xs) (k : RowV g w ds ys) : RowV g w (cs ++ ds) (xs ++ ys) := by
 refine ⟨by simp [h.1, k.1], fun i hi => ?_⟩
 have hl := h.1
 simp only [List.length_append] at hi
 by_cases hx : i < xs.length
 ·have e1 : (cs ++ ds).getD i undef = cs.getD i undef := by simp [List.getD, List.getElem?_append_left (show i < cs.length by omega)]
  have e2 : (xs ++ ys).getD i .bad = xs.getD i .bad := by simp [List.getD, List.getElem?_append_left hx]
  rw [e1, e2]; exact h.2 i hx
 have e1 : (cs ++ ds).getD i undef = ds.getD (i - xs.length) undef := by simp [List.getD, List.getElem?_append_right (show cs.length ≤ i by omega), hl]
 have e2 : (xs ++ ys).getD i .bad = ys.getD (i - xs.length) .bad := by simp [List.getD, List.getElem?_append_right (show xs.length ≤ i by omega)]
 rw [e1, e2]; exact k.2 _ (by omega)
theorem RowV.join {g : Gh} {w : World} {cs : List Value} {xs ys : List V} {a n m : Nat} (h : RowV g w ((cs.drop a).take n) xs) (k : RowV g w ((cs.drop (a + n)).take m) ys) : RowV g w ((cs.drop a).take (n + m)) (xs ++ ys) := by
 have := h.append k
 rwa [show (cs.drop (a + n)) = (cs.drop a).drop n by rw [List.drop_drop], ← List.take_add] at this
theorem RowV.agg {g : Gh} {w : World} {cs : Array Value} {xs : List V} (h : RowV g w cs.toList xs) : VR g w (.agg cs) (.agg xs) := by
 refine .agg (by simpa using h.1) (fun i hi => ?_) fun i hi => ?_
 ·have := (h.2 i hi).1
  simpa [List.getD, Array.getD_eq_getD_getElem?] using this
 have := (h.2 i hi).2
 simpa [List.getD, Array.getD_eq_getD_getElem?] using this
section
variable {H α : Type} {enc : TypeId × Value → H} {P : Program} {W : World} {base : Nat} {spare : Nat → Bool} {held : Bool} {t e : TypeId} {n : Nat}
def Opens (enc : TypeId × Value → H) (P : Program) (W : World) (base : Nat) (spare : Nat → Bool) (held : Bool) (t : TypeId) (f : α → V) (R : α → DataW H → Prop) (n : Nat) : Prop :=
 ∀ cs x, DataW.trod enc P W base spare held n t cs = some x → ∃ a, RowV (g0 W) W cs (f a).cells ∧ R a x.1
theorem opens_int {k : IntKind} (ht : P.underlying t = some (.int k)) : Opens enc P W base spare held t (V.int k) (fun a d => d = .lit (.int k a)) n := by
 intro cs x h
 obtain ⟨a, rfl, rfl, _⟩ := DataW.trod_int ht h
 exact ⟨a, .one rfl (.int _ _), rfl⟩
theorem opens_str (ht : P.underlying t = some .string) : Opens enc P W base spare held t V.str (fun a d => d = .lit (.string a.data.toList) ∧ a.size ≤ maxLen) n := by
 intro cs x h
 obtain ⟨a, rfl, rfl, hl⟩ := DataW.trod_string ht h
 exact ⟨a, .one rfl (.str _), rfl, hl⟩
def RL (R : α → DataW H → Prop) (l : List α) (ds : List (DataW H)) : Prop := l.length = ds.length ∧ ∀ (i : Nat) a d, l[i]? = some a → ds[i]? = some d → R a d
def RS (R : α → DataW H → Prop) (l : List α) (d : DataW H) : Prop := l.length ≤ maxLen ∧ ((d = .nil ∧ l = []) ∨ ∃ es sp, d = .slice es sp ∧ RL R l es)
theorem opens_slice {f : α → V} {R : α → DataW H → Prop} (ht : P.underlying t = some (.slice e)) (hc : 0 < P.cellsOf e) (he : Opens enc P W base spare held e f R n) :
 Opens enc P W base spare held t (fun l : List α => .sl (l.map f) .ro) (RS R) (n + 1) := by
 intro cs x h
 rcases DataW.trod_slice ht h with ⟨rfl, rfl⟩ | ⟨a, len, cap, elems, rest, n', hn, rfl, rfl, hb, hl, hm, hlen, hel, hsp, hns⟩
 ·exact ⟨[], .one rfl (.sl0 rfl), Nat.zero_le _, .inl ⟨rfl, rfl⟩⟩
 have hn' : n' = n := by omega
 subst hn'
 rcases Nat.eq_zero_or_pos len with h0 | h0
 ·subst h0
  have : elems = [] := List.length_eq_zero_iff.1 hlen
  subst this
  exact ⟨[], .one rfl (.sle (.inl rfl)), Nat.zero_le _, .inr ⟨_, _, rfl, rfl, fun i a d hi => by simp at hi⟩⟩
 have one : ∀ i, i < len → ∃ cs' y b, W.cells? base (a.add (i * P.cellsOf e)) (P.cellsOf e) = some cs' ∧ elems[i]? = some y ∧ RowV (g0 W) W cs' (f b).cells ∧ R b y.1 := by
  intro i hi
  have h1 := hel i hi
  have h2 : elems[i]? = some (elems[i]'(by omega)) := by simp [hlen, hi]
  rw [h2] at h1
  obtain ⟨cs', hcs, hy⟩ := Option.bind_eq_some_iff.1 h1
  obtain ⟨b, hr, hR⟩ := he cs' _ hy
  exact ⟨cs', _, b, hcs, h2, hr, hR⟩
 obtain ⟨_, _, b0, _⟩ := one 0 h0
 haveI : Inhabited α := ⟨b0⟩
 obtain ⟨A, hA⟩ := Deep.choose_lt (α := α) (p := fun i b => ∃ cs' y, W.cells? base (a.add (i * P.cellsOf e)) (P.cellsOf e) = some cs' ∧ elems[i]? = some y ∧ RowV (g0 W) W cs' (f b).cells ∧ R b y.1)
  (fun i hi => let ⟨cs', y, b, h1, h2, h3, h4⟩ := one i hi; ⟨b, cs', y, h1, h2, h3, h4⟩)
 have hspot : a.spot = none := by
  obtain ⟨cs', y, h1, _, _, _⟩ := hA 0 h0
  obtain ⟨_, hcl, hcell⟩ := World.cells?_some h1
  have h2 := hcell 0 hc
  have e0 : (a.add (0 * P.cellsOf e)).add 0 = a := by simp [Addr.add]
  rw [e0] at h2
  have h3 : cs'[0]? = some (cs'[0]'(by omega)) := by simp [hcl, hc]
  rw [h3] at h2
  unfold World.cell? at h2
  split at h2
  ·split at h2
   ·cases h2
   rename_i hs; simpa using hs
  cases h2
 obtain ⟨b, o, s⟩ := a
 simp only at hspot
 subst hspot
 let l := (List.range len).map A
 have hll : l.length = len := by simp [l]
 have hg : ∀ i, i < len → (l.map f).getD i .bad = f (A i) := fun i hi => by simp [l, List.getD, hi]
 have cell : ∀ i j, i < len → j < P.cellsOf e → ∃ v, W.cell? ⟨b, o + i * P.cellsOf e + j, none⟩ = some v ∧ v.oneCell' = true ∧ VR (g0 W) W v ((f (A i)).cells.getD j .bad) := by
  intro i j hi hj
  obtain ⟨cs', y, h1, _, hr, _⟩ := hA i hi
  obtain ⟨_, hcl, hcell⟩ := World.cells?_some h1
  have h2 := hcell j hj
  rw [addr_add, addr_add] at h2
  have h3 : cs'[j]? = some (cs'.getD j undef) := by simp [List.getD, hcl, hj]
  rw [h3] at h2
  have := hr.2 j (by rw [← hr.1, hcl]; exact hj)
  exact ⟨_, h2, this.1, this.2⟩
 refine ⟨l, .one rfl ?_, by omega, .inr ⟨_, _, rfl, by simp [hll, hlen], fun i a' d hi hd => ?_⟩⟩
 ·have hz : ∀ i, i < len → ((l.map f).getD i .bad).cells.length = P.cellsOf e := fun i hi => by
   obtain ⟨cs', y, h1, _, hr, _⟩ := hA i hi
   obtain ⟨_, hcl, _⟩ := World.cells?_some h1
   rw [hg i hi, ← hr.1, hcl]
  refine .sl (sz := P.cellsOf e) (fun i j => (W.cell? ⟨b, o + i * P.cellsOf e + j, none⟩).getD undef) (by simp [hll]) hl hz (fun i j hi hj => ?_) (fun i j hi hj => ?_) (fun i j hi hj => ?_) (fun i j hi hj => ?_) trivial
  ·obtain ⟨v, h1, _⟩ := cell i j hi hj; exact ⟨v, h1⟩
  ·obtain ⟨v, h1, _⟩ := cell i j hi hj; rw [h1]; rfl
  ·obtain ⟨v, h1, h2, _⟩ := cell i j hi hj; rw [h1]; exact h2
  obtain ⟨v, h1, h2, h3⟩ := cell i j hi hj; rw [h1, hg i hi]; exact h3
 have hi' : i < len := by
  rcases Nat.lt_or_ge i l.length with h | h
  ·omega
  rw [List.getElem?_eq_none h] at hi; cases hi
 obtain ⟨cs', y, h1, h2, h3, h4⟩ := hA i hi'
 have e1 : a' = A i := by simp [l, hi'] at hi; exact hi.symm
 have e2 : d = y.1 := by simp [h2] at hd; exact hd.symm
 rw [e1, e2]; exact h4
theorem field_some {fs : Array Field} {xs : List (DataW H × List MemPlace)} {cs : List Value} {n : Nat} (hl : xs.length = fs.size)
 (hf : ∀ (i : Nat) (f : Field), fs[i]? = some f → DataW.trod enc P W base spare held n f.type ((cs.drop f.offset).take (P.cellsOf f.type)) = xs[i]?) (i : Nat) {f : Field} (h : fs[i]? = some f) :
 ∃ y, xs[i]? = some y ∧ DataW.trod enc P W base spare held n f.type ((cs.drop f.offset).take (P.cellsOf f.type)) = some y := by
 have hi : i < fs.size := by
  rcases Nat.lt_or_ge i fs.size with h' | h'
  ·exact h'
  rw [Array.getElem?_eq_none h'] at h; cases h
 have h1 : xs[i]? = some (xs[i]'(by omega)) := by simp [hl, hi]
 exact ⟨_, h1, by rw [hf i f h, h1]⟩
end
end Go.Ab

namespace Go.Ab
open Go.RowKit Go.ChangeShapes Go.WideShapes
variable [Glob]
section
variable {H α : Type} {enc : TypeId × Value → H} {P : Program} {W : World} {base : Nat} {spare : Nat → Bool} {held : Bool} {t e : TypeId} {n : Nat}
end
end Go.Ab

namespace Go.Ab
open Go.RowKit Go.ChangeShapes Go.WideShapes
variable [Glob]
section
variable {H : Type} {enc : TypeId × Value → H} {P : Program} {W : World} {base : Nat} {spare : Nat → Bool} {held : Bool} {t e : TypeId} {n : Nat}
theorem trod_arr {m : Nat} (ht : P.underlying t = some (.array m e)) {cs : List Value} {x : DataW H × List MemPlace} (h : DataW.trod enc P W base spare held n t cs = some x) :
 ∃ (xs : List (DataW H × List MemPlace)) (k : Nat), n = k + 1 ∧ cs.length = P.cellsOf t ∧ x.1 = .agg (xs.map (·.1)) ∧ xs.length = m ∧ ∀ i, i < m → DataW.trod enc P W base spare held k e ((cs.drop (i * P.cellsOf e)).take (P.cellsOf e)) = xs[i]? := by
 cases n with
 | zero => simp [DataW.trod] at h
 | succ n =>
  simp only [DataW.trod, ht] at h
  split at h
  ·rename_i hl
   obtain ⟨xs, hmm, rfl⟩ := Option.map_eq_some_iff.1 h
   have hxl : xs.length = m := by simpa using mapM_some_length hmm
   refine ⟨xs, n, rfl, hl, rfl, hxl, fun i hi => ?_⟩
   exact mapM_some_get hmm i i (by simp [hi])
  cases h
theorem arr_fld {m : Nat} {off sz i : Nat} {xs : List (DataW H × List MemPlace)} {cs : List Value} {k : Nat} (hl : xs.length = m) (hf : ∀ i, i < m → DataW.trod enc P W base spare held k e ((cs.drop (i * P.cellsOf e)).take (P.cellsOf e)) = xs[i]?)
 (hi : i < m) (h : (i * P.cellsOf e, P.cellsOf e) = (off, sz)) : ∃ y, xs[i]? = some y ∧ DataW.trod enc P W base spare held k e ((cs.drop off).take sz) = some y := by
 simp only [Prod.mk.injEq] at h
 obtain ⟨rfl, rfl⟩ := h
 have hx : xs[i]? = some (xs[i]'(by omega)) := by rw [List.getElem?_eq_getElem]
 exact ⟨_, hx, by rw [hf i hi, hx]⟩
theorem okWide_array {m : Nat} {W : World} {r : Reach} {base : Nat} {v : Value} (ht : P.underlying t = some (.array m e)) (h : Value.okWide P W r base t v) : ∃ cs, v = .agg cs ∧ cs.size = P.cellsOf t := by
 simp only [Value.okWide, ht] at h
 obtain ⟨cs, h1, h2, _⟩ := h
 exact ⟨cs, h1, h2⟩
end
end Go.Ab

