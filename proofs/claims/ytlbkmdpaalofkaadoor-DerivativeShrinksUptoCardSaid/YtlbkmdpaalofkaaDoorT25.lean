/- A part of the proof: GDCo2. -/
import Derived.Test.YtlbkmdpaalofkaaDoorT24
set_option linter.unusedVariables false
set_option linter.unusedSimpArgs false
set_option linter.unusedSectionVars false

/- The contracts. By program. -/
namespace Go.Ab
open Go.RowKit Go.Proofs

variable [Ar] [Encs]
set_option maxRecDepth 100000

def cf49 : Cf := ⟨[], [], [], [], [], []⟩
theorem c49 (N : Nat) (x_q : GPattern) (x_1 : GPattern) (r : Bool) (h : derivative_index_1 N x_q x_1 = some r) : CallP Tryd.prog 49 [.agg [.int .i64 x_q.Op, .sl (Ar.lst Encs.eGPattern x_q.Args) .ro, .int .i64 x_q.Typ, .int .i64 x_q.Var, .int .i64 x_q.Scope, .int .i64 x_q.Span, .int .i64 x_q.Cond.Op, .sl (Ar.lst Encs.eGExpr x_q.Cond.Args) .ro, .int .i64 x_q.Cond.Var, .int .i64 x_q.Cond.Field, .int .i64 x_q.Cond.Kind, .int .i64 x_q.Cond.Value.Kind, .int .i64 x_q.Cond.Value.Num, .str x_q.Cond.Value.Text], .eref [.int .i64 x_1.Op, .sl (Ar.lst Encs.eGPattern x_1.Args) .ro, .int .i64 x_1.Typ, .int .i64 x_1.Var, .int .i64 x_1.Scope, .int .i64 x_1.Span, .int .i64 x_1.Cond.Op, .sl (Ar.lst Encs.eGExpr x_1.Cond.Args) .ro, .int .i64 x_1.Cond.Var, .int .i64 x_1.Cond.Field, .int .i64 x_1.Cond.Kind, .int .i64 x_1.Cond.Value.Kind, .int .i64 x_1.Cond.Value.Num, .str x_1.Cond.Value.Text] 0] (.bool r) := by
  unfold derivative_index_1 at h
  refine callP_of_spec cf49 okP Tryd.func49 (by rfl) (by kernel_rfl) Tryd.call49 Tryd.ntmps49 (by rfl) (by rfl) ?_
  intro E H0 K hE hK
  have hO : Own Eq H0 [] H0 := .start stable_eq rfl
  cbv
  refine n_call hE (g := fun r1 => .bool r1) h (fun r1 hx => c50 N N x_1 x_q r1 hx) (.refl _) fun r1 h => ?_
  cbv
  have h := ret_some h
  subst h
  exact hK _ _ _ hO (.refl _)

def cf40 : Cf := ⟨[], [], [], [], [], []⟩
theorem c40 (N : Nat) (x_l : List GPattern) (x_p : GPattern) (r : Int) (h : derivative_index N x_l x_p = some r) : CallP Tryd.prog 40 [.sl (Ar.lst Encs.eGPattern x_l) .ro, .agg [.int .i64 x_p.Op, .sl (Ar.lst Encs.eGPattern x_p.Args) .ro, .int .i64 x_p.Typ, .int .i64 x_p.Var, .int .i64 x_p.Scope, .int .i64 x_p.Span, .int .i64 x_p.Cond.Op, .sl (Ar.lst Encs.eGExpr x_p.Cond.Args) .ro, .int .i64 x_p.Cond.Var, .int .i64 x_p.Cond.Field, .int .i64 x_p.Cond.Kind, .int .i64 x_p.Cond.Value.Kind, .int .i64 x_p.Cond.Value.Num, .str x_p.Cond.Value.Text]] (.int .i64 r) := by
  unfold derivative_index at h
  refine callP_of_spec cf40 okP Tryd.func40 (by rfl) (by kernel_rfl) Tryd.call40 Tryd.ntmps40 (by rfl) (by rfl) ?_
  intro E H0 K hE hK
  have hO : Own Eq H0 [] H0 := .start stable_eq rfl
  cbv
  refine n_call hE (g := fun r1 => .int .i64 r1) h (fun r1 hx => c36 N x_l (.func (.func 49) [] [.eref [.int .i64 x_p.Op, .sl (Ar.lst Encs.eGPattern x_p.Args) .ro, .int .i64 x_p.Typ, .int .i64 x_p.Var, .int .i64 x_p.Scope, .int .i64 x_p.Span, .int .i64 x_p.Cond.Op, .sl (Ar.lst Encs.eGExpr x_p.Cond.Args) .ro, .int .i64 x_p.Cond.Var, .int .i64 x_p.Cond.Field, .int .i64 x_p.Cond.Kind, .int .i64 x_p.Cond.Value.Kind, .int .i64 x_p.Cond.Value.Num, .str x_p.Cond.Value.Text] 0]) (fun y1 => derivative_index_1 N y1 x_p) (fun y1 r hx => CallP.value (F := []) (C := [.eref [.int .i64 x_p.Op, .sl (Ar.lst Encs.eGPattern x_p.Args) .ro, .int .i64 x_p.Typ, .int .i64 x_p.Var, .int .i64 x_p.Scope, .int .i64 x_p.Span, .int .i64 x_p.Cond.Op, .sl (Ar.lst Encs.eGExpr x_p.Cond.Args) .ro, .int .i64 x_p.Cond.Var, .int .i64 x_p.Cond.Field, .int .i64 x_p.Cond.Kind, .int .i64 x_p.Cond.Value.Kind, .int .i64 x_p.Cond.Value.Num, .str x_p.Cond.Value.Text] 0]) (c49 N y1 x_p r hx)) r1 hx) (.refl _) fun r1 h => ?_
  cbv
  have h := ret_some h
  subst h
  exact hK _ _ _ hO (.refl _)

def cf64 : Cf := ⟨[], [], [], [], [], []⟩
theorem c64 (N : Nat) (x_1 : GPattern) (r : (List (GEdge × Gderivative_rest))) (h : derivative_pairs_1 N x_1 = some r) : EmitP Tryd.prog 64 (fun yv => [yv, .eref [.int .i64 x_1.Op, .sl (Ar.lst Encs.eGPattern x_1.Args) .ro, .int .i64 x_1.Typ, .int .i64 x_1.Var, .int .i64 x_1.Scope, .int .i64 x_1.Span, .int .i64 x_1.Cond.Op, .sl (Ar.lst Encs.eGExpr x_1.Cond.Args) .ro, .int .i64 x_1.Cond.Var, .int .i64 x_1.Cond.Field, .int .i64 x_1.Cond.Kind, .int .i64 x_1.Cond.Value.Kind, .int .i64 x_1.Cond.Value.Num, .str x_1.Cond.Value.Text] 0]) (List.map (fun (x : (GEdge × Gderivative_rest)) => [.agg [.int .i64 x.1.From, .int .i64 x.1.To, .int .i64 x.1.Var, .int .i64 x.1.Typ, .int .i64 x.1.Cond.Op, .sl (Ar.lst Encs.eGExpr x.1.Cond.Args) .ro, .int .i64 x.1.Cond.Var, .int .i64 x.1.Cond.Field, .int .i64 x.1.Cond.Kind, .int .i64 x.1.Cond.Value.Kind, .int .i64 x.1.Cond.Value.Num, .str x.1.Cond.Value.Text, .sl (Ar.lst (V.int .i64) x.1.Opens) .ro, .sl (Ar.lst (V.int .i64) x.1.Closes) .ro, .sl (Ar.lst Encs.eGExpr x.1.Checks) .ro, .sl (Ar.lst Encs.eGLimit x.1.Limits) .ro, .sl (Ar.lst (V.int .i64) x.1.Inside) .ro], .agg [.bool x.2.done, .int .i64 x.2.p.Op, .sl (Ar.lst Encs.eGPattern x.2.p.Args) .ro, .int .i64 x.2.p.Typ, .int .i64 x.2.p.Var, .int .i64 x.2.p.Scope, .int .i64 x.2.p.Span, .int .i64 x.2.p.Cond.Op, .sl (Ar.lst Encs.eGExpr x.2.p.Cond.Args) .ro, .int .i64 x.2.p.Cond.Var, .int .i64 x.2.p.Cond.Field, .int .i64 x.2.p.Cond.Kind, .int .i64 x.2.p.Cond.Value.Kind, .int .i64 x.2.p.Cond.Value.Num, .str x.2.p.Cond.Value.Text]]) r) rbN := by
  unfold derivative_pairs_1 at h
  obtain ⟨⟨w0, u0⟩, h1, hr⟩ := bind_some h
  clear h
  have hr := ret_some hr
  subst hr
  have h := h1
  clear h1
  refine emitP_of_spec cf64 okP Tryd.func64 (by rfl) (by kernel_rfl) Tryd.call64 Tryd.ntmps64 (by rfl) (fun _ => rfl) ?_
  intro yv I D hI hD hy tl F E H K hE hO hK hKD
  have hO : Own (I (List.map (fun (x : (GEdge × Gderivative_rest)) => [.agg [.int .i64 x.1.From, .int .i64 x.1.To, .int .i64 x.1.Var, .int .i64 x.1.Typ, .int .i64 x.1.Cond.Op, .sl (Ar.lst Encs.eGExpr x.1.Cond.Args) .ro, .int .i64 x.1.Cond.Var, .int .i64 x.1.Cond.Field, .int .i64 x.1.Cond.Kind, .int .i64 x.1.Cond.Value.Kind, .int .i64 x.1.Cond.Value.Num, .str x.1.Cond.Value.Text, .sl (Ar.lst (V.int .i64) x.1.Opens) .ro, .sl (Ar.lst (V.int .i64) x.1.Closes) .ro, .sl (Ar.lst Encs.eGExpr x.1.Checks) .ro, .sl (Ar.lst Encs.eGLimit x.1.Limits) .ro, .sl (Ar.lst (V.int .i64) x.1.Inside) .ro], .agg [.bool x.2.done, .int .i64 x.2.p.Op, .sl (Ar.lst Encs.eGPattern x.2.p.Args) .ro, .int .i64 x.2.p.Typ, .int .i64 x.2.p.Var, .int .i64 x.2.p.Scope, .int .i64 x.2.p.Span, .int .i64 x.2.p.Cond.Op, .sl (Ar.lst Encs.eGExpr x.2.p.Cond.Args) .ro, .int .i64 x.2.p.Cond.Var, .int .i64 x.2.p.Cond.Field, .int .i64 x.2.p.Cond.Kind, .int .i64 x.2.p.Cond.Value.Kind, .int .i64 x.2.p.Cond.Value.Num, .str x.2.p.Cond.Value.Text]]) (w0 ++ []) ++ tl)) F [] H := by rw [List.append_nil]; exact hO
  cbv
  obtain ⟨w1, h1, he⟩ := thenE_ret h
  clear h
  have h := h1
  clear h1
  rw [he, List.append_assoc] at hO
  clear he
  have hO : Own (I ([.agg [.int .i64 0, .int .i64 0, .int .i64 x_1.Var, .int .i64 x_1.Typ, .int .i64 x_1.Cond.Op, .sl (Ar.lst Encs.eGExpr x_1.Cond.Args) .ro, .int .i64 x_1.Cond.Var, .int .i64 x_1.Cond.Field, .int .i64 x_1.Cond.Kind, .int .i64 x_1.Cond.Value.Kind, .int .i64 x_1.Cond.Value.Num, .str x_1.Cond.Value.Text, .sl (Ar.lst (V.int .i64) ([])) .ro, .sl (Ar.lst (V.int .i64) ([])) .ro, .sl (Ar.lst Encs.eGExpr ([])) .ro, .sl (Ar.lst Encs.eGLimit ([])) .ro, .sl (Ar.lst (V.int .i64) ([])) .ro], .agg [.bool true, .int .i64 0, .sl (Ar.lst Encs.eGPattern ([])) .ro, .int .i64 0, .int .i64 0, .int .i64 0, .int .i64 0, .int .i64 0, .sl (Ar.lst Encs.eGExpr ([])) .ro, .int .i64 0, .int .i64 0, .int .i64 0, .int .i64 0, .int .i64 0, .str (⟨#[]⟩)]] :: (List.map (fun (x : (GEdge × Gderivative_rest)) => [.agg [.int .i64 x.1.From, .int .i64 x.1.To, .int .i64 x.1.Var, .int .i64 x.1.Typ, .int .i64 x.1.Cond.Op, .sl (Ar.lst Encs.eGExpr x.1.Cond.Args) .ro, .int .i64 x.1.Cond.Var, .int .i64 x.1.Cond.Field, .int .i64 x.1.Cond.Kind, .int .i64 x.1.Cond.Value.Kind, .int .i64 x.1.Cond.Value.Num, .str x.1.Cond.Value.Text, .sl (Ar.lst (V.int .i64) x.1.Opens) .ro, .sl (Ar.lst (V.int .i64) x.1.Closes) .ro, .sl (Ar.lst Encs.eGExpr x.1.Checks) .ro, .sl (Ar.lst Encs.eGLimit x.1.Limits) .ro, .sl (Ar.lst (V.int .i64) x.1.Inside) .ro], .agg [.bool x.2.done, .int .i64 x.2.p.Op, .sl (Ar.lst Encs.eGPattern x.2.p.Args) .ro, .int .i64 x.2.p.Typ, .int .i64 x.2.p.Var, .int .i64 x.2.p.Scope, .int .i64 x.2.p.Span, .int .i64 x.2.p.Cond.Op, .sl (Ar.lst Encs.eGExpr x.2.p.Cond.Args) .ro, .int .i64 x.2.p.Cond.Var, .int .i64 x.2.p.Cond.Field, .int .i64 x.2.p.Cond.Kind, .int .i64 x.2.p.Cond.Value.Kind, .int .i64 x.2.p.Cond.Value.Num, .str x.2.p.Cond.Value.Text]]) (w1 ++ []) ++ tl))) F [] _ := hO
  refine n_yield hE hI hD hy hO (.cons (.agg (.cons (.refl _) (.cons (.refl _) (.cons (.refl _) (.cons (.refl _) (.cons (.refl _) (.cons (.refl _) (.cons (.refl _) (.cons (.refl _) (.cons (.refl _) (.cons (.refl _) (.cons (.refl _) (.cons (.refl _) (.cons (.lit _ (lst_nil)) (.cons (.lit _ (lst_nil)) (.cons (.lit _ (lst_nil)) (.cons (.lit _ (lst_nil)) (.cons (.lit _ (lst_nil)) (.refl _))))))))))))))))))) (.cons (.agg (.cons (.refl _) (.cons (.refl _) (.cons (.lit _ (lst_nil)) (.cons (.refl _) (.cons (.refl _) (.cons (.refl _) (.cons (.refl _) (.cons (.refl _) (.cons (.lit _ (lst_nil)) (.refl _))))))))))) (.refl _))) (fun H hO => ?_) (fun H hO => ?_)
  · cbv
    obtain ⟨hw, _⟩ := pair_some h
    rw [← hw] at hO
    exact hK _ _ _ hO trivial
  · clear h
    cbv
    exact hKD _ _ _ hO trivial

def cf87 : Cf := ⟨[7], [], [], [], [], []⟩
theorem c87 (N : Nat) (x_s : List GPattern) (r : List GPattern) (h : slices_Clone_LPattern_Pattern N x_s = some r) : CallO Tryd.prog 87 [.sl (Ar.lst Encs.eGPattern x_s) .ro] 14 (Ar.lst Encs.eGPattern r) := by
  unfold slices_Clone_LPattern_Pattern at h
  intro H0
  refine callO_run (T := TT) cf87 okP Tryd.func87 (by rfl) (by kernel_rfl) Tryd.call87 Tryd.ntmps87 (by rfl) (by rfl) ?_
  intro E K hE hK hN
  have hO : Own Eq H0 [] H0 := .start stable_eq rfl
  cbv
  refine n_nilc hE rfl (fun hx => ?_) ?_
  · cbv
    exact hN (appL_nil hx h) [] H0 hO
  · cbv
    refine n_oapp0 hE sz_GPattern (by decide) hO (.inr rfl) (m := x_s) (src_sl hE sz_GPattern (.refl _)) h fun l q H hq hO h => ?_
    cbv
    have h := ret_some h
    subst h
    exact hK q _ _ (okn_lst hE hq) hO

theorem ov100 (vals : Array Value) (w : World) : (callFunc 100 vals).run Tryd.prog w = ((Extern.SlicesOverlaps.overlaps #[22, 22] #[4] vals).run Tryd.prog w).andThen fun v w' => .ok (.value v) w' :=
  run_callFunc_extern Tryd.func100 (by kernel_rfl) (by kernel_rfl) (by kernel_rfl) (e := Extern.SlicesOverlaps.overlaps #[22, 22] #[4]) (by kernel_rfl) vals w

def cf88 : Cf := ⟨[], [(11, 8), (15, 8)], [], [], [], []⟩
set_option maxHeartbeats 1000000 in
theorem c88 (N : Nat) (x_s : List GPattern) (x_i : Int) (x_v : List GPattern) (r : List GPattern) (h : slices_Insert_LPattern_Pattern N x_s x_i x_v = some r) : CallOO Tryd.prog 88 [.int .i64 x_i, .sl (Ar.lst Encs.eGPattern x_v) .ro] 14 (Ar.lst Encs.eGPattern x_s) (Ar.lst Encs.eGPattern r) := by
  unfold slices_Insert_LPattern_Pattern at h
  obtain ⟨x, h1, h2⟩ := bind_some h
  cases ret_some h2
  obtain ⟨h0, h1, h2, hr⟩ := lst_ins (f := Encs.eGPattern) h1
  rw [hr]
  clear hr h
  have hvall := lst_sz sz_GPattern x_v
  generalize Ar.lst Encs.eGPattern x_s = xs at *
  generalize Ar.lst Encs.eGPattern x_v = vs at *
  rintro H ⟨id, lo, n, pre, rest⟩ ⟨e1, e2⟩ hk
  simp only at e1 e2 hk
  refine callOO_run (T := TT) cf88 okP Tryd.func88 (by rfl) (by kernel_rfl) Tryd.call88 Tryd.ntmps88 (by rfl) (by rfl) ?_
  intro E K hE hK
  simp only at hK ⊢
  generalize hrow : pre ++ xs ++ rest = row at hk
  obtain ⟨RL, hRL⟩ : ∃ RL : Int, RL = (row.length : Nat) := ⟨_, rfl⟩
  obtain ⟨M, hM⟩ : ∃ M : Int, M = (vs.length : Nat) := ⟨_, rfl⟩
  have hlen : lo + n ≤ RL := by rw [hRL, ← hrow, e1, e2]; simp; omega
  have hn0 : 0 ≤ lo ∧ 0 ≤ n ∧ x_i ≤ n ∧ 0 ≤ M ∧ n + M ≤ 1073741824 := by omega
  have hwrap : ∀ a b : Int, 0 ≤ a → 0 ≤ b → a + b ≤ 1073741824 → Ar.ar .add .i64 a b = a + b := fun a b ha hb hab => by rw [Ar.ar_eq]; exact wrap_small _ (by omega) (by omega)
  have hwrap2 : ∀ a b : Int, 0 ≤ b → b ≤ a → a ≤ 1073741824 → Ar.ar .sub .i64 a b = a - b := fun a b ha hb hab => by rw [Ar.ar_eq]; exact wrap_small _ (by omega) (by omega)
  have hadd : Ar.ar .add .i64 n M = n + M := hwrap _ _ (by omega) (by omega) (by omega)
  have haddi : Ar.ar .add .i64 x_i M = x_i + M := hwrap _ _ (by omega) (by omega) (by omega)
  have hd2 : Ar.ar .sub .i64 (Ar.ar .add .i64 n M) x_i = n + M - x_i := by rw [hadd]; exact hwrap2 _ x_i h0 (by omega) (by omega)
  have hgt : ∀ c b, Ar.cmp .gtr (Ar.ar .add .i64 n M) c = b → (b = true → c < n + M) ∧ (b = false → n + M ≤ c) := fun c b h => by
    rw [Ar.cmp_eq, hadd] at h; subst h; simp [cmpI]
  have hbn : (n.toNat + vs.length) * 152 ≤ 140737488355328 := mul_bnd (by omega) (by decide)
  have hbn2 : ∀ a b : Int, 0 ≤ a → 0 ≤ b → a + b ≤ 1073741824 → (a.toNat + b.toNat) * 152 ≤ 140737488355328 := fun a b _ _ _ => mul_bnd (by omega) (by decide)
  have hsubl : ∀ l2 n2 : Int, 0 ≤ l2 → 0 ≤ n2 → l2 + n2 ≤ RL → n2 = ((subL row l2 n2).length : Nat) := fun l2 n2 a b c => by rw [subL_length a b (by rw [← hRL]; exact c)]; omega
  have hov : ∀ (r1 r2 ys : List V) (L l YL n : Int), L = (r1.length : Nat) → YL = (ys.length : Nat) → 0 ≤ l → l + YL ≤ L → r2 = over r1 l.toNat (ys.take n.toNat) → L = (r2.length : Nat) := fun r1 r2 ys L l YL n a b c d e => by
    rw [e, over_length (by simp; omega)]; exact a
  have hov2 : ∀ (r1 : List V) (l l2 n2 n : Int), 0 ≤ l → 0 ≤ n → l + n ≤ RL → 0 ≤ l2 → 0 ≤ n2 → r1 = over row l.toNat ((subL row l2 n2).take n.toNat) → RL = (r1.length : Nat) := fun r1 l l2 n2 n a b c _ _ e => by
    rw [e, over_length (by simp; omega)]; exact hRL
  have hnl : ∀ (r2 : List V) (z : V) (j : Nat) (l n d : Int), 0 ≤ l → 0 ≤ n → l + n ≤ RL → 0 ≤ d → r2 = subL row l n ++ List.replicate d.toNat z ++ List.replicate j z → ∃ L : Int, L = (r2.length : Nat) ∧ n + d ≤ L := fun r2 z j l n d a b c e f => ⟨_, rfl, by rw [f]; simp only [List.length_append, List.length_replicate, subL_length a b (by rw [← hRL]; exact c)]; omega⟩
  have hne : ∀ t (b : Option Blk), H t = none → upd H t b id = some (.arr 14 row) := fun t b ht => by rw [upd_other _ _ (fun e => by subst e; rw [hk] at ht; cases ht)]; exact hk
  have hx0 : vs = [] → xs.take x_i.toNat ++ vs ++ xs.drop x_i.toNat = xs := fun e => by rw [e, List.append_nil, List.take_append_drop]
  have hx1 : x_i = n → xs.take x_i.toNat ++ vs ++ xs.drop x_i.toNat = xs ++ vs := fun e => by rw [e, e2, Int.toNat_natCast, List.take_of_length_le (Nat.le_refl _), List.drop_of_length_le (Nat.le_refl _), List.append_nil]
  have hv0 : M = 0 → vs = [] := fun e => List.length_eq_zero_iff.1 (by omega)
  have hcmp : ∀ op a b c, Ar.cmp op a b = c → cmpI op a b = c := fun op a b c h => by rw [← Ar.cmp_eq]; exact h
  cbv
  refine r_oslice hE hk hRL x_i n rfl rfl h0 (by omega) hlen fun _ _ _ _ => ?_
  cbv
  refine r_ln hE hM ?_
  cbv
  refine r_br hE (fun hc => ?_) (fun hc => ?_)
  · cbv
    have hm0 : M = 0 := by simpa [cmpI] using hcmp _ _ _ _ hc
    rw [hx0 (hv0 hm0)] at hK
    refine hK id lo n row pre rest H hrow.symm e1 e2 (.inl rfl) ?_
    rw [upd_upd]; exact upd_le hk
  · cbv
    have hm0 : ¬ M = 0 := by simpa [cmpI] using hcmp _ _ _ _ hc
    refine r_olen hE ?_
    cbv
    refine r_br hE (fun hc2 => ?_) (fun hc2 => ?_)
    · cbv
      have hin2 : x_i = n := by simpa [cmpI] using hcmp _ _ _ _ hc2
      rw [hx1 hin2] at hK
      refine r_oapp hE hk hRL (y := .sl vs .ro) (ys' := vs) ⟨.refl _, hvall⟩ hM (fun hfit m row1 q5 hr1 => ?_) (fun hno => ⟨hbn, fun t m row1 j ht q5 hr1 => ?_⟩)
      · cbv
        have h3 := ins_end hrow.symm e1 e2 hM q5 hr1
        exact hK id lo m row1 pre _ _ h3.1 e1 h3.2 (.inl rfl) (by rw [upd_upd]; exact .refl _)
      · cbv
        have h3 := ins_endN hrow.symm e1 e2 hM q5 hr1
        exact hK t 0 m row1 [] _ _ h3.1 rfl h3.2 (.inr ht) hle_new
    · cbv
      refine r_ocap hE hk hRL fun c hcap => ?_
      cbv
      refine r_br hE (fun hc3 => ?_) (fun hc3 => ?_)
      · have hgr : c < n + M := (hgt c _ hc3).1 rfl
        cbv
        refine r_oslice hE hk hRL 0 x_i rfl rfl (Int.le_refl _) h0 (by omega) fun l1 n1 q1 q2 => ?_
        have q1' : lo = l1 := by omega
        have q2' : x_i = n1 := by omega
        subst q1' q2'
        cbv
        refine r_oappz hE (n + M - x_i) hd2 hk hRL (by omega) (hbn2 _ _ (by omega) (by omega) (by omega)) (fun hfit => absurd hfit (by omega)) (fun hno t m row2 j ht qm hr2 => ?_)
        obtain ⟨L2, hL2, hL2'⟩ := hnl row2 _ j _ _ _ (by omega) (by omega) (by omega) (by omega) hr2
        cbv
        refine r_oslice hE (upd_same _ _ _) hL2 x_i m rfl rfl h0 (by omega) (by omega) fun l1' n1' q1 q2 => ?_
        cbv
        refine r_ocopy hE (upd_same _ _ _) (y := .sl vs .ro) (ys' := vs) ⟨.refl _, hvall⟩ hM fun cm row3 _ hr3 => ?_
        have hL3 := hov row2 row3 vs L2 l1' M n1' hL2 hM (by omega) (by omega) hr3
        rw [upd_upd]
        cbv
        refine r_oslice hE (upd_same _ _ _) hL3 _ m haddi rfl (by omega) (by omega) (by omega) fun l2' n2' q3 q4 => ?_
        cbv
        refine r_oslice hE (hne _ _ ht) hRL x_i n rfl rfl h0 (by omega) hlen fun l3' n3' q5 q6 => ?_
        cbv
        refine r_ocopy hE (upd_same _ _ _) (src_row hE (hne _ _ ht)) (hsubl l3' n3' (by omega) (by omega) (by omega)) fun cm2 row4 _ hr4 => ?_
        rw [upd_upd]
        cbv
        have h3 := ins_new (d := n + M - x_i) (m := m) hrow.symm e1 e2 hM h0 h1 rfl qm hr2 (by omega) q2 hr3 (by omega) (by omega) q5 q6 hr4
        exact hK t 0 m row4 [] _ _ h3.1 rfl h3.2 (.inr ht) hle_new
      · have hle' : n + M ≤ c := (hgt c _ hc3).2 rfl
        cbv
        refine r_oslice hE hk hRL 0 (n + M) rfl hadd (Int.le_refl _) (by omega) (by omega) fun l0 n0 ql qm => ?_
        cbv
        refine r_oslice hE hk hRL _ n0 haddi rfl (by omega) (by omega) (by omega) fun l1 n1 q1 q2 => ?_
        cbv
        refine r_callA hE (callA_overlaps (P := Tryd.prog) (f := 100) (tS := 22) (tR := 4) (e := 29) (sz := 14) (xs := vs) (t := .ro) ov100 (by kernel_rfl) (by kernel_rfl) hk hvall) ?_
        cbv
        refine r_br hE (fun hc4 => ?_) (fun hc4 => ?_)
        rotate_left
        · exact absurd (show Ar.nt false = false from hc4) (by rw [Ar.nt_eq]; decide)
        cbv
        refine r_oslice hE hk hRL _ n0 haddi rfl (by omega) (by omega) (by omega) fun l1 n1 q1 q2 => ?_
        cbv
        refine r_oslice hE hk hRL x_i n0 rfl rfl h0 (by omega) (by omega) fun l2 n2 q3 q4 => ?_
        cbv
        refine r_ocopy hE hk (src_row hE hk) (hsubl l2 n2 (by omega) (by omega) (by omega)) fun cm row1 _ hr1 => ?_
        have hL1 := hov2 row1 l1 l2 n2 n1 (by omega) (by omega) (by omega) (by omega) (by omega) hr1
        cbv
        refine r_oslice hE (upd_same _ _ _) hL1 x_i n0 rfl rfl h0 (by omega) (by omega) fun l3 n3 q5 q6 => ?_
        cbv
        refine r_ocopy hE (upd_same _ _ _) (y := .sl vs .ro) (ys' := vs) ⟨.refl _, hvall⟩ hM fun cm2 row2 _ hr2 => ?_
        rw [upd_upd]
        cbv
        have h3 := ins_in (m := n0) hrow.symm e1 e2 hM h0 h1 hRL (by omega) (by omega) (by omega) q1 q2 q3 q4 hr1 q5 q6 hr2
        exact hK id l0 n0 row2 pre _ _ h3.1 (by omega) h3.2 (.inl rfl) (by rw [upd_upd]; exact .refl _)


def cf89 : Cf := ⟨[4], [], [], [], [], []⟩
theorem c89 (N : Nat) (x_op : Int) (x_args : List GPattern) (r : GPattern) (h : derivative_list N x_op x_args = some r) : CallP Tryd.prog 89 [.int .i64 x_op, .sl (Ar.lst Encs.eGPattern x_args) .ro] (.agg [.int .i64 r.Op, .sl (Ar.lst Encs.eGPattern r.Args) .ro, .int .i64 r.Typ, .int .i64 r.Var, .int .i64 r.Scope, .int .i64 r.Span, .int .i64 r.Cond.Op, .sl (Ar.lst Encs.eGExpr r.Cond.Args) .ro, .int .i64 r.Cond.Var, .int .i64 r.Cond.Field, .int .i64 r.Cond.Kind, .int .i64 r.Cond.Value.Kind, .int .i64 r.Cond.Value.Num, .str r.Cond.Value.Text]) := by
  unfold derivative_list at h
  refine callP_of_spec cf89 okP Tryd.func89 (by rfl) (by kernel_rfl) Tryd.call89 Tryd.ntmps89 (by rfl) (by rfl) ?_
  intro E H0 K hE hK
  have hO : Own Eq H0 [] H0 := .start stable_eq rfl
  cbv
  refine n_alloc hE hO fun b1 H hO => ?_
  cbv
  refine n_ln hE ?_
  cbv
  refine n_br hE h (fun hc h => ?_) (fun hc h => ?_)
  · cbv
    refine n_idx hE Encs.eGPattern_eq h fun x2 h => ?_
    cbv
    refine n_store hE hO 0 rfl rfl fun H hO => ?_
    cbv
    refine n_load hE hO 0 rfl ?_
    cbv
    have h := ret_some h
    subst h
    exact hK _ _ _ hO (.refl _)
  · cbv
    refine n_store hE hO 0 rfl rfl fun H hO => ?_
    cbv
    refine n_load hE hO 0 rfl ?_
    cbv
    have h := ret_some h
    subst h
    exact hK _ _ _ hO (.agg (.cons (.refl _) (.cons (.refl _) (.cons (.refl _) (.cons (.refl _) (.cons (.refl _) (.cons (.refl _) (.cons (.refl _) (.cons (.lit _ (lst_nil)) (.refl _))))))))))

def cf76 : Cf := ⟨[4], [], [(10, 4)], [], [(20, 5), (20, 16)], []⟩
theorem c76 (N : Nat) (x_r : Gderivative_rest) (x_more : List GPattern) (r : Gderivative_rest) (h : derivative_continued N x_r x_more = some r) : CallP Tryd.prog 76 [.agg [.bool x_r.done, .int .i64 x_r.p.Op, .sl (Ar.lst Encs.eGPattern x_r.p.Args) .ro, .int .i64 x_r.p.Typ, .int .i64 x_r.p.Var, .int .i64 x_r.p.Scope, .int .i64 x_r.p.Span, .int .i64 x_r.p.Cond.Op, .sl (Ar.lst Encs.eGExpr x_r.p.Cond.Args) .ro, .int .i64 x_r.p.Cond.Var, .int .i64 x_r.p.Cond.Field, .int .i64 x_r.p.Cond.Kind, .int .i64 x_r.p.Cond.Value.Kind, .int .i64 x_r.p.Cond.Value.Num, .str x_r.p.Cond.Value.Text], .sl (Ar.lst Encs.eGPattern x_more) .ro] (.agg [.bool r.done, .int .i64 r.p.Op, .sl (Ar.lst Encs.eGPattern r.p.Args) .ro, .int .i64 r.p.Typ, .int .i64 r.p.Var, .int .i64 r.p.Scope, .int .i64 r.p.Span, .int .i64 r.p.Cond.Op, .sl (Ar.lst Encs.eGExpr r.p.Cond.Args) .ro, .int .i64 r.p.Cond.Var, .int .i64 r.p.Cond.Field, .int .i64 r.p.Cond.Kind, .int .i64 r.p.Cond.Value.Kind, .int .i64 r.p.Cond.Value.Num, .str r.p.Cond.Value.Text]) := by
  unfold derivative_continued at h
  refine callP_of_spec cf76 okP Tryd.func76 (by rfl) (by kernel_rfl) Tryd.call76 Tryd.ntmps76 (by rfl) (by rfl) ?_
  intro E H0 K hE hK
  have hO : Own Eq H0 [] H0 := .start stable_eq rfl
  cbv
  refine n_alloc hE hO fun b1 H hO => ?_
  cbv
  refine n_callO hE (f := Encs.eGPattern) h (fun l2 hx => c87 N x_more l2 hx) (.refl _) hO fun l2 q3 H hq3 hO h => ?_
  cbv
  obtain ⟨s4, hx, h⟩ := bind_some h
  refine n_join cf76 hE okP (fun e l H1 => ∃ u1 : OG, Okn u1 (Ar.len s4) ∧ e = .normal ∧ l = [(4, .v (.ref b1 0)), (5, .v (.own u1.id u1.lo u1.n))] ∧ Own Eq H0 [.blk u1.id (.arr 14 (u1.pre ++ Ar.lst Encs.eGPattern s4 ++ u1.rest)), .blk b1 (.cells [.bool false, .int .i64 0, .sl [] .nil, .int .i64 0, .int .i64 0, .int .i64 0, .int .i64 0, .int .i64 0, .sl [] .nil, .int .i64 0, .int .i64 0, .int .i64 0, .int .i64 0, .int .i64 0, .str (⟨#[]⟩)])] H1) (by kernel_rfl) ?_ ?_
  · clear h
    have h := hx
    clear hx
    cbv
    refine n_br hE h (fun hc h => ?_) (fun hc h => ?_)
    · cbv
      refine n_callOO hE (f := Encs.eGPattern) hO hq3 0 rfl h (fun l5 hx => c88 N l2 0 ([x_r.p]) l5 hx) (.cons (.refl _) (.cons (.lit _ (lst_cons ((Encs.eGPattern_eq x_r.p).symm) (lst_nil))) (.refl _))) fun l5 q6 H hq6 hO h => ?_
      cbv
      have h := ret_some h
      subst h
      exact ⟨_, ⟨q6, hq6, rfl, rfl, hO⟩, .e rfl (.e rfl (.z)), rfl⟩
    · cbv
      have h := ret_some h
      subst h
      exact ⟨_, ⟨q3, hq3, rfl, rfl, hO⟩, .e rfl (.e rfl (.z)), rfl⟩
  · clear hx
    rintro e l H ⟨q7, hq7, rfl, rfl, hO⟩
    cbv
    refine n_olen hE hq7 ?_
    cbv
    refine n_br hE h (fun hc h => ?_) (fun hc h => ?_)
    · cbv
      refine n_store hE hO 1 rfl rfl fun H hO => ?_
      cbv
      refine n_load hE hO 1 rfl ?_
      cbv
      have h := ret_some h
      subst h
      exact hK _ _ _ hO (.agg (.cons (.refl _) (.cons (.refl _) (.cons (.lit _ (lst_nil)) (.cons (.refl _) (.cons (.refl _) (.cons (.refl _) (.cons (.refl _) (.cons (.refl _) (.cons (.lit _ (lst_nil)) (.refl _)))))))))))
    · cbv
      refine n_ofrz hE hO hq7 0 rfl fun H hO => ?_
      cbv
      refine n_need hE (by trivial) ?_
      cbv
      refine n_call hE (g := fun r8 => .agg [.int .i64 r8.Op, .sl (Ar.lst Encs.eGPattern r8.Args) .ro, .int .i64 r8.Typ, .int .i64 r8.Var, .int .i64 r8.Scope, .int .i64 r8.Span, .int .i64 r8.Cond.Op, .sl (Ar.lst Encs.eGExpr r8.Cond.Args) .ro, .int .i64 r8.Cond.Var, .int .i64 r8.Cond.Field, .int .i64 r8.Cond.Kind, .int .i64 r8.Cond.Value.Kind, .int .i64 r8.Cond.Value.Num, .str r8.Cond.Value.Text]) h (fun r8 hx => c89 N 1 s4 r8 hx) (.refl _) fun r8 h => ?_
      cbv
      refine n_store hE hO 0 rfl rfl fun H hO => ?_
      cbv
      refine n_load hE hO 0 rfl ?_
      cbv
      have h := ret_some h
      subst h
      exact hK _ _ _ hO (.refl _)

def cf90 : Cf := ⟨[], [(5, 6)], [], [], [], []⟩
theorem c90 (N : Nat) (x_s : List GPattern) (x_i x_j : Int) (r : List GPattern) (h : slices_Delete_LPattern_Pattern N x_s x_i x_j = some r) : CallOO Tryd.prog 90 [.int .i64 x_i, .int .i64 x_j] 14 (Ar.lst Encs.eGPattern x_s) (Ar.lst Encs.eGPattern r) := by
  unfold slices_Delete_LPattern_Pattern at h
  obtain ⟨x, h1, h2⟩ := bind_some h
  cases ret_some h2
  obtain ⟨h0, h1, h2, hr⟩ := lst_del (f := Encs.eGPattern) h1
  rw [hr]
  clear hr h
  generalize Ar.lst Encs.eGPattern x_s = xs at *
  rintro H ⟨id, lo, n, pre, rest⟩ ⟨e1, e2⟩ hk
  simp only at e1 e2 hk
  refine callOO_run (T := TT) cf90 okP Tryd.func90 (by rfl) (by kernel_rfl) Tryd.call90 Tryd.ntmps90 (by rfl) (by rfl) ?_
  intro E K hE hK
  simp only at hK ⊢
  generalize hrow : pre ++ xs ++ rest = row at hk
  obtain ⟨RL, hRL⟩ : ∃ RL : Int, RL = (row.length : Nat) := ⟨_, rfl⟩
  have hlen : lo + n ≤ RL := by rw [hRL, ← hrow, e1, e2]; simp; omega
  have hn0 : 0 ≤ lo ∧ 0 ≤ n ∧ x_j ≤ n := by omega
  have hdl : ∀ l2 n2 : Int, 0 ≤ l2 → 0 ≤ n2 → l2 + n2 ≤ RL → n2 = ((subL row l2 n2).length : Nat) := fun l2 n2 a b c => by rw [subL_length a b (by rw [← hRL]; exact c)]; omega
  cbv
  refine r_olen hE ?_
  cbv
  refine r_oslice3 hE hk hRL x_i x_j rfl rfl h0 h1 (by omega) hlen rfl ?_
  cbv
  refine r_br hE (fun hc => ?_) (fun hc => ?_)
  · cbv
    have hij : x_i = x_j := by rw [Ar.cmp_eq] at hc; simpa [cmpI] using hc
    refine hK id lo n row pre rest H ?_ e1 ?_ (.inl rfl) ?_
    · rw [← hrow, hij, List.take_append_drop]
    · rw [hij, List.take_append_drop]; exact e2
    · rw [upd_upd]; intro y b hy
      by_cases ey : y = id
      · subst ey; rw [upd_same] at hy; cases hy; exact hk
      · rwa [upd_other _ _ ey] at hy
  · cbv
    refine r_olen hE ?_
    cbv
    refine r_oslice hE hk hRL 0 x_i rfl rfl (Int.le_refl _) h0 (by omega) fun l1 n1 q1 q2 => ?_
    cbv
    refine r_oslice hE hk hRL x_j n rfl rfl (by omega) (by omega) hlen fun l2 n2 q3 q4 => ?_
    cbv
    have hsl := hdl l2 n2 (by omega) (by omega) (by omega)
    refine r_oapp hE hk hRL (src_row hE hk) hsl (fun hfit m row1 q5 hr1 => ?_) (fun hno => absurd hno (by omega))
    cbv
    refine r_olen hE ?_
    cbv
    have hR1 : RL = (row1.length : Nat) := by rw [hr1, over_length (sub_fit hRL hsl (by omega) (by omega) hfit)]; exact hRL
    refine r_oslice hE (upd_same _ _ _) hR1 m n rfl rfl (by omega) (by omega) (by omega) fun l3 n3 q6 q7 => ?_
    cbv
    refine r_oclear hE (upd_same _ _ _) fun row2 hr2 => ?_
    cbv
    have hd := del_row hrow.symm e1 e2 h0 h1 h2 (by omega) (by omega) q3 q4 hr1 (q5.trans (congrArg (n1 + ·) hsl)) q6 q7 hr2
    rw [upd_upd]
    exact hK id l1 m row2 pre _ _ hd.1 (by omega) hd.2 (.inl rfl) (by rw [upd_upd]; exact .refl _)


def cf77 : Cf := ⟨[6], [], [], [], [(22, 7)], []⟩
theorem c77 (N : Nat) (x_args : List GPattern) (x_at : Int) (x_r : Gderivative_rest) (r : Gderivative_rest) (h : derivative_joined N x_args x_at x_r = some r) : CallP Tryd.prog 77 [.sl (Ar.lst Encs.eGPattern x_args) .ro, .int .i64 x_at, .agg [.bool x_r.done, .int .i64 x_r.p.Op, .sl (Ar.lst Encs.eGPattern x_r.p.Args) .ro, .int .i64 x_r.p.Typ, .int .i64 x_r.p.Var, .int .i64 x_r.p.Scope, .int .i64 x_r.p.Span, .int .i64 x_r.p.Cond.Op, .sl (Ar.lst Encs.eGExpr x_r.p.Cond.Args) .ro, .int .i64 x_r.p.Cond.Var, .int .i64 x_r.p.Cond.Field, .int .i64 x_r.p.Cond.Kind, .int .i64 x_r.p.Cond.Value.Kind, .int .i64 x_r.p.Cond.Value.Num, .str x_r.p.Cond.Value.Text]] (.agg [.bool r.done, .int .i64 r.p.Op, .sl (Ar.lst Encs.eGPattern r.p.Args) .ro, .int .i64 r.p.Typ, .int .i64 r.p.Var, .int .i64 r.p.Scope, .int .i64 r.p.Span, .int .i64 r.p.Cond.Op, .sl (Ar.lst Encs.eGExpr r.p.Cond.Args) .ro, .int .i64 r.p.Cond.Var, .int .i64 r.p.Cond.Field, .int .i64 r.p.Cond.Kind, .int .i64 r.p.Cond.Value.Kind, .int .i64 r.p.Cond.Value.Num, .str r.p.Cond.Value.Text]) := by
  unfold derivative_joined at h
  refine callP_of_spec cf77 okP Tryd.func77 (by rfl) (by kernel_rfl) Tryd.call77 Tryd.ntmps77 (by rfl) (by rfl) ?_
  intro E H0 K hE hK
  have hO : Own Eq H0 [] H0 := .start stable_eq rfl
  cbv
  refine n_alloc hE hO fun b1 H hO => ?_
  cbv
  refine n_callO hE (f := Encs.eGPattern) h (fun l2 hx => c87 N x_args l2 hx) (.refl _) hO fun l2 q3 H hq3 hO h => ?_
  cbv
  refine n_br hE h (fun hc h => ?_) (fun hc h => ?_)
  · cbv
    refine n_callOO hE (f := Encs.eGPattern) hO hq3 0 rfl h (fun l4 hx => c90 N l2 x_at (Ar.ar .add .i64 x_at 1) l4 hx) (.refl _) fun l4 q5 H hq5 hO h => ?_
    cbv
    refine n_ofrz hE hO hq5 0 rfl fun H hO => ?_
    cbv
    refine n_call hE (g := fun r6 => .agg [.int .i64 r6.Op, .sl (Ar.lst Encs.eGPattern r6.Args) .ro, .int .i64 r6.Typ, .int .i64 r6.Var, .int .i64 r6.Scope, .int .i64 r6.Span, .int .i64 r6.Cond.Op, .sl (Ar.lst Encs.eGExpr r6.Cond.Args) .ro, .int .i64 r6.Cond.Var, .int .i64 r6.Cond.Field, .int .i64 r6.Cond.Kind, .int .i64 r6.Cond.Value.Kind, .int .i64 r6.Cond.Value.Num, .str r6.Cond.Value.Text]) h (fun r6 hx => c89 N 3 l4 r6 hx) (.refl _) fun r6 h => ?_
    cbv
    refine n_store hE hO 0 rfl rfl fun H hO => ?_
    cbv
    refine n_load hE hO 0 rfl ?_
    cbv
    have h := ret_some h
    subst h
    exact hK _ _ _ hO (.refl _)
  · cbv
    refine n_oidx hE hO hq3 0 rfl h fun h => ?_
    cbv
    refine n_ostore hE (f := Encs.eGPattern) (u := (fun x7 : GPattern => x_r.p)) (fun _ => ⟨_, .eq (Encs.eGPattern_eq _) (.refl _), (by rw [Encs.eGPattern_eq]; rfl), sz_GPattern _, rfl⟩) (by decide) hO hq3 0 rfl h fun l8 H hq3 h hO => ?_
    cbv
    refine n_ofrz hE hO hq3 0 rfl fun H hO => ?_
    cbv
    refine n_call hE (g := fun r9 => .agg [.int .i64 r9.Op, .sl (Ar.lst Encs.eGPattern r9.Args) .ro, .int .i64 r9.Typ, .int .i64 r9.Var, .int .i64 r9.Scope, .int .i64 r9.Span, .int .i64 r9.Cond.Op, .sl (Ar.lst Encs.eGExpr r9.Cond.Args) .ro, .int .i64 r9.Cond.Var, .int .i64 r9.Cond.Field, .int .i64 r9.Cond.Kind, .int .i64 r9.Cond.Value.Kind, .int .i64 r9.Cond.Value.Num, .str r9.Cond.Value.Text]) h (fun r9 hx => c89 N 3 l8 r9 hx) (.refl _) fun r9 h => ?_
    cbv
    refine n_store hE hO 0 rfl rfl fun H hO => ?_
    cbv
    refine n_load hE hO 0 rfl ?_
    cbv
    have h := ret_some h
    subst h
    exact hK _ _ _ hO (.refl _)

def cf91 : Cf := ⟨[22], [], [], [], [], []⟩
theorem c91 (N : Nat) (x_s : List GExpr) (x_n : Int) (r : List GExpr) (h : slices_Grow_LExpr_Expr N x_s x_n = some r) : CallO Tryd.prog 91 [.sl [] .nil, .int .i64 x_n] 8 (Ar.lst Encs.eGExpr r) := by
  unfold slices_Grow_LExpr_Expr at h
  obtain ⟨h1, h2, hr⟩ := lst_grow (f := Encs.eGExpr) h
  rw [hr]
  clear hr h
  intro H0
  have hneg : ∀ b, Ar.cmp .lss x_n 0 = b → b = false := fun b h => by rw [Ar.cmp_eq] at h; subst h; simp [cmpI]; omega
  have hsub : Ar.ar .sub .i64 x_n (Ar.ar .sub .i64 0 0) = x_n := by rw [Ar.ar_eq, Ar.ar_eq]; simp only [arI]; rw [show (0 : Int) - 0 = 0 from rfl, wrap_small 0 (by omega) (by omega), Int.sub_zero]; exact wrap_small _ (by omega) (by omega)
  have hgt : ∀ b, Ar.cmp .gtr (Ar.ar .sub .i64 x_n (Ar.ar .sub .i64 0 0)) 0 = b → (b = false → x_n = 0) := fun b h => by rw [hsub, Ar.cmp_eq] at h; subst h; simp [cmpI]; omega
  have hbn : x_n.toNat * 88 ≤ 140737488355328 := by have := mul_bnd (a := x_n.toNat) (b := 0) (by_ := 88) (by omega) (by decide); simpa using this
  have hl0 : (0 : Int) = (([] : List V).length : Nat) := rfl
  refine callO_run (T := TT) cf91 okP Tryd.func91 (by rfl) (by kernel_rfl) Tryd.call91 Tryd.ntmps91 (by rfl) (by rfl) ?_
  intro E K hE hK hN
  cbv
  refine r_br hE (fun hc => absurd (hneg _ hc) (by decide)) (fun hc => ?_)
  cbv
  refine r_ln hE hl0 ?_
  cbv
  refine r_br hE (fun hc2 => ?_) (fun hc2 => ?_)
  · cbv
    refine r_slnil hE ?_
    cbv
    refine r_oappz0 hE x_n hsub (.inl rfl) h1 hbn fun t m row j ht hm hrow => ?_
    obtain ⟨RL, hRL, hR0⟩ : ∃ RL : Int, RL = (row.length : Nat) ∧ 0 ≤ RL := ⟨_, rfl, by omega⟩
    cbv
    refine r_ln hE hl0 ?_
    cbv
    refine r_oslice hE (upd_same _ _ _) hRL 0 0 rfl rfl (Int.le_refl _) (Int.le_refl _) hR0 fun l' n' q1 q2 => ?_
    cbv
    have e1 : 0 = l' := by omega
    have e2 : 0 = n' := by omega
    subst e1 e2
    exact hK ⟨t, 0, 0, [], row⟩ [] _ ⟨rfl, rfl⟩ ((Own.start stable_eq rfl).push ht rfl)
  · cbv
    exact hN rfl [] H0 (.start stable_eq rfl)


def cf80 : Cf := ⟨[], [], [], [], [(35, 6)], []⟩
theorem c80 (N : Nat) (x_slices : List (List GExpr)) (r : (List GExpr)) (h : slices_Concat_LExpr_Expr N x_slices = some r) : CallP Tryd.prog 80 [.sl (Ar.lst Encs.eLGExpr x_slices) .ro] (.sl (Ar.lst Encs.eGExpr r) .ro) := by
  unfold slices_Concat_LExpr_Expr at h
  refine callP_of_spec cf80 okP Tryd.func80 (by rfl) (by kernel_rfl) Tryd.call80 Tryd.ntmps80 (by rfl) (by rfl) ?_
  intro E H0 K hE hK
  have hO : Own Eq H0 [] H0 := .start stable_eq rfl
  cbv
  refine n_ln hE ?_
  cbv
  obtain ⟨s2, hx, h⟩ := bind_some h
  refine n_loopN cf80 hE okP (fun s1 => [(0, .v (.sl (Ar.lst Encs.eLGExpr x_slices) .ro)), (3, .v (.int .i64 s1.1)), (9, .v (.sl (Ar.lst Encs.eLGExpr x_slices) .ro)), (10, .v (.int .i64 (Ar.len x_slices))), (11, .v (.int .i64 s1.2))]) (fun s1 H1 => Own Eq H0 [] H1) (fun x e l H1 => e = .exit 0 ∧ l = [(0, .v (.sl (Ar.lst Encs.eLGExpr x_slices) .ro)), (3, .v (.int .i64 x))] ∧ Own Eq H0 [] H1) (by kernel_rfl) ?_ hx ?_ hO ?_
  · intro s1 H o hO h
    clear hx
    cbv
    refine n_br hE h (fun hc h => ?_) (fun hc h => ?_)
    · cbv
      refine n_idx hE Encs.eLGExpr_eq h fun x3 h => ?_
      cbv
      refine n_ln hE ?_
      cbv
      refine n_br hE h (fun hc h => ?_) (fun hc h => ?_)
      · cbv
        cases h
      · cbv
        have h := ret_some h
        subst h
        exact ⟨_, rfl, .e rfl (.e rfl (.e rfl (.e rfl (.e rfl (.z))))), rfl, hO⟩
    · cbv
      have h := ret_some h
      subst h
      exact ⟨_, _, rfl, ⟨rfl, rfl, hO⟩, .e rfl (.e rfl (.z)), rfl⟩
  · exact .e rfl (.e rfl (.e rfl (.e rfl (.e rfl (.z)))))
  · clear hx
    rintro e l H ⟨rfl, rfl, hO⟩
    cbv
    refine n_callO hE (f := Encs.eGExpr) h (fun l4 hx => c91 N [] s2 l4 hx) (.cons (.refl _) (.cons (.refl _) .nil)) hO fun l4 q5 H hq5 hO h => ?_
    cbv
    refine n_ln hE ?_
    cbv
    obtain ⟨s8, hx, h⟩ := bind_some h
    refine n_loopG cf80 hE okP (γ := OG) (fun s6 g => [(6, .v (.own g.id g.lo g.n)), (25, .v (.sl (Ar.lst Encs.eLGExpr x_slices) .ro)), (26, .v (.int .i64 (Ar.len x_slices))), (27, .v (.int .i64 s6.1))]) (fun s6 g H1 => Okn g (Ar.len s6.2) ∧ Own Eq H0 [.blk g.id (.arr 8 (g.pre ++ Ar.lst Encs.eGExpr s6.2 ++ g.rest))] H1) (fun x e l H1 => ∃ u1 : OG, Okn u1 (Ar.len x) ∧ e = .exit 2 ∧ l = [(6, .v (.own u1.id u1.lo u1.n))] ∧ Own Eq H0 [.blk u1.id (.arr 8 (u1.pre ++ Ar.lst Encs.eGExpr x ++ u1.rest))] H1) (by kernel_rfl) ?_ q5 hx ?_ ?_ ?_
    · rintro s6 q7 H o ⟨hq7, hO⟩ h
      clear hx
      cbv
      refine n_br hE h (fun hc h => ?_) (fun hc h => ?_)
      · cbv
        refine n_idx hE Encs.eLGExpr_eq h fun x9 h => ?_
        cbv
        refine n_oapp (f := Encs.eGExpr) hE sz_GExpr (by decide) hO hq7 0 rfl (m := x9) (src_sl (f := Encs.eGExpr) hE sz_GExpr (.refl _)) h fun l11 q10 H hq10 hO h => ?_
        cbv
        have h := ret_some h
        subst h
        exact ⟨_, q10, rfl, .e rfl (.e rfl (.e rfl (.e rfl (.z)))), rfl, hq10, hO⟩
      · cbv
        have h := ret_some h
        subst h
        exact ⟨_, _, rfl, ⟨q7, hq7, rfl, rfl, hO⟩, .e rfl (.z), rfl⟩
    · exact .e rfl (.e rfl (.e rfl (.e rfl (.z))))
    · exact ⟨hq5, hO⟩
    · clear hx
      rintro e l H ⟨q12, hq12, rfl, rfl, hO⟩
      cbv
      refine n_ofrz hE hO hq12 0 rfl fun H hO => ?_
      cbv
      have h := ret_some h
      subst h
      exact hK _ _ _ hO (.refl _)

def cf102 : Cf := ⟨[22], [], [], [], [], []⟩
theorem c102 (N : Nat) (x_s : List Int) (x_n : Int) (r : List Int) (h : slices_Grow_Lint_int N x_s x_n = some r) : CallO Tryd.prog 102 [.sl [] .nil, .int .i64 x_n] 1 (Ar.lst (V.int .i64) r) := by
  unfold slices_Grow_Lint_int at h
  obtain ⟨h1, h2, hr⟩ := lst_grow (f := (V.int .i64)) h
  rw [hr]
  clear hr h
  intro H0
  have hneg : ∀ b, Ar.cmp .lss x_n 0 = b → b = false := fun b h => by rw [Ar.cmp_eq] at h; subst h; simp [cmpI]; omega
  have hsub : Ar.ar .sub .i64 x_n (Ar.ar .sub .i64 0 0) = x_n := by rw [Ar.ar_eq, Ar.ar_eq]; simp only [arI]; rw [show (0 : Int) - 0 = 0 from rfl, wrap_small 0 (by omega) (by omega), Int.sub_zero]; exact wrap_small _ (by omega) (by omega)
  have hgt : ∀ b, Ar.cmp .gtr (Ar.ar .sub .i64 x_n (Ar.ar .sub .i64 0 0)) 0 = b → (b = false → x_n = 0) := fun b h => by rw [hsub, Ar.cmp_eq] at h; subst h; simp [cmpI]; omega
  have hbn : x_n.toNat * 8 ≤ 140737488355328 := by have := mul_bnd (a := x_n.toNat) (b := 0) (by_ := 8) (by omega) (by decide); simpa using this
  have hl0 : (0 : Int) = (([] : List V).length : Nat) := rfl
  refine callO_run (T := TT) cf102 okP Tryd.func102 (by rfl) (by kernel_rfl) Tryd.call102 Tryd.ntmps102 (by rfl) (by rfl) ?_
  intro E K hE hK hN
  cbv
  refine r_br hE (fun hc => absurd (hneg _ hc) (by decide)) (fun hc => ?_)
  cbv
  refine r_ln hE hl0 ?_
  cbv
  refine r_br hE (fun hc2 => ?_) (fun hc2 => ?_)
  · cbv
    refine r_slnil hE ?_
    cbv
    refine r_oappz0 hE x_n hsub (.inl rfl) h1 hbn fun t m row j ht hm hrow => ?_
    obtain ⟨RL, hRL, hR0⟩ : ∃ RL : Int, RL = (row.length : Nat) ∧ 0 ≤ RL := ⟨_, rfl, by omega⟩
    cbv
    refine r_ln hE hl0 ?_
    cbv
    refine r_oslice hE (upd_same _ _ _) hRL 0 0 rfl rfl (Int.le_refl _) (Int.le_refl _) hR0 fun l' n' q1 q2 => ?_
    cbv
    have e1 : 0 = l' := by omega
    have e2 : 0 = n' := by omega
    subst e1 e2
    exact hK ⟨t, 0, 0, [], row⟩ [] _ ⟨rfl, rfl⟩ ((Own.start stable_eq rfl).push ht rfl)
  · cbv
    exact hN rfl [] H0 (.start stable_eq rfl)


def cf92 : Cf := ⟨[], [], [], [], [(35, 6)], []⟩
theorem c92 (N : Nat) (x_slices : List (List Int)) (r : (List Int)) (h : slices_Concat_Lint_int N x_slices = some r) : CallP Tryd.prog 92 [.sl (Ar.lst Encs.eLI x_slices) .ro] (.sl (Ar.lst (V.int .i64) r) .ro) := by
  unfold slices_Concat_Lint_int at h
  refine callP_of_spec cf92 okP Tryd.func92 (by rfl) (by kernel_rfl) Tryd.call92 Tryd.ntmps92 (by rfl) (by rfl) ?_
  intro E H0 K hE hK
  have hO : Own Eq H0 [] H0 := .start stable_eq rfl
  cbv
  refine n_ln hE ?_
  cbv
  obtain ⟨s2, hx, h⟩ := bind_some h
  refine n_loopN cf92 hE okP (fun s1 => [(0, .v (.sl (Ar.lst Encs.eLI x_slices) .ro)), (3, .v (.int .i64 s1.1)), (9, .v (.sl (Ar.lst Encs.eLI x_slices) .ro)), (10, .v (.int .i64 (Ar.len x_slices))), (11, .v (.int .i64 s1.2))]) (fun s1 H1 => Own Eq H0 [] H1) (fun x e l H1 => e = .exit 0 ∧ l = [(0, .v (.sl (Ar.lst Encs.eLI x_slices) .ro)), (3, .v (.int .i64 x))] ∧ Own Eq H0 [] H1) (by kernel_rfl) ?_ hx ?_ hO ?_
  · intro s1 H o hO h
    clear hx
    cbv
    refine n_br hE h (fun hc h => ?_) (fun hc h => ?_)
    · cbv
      refine n_idx hE Encs.eLI_eq h fun x3 h => ?_
      cbv
      refine n_ln hE ?_
      cbv
      refine n_br hE h (fun hc h => ?_) (fun hc h => ?_)
      · cbv
        cases h
      · cbv
        have h := ret_some h
        subst h
        exact ⟨_, rfl, .e rfl (.e rfl (.e rfl (.e rfl (.e rfl (.z))))), rfl, hO⟩
    · cbv
      have h := ret_some h
      subst h
      exact ⟨_, _, rfl, ⟨rfl, rfl, hO⟩, .e rfl (.e rfl (.z)), rfl⟩
  · exact .e rfl (.e rfl (.e rfl (.e rfl (.e rfl (.z)))))
  · clear hx
    rintro e l H ⟨rfl, rfl, hO⟩
    cbv
    refine n_callO hE (f := (V.int .i64)) h (fun l4 hx => c102 N [] s2 l4 hx) (.cons (.refl _) (.cons (.refl _) .nil)) hO fun l4 q5 H hq5 hO h => ?_
    cbv
    refine n_ln hE ?_
    cbv
    obtain ⟨s8, hx, h⟩ := bind_some h
    refine n_loopG cf92 hE okP (γ := OG) (fun s6 g => [(6, .v (.own g.id g.lo g.n)), (25, .v (.sl (Ar.lst Encs.eLI x_slices) .ro)), (26, .v (.int .i64 (Ar.len x_slices))), (27, .v (.int .i64 s6.1))]) (fun s6 g H1 => Okn g (Ar.len s6.2) ∧ Own Eq H0 [.blk g.id (.arr 1 (g.pre ++ Ar.lst (V.int .i64) s6.2 ++ g.rest))] H1) (fun x e l H1 => ∃ u1 : OG, Okn u1 (Ar.len x) ∧ e = .exit 2 ∧ l = [(6, .v (.own u1.id u1.lo u1.n))] ∧ Own Eq H0 [.blk u1.id (.arr 1 (u1.pre ++ Ar.lst (V.int .i64) x ++ u1.rest))] H1) (by kernel_rfl) ?_ q5 hx ?_ ?_ ?_
    · rintro s6 q7 H o ⟨hq7, hO⟩ h
      clear hx
      cbv
      refine n_br hE h (fun hc h => ?_) (fun hc h => ?_)
      · cbv
        refine n_idx hE Encs.eLI_eq h fun x9 h => ?_
        cbv
        refine n_oapp (f := (V.int .i64)) hE (fun _ => rfl) (by decide) hO hq7 0 rfl (m := x9) (src_sl (f := (V.int .i64)) hE (fun _ => rfl) (.refl _)) h fun l11 q10 H hq10 hO h => ?_
        cbv
        have h := ret_some h
        subst h
        exact ⟨_, q10, rfl, .e rfl (.e rfl (.e rfl (.e rfl (.z)))), rfl, hq10, hO⟩
      · cbv
        have h := ret_some h
        subst h
        exact ⟨_, _, rfl, ⟨q7, hq7, rfl, rfl, hO⟩, .e rfl (.z), rfl⟩
    · exact .e rfl (.e rfl (.e rfl (.e rfl (.z))))
    · exact ⟨hq5, hO⟩
    · clear hx
      rintro e l H ⟨q12, hq12, rfl, rfl, hO⟩
      cbv
      refine n_ofrz hE hO hq12 0 rfl fun H hO => ?_
      cbv
      have h := ret_some h
      subst h
      exact hK _ _ _ hO (.refl _)

def cf103 : Cf := ⟨[22], [], [], [], [], []⟩
theorem c103 (N : Nat) (x_s : List GLimit) (x_n : Int) (r : List GLimit) (h : slices_Grow_LLimit_Limit N x_s x_n = some r) : CallO Tryd.prog 103 [.sl [] .nil, .int .i64 x_n] 2 (Ar.lst Encs.eGLimit r) := by
  unfold slices_Grow_LLimit_Limit at h
  obtain ⟨h1, h2, hr⟩ := lst_grow (f := Encs.eGLimit) h
  rw [hr]
  clear hr h
  intro H0
  have hneg : ∀ b, Ar.cmp .lss x_n 0 = b → b = false := fun b h => by rw [Ar.cmp_eq] at h; subst h; simp [cmpI]; omega
  have hsub : Ar.ar .sub .i64 x_n (Ar.ar .sub .i64 0 0) = x_n := by rw [Ar.ar_eq, Ar.ar_eq]; simp only [arI]; rw [show (0 : Int) - 0 = 0 from rfl, wrap_small 0 (by omega) (by omega), Int.sub_zero]; exact wrap_small _ (by omega) (by omega)
  have hgt : ∀ b, Ar.cmp .gtr (Ar.ar .sub .i64 x_n (Ar.ar .sub .i64 0 0)) 0 = b → (b = false → x_n = 0) := fun b h => by rw [hsub, Ar.cmp_eq] at h; subst h; simp [cmpI]; omega
  have hbn : x_n.toNat * 16 ≤ 140737488355328 := by have := mul_bnd (a := x_n.toNat) (b := 0) (by_ := 16) (by omega) (by decide); simpa using this
  have hl0 : (0 : Int) = (([] : List V).length : Nat) := rfl
  refine callO_run (T := TT) cf103 okP Tryd.func103 (by rfl) (by kernel_rfl) Tryd.call103 Tryd.ntmps103 (by rfl) (by rfl) ?_
  intro E K hE hK hN
  cbv
  refine r_br hE (fun hc => absurd (hneg _ hc) (by decide)) (fun hc => ?_)
  cbv
  refine r_ln hE hl0 ?_
  cbv
  refine r_br hE (fun hc2 => ?_) (fun hc2 => ?_)
  · cbv
    refine r_slnil hE ?_
    cbv
    refine r_oappz0 hE x_n hsub (.inl rfl) h1 hbn fun t m row j ht hm hrow => ?_
    obtain ⟨RL, hRL, hR0⟩ : ∃ RL : Int, RL = (row.length : Nat) ∧ 0 ≤ RL := ⟨_, rfl, by omega⟩
    cbv
    refine r_ln hE hl0 ?_
    cbv
    refine r_oslice hE (upd_same _ _ _) hRL 0 0 rfl rfl (Int.le_refl _) (Int.le_refl _) hR0 fun l' n' q1 q2 => ?_
    cbv
    have e1 : 0 = l' := by omega
    have e2 : 0 = n' := by omega
    subst e1 e2
    exact hK ⟨t, 0, 0, [], row⟩ [] _ ⟨rfl, rfl⟩ ((Own.start stable_eq rfl).push ht rfl)
  · cbv
    exact hN rfl [] H0 (.start stable_eq rfl)


def cf93 : Cf := ⟨[], [], [], [], [(35, 6)], []⟩
theorem c93 (N : Nat) (x_slices : List (List GLimit)) (r : (List GLimit)) (h : slices_Concat_LLimit_Limit N x_slices = some r) : CallP Tryd.prog 93 [.sl (Ar.lst Encs.eLGLimit x_slices) .ro] (.sl (Ar.lst Encs.eGLimit r) .ro) := by
  unfold slices_Concat_LLimit_Limit at h
  refine callP_of_spec cf93 okP Tryd.func93 (by rfl) (by kernel_rfl) Tryd.call93 Tryd.ntmps93 (by rfl) (by rfl) ?_
  intro E H0 K hE hK
  have hO : Own Eq H0 [] H0 := .start stable_eq rfl
  cbv
  refine n_ln hE ?_
  cbv
  obtain ⟨s2, hx, h⟩ := bind_some h
  refine n_loopN cf93 hE okP (fun s1 => [(0, .v (.sl (Ar.lst Encs.eLGLimit x_slices) .ro)), (3, .v (.int .i64 s1.1)), (9, .v (.sl (Ar.lst Encs.eLGLimit x_slices) .ro)), (10, .v (.int .i64 (Ar.len x_slices))), (11, .v (.int .i64 s1.2))]) (fun s1 H1 => Own Eq H0 [] H1) (fun x e l H1 => e = .exit 0 ∧ l = [(0, .v (.sl (Ar.lst Encs.eLGLimit x_slices) .ro)), (3, .v (.int .i64 x))] ∧ Own Eq H0 [] H1) (by kernel_rfl) ?_ hx ?_ hO ?_
  · intro s1 H o hO h
    clear hx
    cbv
    refine n_br hE h (fun hc h => ?_) (fun hc h => ?_)
    · cbv
      refine n_idx hE Encs.eLGLimit_eq h fun x3 h => ?_
      cbv
      refine n_ln hE ?_
      cbv
      refine n_br hE h (fun hc h => ?_) (fun hc h => ?_)
      · cbv
        cases h
      · cbv
        have h := ret_some h
        subst h
        exact ⟨_, rfl, .e rfl (.e rfl (.e rfl (.e rfl (.e rfl (.z))))), rfl, hO⟩
    · cbv
      have h := ret_some h
      subst h
      exact ⟨_, _, rfl, ⟨rfl, rfl, hO⟩, .e rfl (.e rfl (.z)), rfl⟩
  · exact .e rfl (.e rfl (.e rfl (.e rfl (.e rfl (.z)))))
  · clear hx
    rintro e l H ⟨rfl, rfl, hO⟩
    cbv
    refine n_callO hE (f := Encs.eGLimit) h (fun l4 hx => c103 N [] s2 l4 hx) (.cons (.refl _) (.cons (.refl _) .nil)) hO fun l4 q5 H hq5 hO h => ?_
    cbv
    refine n_ln hE ?_
    cbv
    obtain ⟨s8, hx, h⟩ := bind_some h
    refine n_loopG cf93 hE okP (γ := OG) (fun s6 g => [(6, .v (.own g.id g.lo g.n)), (25, .v (.sl (Ar.lst Encs.eLGLimit x_slices) .ro)), (26, .v (.int .i64 (Ar.len x_slices))), (27, .v (.int .i64 s6.1))]) (fun s6 g H1 => Okn g (Ar.len s6.2) ∧ Own Eq H0 [.blk g.id (.arr 2 (g.pre ++ Ar.lst Encs.eGLimit s6.2 ++ g.rest))] H1) (fun x e l H1 => ∃ u1 : OG, Okn u1 (Ar.len x) ∧ e = .exit 2 ∧ l = [(6, .v (.own u1.id u1.lo u1.n))] ∧ Own Eq H0 [.blk u1.id (.arr 2 (u1.pre ++ Ar.lst Encs.eGLimit x ++ u1.rest))] H1) (by kernel_rfl) ?_ q5 hx ?_ ?_ ?_
    · rintro s6 q7 H o ⟨hq7, hO⟩ h
      clear hx
      cbv
      refine n_br hE h (fun hc h => ?_) (fun hc h => ?_)
      · cbv
        refine n_idx hE Encs.eLGLimit_eq h fun x9 h => ?_
        cbv
        refine n_oapp (f := Encs.eGLimit) hE sz_GLimit (by decide) hO hq7 0 rfl (m := x9) (src_sl (f := Encs.eGLimit) hE sz_GLimit (.refl _)) h fun l11 q10 H hq10 hO h => ?_
        cbv
        have h := ret_some h
        subst h
        exact ⟨_, q10, rfl, .e rfl (.e rfl (.e rfl (.e rfl (.z)))), rfl, hq10, hO⟩
      · cbv
        have h := ret_some h
        subst h
        exact ⟨_, _, rfl, ⟨q7, hq7, rfl, rfl, hO⟩, .e rfl (.z), rfl⟩
    · exact .e rfl (.e rfl (.e rfl (.e rfl (.z))))
    · exact ⟨hq5, hO⟩
    · clear hx
      rintro e l H ⟨q12, hq12, rfl, rfl, hO⟩
      cbv
      refine n_ofrz hE hO hq12 0 rfl fun H hO => ?_
      cbv
      have h := ret_some h
      subst h
      exact hK _ _ _ hO (.refl _)

def cf81 : Cf := ⟨[5, 8], [], [(9, 3), (25, 5)], [], [], []⟩
theorem c81 (N : Nat) (x_p : GPattern) (x_x : GEdge) (x_done : Bool) (x_opens : Bool) (r : GEdge) (h : derivative_scoped N x_p x_x x_done x_opens = some r) : CallP Tryd.prog 81 [.agg [.int .i64 x_p.Op, .sl (Ar.lst Encs.eGPattern x_p.Args) .ro, .int .i64 x_p.Typ, .int .i64 x_p.Var, .int .i64 x_p.Scope, .int .i64 x_p.Span, .int .i64 x_p.Cond.Op, .sl (Ar.lst Encs.eGExpr x_p.Cond.Args) .ro, .int .i64 x_p.Cond.Var, .int .i64 x_p.Cond.Field, .int .i64 x_p.Cond.Kind, .int .i64 x_p.Cond.Value.Kind, .int .i64 x_p.Cond.Value.Num, .str x_p.Cond.Value.Text], .agg [.int .i64 x_x.From, .int .i64 x_x.To, .int .i64 x_x.Var, .int .i64 x_x.Typ, .int .i64 x_x.Cond.Op, .sl (Ar.lst Encs.eGExpr x_x.Cond.Args) .ro, .int .i64 x_x.Cond.Var, .int .i64 x_x.Cond.Field, .int .i64 x_x.Cond.Kind, .int .i64 x_x.Cond.Value.Kind, .int .i64 x_x.Cond.Value.Num, .str x_x.Cond.Value.Text, .sl (Ar.lst (V.int .i64) x_x.Opens) .ro, .sl (Ar.lst (V.int .i64) x_x.Closes) .ro, .sl (Ar.lst Encs.eGExpr x_x.Checks) .ro, .sl (Ar.lst Encs.eGLimit x_x.Limits) .ro, .sl (Ar.lst (V.int .i64) x_x.Inside) .ro], .bool x_done, .bool x_opens] (.agg [.int .i64 r.From, .int .i64 r.To, .int .i64 r.Var, .int .i64 r.Typ, .int .i64 r.Cond.Op, .sl (Ar.lst Encs.eGExpr r.Cond.Args) .ro, .int .i64 r.Cond.Var, .int .i64 r.Cond.Field, .int .i64 r.Cond.Kind, .int .i64 r.Cond.Value.Kind, .int .i64 r.Cond.Value.Num, .str r.Cond.Value.Text, .sl (Ar.lst (V.int .i64) r.Opens) .ro, .sl (Ar.lst (V.int .i64) r.Closes) .ro, .sl (Ar.lst Encs.eGExpr r.Checks) .ro, .sl (Ar.lst Encs.eGLimit r.Limits) .ro, .sl (Ar.lst (V.int .i64) r.Inside) .ro]) := by
  unfold derivative_scoped at h
  refine callP_of_spec cf81 okP Tryd.func81 (by rfl) (by kernel_rfl) Tryd.call81 Tryd.ntmps81 (by rfl) (by rfl) ?_
  intro E H0 K hE hK
  have hO : Own Eq H0 [] H0 := .start stable_eq rfl
  cbv
  refine n_alloc hE hO fun b1 H hO => ?_
  cbv
  refine n_alloc hE hO fun b2 H hO => ?_
  cbv
  obtain ⟨s3, hx, h⟩ := bind_some h
  refine n_join cf81 hE okP (fun e l H1 => e = .normal ∧ l = [(2, .v (.bool x_done)), (4, .v (.eref [.int .i64 x_p.Op, .sl (Ar.lst Encs.eGPattern x_p.Args) .ro, .int .i64 x_p.Typ, .int .i64 x_p.Var, .int .i64 x_p.Scope, .int .i64 x_p.Span, .int .i64 x_p.Cond.Op, .sl (Ar.lst Encs.eGExpr x_p.Cond.Args) .ro, .int .i64 x_p.Cond.Var, .int .i64 x_p.Cond.Field, .int .i64 x_p.Cond.Kind, .int .i64 x_p.Cond.Value.Kind, .int .i64 x_p.Cond.Value.Num, .str x_p.Cond.Value.Text] 0)), (5, .v (.ref b1 0)), (8, .v (.ref b2 0))] ∧ Own Eq H0 [.blk b2 (.cells [.int .i64 0, .int .i64 0, .int .i64 0, .int .i64 0, .int .i64 0, .sl [] .nil, .int .i64 0, .int .i64 0, .int .i64 0, .int .i64 0, .int .i64 0, .str (⟨#[]⟩), .sl [] .nil, .sl [] .nil, .sl [] .nil, .sl [] .nil, .sl [] .nil]), .blk b1 (.cells [.int .i64 s3.From, .int .i64 s3.To, .int .i64 s3.Var, .int .i64 s3.Typ, .int .i64 s3.Cond.Op, .sl (Ar.lst Encs.eGExpr s3.Cond.Args) .ro, .int .i64 s3.Cond.Var, .int .i64 s3.Cond.Field, .int .i64 s3.Cond.Kind, .int .i64 s3.Cond.Value.Kind, .int .i64 s3.Cond.Value.Num, .str s3.Cond.Value.Text, .sl (Ar.lst (V.int .i64) s3.Opens) .ro, .sl (Ar.lst (V.int .i64) s3.Closes) .ro, .sl (Ar.lst Encs.eGExpr s3.Checks) .ro, .sl (Ar.lst Encs.eGLimit s3.Limits) .ro, .sl (Ar.lst (V.int .i64) s3.Inside) .ro])] H1) (by kernel_rfl) ?_ ?_
  · clear h
    have h := hx
    clear hx
    cbv
    refine n_br hE h (fun hc h => ?_) (fun hc h => ?_)
    · cbv
      refine n_load hE hO 1 rfl ?_
      cbv
      refine n_call hE (g := fun r4 => .sl (Ar.lst (V.int .i64) r4) .ro) h (fun r4 hx => c92 N ([[x_p.Scope], x_x.Opens]) r4 hx) (.cons (.sl _ (.lstc (.eq (Encs.eLI_eq ([x_p.Scope])) (.lit _ (lst_cons (rfl) (lst_nil)))) (.lstc (.eq (Encs.eLI_eq x_x.Opens) (.refl _)) (.lst0)))) (.refl _)) fun r4 h => ?_
      cbv
      refine n_store hE hO 1 rfl rfl fun H hO => ?_
      cbv
      have h := ret_some h
      subst h
      exact ⟨_, ⟨rfl, rfl, hO⟩, .e rfl (.e rfl (.e rfl (.e rfl (.z)))), rfl⟩
    · cbv
      have h := ret_some h
      subst h
      exact ⟨_, ⟨rfl, rfl, hO⟩, .e rfl (.e rfl (.e rfl (.e rfl (.z)))), rfl⟩
  · clear hx
    rintro e l H ⟨rfl, rfl, hO⟩
    cbv
    obtain ⟨s5, hx, h⟩ := bind_some h
    refine n_join cf81 hE okP (fun e l H1 => e = .normal ∧ l = [(2, .v (.bool x_done)), (4, .v (.eref [.int .i64 x_p.Op, .sl (Ar.lst Encs.eGPattern x_p.Args) .ro, .int .i64 x_p.Typ, .int .i64 x_p.Var, .int .i64 x_p.Scope, .int .i64 x_p.Span, .int .i64 x_p.Cond.Op, .sl (Ar.lst Encs.eGExpr x_p.Cond.Args) .ro, .int .i64 x_p.Cond.Var, .int .i64 x_p.Cond.Field, .int .i64 x_p.Cond.Kind, .int .i64 x_p.Cond.Value.Kind, .int .i64 x_p.Cond.Value.Num, .str x_p.Cond.Value.Text] 0)), (5, .v (.ref b1 0)), (8, .v (.ref b2 0))] ∧ Own Eq H0 [.blk b2 (.cells [.int .i64 0, .int .i64 0, .int .i64 0, .int .i64 0, .int .i64 0, .sl [] .nil, .int .i64 0, .int .i64 0, .int .i64 0, .int .i64 0, .int .i64 0, .str (⟨#[]⟩), .sl [] .nil, .sl [] .nil, .sl [] .nil, .sl [] .nil, .sl [] .nil]), .blk b1 (.cells [.int .i64 s5.From, .int .i64 s5.To, .int .i64 s5.Var, .int .i64 s5.Typ, .int .i64 s5.Cond.Op, .sl (Ar.lst Encs.eGExpr s5.Cond.Args) .ro, .int .i64 s5.Cond.Var, .int .i64 s5.Cond.Field, .int .i64 s5.Cond.Kind, .int .i64 s5.Cond.Value.Kind, .int .i64 s5.Cond.Value.Num, .str s5.Cond.Value.Text, .sl (Ar.lst (V.int .i64) s5.Opens) .ro, .sl (Ar.lst (V.int .i64) s5.Closes) .ro, .sl (Ar.lst Encs.eGExpr s5.Checks) .ro, .sl (Ar.lst Encs.eGLimit s5.Limits) .ro, .sl (Ar.lst (V.int .i64) s5.Inside) .ro])] H1) (by kernel_rfl) ?_ ?_
    · clear h
      have h := hx
      clear hx
      cbv
      refine n_br hE h (fun hc h => ?_) (fun hc h => ?_)
      · cbv
        refine n_load hE hO 1 rfl ?_
        cbv
        refine n_call hE (g := fun r6 => .sl (Ar.lst (V.int .i64) r6) .ro) h (fun r6 hx => c92 N ([[x_p.Scope], s3.Inside]) r6 hx) (.cons (.sl _ (.lstc (.eq (Encs.eLI_eq ([x_p.Scope])) (.lit _ (lst_cons (rfl) (lst_nil)))) (.lstc (.eq (Encs.eLI_eq s3.Inside) (.refl _)) (.lst0)))) (.refl _)) fun r6 h => ?_
        cbv
        refine n_store hE hO 1 rfl rfl fun H hO => ?_
        cbv
        have h := ret_some h
        subst h
        exact ⟨_, ⟨rfl, rfl, hO⟩, .e rfl (.e rfl (.e rfl (.e rfl (.z)))), rfl⟩
      · cbv
        refine n_load hE hO 1 rfl ?_
        cbv
        refine n_call hE (g := fun r7 => .sl (Ar.lst Encs.eGLimit r7) .ro) h (fun r7 hx => c93 N ([[(⟨x_p.Scope, x_p.Span⟩ : GLimit)], s3.Limits]) r7 hx) (.cons (.sl _ (.lstc (.eq (Encs.eLGLimit_eq ([(⟨x_p.Scope, x_p.Span⟩ : GLimit)])) (.lit _ (lst_cons ((Encs.eGLimit_eq (⟨x_p.Scope, x_p.Span⟩ : GLimit)).symm) (lst_nil)))) (.lstc (.eq (Encs.eLGLimit_eq s3.Limits) (.refl _)) (.lst0)))) (.refl _)) fun r7 h => ?_
        cbv
        refine n_store hE hO 1 rfl rfl fun H hO => ?_
        cbv
        have h := ret_some h
        subst h
        exact ⟨_, ⟨rfl, rfl, hO⟩, .e rfl (.e rfl (.e rfl (.e rfl (.z)))), rfl⟩
    · clear hx
      rintro e l H ⟨rfl, rfl, hO⟩
      cbv
      refine n_br hE h (fun hc h => ?_) (fun hc h => ?_)
      · cbv
        refine n_load hE hO 1 rfl ?_
        cbv
        refine n_call hE (g := fun r8 => .sl (Ar.lst (V.int .i64) r8) .ro) h (fun r8 hx => c92 N ([s5.Closes, [x_p.Scope]]) r8 hx) (.cons (.sl _ (.lstc (.eq (Encs.eLI_eq s5.Closes) (.refl _)) (.lstc (.eq (Encs.eLI_eq ([x_p.Scope])) (.lit _ (lst_cons (rfl) (lst_nil)))) (.lst0)))) (.refl _)) fun r8 h => ?_
        cbv
        refine n_store hE hO 1 rfl rfl fun H hO => ?_
        cbv
        refine n_load hE hO 1 rfl ?_
        cbv
        refine n_store hE hO 0 rfl rfl fun H hO => ?_
        cbv
        refine n_load hE hO 0 rfl ?_
        cbv
        have h := ret_some h
        subst h
        exact hK _ _ _ hO (.refl _)
      · cbv
        refine n_load hE hO 1 rfl ?_
        cbv
        refine n_store hE hO 0 rfl rfl fun H hO => ?_
        cbv
        refine n_load hE hO 0 rfl ?_
        cbv
        have h := ret_some h
        subst h
        exact hK _ _ _ hO (.refl _)

def cf82 : Cf := ⟨[3, 6], [(1, 5)], [], [], [], [(1, 3, [10])]⟩
theorem c82 (N : Nat) (x_p : GPattern) (x_op : Int) (x_arg : GPattern) (r : GPattern) (h : derivative_within N x_p x_op x_arg = some r) : CallP Tryd.prog 82 [.agg [.int .i64 x_p.Op, .sl (Ar.lst Encs.eGPattern x_p.Args) .ro, .int .i64 x_p.Typ, .int .i64 x_p.Var, .int .i64 x_p.Scope, .int .i64 x_p.Span, .int .i64 x_p.Cond.Op, .sl (Ar.lst Encs.eGExpr x_p.Cond.Args) .ro, .int .i64 x_p.Cond.Var, .int .i64 x_p.Cond.Field, .int .i64 x_p.Cond.Kind, .int .i64 x_p.Cond.Value.Kind, .int .i64 x_p.Cond.Value.Num, .str x_p.Cond.Value.Text], .int .i64 x_op, .agg [.int .i64 x_arg.Op, .sl (Ar.lst Encs.eGPattern x_arg.Args) .ro, .int .i64 x_arg.Typ, .int .i64 x_arg.Var, .int .i64 x_arg.Scope, .int .i64 x_arg.Span, .int .i64 x_arg.Cond.Op, .sl (Ar.lst Encs.eGExpr x_arg.Cond.Args) .ro, .int .i64 x_arg.Cond.Var, .int .i64 x_arg.Cond.Field, .int .i64 x_arg.Cond.Kind, .int .i64 x_arg.Cond.Value.Kind, .int .i64 x_arg.Cond.Value.Num, .str x_arg.Cond.Value.Text]] (.agg [.int .i64 r.Op, .sl (Ar.lst Encs.eGPattern r.Args) .ro, .int .i64 r.Typ, .int .i64 r.Var, .int .i64 r.Scope, .int .i64 r.Span, .int .i64 r.Cond.Op, .sl (Ar.lst Encs.eGExpr r.Cond.Args) .ro, .int .i64 r.Cond.Var, .int .i64 r.Cond.Field, .int .i64 r.Cond.Kind, .int .i64 r.Cond.Value.Kind, .int .i64 r.Cond.Value.Num, .str r.Cond.Value.Text]) := by
  unfold derivative_within at h
  refine callP_of_spec cf82 okP Tryd.func82 (by rfl) (by kernel_rfl) Tryd.call82 Tryd.ntmps82 (by rfl) (by rfl) ?_
  intro E H0 K hE hK
  have hO : Own Eq H0 [] H0 := .start stable_eq rfl
  cbv
  refine n_alloc hE hO fun b1 H hO => ?_
  cbv
  refine n_alloc hE hO fun b2 H hO => ?_
  cbv
  refine n_take hE hO 1 rfl fun H1 hT hW => ?_
  cbv
  refine n_need hE trivial ?_
  cbv
  refine n_give hE hO 1 rfl hT fun H hO => ?_
  cbv
  refine n_store hE hO 1 rfl rfl fun H hO => ?_
  cbv
  refine n_load hE hO 1 rfl ?_
  cbv
  refine n_store hE hO 0 rfl rfl fun H hO => ?_
  cbv
  refine n_load hE hO 0 rfl ?_
  cbv
  have h := ret_some h
  subst h
  exact hK _ _ _ hO (.agg (.cons (.refl _) (.cons (.lit _ (lst_cons ((Encs.eGPattern_eq x_arg).symm) (lst_nil))) (.refl _))))

def cf45 : Cf := ⟨[], [(9, 5), (11, 8)], [(8, 6)], [], [], []⟩
def K45 (N n : Nat) : Prop := ∀ (x_p : GPattern) (r : (List (GEdge × Gderivative_rest))), derivative_pairs N n x_p = some r → CallQ Tryd.prog 45 [.agg [.int .i64 x_p.Op, .sl (Ar.lst Encs.eGPattern x_p.Args) .ro, .int .i64 x_p.Typ, .int .i64 x_p.Var, .int .i64 x_p.Scope, .int .i64 x_p.Span, .int .i64 x_p.Cond.Op, .sl (Ar.lst Encs.eGExpr x_p.Cond.Args) .ro, .int .i64 x_p.Cond.Var, .int .i64 x_p.Cond.Field, .int .i64 x_p.Cond.Kind, .int .i64 x_p.Cond.Value.Kind, .int .i64 x_p.Cond.Value.Num, .str x_p.Cond.Value.Text]] (fun v => IterV Tryd.prog v (r.map fun (x : (GEdge × Gderivative_rest)) => [.agg [.int .i64 x.1.From, .int .i64 x.1.To, .int .i64 x.1.Var, .int .i64 x.1.Typ, .int .i64 x.1.Cond.Op, .sl (Ar.lst Encs.eGExpr x.1.Cond.Args) .ro, .int .i64 x.1.Cond.Var, .int .i64 x.1.Cond.Field, .int .i64 x.1.Cond.Kind, .int .i64 x.1.Cond.Value.Kind, .int .i64 x.1.Cond.Value.Num, .str x.1.Cond.Value.Text, .sl (Ar.lst (V.int .i64) x.1.Opens) .ro, .sl (Ar.lst (V.int .i64) x.1.Closes) .ro, .sl (Ar.lst Encs.eGExpr x.1.Checks) .ro, .sl (Ar.lst Encs.eGLimit x.1.Limits) .ro, .sl (Ar.lst (V.int .i64) x.1.Inside) .ro], .agg [.bool x.2.done, .int .i64 x.2.p.Op, .sl (Ar.lst Encs.eGPattern x.2.p.Args) .ro, .int .i64 x.2.p.Typ, .int .i64 x.2.p.Var, .int .i64 x.2.p.Scope, .int .i64 x.2.p.Span, .int .i64 x.2.p.Cond.Op, .sl (Ar.lst Encs.eGExpr x.2.p.Cond.Args) .ro, .int .i64 x.2.p.Cond.Var, .int .i64 x.2.p.Cond.Field, .int .i64 x.2.p.Cond.Kind, .int .i64 x.2.p.Cond.Value.Kind, .int .i64 x.2.p.Cond.Value.Num, .str x.2.p.Cond.Value.Text]]))

def cf65 : Cf := ⟨[], [], [], [], [], []⟩
def K65 (N n : Nat) : Prop := ∀ (x_p : GPattern) (r : (List (GEdge × Gderivative_rest))), derivative_branches N n x_p = some r → CallQ Tryd.prog 65 [.agg [.int .i64 x_p.Op, .sl (Ar.lst Encs.eGPattern x_p.Args) .ro, .int .i64 x_p.Typ, .int .i64 x_p.Var, .int .i64 x_p.Scope, .int .i64 x_p.Span, .int .i64 x_p.Cond.Op, .sl (Ar.lst Encs.eGExpr x_p.Cond.Args) .ro, .int .i64 x_p.Cond.Var, .int .i64 x_p.Cond.Field, .int .i64 x_p.Cond.Kind, .int .i64 x_p.Cond.Value.Kind, .int .i64 x_p.Cond.Value.Num, .str x_p.Cond.Value.Text]] (fun v => IterV Tryd.prog v (r.map fun (x : (GEdge × Gderivative_rest)) => [.agg [.int .i64 x.1.From, .int .i64 x.1.To, .int .i64 x.1.Var, .int .i64 x.1.Typ, .int .i64 x.1.Cond.Op, .sl (Ar.lst Encs.eGExpr x.1.Cond.Args) .ro, .int .i64 x.1.Cond.Var, .int .i64 x.1.Cond.Field, .int .i64 x.1.Cond.Kind, .int .i64 x.1.Cond.Value.Kind, .int .i64 x.1.Cond.Value.Num, .str x.1.Cond.Value.Text, .sl (Ar.lst (V.int .i64) x.1.Opens) .ro, .sl (Ar.lst (V.int .i64) x.1.Closes) .ro, .sl (Ar.lst Encs.eGExpr x.1.Checks) .ro, .sl (Ar.lst Encs.eGLimit x.1.Limits) .ro, .sl (Ar.lst (V.int .i64) x.1.Inside) .ro], .agg [.bool x.2.done, .int .i64 x.2.p.Op, .sl (Ar.lst Encs.eGPattern x.2.p.Args) .ro, .int .i64 x.2.p.Typ, .int .i64 x.2.p.Var, .int .i64 x.2.p.Scope, .int .i64 x.2.p.Span, .int .i64 x.2.p.Cond.Op, .sl (Ar.lst Encs.eGExpr x.2.p.Cond.Args) .ro, .int .i64 x.2.p.Cond.Var, .int .i64 x.2.p.Cond.Field, .int .i64 x.2.p.Cond.Kind, .int .i64 x.2.p.Cond.Value.Kind, .int .i64 x.2.p.Cond.Value.Num, .str x.2.p.Cond.Value.Text]]))

def cf66 : Cf := ⟨[], [], [], [], [], []⟩
def K66 (N n : Nat) : Prop := ∀ (x_first : GPattern) (x_again : GPattern) (r : (List (GEdge × Gderivative_rest))), derivative_repeated N n x_first x_again = some r → CallQ Tryd.prog 66 [.agg [.int .i64 x_first.Op, .sl (Ar.lst Encs.eGPattern x_first.Args) .ro, .int .i64 x_first.Typ, .int .i64 x_first.Var, .int .i64 x_first.Scope, .int .i64 x_first.Span, .int .i64 x_first.Cond.Op, .sl (Ar.lst Encs.eGExpr x_first.Cond.Args) .ro, .int .i64 x_first.Cond.Var, .int .i64 x_first.Cond.Field, .int .i64 x_first.Cond.Kind, .int .i64 x_first.Cond.Value.Kind, .int .i64 x_first.Cond.Value.Num, .str x_first.Cond.Value.Text], .agg [.int .i64 x_again.Op, .sl (Ar.lst Encs.eGPattern x_again.Args) .ro, .int .i64 x_again.Typ, .int .i64 x_again.Var, .int .i64 x_again.Scope, .int .i64 x_again.Span, .int .i64 x_again.Cond.Op, .sl (Ar.lst Encs.eGExpr x_again.Cond.Args) .ro, .int .i64 x_again.Cond.Var, .int .i64 x_again.Cond.Field, .int .i64 x_again.Cond.Kind, .int .i64 x_again.Cond.Value.Kind, .int .i64 x_again.Cond.Value.Num, .str x_again.Cond.Value.Text]] (fun v => IterV Tryd.prog v (r.map fun (x : (GEdge × Gderivative_rest)) => [.agg [.int .i64 x.1.From, .int .i64 x.1.To, .int .i64 x.1.Var, .int .i64 x.1.Typ, .int .i64 x.1.Cond.Op, .sl (Ar.lst Encs.eGExpr x.1.Cond.Args) .ro, .int .i64 x.1.Cond.Var, .int .i64 x.1.Cond.Field, .int .i64 x.1.Cond.Kind, .int .i64 x.1.Cond.Value.Kind, .int .i64 x.1.Cond.Value.Num, .str x.1.Cond.Value.Text, .sl (Ar.lst (V.int .i64) x.1.Opens) .ro, .sl (Ar.lst (V.int .i64) x.1.Closes) .ro, .sl (Ar.lst Encs.eGExpr x.1.Checks) .ro, .sl (Ar.lst Encs.eGLimit x.1.Limits) .ro, .sl (Ar.lst (V.int .i64) x.1.Inside) .ro], .agg [.bool x.2.done, .int .i64 x.2.p.Op, .sl (Ar.lst Encs.eGPattern x.2.p.Args) .ro, .int .i64 x.2.p.Typ, .int .i64 x.2.p.Var, .int .i64 x.2.p.Scope, .int .i64 x.2.p.Span, .int .i64 x.2.p.Cond.Op, .sl (Ar.lst Encs.eGExpr x.2.p.Cond.Args) .ro, .int .i64 x.2.p.Cond.Var, .int .i64 x.2.p.Cond.Field, .int .i64 x.2.p.Cond.Kind, .int .i64 x.2.p.Cond.Value.Kind, .int .i64 x.2.p.Cond.Value.Num, .str x.2.p.Cond.Value.Text]]))

def cf67 : Cf := ⟨[], [], [], [], [], []⟩
def K67 (N n : Nat) : Prop := ∀ (x_p : GPattern) (r : (List (GEdge × Gderivative_rest))), derivative_inner N n x_p = some r → CallQ Tryd.prog 67 [.agg [.int .i64 x_p.Op, .sl (Ar.lst Encs.eGPattern x_p.Args) .ro, .int .i64 x_p.Typ, .int .i64 x_p.Var, .int .i64 x_p.Scope, .int .i64 x_p.Span, .int .i64 x_p.Cond.Op, .sl (Ar.lst Encs.eGExpr x_p.Cond.Args) .ro, .int .i64 x_p.Cond.Var, .int .i64 x_p.Cond.Field, .int .i64 x_p.Cond.Kind, .int .i64 x_p.Cond.Value.Kind, .int .i64 x_p.Cond.Value.Num, .str x_p.Cond.Value.Text]] (fun v => IterV Tryd.prog v (r.map fun (x : (GEdge × Gderivative_rest)) => [.agg [.int .i64 x.1.From, .int .i64 x.1.To, .int .i64 x.1.Var, .int .i64 x.1.Typ, .int .i64 x.1.Cond.Op, .sl (Ar.lst Encs.eGExpr x.1.Cond.Args) .ro, .int .i64 x.1.Cond.Var, .int .i64 x.1.Cond.Field, .int .i64 x.1.Cond.Kind, .int .i64 x.1.Cond.Value.Kind, .int .i64 x.1.Cond.Value.Num, .str x.1.Cond.Value.Text, .sl (Ar.lst (V.int .i64) x.1.Opens) .ro, .sl (Ar.lst (V.int .i64) x.1.Closes) .ro, .sl (Ar.lst Encs.eGExpr x.1.Checks) .ro, .sl (Ar.lst Encs.eGLimit x.1.Limits) .ro, .sl (Ar.lst (V.int .i64) x.1.Inside) .ro], .agg [.bool x.2.done, .int .i64 x.2.p.Op, .sl (Ar.lst Encs.eGPattern x.2.p.Args) .ro, .int .i64 x.2.p.Typ, .int .i64 x.2.p.Var, .int .i64 x.2.p.Scope, .int .i64 x.2.p.Span, .int .i64 x.2.p.Cond.Op, .sl (Ar.lst Encs.eGExpr x.2.p.Cond.Args) .ro, .int .i64 x.2.p.Cond.Var, .int .i64 x.2.p.Cond.Field, .int .i64 x.2.p.Cond.Kind, .int .i64 x.2.p.Cond.Value.Kind, .int .i64 x.2.p.Cond.Value.Num, .str x.2.p.Cond.Value.Text]]))

def cf75 : Cf := ⟨[3, 4, 6, 1000002], [(10, 4)], [], [4], [], []⟩
def K75 (N n : Nat) : Prop := ∀ (x_1 : GPattern) (r : (List (GEdge × Gderivative_rest))), derivative_branches_1 N n x_1 = some r → EmitP Tryd.prog 75 (fun yv => [yv, .eref [.int .i64 x_1.Op, .sl (Ar.lst Encs.eGPattern x_1.Args) .ro, .int .i64 x_1.Typ, .int .i64 x_1.Var, .int .i64 x_1.Scope, .int .i64 x_1.Span, .int .i64 x_1.Cond.Op, .sl (Ar.lst Encs.eGExpr x_1.Cond.Args) .ro, .int .i64 x_1.Cond.Var, .int .i64 x_1.Cond.Field, .int .i64 x_1.Cond.Kind, .int .i64 x_1.Cond.Value.Kind, .int .i64 x_1.Cond.Value.Num, .str x_1.Cond.Value.Text] 0]) (List.map (fun (x : (GEdge × Gderivative_rest)) => [.agg [.int .i64 x.1.From, .int .i64 x.1.To, .int .i64 x.1.Var, .int .i64 x.1.Typ, .int .i64 x.1.Cond.Op, .sl (Ar.lst Encs.eGExpr x.1.Cond.Args) .ro, .int .i64 x.1.Cond.Var, .int .i64 x.1.Cond.Field, .int .i64 x.1.Cond.Kind, .int .i64 x.1.Cond.Value.Kind, .int .i64 x.1.Cond.Value.Num, .str x.1.Cond.Value.Text, .sl (Ar.lst (V.int .i64) x.1.Opens) .ro, .sl (Ar.lst (V.int .i64) x.1.Closes) .ro, .sl (Ar.lst Encs.eGExpr x.1.Checks) .ro, .sl (Ar.lst Encs.eGLimit x.1.Limits) .ro, .sl (Ar.lst (V.int .i64) x.1.Inside) .ro], .agg [.bool x.2.done, .int .i64 x.2.p.Op, .sl (Ar.lst Encs.eGPattern x.2.p.Args) .ro, .int .i64 x.2.p.Typ, .int .i64 x.2.p.Var, .int .i64 x.2.p.Scope, .int .i64 x.2.p.Span, .int .i64 x.2.p.Cond.Op, .sl (Ar.lst Encs.eGExpr x.2.p.Cond.Args) .ro, .int .i64 x.2.p.Cond.Var, .int .i64 x.2.p.Cond.Field, .int .i64 x.2.p.Cond.Kind, .int .i64 x.2.p.Cond.Value.Kind, .int .i64 x.2.p.Cond.Value.Num, .str x.2.p.Cond.Value.Text]]) r) rbN

def cf78 : Cf := ⟨[1000003], [(5, 11)], [], [], [], []⟩
def K78 (N n : Nat) : Prop := ∀ (x_1 : GPattern) (x_2 : GPattern) (r : (List (GEdge × Gderivative_rest))), derivative_repeated_1 N n x_1 x_2 = some r → EmitP Tryd.prog 78 (fun yv => [yv, .eref [.int .i64 x_1.Op, .sl (Ar.lst Encs.eGPattern x_1.Args) .ro, .int .i64 x_1.Typ, .int .i64 x_1.Var, .int .i64 x_1.Scope, .int .i64 x_1.Span, .int .i64 x_1.Cond.Op, .sl (Ar.lst Encs.eGExpr x_1.Cond.Args) .ro, .int .i64 x_1.Cond.Var, .int .i64 x_1.Cond.Field, .int .i64 x_1.Cond.Kind, .int .i64 x_1.Cond.Value.Kind, .int .i64 x_1.Cond.Value.Num, .str x_1.Cond.Value.Text] 0, .eref [.int .i64 x_2.Op, .sl (Ar.lst Encs.eGPattern x_2.Args) .ro, .int .i64 x_2.Typ, .int .i64 x_2.Var, .int .i64 x_2.Scope, .int .i64 x_2.Span, .int .i64 x_2.Cond.Op, .sl (Ar.lst Encs.eGExpr x_2.Cond.Args) .ro, .int .i64 x_2.Cond.Var, .int .i64 x_2.Cond.Field, .int .i64 x_2.Cond.Kind, .int .i64 x_2.Cond.Value.Kind, .int .i64 x_2.Cond.Value.Num, .str x_2.Cond.Value.Text] 0]) (List.map (fun (x : (GEdge × Gderivative_rest)) => [.agg [.int .i64 x.1.From, .int .i64 x.1.To, .int .i64 x.1.Var, .int .i64 x.1.Typ, .int .i64 x.1.Cond.Op, .sl (Ar.lst Encs.eGExpr x.1.Cond.Args) .ro, .int .i64 x.1.Cond.Var, .int .i64 x.1.Cond.Field, .int .i64 x.1.Cond.Kind, .int .i64 x.1.Cond.Value.Kind, .int .i64 x.1.Cond.Value.Num, .str x.1.Cond.Value.Text, .sl (Ar.lst (V.int .i64) x.1.Opens) .ro, .sl (Ar.lst (V.int .i64) x.1.Closes) .ro, .sl (Ar.lst Encs.eGExpr x.1.Checks) .ro, .sl (Ar.lst Encs.eGLimit x.1.Limits) .ro, .sl (Ar.lst (V.int .i64) x.1.Inside) .ro], .agg [.bool x.2.done, .int .i64 x.2.p.Op, .sl (Ar.lst Encs.eGPattern x.2.p.Args) .ro, .int .i64 x.2.p.Typ, .int .i64 x.2.p.Var, .int .i64 x.2.p.Scope, .int .i64 x.2.p.Span, .int .i64 x.2.p.Cond.Op, .sl (Ar.lst Encs.eGExpr x.2.p.Cond.Args) .ro, .int .i64 x.2.p.Cond.Var, .int .i64 x.2.p.Cond.Field, .int .i64 x.2.p.Cond.Kind, .int .i64 x.2.p.Cond.Value.Kind, .int .i64 x.2.p.Cond.Value.Num, .str x.2.p.Cond.Value.Text]]) r) rbN

def cf79 : Cf := ⟨[3, 4, 1000002], [], [(37, 13), (50, 17)], [2], [], []⟩
def K79 (N n : Nat) : Prop := ∀ (x_1 : GPattern) (r : (List (GEdge × Gderivative_rest))), derivative_inner_1 N n x_1 = some r → EmitP Tryd.prog 79 (fun yv => [yv, .eref [.int .i64 x_1.Op, .sl (Ar.lst Encs.eGPattern x_1.Args) .ro, .int .i64 x_1.Typ, .int .i64 x_1.Var, .int .i64 x_1.Scope, .int .i64 x_1.Span, .int .i64 x_1.Cond.Op, .sl (Ar.lst Encs.eGExpr x_1.Cond.Args) .ro, .int .i64 x_1.Cond.Var, .int .i64 x_1.Cond.Field, .int .i64 x_1.Cond.Kind, .int .i64 x_1.Cond.Value.Kind, .int .i64 x_1.Cond.Value.Num, .str x_1.Cond.Value.Text] 0]) (List.map (fun (x : (GEdge × Gderivative_rest)) => [.agg [.int .i64 x.1.From, .int .i64 x.1.To, .int .i64 x.1.Var, .int .i64 x.1.Typ, .int .i64 x.1.Cond.Op, .sl (Ar.lst Encs.eGExpr x.1.Cond.Args) .ro, .int .i64 x.1.Cond.Var, .int .i64 x.1.Cond.Field, .int .i64 x.1.Cond.Kind, .int .i64 x.1.Cond.Value.Kind, .int .i64 x.1.Cond.Value.Num, .str x.1.Cond.Value.Text, .sl (Ar.lst (V.int .i64) x.1.Opens) .ro, .sl (Ar.lst (V.int .i64) x.1.Closes) .ro, .sl (Ar.lst Encs.eGExpr x.1.Checks) .ro, .sl (Ar.lst Encs.eGLimit x.1.Limits) .ro, .sl (Ar.lst (V.int .i64) x.1.Inside) .ro], .agg [.bool x.2.done, .int .i64 x.2.p.Op, .sl (Ar.lst Encs.eGPattern x.2.p.Args) .ro, .int .i64 x.2.p.Typ, .int .i64 x.2.p.Var, .int .i64 x.2.p.Scope, .int .i64 x.2.p.Span, .int .i64 x.2.p.Cond.Op, .sl (Ar.lst Encs.eGExpr x.2.p.Cond.Args) .ro, .int .i64 x.2.p.Cond.Var, .int .i64 x.2.p.Cond.Field, .int .i64 x.2.p.Cond.Kind, .int .i64 x.2.p.Cond.Value.Kind, .int .i64 x.2.p.Cond.Value.Num, .str x.2.p.Cond.Value.Text]]) r) rbN

theorem k45 (N n : Nat) (ih65 : K65 N n) (ih66 : K66 N n) (ih67 : K67 N n) : K45 N (n + 1) := by
  intro x_p r h
  unfold derivative_pairs at h
  refine callQ_of_spec cf45 okP Tryd.func45 (by rfl) (by kernel_rfl) Tryd.call45 Tryd.ntmps45 (by rfl) (by rfl) ?_
  intro E H0 K hE hK
  have hO : Own Eq H0 [] H0 := .start stable_eq rfl
  cbv
  refine n_br hE h (fun hc h => ?_) (fun hc h => ?_)
  · cbv
    exact hK _ _ _ hO (iterV_of_emit Tryd.call64 (c64 N x_p r h))
  · cbv
    obtain ⟨s1, hx, h⟩ := bind_some h
    refine n_join cf45 hE okP (fun e l H1 => e = .normal ∧ l = [(1, .v (.eref [.int .i64 x_p.Op, .sl (Ar.lst Encs.eGPattern x_p.Args) .ro, .int .i64 x_p.Typ, .int .i64 x_p.Var, .int .i64 x_p.Scope, .int .i64 x_p.Span, .int .i64 x_p.Cond.Op, .sl (Ar.lst Encs.eGExpr x_p.Cond.Args) .ro, .int .i64 x_p.Cond.Var, .int .i64 x_p.Cond.Field, .int .i64 x_p.Cond.Kind, .int .i64 x_p.Cond.Value.Kind, .int .i64 x_p.Cond.Value.Num, .str x_p.Cond.Value.Text] 0)), (4, .v (.int .i64 x_p.Op)), (8, .v (.bool s1))] ∧ Own Eq H0 [] H1) (by kernel_rfl) ?_ ?_
    · clear h
      have h := hx
      clear hx
      cbv
      refine n_br hE h (fun hc h => ?_) (fun hc h => ?_)
      · cbv
        have h := ret_some h
        subst h
        exact ⟨_, ⟨rfl, rfl, hO⟩, .e rfl (.e rfl (.e rfl (.z))), rfl⟩
      · cbv
        refine n_br hE h (fun hc h => ?_) (fun hc h => ?_)
        · cbv
          have h := ret_some h
          subst h
          exact ⟨_, ⟨rfl, rfl, hO⟩, .e rfl (.e rfl (.e rfl (.z))), rfl⟩
        · cbv
          have h := ret_some h
          subst h
          exact ⟨_, ⟨rfl, rfl, hO⟩, .e rfl (.e rfl (.e rfl (.z))), rfl⟩
    · clear hx
      rintro e l H ⟨rfl, rfl, hO⟩
      cbv
      refine n_br hE h (fun hc h => ?_) (fun hc h => ?_)
      · cbv
        refine n_callQ hE h (fun r2 hx => ih65 x_p r2 hx) (.refl _) fun r2 v3 hv3 h => ?_
        cbv
        have h := ret_some h
        subst h
        exact hK _ _ _ hO hv3
      · cbv
        refine n_br hE h (fun hc h => ?_) (fun hc h => ?_)
        · cbv
          refine n_idx hE Encs.eGPattern_eq h fun x4 h => ?_
          cbv
          refine n_callQ hE h (fun r5 hx => ih66 x4 x_p r5 hx) (.refl _) fun r5 v6 hv6 h => ?_
          cbv
          have h := ret_some h
          subst h
          exact hK _ _ _ hO hv6
        · cbv
          refine n_br hE h (fun hc h => ?_) (fun hc h => ?_)
          · cbv
            refine n_idx hE Encs.eGPattern_eq h fun x7 h => ?_
            cbv
            refine n_slice hE sz_GPattern h fun l8 t9 h => ?_
            cbv
            refine n_callQ hE h (fun r10 hx => ih66 x7 (⟨4, l8, 0, 0, 0, 0, (⟨0, [], 0, 0, 0, (⟨0, 0, ⟨#[]⟩⟩ : GValue)⟩ : GExpr)⟩ : GPattern) r10 hx) (.cons (.refl _) (.cons (.agg (.cons (.refl _) (.cons (.ro _ _) (.cons (.refl _) (.cons (.refl _) (.cons (.refl _) (.cons (.refl _) (.cons (.refl _) (.cons (.lit _ (lst_nil)) (.refl _)))))))))) (.refl _))) fun r10 v11 hv11 h => ?_
            cbv
            have h := ret_some h
            subst h
            exact hK _ _ _ hO hv11
          · cbv
            refine n_callQ hE h (fun r12 hx => ih67 x_p r12 hx) (.refl _) fun r12 v13 hv13 h => ?_
            cbv
            have h := ret_some h
            subst h
            exact hK _ _ _ hO hv13

theorem k65 (N n : Nat) (ih75 : K75 N n) : K65 N (n + 1) := by
  intro x_p r h
  unfold derivative_branches at h
  refine callQ_of_spec cf65 okP Tryd.func65 (by rfl) (by kernel_rfl) Tryd.call65 Tryd.ntmps65 (by rfl) (by rfl) ?_
  intro E H0 K hE hK
  have hO : Own Eq H0 [] H0 := .start stable_eq rfl
  cbv
  exact hK _ _ _ hO (iterV_of_emit Tryd.call75 (ih75 x_p r h))

theorem k66 (N n : Nat) (ih78 : K78 N n) : K66 N (n + 1) := by
  intro x_first x_again r h
  unfold derivative_repeated at h
  refine callQ_of_spec cf66 okP Tryd.func66 (by rfl) (by kernel_rfl) Tryd.call66 Tryd.ntmps66 (by rfl) (by rfl) ?_
  intro E H0 K hE hK
  have hO : Own Eq H0 [] H0 := .start stable_eq rfl
  cbv
  exact hK _ _ _ hO (iterV_of_emit Tryd.call78 (ih78 x_first x_again r h))

theorem k67 (N n : Nat) (ih79 : K79 N n) : K67 N (n + 1) := by
  intro x_p r h
  unfold derivative_inner at h
  refine callQ_of_spec cf67 okP Tryd.func67 (by rfl) (by kernel_rfl) Tryd.call67 Tryd.ntmps67 (by rfl) (by rfl) ?_
  intro E H0 K hE hK
  have hO : Own Eq H0 [] H0 := .start stable_eq rfl
  cbv
  exact hK _ _ _ hO (iterV_of_emit Tryd.call79 (ih79 x_p r h))

theorem k75 (N n : Nat) (ih45 : K45 N n) : K75 N (n + 1) := by
  intro x_1 r h
  unfold derivative_branches_1 at h
  obtain ⟨⟨w0, u0⟩, h1, hr⟩ := bind_some h
  clear h
  have hr := ret_some hr
  subst hr
  have h := h1
  clear h1
  refine emitP_of_spec cf75 okP Tryd.func75 (by rfl) (by kernel_rfl) Tryd.call75 Tryd.ntmps75 (by rfl) (fun _ => rfl) ?_
  intro yv I D hI hD hy tl F E H K hE hO hK hKD
  have hO : Own (I (List.map (fun (x : (GEdge × Gderivative_rest)) => [.agg [.int .i64 x.1.From, .int .i64 x.1.To, .int .i64 x.1.Var, .int .i64 x.1.Typ, .int .i64 x.1.Cond.Op, .sl (Ar.lst Encs.eGExpr x.1.Cond.Args) .ro, .int .i64 x.1.Cond.Var, .int .i64 x.1.Cond.Field, .int .i64 x.1.Cond.Kind, .int .i64 x.1.Cond.Value.Kind, .int .i64 x.1.Cond.Value.Num, .str x.1.Cond.Value.Text, .sl (Ar.lst (V.int .i64) x.1.Opens) .ro, .sl (Ar.lst (V.int .i64) x.1.Closes) .ro, .sl (Ar.lst Encs.eGExpr x.1.Checks) .ro, .sl (Ar.lst Encs.eGLimit x.1.Limits) .ro, .sl (Ar.lst (V.int .i64) x.1.Inside) .ro], .agg [.bool x.2.done, .int .i64 x.2.p.Op, .sl (Ar.lst Encs.eGPattern x.2.p.Args) .ro, .int .i64 x.2.p.Typ, .int .i64 x.2.p.Var, .int .i64 x.2.p.Scope, .int .i64 x.2.p.Span, .int .i64 x.2.p.Cond.Op, .sl (Ar.lst Encs.eGExpr x.2.p.Cond.Args) .ro, .int .i64 x.2.p.Cond.Var, .int .i64 x.2.p.Cond.Field, .int .i64 x.2.p.Cond.Kind, .int .i64 x.2.p.Cond.Value.Kind, .int .i64 x.2.p.Cond.Value.Num, .str x.2.p.Cond.Value.Text]]) (w0 ++ []) ++ tl)) F [] H := by rw [List.append_nil]; exact hO
  cbv
  refine n_need hE hy.1 ?_
  cbv
  refine n_ln hE ?_
  cbv
  obtain ⟨w3, w4, s7, hx, h1, he⟩ := thenE_some h
  clear h
  have h := h1
  clear h1
  rw [he, List.append_assoc] at hO
  clear he
  refine n_loopEd cf75 hE okP (γ := Unit) (fun s2 g => [(1, .v (.eref [.int .i64 x_1.Op, .sl (Ar.lst Encs.eGPattern x_1.Args) .ro, .int .i64 x_1.Typ, .int .i64 x_1.Var, .int .i64 x_1.Scope, .int .i64 x_1.Span, .int .i64 x_1.Cond.Op, .sl (Ar.lst Encs.eGExpr x_1.Cond.Args) .ro, .int .i64 x_1.Cond.Var, .int .i64 x_1.Cond.Field, .int .i64 x_1.Cond.Kind, .int .i64 x_1.Cond.Value.Kind, .int .i64 x_1.Cond.Value.Num, .str x_1.Cond.Value.Text] 0)), (2, .v (.eref [yv] 0)), (8, .v (.sl (Ar.lst Encs.eGPattern x_1.Args) .ro)), (9, .v (.int .i64 (Ar.len x_1.Args))), (10, .v (.int .i64 s2))]) (fun s2 g ds1 w H1 => Own (I (List.map (fun (x : (GEdge × Gderivative_rest)) => [.agg [.int .i64 x.1.From, .int .i64 x.1.To, .int .i64 x.1.Var, .int .i64 x.1.Typ, .int .i64 x.1.Cond.Op, .sl (Ar.lst Encs.eGExpr x.1.Cond.Args) .ro, .int .i64 x.1.Cond.Var, .int .i64 x.1.Cond.Field, .int .i64 x.1.Cond.Kind, .int .i64 x.1.Cond.Value.Kind, .int .i64 x.1.Cond.Value.Num, .str x.1.Cond.Value.Text, .sl (Ar.lst (V.int .i64) x.1.Opens) .ro, .sl (Ar.lst (V.int .i64) x.1.Closes) .ro, .sl (Ar.lst Encs.eGExpr x.1.Checks) .ro, .sl (Ar.lst Encs.eGLimit x.1.Limits) .ro, .sl (Ar.lst (V.int .i64) x.1.Inside) .ro], .agg [.bool x.2.done, .int .i64 x.2.p.Op, .sl (Ar.lst Encs.eGPattern x.2.p.Args) .ro, .int .i64 x.2.p.Typ, .int .i64 x.2.p.Var, .int .i64 x.2.p.Scope, .int .i64 x.2.p.Span, .int .i64 x.2.p.Cond.Op, .sl (Ar.lst Encs.eGExpr x.2.p.Cond.Args) .ro, .int .i64 x.2.p.Cond.Var, .int .i64 x.2.p.Cond.Field, .int .i64 x.2.p.Cond.Kind, .int .i64 x.2.p.Cond.Value.Kind, .int .i64 x.2.p.Cond.Value.Num, .str x.2.p.Cond.Value.Text]]) w ++ tl)) F (dbs ds1) H1) (fun x e l ds1 w H1 => match (generalizing := false) x with | .inl y => e = .exit 0 ∧ l = [] ∧ Own (I (List.map (fun (x : (GEdge × Gderivative_rest)) => [.agg [.int .i64 x.1.From, .int .i64 x.1.To, .int .i64 x.1.Var, .int .i64 x.1.Typ, .int .i64 x.1.Cond.Op, .sl (Ar.lst Encs.eGExpr x.1.Cond.Args) .ro, .int .i64 x.1.Cond.Var, .int .i64 x.1.Cond.Field, .int .i64 x.1.Cond.Kind, .int .i64 x.1.Cond.Value.Kind, .int .i64 x.1.Cond.Value.Num, .str x.1.Cond.Value.Text, .sl (Ar.lst (V.int .i64) x.1.Opens) .ro, .sl (Ar.lst (V.int .i64) x.1.Closes) .ro, .sl (Ar.lst Encs.eGExpr x.1.Checks) .ro, .sl (Ar.lst Encs.eGLimit x.1.Limits) .ro, .sl (Ar.lst (V.int .i64) x.1.Inside) .ro], .agg [.bool x.2.done, .int .i64 x.2.p.Op, .sl (Ar.lst Encs.eGPattern x.2.p.Args) .ro, .int .i64 x.2.p.Typ, .int .i64 x.2.p.Var, .int .i64 x.2.p.Scope, .int .i64 x.2.p.Span, .int .i64 x.2.p.Cond.Op, .sl (Ar.lst Encs.eGExpr x.2.p.Cond.Args) .ro, .int .i64 x.2.p.Cond.Var, .int .i64 x.2.p.Cond.Field, .int .i64 x.2.p.Cond.Kind, .int .i64 x.2.p.Cond.Value.Kind, .int .i64 x.2.p.Cond.Value.Num, .str x.2.p.Cond.Value.Text]]) w ++ tl)) F (dbs ds1) H1 | .inr y => e = .ret ∧ l = [] ∧ Own (I (List.map (fun (x : (GEdge × Gderivative_rest)) => [.agg [.int .i64 x.1.From, .int .i64 x.1.To, .int .i64 x.1.Var, .int .i64 x.1.Typ, .int .i64 x.1.Cond.Op, .sl (Ar.lst Encs.eGExpr x.1.Cond.Args) .ro, .int .i64 x.1.Cond.Var, .int .i64 x.1.Cond.Field, .int .i64 x.1.Cond.Kind, .int .i64 x.1.Cond.Value.Kind, .int .i64 x.1.Cond.Value.Num, .str x.1.Cond.Value.Text, .sl (Ar.lst (V.int .i64) x.1.Opens) .ro, .sl (Ar.lst (V.int .i64) x.1.Closes) .ro, .sl (Ar.lst Encs.eGExpr x.1.Checks) .ro, .sl (Ar.lst Encs.eGLimit x.1.Limits) .ro, .sl (Ar.lst (V.int .i64) x.1.Inside) .ro], .agg [.bool x.2.done, .int .i64 x.2.p.Op, .sl (Ar.lst Encs.eGPattern x.2.p.Args) .ro, .int .i64 x.2.p.Typ, .int .i64 x.2.p.Var, .int .i64 x.2.p.Scope, .int .i64 x.2.p.Span, .int .i64 x.2.p.Cond.Op, .sl (Ar.lst Encs.eGExpr x.2.p.Cond.Args) .ro, .int .i64 x.2.p.Cond.Var, .int .i64 x.2.p.Cond.Field, .int .i64 x.2.p.Cond.Kind, .int .i64 x.2.p.Cond.Value.Kind, .int .i64 x.2.p.Cond.Value.Num, .str x.2.p.Cond.Value.Text]]) w ++ tl)) F (dbs ds1) H1) (fun e l ds1 H1 => (e = .ret ∧ l = [] ∧ Own D F (dbs ds1) H1)) (by kernel_rfl) ?_ (w' := w4 ++ []) () hx rfl ?_ ?_ ?_ ?_
  · rintro s2 _ ds1 w5 w6 H o hO h
    clear hx
    skip
    cbv
    refine n_br hE h (fun hc h => ?_) (fun hc h => ?_)
    · cbv
      refine n_idx hE Encs.eGPattern_eq h fun x8 h => ?_
      cbv
      refine n_alloc hE hO fun b9 H hO => ?_
      cbv
      refine n_alloc hE hO fun b10 H hO => ?_
      cbv
      refine n_store hE hO 1 rfl rfl fun H hO => ?_
      cbv
      refine n_store hE hO 0 rfl rfl fun H hO => ?_
      cbv
      refine n_load hE hO 1 rfl ?_
      cbv
      refine n_br hE h (fun hc h => ?_) (fun hc h => ?_)
      · cbv
        obtain ⟨hw, rfl⟩ := pair_some h
        rw [← hw] at hO
        exact .inl ⟨_, _, _, rfl, ⟨rfl, rfl, hO.tail.tail⟩, .z, rfl⟩
      · cbv
        refine n_load hE hO 0 rfl ?_
        cbv
        refine n_callQ hE h (fun r11 hx => ih45 x8 r11 hx) (.refl _) fun r11 v12 hv12 h => ?_
        cbv
        obtain ⟨w16, w17, o20, hx, h1, he⟩ := thenE_some h
        clear h
        have h := h1
        clear h1
        rw [he, List.append_assoc] at hO
        clear he
        refine n_rangeE cf75 hE okP (ι := Nat) (σ := Unit) (R := Unit) (enc := fun (x : (GEdge × Gderivative_rest)) => [.agg [.int .i64 x.1.From, .int .i64 x.1.To, .int .i64 x.1.Var, .int .i64 x.1.Typ, .int .i64 x.1.Cond.Op, .sl (Ar.lst Encs.eGExpr x.1.Cond.Args) .ro, .int .i64 x.1.Cond.Var, .int .i64 x.1.Cond.Field, .int .i64 x.1.Cond.Kind, .int .i64 x.1.Cond.Value.Kind, .int .i64 x.1.Cond.Value.Num, .str x.1.Cond.Value.Text, .sl (Ar.lst (V.int .i64) x.1.Opens) .ro, .sl (Ar.lst (V.int .i64) x.1.Closes) .ro, .sl (Ar.lst Encs.eGExpr x.1.Checks) .ro, .sl (Ar.lst Encs.eGLimit x.1.Limits) .ro, .sl (Ar.lst (V.int .i64) x.1.Inside) .ro], .agg [.bool x.2.done, .int .i64 x.2.p.Op, .sl (Ar.lst Encs.eGPattern x.2.p.Args) .ro, .int .i64 x.2.p.Typ, .int .i64 x.2.p.Var, .int .i64 x.2.p.Scope, .int .i64 x.2.p.Span, .int .i64 x.2.p.Cond.Op, .sl (Ar.lst Encs.eGExpr x.2.p.Cond.Args) .ro, .int .i64 x.2.p.Cond.Var, .int .i64 x.2.p.Cond.Field, .int .i64 x.2.p.Cond.Kind, .int .i64 x.2.p.Cond.Value.Kind, .int .i64 x.2.p.Cond.Value.Num, .str x.2.p.Cond.Value.Text]]) (fun _ w F1 H => Own (I (List.map (fun (x : (GEdge × Gderivative_rest)) => [.agg [.int .i64 x.1.From, .int .i64 x.1.To, .int .i64 x.1.Var, .int .i64 x.1.Typ, .int .i64 x.1.Cond.Op, .sl (Ar.lst Encs.eGExpr x.1.Cond.Args) .ro, .int .i64 x.1.Cond.Var, .int .i64 x.1.Cond.Field, .int .i64 x.1.Cond.Kind, .int .i64 x.1.Cond.Value.Kind, .int .i64 x.1.Cond.Value.Num, .str x.1.Cond.Value.Text, .sl (Ar.lst (V.int .i64) x.1.Opens) .ro, .sl (Ar.lst (V.int .i64) x.1.Closes) .ro, .sl (Ar.lst Encs.eGExpr x.1.Checks) .ro, .sl (Ar.lst Encs.eGLimit x.1.Limits) .ro, .sl (Ar.lst (V.int .i64) x.1.Inside) .ro], .agg [.bool x.2.done, .int .i64 x.2.p.Op, .sl (Ar.lst Encs.eGPattern x.2.p.Args) .ro, .int .i64 x.2.p.Typ, .int .i64 x.2.p.Var, .int .i64 x.2.p.Scope, .int .i64 x.2.p.Span, .int .i64 x.2.p.Cond.Op, .sl (Ar.lst Encs.eGExpr x.2.p.Cond.Args) .ro, .int .i64 x.2.p.Cond.Var, .int .i64 x.2.p.Cond.Field, .int .i64 x.2.p.Cond.Kind, .int .i64 x.2.p.Cond.Value.Kind, .int .i64 x.2.p.Cond.Value.Num, .str x.2.p.Cond.Value.Text]]) w ++ tl)) F1 (.blk b10 (.cells [.int .i64 x8.Op, .sl (Ar.lst Encs.eGPattern x8.Args) .ro, .int .i64 x8.Typ, .int .i64 x8.Var, .int .i64 x8.Scope, .int .i64 x8.Span, .int .i64 x8.Cond.Op, .sl (Ar.lst Encs.eGExpr x8.Cond.Args) .ro, .int .i64 x8.Cond.Var, .int .i64 x8.Cond.Field, .int .i64 x8.Cond.Kind, .int .i64 x8.Cond.Value.Kind, .int .i64 x8.Cond.Value.Num, .str x8.Cond.Value.Text]) :: .blk b9 (.cells [.int .i64 s2]) :: dbs ds1) H) (fun _ e w F1 H => False) (fun e F1 H => e = .ret ∧ Own D F1 (.blk b10 (.cells [.int .i64 x8.Op, .sl (Ar.lst Encs.eGPattern x8.Args) .ro, .int .i64 x8.Typ, .int .i64 x8.Var, .int .i64 x8.Scope, .int .i64 x8.Span, .int .i64 x8.Cond.Op, .sl (Ar.lst Encs.eGExpr x8.Cond.Args) .ro, .int .i64 x8.Cond.Var, .int .i64 x8.Cond.Field, .int .i64 x8.Cond.Kind, .int .i64 x8.Cond.Value.Kind, .int .i64 x8.Cond.Value.Num, .str x8.Cond.Value.Text]) :: .blk b9 (.cells [.int .i64 s2]) :: dbs ds1) H) (fun i _ y13 => [(1, .v (.eref [.int .i64 x_1.Op, .sl (Ar.lst Encs.eGPattern x_1.Args) .ro, .int .i64 x_1.Typ, .int .i64 x_1.Var, .int .i64 x_1.Scope, .int .i64 x_1.Span, .int .i64 x_1.Cond.Op, .sl (Ar.lst Encs.eGExpr x_1.Cond.Args) .ro, .int .i64 x_1.Cond.Var, .int .i64 x_1.Cond.Field, .int .i64 x_1.Cond.Kind, .int .i64 x_1.Cond.Value.Kind, .int .i64 x_1.Cond.Value.Num, .str x_1.Cond.Value.Text] 0)), (2, .v (.eref [yv] 0)), (3, .v (.ref b9 0)), (5, .v (.eref [.int .i64 y13.1.From, .int .i64 y13.1.To, .int .i64 y13.1.Var, .int .i64 y13.1.Typ, .int .i64 y13.1.Cond.Op, .sl (Ar.lst Encs.eGExpr y13.1.Cond.Args) .ro, .int .i64 y13.1.Cond.Var, .int .i64 y13.1.Cond.Field, .int .i64 y13.1.Cond.Kind, .int .i64 y13.1.Cond.Value.Kind, .int .i64 y13.1.Cond.Value.Num, .str y13.1.Cond.Value.Text, .sl (Ar.lst (V.int .i64) y13.1.Opens) .ro, .sl (Ar.lst (V.int .i64) y13.1.Closes) .ro, .sl (Ar.lst Encs.eGExpr y13.1.Checks) .ro, .sl (Ar.lst Encs.eGLimit y13.1.Limits) .ro, .sl (Ar.lst (V.int .i64) y13.1.Inside) .ro] 0)), (6, .v (.ref i 0))]) (fun i _ y13 w F1 H => Own (I (List.map (fun (x : (GEdge × Gderivative_rest)) => [.agg [.int .i64 x.1.From, .int .i64 x.1.To, .int .i64 x.1.Var, .int .i64 x.1.Typ, .int .i64 x.1.Cond.Op, .sl (Ar.lst Encs.eGExpr x.1.Cond.Args) .ro, .int .i64 x.1.Cond.Var, .int .i64 x.1.Cond.Field, .int .i64 x.1.Cond.Kind, .int .i64 x.1.Cond.Value.Kind, .int .i64 x.1.Cond.Value.Num, .str x.1.Cond.Value.Text, .sl (Ar.lst (V.int .i64) x.1.Opens) .ro, .sl (Ar.lst (V.int .i64) x.1.Closes) .ro, .sl (Ar.lst Encs.eGExpr x.1.Checks) .ro, .sl (Ar.lst Encs.eGLimit x.1.Limits) .ro, .sl (Ar.lst (V.int .i64) x.1.Inside) .ro], .agg [.bool x.2.done, .int .i64 x.2.p.Op, .sl (Ar.lst Encs.eGPattern x.2.p.Args) .ro, .int .i64 x.2.p.Typ, .int .i64 x.2.p.Var, .int .i64 x.2.p.Scope, .int .i64 x.2.p.Span, .int .i64 x.2.p.Cond.Op, .sl (Ar.lst Encs.eGExpr x.2.p.Cond.Args) .ro, .int .i64 x.2.p.Cond.Var, .int .i64 x.2.p.Cond.Field, .int .i64 x.2.p.Cond.Kind, .int .i64 x.2.p.Cond.Value.Kind, .int .i64 x.2.p.Cond.Value.Num, .str x.2.p.Cond.Value.Text]]) w ++ tl)) F1 (.blk i (.cells [.bool y13.2.done, .int .i64 y13.2.p.Op, .sl (Ar.lst Encs.eGPattern y13.2.p.Args) .ro, .int .i64 y13.2.p.Typ, .int .i64 y13.2.p.Var, .int .i64 y13.2.p.Scope, .int .i64 y13.2.p.Span, .int .i64 y13.2.p.Cond.Op, .sl (Ar.lst Encs.eGExpr y13.2.p.Cond.Args) .ro, .int .i64 y13.2.p.Cond.Var, .int .i64 y13.2.p.Cond.Field, .int .i64 y13.2.p.Cond.Kind, .int .i64 y13.2.p.Cond.Value.Kind, .int .i64 y13.2.p.Cond.Value.Num, .str y13.2.p.Cond.Value.Text]) :: .blk b10 (.cells [.int .i64 x8.Op, .sl (Ar.lst Encs.eGPattern x8.Args) .ro, .int .i64 x8.Typ, .int .i64 x8.Var, .int .i64 x8.Scope, .int .i64 x8.Span, .int .i64 x8.Cond.Op, .sl (Ar.lst Encs.eGExpr x8.Cond.Args) .ro, .int .i64 x8.Cond.Var, .int .i64 x8.Cond.Field, .int .i64 x8.Cond.Kind, .int .i64 x8.Cond.Value.Kind, .int .i64 x8.Cond.Value.Num, .str x8.Cond.Value.Text]) :: .blk b9 (.cells [.int .i64 s2]) :: dbs ds1) H) (fun _ _ => Own.stable (hI _) _) (fun _ _ _ => ⟨fun h => h.elim, fun _ _ h => h.elim⟩) (fun _ => Stable.con (Own.stable hD _)) (fun _ _ _ _ => Own.stable (hI _) _) hv12 hx (w' := w17 ++ w6) hO (by decide) (fun _ => rfl) (by kernel_rfl) (by kernel_rfl) ?_ ?_ ?_ ?_ ?_
        · rintro E i15 y13 _ w F14 H hE hO
          clear hx h
          cbv
          refine n_alloc hE hO fun b21 H hO => ?_
          cbv
          refine n_store hE hO 0 rfl rfl fun H hO => ?_
          cbv
          exact ⟨b21, hO, .e rfl (.e rfl (.e rfl (.e rfl (.e rfl (.z))))), rfl⟩
        · rintro E i15 b21 y13 _ w18 w19 F14 H o hE hF h hO
          clear hx
          cbv
          obtain ⟨w23, w24, s22, hx, h1, he⟩ := thenE_some h
          clear h
          have h := h1
          clear h1
          rw [he, List.append_assoc] at hO
          clear he
          refine n_join cf75 hE okP (fun e l H1 => (e = .normal ∧ l = [(2, .v (.eref [yv] 0)), (5, .v (.eref [.int .i64 y13.1.From, .int .i64 y13.1.To, .int .i64 y13.1.Var, .int .i64 y13.1.Typ, .int .i64 y13.1.Cond.Op, .sl (Ar.lst Encs.eGExpr y13.1.Cond.Args) .ro, .int .i64 y13.1.Cond.Var, .int .i64 y13.1.Cond.Field, .int .i64 y13.1.Cond.Kind, .int .i64 y13.1.Cond.Value.Kind, .int .i64 y13.1.Cond.Value.Num, .str y13.1.Cond.Value.Text, .sl (Ar.lst (V.int .i64) y13.1.Opens) .ro, .sl (Ar.lst (V.int .i64) y13.1.Closes) .ro, .sl (Ar.lst Encs.eGExpr y13.1.Checks) .ro, .sl (Ar.lst Encs.eGLimit y13.1.Limits) .ro, .sl (Ar.lst (V.int .i64) y13.1.Inside) .ro] 0)), (6, .v (.ref b21 0))] ∧ Own (I (List.map (fun (x : (GEdge × Gderivative_rest)) => [.agg [.int .i64 x.1.From, .int .i64 x.1.To, .int .i64 x.1.Var, .int .i64 x.1.Typ, .int .i64 x.1.Cond.Op, .sl (Ar.lst Encs.eGExpr x.1.Cond.Args) .ro, .int .i64 x.1.Cond.Var, .int .i64 x.1.Cond.Field, .int .i64 x.1.Cond.Kind, .int .i64 x.1.Cond.Value.Kind, .int .i64 x.1.Cond.Value.Num, .str x.1.Cond.Value.Text, .sl (Ar.lst (V.int .i64) x.1.Opens) .ro, .sl (Ar.lst (V.int .i64) x.1.Closes) .ro, .sl (Ar.lst Encs.eGExpr x.1.Checks) .ro, .sl (Ar.lst Encs.eGLimit x.1.Limits) .ro, .sl (Ar.lst (V.int .i64) x.1.Inside) .ro], .agg [.bool x.2.done, .int .i64 x.2.p.Op, .sl (Ar.lst Encs.eGPattern x.2.p.Args) .ro, .int .i64 x.2.p.Typ, .int .i64 x.2.p.Var, .int .i64 x.2.p.Scope, .int .i64 x.2.p.Span, .int .i64 x.2.p.Cond.Op, .sl (Ar.lst Encs.eGExpr x.2.p.Cond.Args) .ro, .int .i64 x.2.p.Cond.Var, .int .i64 x.2.p.Cond.Field, .int .i64 x.2.p.Cond.Kind, .int .i64 x.2.p.Cond.Value.Kind, .int .i64 x.2.p.Cond.Value.Num, .str x.2.p.Cond.Value.Text]]) (w24 ++ w19) ++ tl)) F14 (.blk b21 (.cells [.bool s22.done, .int .i64 s22.p.Op, .sl (Ar.lst Encs.eGPattern s22.p.Args) .ro, .int .i64 s22.p.Typ, .int .i64 s22.p.Var, .int .i64 s22.p.Scope, .int .i64 s22.p.Span, .int .i64 s22.p.Cond.Op, .sl (Ar.lst Encs.eGExpr s22.p.Cond.Args) .ro, .int .i64 s22.p.Cond.Var, .int .i64 s22.p.Cond.Field, .int .i64 s22.p.Cond.Kind, .int .i64 s22.p.Cond.Value.Kind, .int .i64 s22.p.Cond.Value.Num, .str s22.p.Cond.Value.Text]) :: .blk b10 (.cells [.int .i64 x8.Op, .sl (Ar.lst Encs.eGPattern x8.Args) .ro, .int .i64 x8.Typ, .int .i64 x8.Var, .int .i64 x8.Scope, .int .i64 x8.Span, .int .i64 x8.Cond.Op, .sl (Ar.lst Encs.eGExpr x8.Cond.Args) .ro, .int .i64 x8.Cond.Var, .int .i64 x8.Cond.Field, .int .i64 x8.Cond.Kind, .int .i64 x8.Cond.Value.Kind, .int .i64 x8.Cond.Value.Num, .str x8.Cond.Value.Text]) :: .blk b9 (.cells [.int .i64 s2]) :: dbs ds1) H1) ∨ (False)) (by kernel_rfl) ?_ ?_
          · clear h
            have h := hx
            clear hx
            cbv
            refine n_br hE h (fun hc h => ?_) (fun hc h => ?_)
            · cbv
              refine n_load hE hO 0 rfl ?_
              cbv
              refine n_slice hE sz_GPattern h fun l25 t26 h => ?_
              cbv
              refine n_call hE (g := fun r27 => .agg [.bool r27.done, .int .i64 r27.p.Op, .sl (Ar.lst Encs.eGPattern r27.p.Args) .ro, .int .i64 r27.p.Typ, .int .i64 r27.p.Var, .int .i64 r27.p.Scope, .int .i64 r27.p.Span, .int .i64 r27.p.Cond.Op, .sl (Ar.lst Encs.eGExpr r27.p.Cond.Args) .ro, .int .i64 r27.p.Cond.Var, .int .i64 r27.p.Cond.Field, .int .i64 r27.p.Cond.Kind, .int .i64 r27.p.Cond.Value.Kind, .int .i64 r27.p.Cond.Value.Num, .str r27.p.Cond.Value.Text]) h (fun r27 hx => c76 N y13.2 l25 r27 hx) (.cons (.refl _) (.cons (.ro _ _) (.refl _))) fun r27 h => ?_
              cbv
              refine n_store hE hO 0 rfl rfl fun H hO => ?_
              cbv
              obtain ⟨hw, rfl⟩ := pair_some h
              rw [← hw] at hO
              exact ⟨_, .inl ⟨rfl, rfl, hO⟩, .e rfl (.e rfl (.e rfl (.z))), rfl⟩
            · cbv
              refine n_br hE h (fun hc h => ?_) (fun hc h => ?_)
              · cbv
                refine n_load hE hO 2 rfl ?_
                cbv
                refine n_load hE hO 0 rfl ?_
                cbv
                refine n_call hE (g := fun r28 => .agg [.bool r28.done, .int .i64 r28.p.Op, .sl (Ar.lst Encs.eGPattern r28.p.Args) .ro, .int .i64 r28.p.Typ, .int .i64 r28.p.Var, .int .i64 r28.p.Scope, .int .i64 r28.p.Span, .int .i64 r28.p.Cond.Op, .sl (Ar.lst Encs.eGExpr r28.p.Cond.Args) .ro, .int .i64 r28.p.Cond.Var, .int .i64 r28.p.Cond.Field, .int .i64 r28.p.Cond.Kind, .int .i64 r28.p.Cond.Value.Kind, .int .i64 r28.p.Cond.Value.Num, .str r28.p.Cond.Value.Text]) h (fun r28 hx => c77 N x_1.Args s2 y13.2 r28 hx) (.refl _) fun r28 h => ?_
                cbv
                refine n_store hE hO 0 rfl rfl fun H hO => ?_
                cbv
                obtain ⟨hw, rfl⟩ := pair_some h
                rw [← hw] at hO
                exact ⟨_, .inl ⟨rfl, rfl, hO⟩, .e rfl (.e rfl (.e rfl (.z))), rfl⟩
              · cbv
                obtain ⟨hw, rfl⟩ := pair_some h
                rw [← hw] at hO
                exact ⟨_, .inl ⟨rfl, rfl, hO⟩, .e rfl (.e rfl (.e rfl (.z))), rfl⟩
          · clear hx
            rintro e l H hX
            rcases hX with hX | hX
            · obtain ⟨rfl, rfl, hO⟩ := hX
              cbv
              refine n_load hE hO 0 rfl ?_
              cbv
              obtain ⟨w29, h1, he⟩ := thenE_ret h
              clear h
              have h := h1
              clear h1
              rw [he, List.append_assoc] at hO
              clear he
              have hO : Own (I ([.agg [.int .i64 y13.1.From, .int .i64 y13.1.To, .int .i64 y13.1.Var, .int .i64 y13.1.Typ, .int .i64 y13.1.Cond.Op, .sl (Ar.lst Encs.eGExpr y13.1.Cond.Args) .ro, .int .i64 y13.1.Cond.Var, .int .i64 y13.1.Cond.Field, .int .i64 y13.1.Cond.Kind, .int .i64 y13.1.Cond.Value.Kind, .int .i64 y13.1.Cond.Value.Num, .str y13.1.Cond.Value.Text, .sl (Ar.lst (V.int .i64) y13.1.Opens) .ro, .sl (Ar.lst (V.int .i64) y13.1.Closes) .ro, .sl (Ar.lst Encs.eGExpr y13.1.Checks) .ro, .sl (Ar.lst Encs.eGLimit y13.1.Limits) .ro, .sl (Ar.lst (V.int .i64) y13.1.Inside) .ro], .agg [.bool s22.done, .int .i64 s22.p.Op, .sl (Ar.lst Encs.eGPattern s22.p.Args) .ro, .int .i64 s22.p.Typ, .int .i64 s22.p.Var, .int .i64 s22.p.Scope, .int .i64 s22.p.Span, .int .i64 s22.p.Cond.Op, .sl (Ar.lst Encs.eGExpr s22.p.Cond.Args) .ro, .int .i64 s22.p.Cond.Var, .int .i64 s22.p.Cond.Field, .int .i64 s22.p.Cond.Kind, .int .i64 s22.p.Cond.Value.Kind, .int .i64 s22.p.Cond.Value.Num, .str s22.p.Cond.Value.Text]] :: (List.map (fun (x : (GEdge × Gderivative_rest)) => [.agg [.int .i64 x.1.From, .int .i64 x.1.To, .int .i64 x.1.Var, .int .i64 x.1.Typ, .int .i64 x.1.Cond.Op, .sl (Ar.lst Encs.eGExpr x.1.Cond.Args) .ro, .int .i64 x.1.Cond.Var, .int .i64 x.1.Cond.Field, .int .i64 x.1.Cond.Kind, .int .i64 x.1.Cond.Value.Kind, .int .i64 x.1.Cond.Value.Num, .str x.1.Cond.Value.Text, .sl (Ar.lst (V.int .i64) x.1.Opens) .ro, .sl (Ar.lst (V.int .i64) x.1.Closes) .ro, .sl (Ar.lst Encs.eGExpr x.1.Checks) .ro, .sl (Ar.lst Encs.eGLimit x.1.Limits) .ro, .sl (Ar.lst (V.int .i64) x.1.Inside) .ro], .agg [.bool x.2.done, .int .i64 x.2.p.Op, .sl (Ar.lst Encs.eGPattern x.2.p.Args) .ro, .int .i64 x.2.p.Typ, .int .i64 x.2.p.Var, .int .i64 x.2.p.Scope, .int .i64 x.2.p.Span, .int .i64 x.2.p.Cond.Op, .sl (Ar.lst Encs.eGExpr x.2.p.Cond.Args) .ro, .int .i64 x.2.p.Cond.Var, .int .i64 x.2.p.Cond.Field, .int .i64 x.2.p.Cond.Kind, .int .i64 x.2.p.Cond.Value.Kind, .int .i64 x.2.p.Cond.Value.Num, .str x.2.p.Cond.Value.Text]]) (w29 ++ w19) ++ tl))) F14 (.blk b21 (.cells [.bool s22.done, .int .i64 s22.p.Op, .sl (Ar.lst Encs.eGPattern s22.p.Args) .ro, .int .i64 s22.p.Typ, .int .i64 s22.p.Var, .int .i64 s22.p.Scope, .int .i64 s22.p.Span, .int .i64 s22.p.Cond.Op, .sl (Ar.lst Encs.eGExpr s22.p.Cond.Args) .ro, .int .i64 s22.p.Cond.Var, .int .i64 s22.p.Cond.Field, .int .i64 s22.p.Cond.Kind, .int .i64 s22.p.Cond.Value.Kind, .int .i64 s22.p.Cond.Value.Num, .str s22.p.Cond.Value.Text]) :: .blk b10 (.cells [.int .i64 x8.Op, .sl (Ar.lst Encs.eGPattern x8.Args) .ro, .int .i64 x8.Typ, .int .i64 x8.Var, .int .i64 x8.Scope, .int .i64 x8.Span, .int .i64 x8.Cond.Op, .sl (Ar.lst Encs.eGExpr x8.Cond.Args) .ro, .int .i64 x8.Cond.Var, .int .i64 x8.Cond.Field, .int .i64 x8.Cond.Kind, .int .i64 x8.Cond.Value.Kind, .int .i64 x8.Cond.Value.Num, .str x8.Cond.Value.Text]) :: .blk b9 (.cells [.int .i64 s2]) :: dbs ds1) _ := hO
              refine n_yield hE hI hD hy hO (.refl _) (fun H hO => ?_) (fun H hO => ?_)
              · cbv
                refine n_brF hE (Ar.nt_eq _) ?_
                cbv
                obtain ⟨hw, rfl⟩ := pair_some h
                rw [← hw] at hO
                exact ⟨_, rfl, hO.tail⟩
              · clear h
                cbv
                refine n_brT hE (Ar.nt_eq _) ?_
                cbv
                first | exact .inr ⟨rfl, rfl, hO.tail⟩ | exact .inr (hO.tail)
            · exact hX.elim
        · rintro d30 _ H rfl hd hO
          have hO : Own (I (List.map (fun (x : (GEdge × Gderivative_rest)) => [.agg [.int .i64 x.1.From, .int .i64 x.1.To, .int .i64 x.1.Var, .int .i64 x.1.Typ, .int .i64 x.1.Cond.Op, .sl (Ar.lst Encs.eGExpr x.1.Cond.Args) .ro, .int .i64 x.1.Cond.Var, .int .i64 x.1.Cond.Field, .int .i64 x.1.Cond.Kind, .int .i64 x.1.Cond.Value.Kind, .int .i64 x.1.Cond.Value.Num, .str x.1.Cond.Value.Text, .sl (Ar.lst (V.int .i64) x.1.Opens) .ro, .sl (Ar.lst (V.int .i64) x.1.Closes) .ro, .sl (Ar.lst Encs.eGExpr x.1.Checks) .ro, .sl (Ar.lst Encs.eGLimit x.1.Limits) .ro, .sl (Ar.lst (V.int .i64) x.1.Inside) .ro], .agg [.bool x.2.done, .int .i64 x.2.p.Op, .sl (Ar.lst Encs.eGPattern x.2.p.Args) .ro, .int .i64 x.2.p.Typ, .int .i64 x.2.p.Var, .int .i64 x.2.p.Scope, .int .i64 x.2.p.Span, .int .i64 x.2.p.Cond.Op, .sl (Ar.lst Encs.eGExpr x.2.p.Cond.Args) .ro, .int .i64 x.2.p.Cond.Var, .int .i64 x.2.p.Cond.Field, .int .i64 x.2.p.Cond.Kind, .int .i64 x.2.p.Cond.Value.Kind, .int .i64 x.2.p.Cond.Value.Num, .str x.2.p.Cond.Value.Text]]) (w17 ++ w6) ++ tl)) F (.blk b10 (.cells [.int .i64 x8.Op, .sl (Ar.lst Encs.eGPattern x8.Args) .ro, .int .i64 x8.Typ, .int .i64 x8.Var, .int .i64 x8.Scope, .int .i64 x8.Span, .int .i64 x8.Cond.Op, .sl (Ar.lst Encs.eGExpr x8.Cond.Args) .ro, .int .i64 x8.Cond.Var, .int .i64 x8.Cond.Field, .int .i64 x8.Cond.Kind, .int .i64 x8.Cond.Value.Kind, .int .i64 x8.Cond.Value.Num, .str x8.Cond.Value.Text]) :: .blk b9 (.cells [.int .i64 s2]) :: dbs (d30 :: ds1)) H := Own.dbs1 (A := [_, _]) (ds := ds1) (Own.dblk hd hO)
          clear hd hx
          cbv
          obtain ⟨hw, rfl⟩ := pair_some h
          rw [← hw] at hO
          exact ⟨_, (), _, rfl, .e rfl (.e rfl (.e rfl (.e rfl (.e rfl (.z))))), rfl, hO.tail.tail⟩
        · rintro _ _ _ _ _ _ h
          exact h.elim
        · rintro d30 e H hd ⟨rfl, hO⟩
          have hO : Own D F (.blk b10 (.cells [.int .i64 x8.Op, .sl (Ar.lst Encs.eGPattern x8.Args) .ro, .int .i64 x8.Typ, .int .i64 x8.Var, .int .i64 x8.Scope, .int .i64 x8.Span, .int .i64 x8.Cond.Op, .sl (Ar.lst Encs.eGExpr x8.Cond.Args) .ro, .int .i64 x8.Cond.Var, .int .i64 x8.Cond.Field, .int .i64 x8.Cond.Kind, .int .i64 x8.Cond.Value.Kind, .int .i64 x8.Cond.Value.Num, .str x8.Cond.Value.Text]) :: .blk b9 (.cells [.int .i64 s2]) :: dbs (d30 :: ds1)) H := Own.dbs1 (A := [_, _]) (ds := ds1) (Own.dblk hd hO)
          clear hd hx h
          cbv
          exact .inr ⟨_, _, ⟨rfl, rfl, hO.tail.tail⟩, .z, rfl⟩
    · cbv
      obtain ⟨hw, rfl⟩ := pair_some h
      rw [← hw] at hO
      exact .inl ⟨_, _, _, rfl, ⟨rfl, rfl, hO⟩, .z, rfl⟩
  · exact .e rfl (.e rfl (.e rfl (.e rfl (.e rfl (.z)))))
  · exact hO
  · rintro e l ds1 H hX
    clear hx
    rcases s7 with y31 | y32
    · obtain ⟨rfl, rfl, hO⟩ := hX
      cbv
      rcases ds1 with _ | ⟨d0, ds1⟩
      · cbv
        have hO : Own _ _ [] H := hO
        obtain ⟨hw, _⟩ := pair_some h
        rw [← hw] at hO
        exact hK _ _ _ hO trivial
      · cbv
        refine n_finL (A := []) (ds := d0 :: ds1) hE hO fun H hO => ?_
        cbv
        obtain ⟨hw, _⟩ := pair_some h
        rw [← hw] at hO
        exact hK _ _ _ hO trivial
    · obtain ⟨rfl, rfl, hO⟩ := hX
      cbv
      rcases ds1 with _ | ⟨d0, ds1⟩
      · cbv
        have hO : Own _ _ [] H := hO
        obtain ⟨hw, _⟩ := pair_some h
        rw [← hw] at hO
        exact hK _ _ _ hO trivial
      · cbv
        refine n_finL (A := []) (ds := d0 :: ds1) hE hO fun H hO => ?_
        cbv
        obtain ⟨hw, _⟩ := pair_some h
        rw [← hw] at hO
        exact hK _ _ _ hO trivial
  · rintro e l ds1 H hX
    obtain ⟨rfl, rfl, hO⟩ := hX
    clear h
    cbv
    rcases ds1 with _ | ⟨d0, ds1⟩
    · cbv
      have hO : Own _ _ [] H := hO
      exact hKD _ _ _ hO trivial
    · cbv
      refine n_finL (A := []) (ds := d0 :: ds1) hE hO fun H hO => ?_
      cbv
      exact hKD _ _ _ hO trivial

end Go.Ab

