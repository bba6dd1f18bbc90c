/- A part of the proof: GDCo3. -/
import Derived.Test.YtlbkmdpaalofkaaDoorT25
set_option linter.unusedVariables false
set_option linter.unusedSimpArgs false
set_option linter.unusedSectionVars false

/- The contracts. By program. -/
namespace Go.Ab
open Go.RowKit Go.Proofs

variable [Ar] [Encs]
set_option maxRecDepth 100000

theorem k78 (N n : Nat) (ih45 : K45 N n) : K78 N (n + 1) := by
  intro x_1 x_2 r h
  unfold derivative_repeated_1 at h
  obtain ⟨⟨w0, u0⟩, h1, hr⟩ := bind_some h
  clear h
  have hr := ret_some hr
  subst hr
  have h := h1
  clear h1
  refine emitP_of_spec cf78 okP Tryd.func78 (by rfl) (by kernel_rfl) Tryd.call78 Tryd.ntmps78 (by rfl) (fun _ => rfl) ?_
  intro yv I D hI hD hy tl F E H K hE hO hK hKD
  have hO : Own (I (List.map (fun (x : (GEdge × Gderivative_rest)) => [.agg [.int .i64 x.1.From, .int .i64 x.1.To, .int .i64 x.1.Var, .int .i64 x.1.Typ, .int .i64 x.1.Cond.Op, .sl (Ar.lst Encs.eGExpr x.1.Cond.Args) .ro, .int .i64 x.1.Cond.Var, .int .i64 x.1.Cond.Field, .int .i64 x.1.Cond.Kind, .int .i64 x.1.Cond.Value.Kind, .int .i64 x.1.Cond.Value.Num, .str x.1.Cond.Value.Text, .sl (Ar.lst (V.int .i64) x.1.Opens) .ro, .sl (Ar.lst (V.int .i64) x.1.Closes) .ro, .sl (Ar.lst Encs.eGExpr x.1.Checks) .ro, .sl (Ar.lst Encs.eGLimit x.1.Limits) .ro, .sl (Ar.lst (V.int .i64) x.1.Inside) .ro], .agg [.bool x.2.done, .int .i64 x.2.p.Op, .sl (Ar.lst Encs.eGPattern x.2.p.Args) .ro, .int .i64 x.2.p.Typ, .int .i64 x.2.p.Var, .int .i64 x.2.p.Scope, .int .i64 x.2.p.Span, .int .i64 x.2.p.Cond.Op, .sl (Ar.lst Encs.eGExpr x.2.p.Cond.Args) .ro, .int .i64 x.2.p.Cond.Var, .int .i64 x.2.p.Cond.Field, .int .i64 x.2.p.Cond.Kind, .int .i64 x.2.p.Cond.Value.Kind, .int .i64 x.2.p.Cond.Value.Num, .str x.2.p.Cond.Value.Text]]) (w0 ++ []) ++ tl)) F [] H := by rw [List.append_nil]; exact hO
  cbv
  refine n_need hE hy.1 ?_
  cbv
  refine n_callQ hE h (fun r1 hx => ih45 x_1 r1 hx) (.refl _) fun r1 v2 hv2 h => ?_
  cbv
  obtain ⟨w6, w7, o10, hx, h1, he⟩ := thenE_some h
  clear h
  have h := h1
  clear h1
  rw [he, List.append_assoc] at hO
  clear he
  refine n_rangeE cf78 hE okP (ι := Unit) (σ := Unit) (R := Unit) (enc := fun (x : (GEdge × Gderivative_rest)) => [.agg [.int .i64 x.1.From, .int .i64 x.1.To, .int .i64 x.1.Var, .int .i64 x.1.Typ, .int .i64 x.1.Cond.Op, .sl (Ar.lst Encs.eGExpr x.1.Cond.Args) .ro, .int .i64 x.1.Cond.Var, .int .i64 x.1.Cond.Field, .int .i64 x.1.Cond.Kind, .int .i64 x.1.Cond.Value.Kind, .int .i64 x.1.Cond.Value.Num, .str x.1.Cond.Value.Text, .sl (Ar.lst (V.int .i64) x.1.Opens) .ro, .sl (Ar.lst (V.int .i64) x.1.Closes) .ro, .sl (Ar.lst Encs.eGExpr x.1.Checks) .ro, .sl (Ar.lst Encs.eGLimit x.1.Limits) .ro, .sl (Ar.lst (V.int .i64) x.1.Inside) .ro], .agg [.bool x.2.done, .int .i64 x.2.p.Op, .sl (Ar.lst Encs.eGPattern x.2.p.Args) .ro, .int .i64 x.2.p.Typ, .int .i64 x.2.p.Var, .int .i64 x.2.p.Scope, .int .i64 x.2.p.Span, .int .i64 x.2.p.Cond.Op, .sl (Ar.lst Encs.eGExpr x.2.p.Cond.Args) .ro, .int .i64 x.2.p.Cond.Var, .int .i64 x.2.p.Cond.Field, .int .i64 x.2.p.Cond.Kind, .int .i64 x.2.p.Cond.Value.Kind, .int .i64 x.2.p.Cond.Value.Num, .str x.2.p.Cond.Value.Text]]) (fun _ w F1 H => Own (I (List.map (fun (x : (GEdge × Gderivative_rest)) => [.agg [.int .i64 x.1.From, .int .i64 x.1.To, .int .i64 x.1.Var, .int .i64 x.1.Typ, .int .i64 x.1.Cond.Op, .sl (Ar.lst Encs.eGExpr x.1.Cond.Args) .ro, .int .i64 x.1.Cond.Var, .int .i64 x.1.Cond.Field, .int .i64 x.1.Cond.Kind, .int .i64 x.1.Cond.Value.Kind, .int .i64 x.1.Cond.Value.Num, .str x.1.Cond.Value.Text, .sl (Ar.lst (V.int .i64) x.1.Opens) .ro, .sl (Ar.lst (V.int .i64) x.1.Closes) .ro, .sl (Ar.lst Encs.eGExpr x.1.Checks) .ro, .sl (Ar.lst Encs.eGLimit x.1.Limits) .ro, .sl (Ar.lst (V.int .i64) x.1.Inside) .ro], .agg [.bool x.2.done, .int .i64 x.2.p.Op, .sl (Ar.lst Encs.eGPattern x.2.p.Args) .ro, .int .i64 x.2.p.Typ, .int .i64 x.2.p.Var, .int .i64 x.2.p.Scope, .int .i64 x.2.p.Span, .int .i64 x.2.p.Cond.Op, .sl (Ar.lst Encs.eGExpr x.2.p.Cond.Args) .ro, .int .i64 x.2.p.Cond.Var, .int .i64 x.2.p.Cond.Field, .int .i64 x.2.p.Cond.Kind, .int .i64 x.2.p.Cond.Value.Kind, .int .i64 x.2.p.Cond.Value.Num, .str x.2.p.Cond.Value.Text]]) w ++ tl)) F1 [] H) (fun _ e w F1 H => False) (fun e F1 H => e = .ret ∧ Own D F1 [] H) (fun i _ y3 => [(2, .v (.eref [.int .i64 x_2.Op, .sl (Ar.lst Encs.eGPattern x_2.Args) .ro, .int .i64 x_2.Typ, .int .i64 x_2.Var, .int .i64 x_2.Scope, .int .i64 x_2.Span, .int .i64 x_2.Cond.Op, .sl (Ar.lst Encs.eGExpr x_2.Cond.Args) .ro, .int .i64 x_2.Cond.Var, .int .i64 x_2.Cond.Field, .int .i64 x_2.Cond.Kind, .int .i64 x_2.Cond.Value.Kind, .int .i64 x_2.Cond.Value.Num, .str x_2.Cond.Value.Text] 0)), (3, .v (.eref [yv] 0)), (4, .v (.eref [.int .i64 y3.1.From, .int .i64 y3.1.To, .int .i64 y3.1.Var, .int .i64 y3.1.Typ, .int .i64 y3.1.Cond.Op, .sl (Ar.lst Encs.eGExpr y3.1.Cond.Args) .ro, .int .i64 y3.1.Cond.Var, .int .i64 y3.1.Cond.Field, .int .i64 y3.1.Cond.Kind, .int .i64 y3.1.Cond.Value.Kind, .int .i64 y3.1.Cond.Value.Num, .str y3.1.Cond.Value.Text, .sl (Ar.lst (V.int .i64) y3.1.Opens) .ro, .sl (Ar.lst (V.int .i64) y3.1.Closes) .ro, .sl (Ar.lst Encs.eGExpr y3.1.Checks) .ro, .sl (Ar.lst Encs.eGLimit y3.1.Limits) .ro, .sl (Ar.lst (V.int .i64) y3.1.Inside) .ro] 0)), (5, .v (.eref [.bool y3.2.done, .int .i64 y3.2.p.Op, .sl (Ar.lst Encs.eGPattern y3.2.p.Args) .ro, .int .i64 y3.2.p.Typ, .int .i64 y3.2.p.Var, .int .i64 y3.2.p.Scope, .int .i64 y3.2.p.Span, .int .i64 y3.2.p.Cond.Op, .sl (Ar.lst Encs.eGExpr y3.2.p.Cond.Args) .ro, .int .i64 y3.2.p.Cond.Var, .int .i64 y3.2.p.Cond.Field, .int .i64 y3.2.p.Cond.Kind, .int .i64 y3.2.p.Cond.Value.Kind, .int .i64 y3.2.p.Cond.Value.Num, .str y3.2.p.Cond.Value.Text] 0))]) (fun i _ y3 w F1 H => Own (I (List.map (fun (x : (GEdge × Gderivative_rest)) => [.agg [.int .i64 x.1.From, .int .i64 x.1.To, .int .i64 x.1.Var, .int .i64 x.1.Typ, .int .i64 x.1.Cond.Op, .sl (Ar.lst Encs.eGExpr x.1.Cond.Args) .ro, .int .i64 x.1.Cond.Var, .int .i64 x.1.Cond.Field, .int .i64 x.1.Cond.Kind, .int .i64 x.1.Cond.Value.Kind, .int .i64 x.1.Cond.Value.Num, .str x.1.Cond.Value.Text, .sl (Ar.lst (V.int .i64) x.1.Opens) .ro, .sl (Ar.lst (V.int .i64) x.1.Closes) .ro, .sl (Ar.lst Encs.eGExpr x.1.Checks) .ro, .sl (Ar.lst Encs.eGLimit x.1.Limits) .ro, .sl (Ar.lst (V.int .i64) x.1.Inside) .ro], .agg [.bool x.2.done, .int .i64 x.2.p.Op, .sl (Ar.lst Encs.eGPattern x.2.p.Args) .ro, .int .i64 x.2.p.Typ, .int .i64 x.2.p.Var, .int .i64 x.2.p.Scope, .int .i64 x.2.p.Span, .int .i64 x.2.p.Cond.Op, .sl (Ar.lst Encs.eGExpr x.2.p.Cond.Args) .ro, .int .i64 x.2.p.Cond.Var, .int .i64 x.2.p.Cond.Field, .int .i64 x.2.p.Cond.Kind, .int .i64 x.2.p.Cond.Value.Kind, .int .i64 x.2.p.Cond.Value.Num, .str x.2.p.Cond.Value.Text]]) w ++ tl)) F1 [] H) (fun _ _ => Own.stable (hI _) _) (fun _ _ _ => ⟨fun h => h.elim, fun _ _ h => h.elim⟩) (fun _ => Stable.con (Own.stable hD _)) (fun _ _ _ _ => Own.stable (hI _) _) hv2 hx (w' := w7 ++ []) hO (by decide) (fun _ => rfl) (by kernel_rfl) (by kernel_rfl) ?_ ?_ ?_ ?_ ?_
  · rintro E i5 y3 _ w F4 H hE hO
    clear hx h
    cbv
    exact ⟨(), hO, .e rfl (.e rfl (.e rfl (.e rfl (.z)))), rfl⟩
  · rintro E i5 _ y3 _ w8 w9 F4 H o hE hF h hO
    clear hx
    cbv
    refine n_br hE h (fun hc h => ?_) (fun hc h => ?_)
    · cbv
      refine n_idx hE Encs.eGPattern_eq h fun x11 h => ?_
      cbv
      obtain ⟨w12, h1, he⟩ := thenE_ret h
      clear h
      have h := h1
      clear h1
      rw [he, List.append_assoc] at hO
      clear he
      have hO : Own (I ([.agg [.int .i64 y3.1.From, .int .i64 y3.1.To, .int .i64 y3.1.Var, .int .i64 y3.1.Typ, .int .i64 y3.1.Cond.Op, .sl (Ar.lst Encs.eGExpr y3.1.Cond.Args) .ro, .int .i64 y3.1.Cond.Var, .int .i64 y3.1.Cond.Field, .int .i64 y3.1.Cond.Kind, .int .i64 y3.1.Cond.Value.Kind, .int .i64 y3.1.Cond.Value.Num, .str y3.1.Cond.Value.Text, .sl (Ar.lst (V.int .i64) y3.1.Opens) .ro, .sl (Ar.lst (V.int .i64) y3.1.Closes) .ro, .sl (Ar.lst Encs.eGExpr y3.1.Checks) .ro, .sl (Ar.lst Encs.eGLimit y3.1.Limits) .ro, .sl (Ar.lst (V.int .i64) y3.1.Inside) .ro], .agg [.bool false, .int .i64 8, .sl (Ar.lst Encs.eGPattern ([y3.2.p, x11])) .ro, .int .i64 0, .int .i64 0, .int .i64 0, .int .i64 0, .int .i64 0, .sl (Ar.lst Encs.eGExpr ([])) .ro, .int .i64 0, .int .i64 0, .int .i64 0, .int .i64 0, .int .i64 0, .str (⟨#[]⟩)]] :: (List.map (fun (x : (GEdge × Gderivative_rest)) => [.agg [.int .i64 x.1.From, .int .i64 x.1.To, .int .i64 x.1.Var, .int .i64 x.1.Typ, .int .i64 x.1.Cond.Op, .sl (Ar.lst Encs.eGExpr x.1.Cond.Args) .ro, .int .i64 x.1.Cond.Var, .int .i64 x.1.Cond.Field, .int .i64 x.1.Cond.Kind, .int .i64 x.1.Cond.Value.Kind, .int .i64 x.1.Cond.Value.Num, .str x.1.Cond.Value.Text, .sl (Ar.lst (V.int .i64) x.1.Opens) .ro, .sl (Ar.lst (V.int .i64) x.1.Closes) .ro, .sl (Ar.lst Encs.eGExpr x.1.Checks) .ro, .sl (Ar.lst Encs.eGLimit x.1.Limits) .ro, .sl (Ar.lst (V.int .i64) x.1.Inside) .ro], .agg [.bool x.2.done, .int .i64 x.2.p.Op, .sl (Ar.lst Encs.eGPattern x.2.p.Args) .ro, .int .i64 x.2.p.Typ, .int .i64 x.2.p.Var, .int .i64 x.2.p.Scope, .int .i64 x.2.p.Span, .int .i64 x.2.p.Cond.Op, .sl (Ar.lst Encs.eGExpr x.2.p.Cond.Args) .ro, .int .i64 x.2.p.Cond.Var, .int .i64 x.2.p.Cond.Field, .int .i64 x.2.p.Cond.Kind, .int .i64 x.2.p.Cond.Value.Kind, .int .i64 x.2.p.Cond.Value.Num, .str x.2.p.Cond.Value.Text]]) (w12 ++ w9) ++ tl))) F4 [] _ := hO
      refine n_yield hE hI hD hy hO (.cons (.refl _) (.cons (.agg (.cons (.refl _) (.cons (.refl _) (.cons (.lit _ (lst_cons ((Encs.eGPattern_eq y3.2.p).symm) (lst_cons ((Encs.eGPattern_eq x11).symm) (lst_nil)))) (.cons (.refl _) (.cons (.refl _) (.cons (.refl _) (.cons (.refl _) (.cons (.refl _) (.cons (.lit _ (lst_nil)) (.refl _))))))))))) (.refl _))) (fun H hO => ?_) (fun H hO => ?_)
      · cbv
        refine n_brF hE (Ar.nt_eq _) ?_
        cbv
        obtain ⟨hw, rfl⟩ := pair_some h
        rw [← hw] at hO
        exact ⟨_, rfl, hO⟩
      · clear h
        cbv
        refine n_brT hE (Ar.nt_eq _) ?_
        cbv
        first | exact .inr ⟨rfl, rfl, hO⟩ | exact .inr (hO)
    · cbv
      obtain ⟨w13, h1, he⟩ := thenE_ret h
      clear h
      have h := h1
      clear h1
      rw [he, List.append_assoc] at hO
      clear he
      have hO : Own (I ([.agg [.int .i64 y3.1.From, .int .i64 y3.1.To, .int .i64 y3.1.Var, .int .i64 y3.1.Typ, .int .i64 y3.1.Cond.Op, .sl (Ar.lst Encs.eGExpr y3.1.Cond.Args) .ro, .int .i64 y3.1.Cond.Var, .int .i64 y3.1.Cond.Field, .int .i64 y3.1.Cond.Kind, .int .i64 y3.1.Cond.Value.Kind, .int .i64 y3.1.Cond.Value.Num, .str y3.1.Cond.Value.Text, .sl (Ar.lst (V.int .i64) y3.1.Opens) .ro, .sl (Ar.lst (V.int .i64) y3.1.Closes) .ro, .sl (Ar.lst Encs.eGExpr y3.1.Checks) .ro, .sl (Ar.lst Encs.eGLimit y3.1.Limits) .ro, .sl (Ar.lst (V.int .i64) y3.1.Inside) .ro], .agg [.bool y3.2.done, .int .i64 y3.2.p.Op, .sl (Ar.lst Encs.eGPattern y3.2.p.Args) .ro, .int .i64 y3.2.p.Typ, .int .i64 y3.2.p.Var, .int .i64 y3.2.p.Scope, .int .i64 y3.2.p.Span, .int .i64 y3.2.p.Cond.Op, .sl (Ar.lst Encs.eGExpr y3.2.p.Cond.Args) .ro, .int .i64 y3.2.p.Cond.Var, .int .i64 y3.2.p.Cond.Field, .int .i64 y3.2.p.Cond.Kind, .int .i64 y3.2.p.Cond.Value.Kind, .int .i64 y3.2.p.Cond.Value.Num, .str y3.2.p.Cond.Value.Text]] :: (List.map (fun (x : (GEdge × Gderivative_rest)) => [.agg [.int .i64 x.1.From, .int .i64 x.1.To, .int .i64 x.1.Var, .int .i64 x.1.Typ, .int .i64 x.1.Cond.Op, .sl (Ar.lst Encs.eGExpr x.1.Cond.Args) .ro, .int .i64 x.1.Cond.Var, .int .i64 x.1.Cond.Field, .int .i64 x.1.Cond.Kind, .int .i64 x.1.Cond.Value.Kind, .int .i64 x.1.Cond.Value.Num, .str x.1.Cond.Value.Text, .sl (Ar.lst (V.int .i64) x.1.Opens) .ro, .sl (Ar.lst (V.int .i64) x.1.Closes) .ro, .sl (Ar.lst Encs.eGExpr x.1.Checks) .ro, .sl (Ar.lst Encs.eGLimit x.1.Limits) .ro, .sl (Ar.lst (V.int .i64) x.1.Inside) .ro], .agg [.bool x.2.done, .int .i64 x.2.p.Op, .sl (Ar.lst Encs.eGPattern x.2.p.Args) .ro, .int .i64 x.2.p.Typ, .int .i64 x.2.p.Var, .int .i64 x.2.p.Scope, .int .i64 x.2.p.Span, .int .i64 x.2.p.Cond.Op, .sl (Ar.lst Encs.eGExpr x.2.p.Cond.Args) .ro, .int .i64 x.2.p.Cond.Var, .int .i64 x.2.p.Cond.Field, .int .i64 x.2.p.Cond.Kind, .int .i64 x.2.p.Cond.Value.Kind, .int .i64 x.2.p.Cond.Value.Num, .str x.2.p.Cond.Value.Text]]) (w13 ++ w9) ++ tl))) F4 [] _ := hO
      refine n_yield hE hI hD hy hO (.refl _) (fun H hO => ?_) (fun H hO => ?_)
      · cbv
        refine n_brF hE (Ar.nt_eq _) ?_
        cbv
        obtain ⟨w14, h1, he⟩ := thenE_ret h
        clear h
        have h := h1
        clear h1
        rw [he, List.append_assoc] at hO
        clear he
        have hO : Own (I ([.agg [.int .i64 y3.1.From, .int .i64 y3.1.To, .int .i64 y3.1.Var, .int .i64 y3.1.Typ, .int .i64 y3.1.Cond.Op, .sl (Ar.lst Encs.eGExpr y3.1.Cond.Args) .ro, .int .i64 y3.1.Cond.Var, .int .i64 y3.1.Cond.Field, .int .i64 y3.1.Cond.Kind, .int .i64 y3.1.Cond.Value.Kind, .int .i64 y3.1.Cond.Value.Num, .str y3.1.Cond.Value.Text, .sl (Ar.lst (V.int .i64) y3.1.Opens) .ro, .sl (Ar.lst (V.int .i64) y3.1.Closes) .ro, .sl (Ar.lst Encs.eGExpr y3.1.Checks) .ro, .sl (Ar.lst Encs.eGLimit y3.1.Limits) .ro, .sl (Ar.lst (V.int .i64) y3.1.Inside) .ro], .agg [.bool false, .int .i64 x_2.Op, .sl (Ar.lst Encs.eGPattern x_2.Args) .ro, .int .i64 x_2.Typ, .int .i64 x_2.Var, .int .i64 x_2.Scope, .int .i64 x_2.Span, .int .i64 x_2.Cond.Op, .sl (Ar.lst Encs.eGExpr x_2.Cond.Args) .ro, .int .i64 x_2.Cond.Var, .int .i64 x_2.Cond.Field, .int .i64 x_2.Cond.Kind, .int .i64 x_2.Cond.Value.Kind, .int .i64 x_2.Cond.Value.Num, .str x_2.Cond.Value.Text]] :: (List.map (fun (x : (GEdge × Gderivative_rest)) => [.agg [.int .i64 x.1.From, .int .i64 x.1.To, .int .i64 x.1.Var, .int .i64 x.1.Typ, .int .i64 x.1.Cond.Op, .sl (Ar.lst Encs.eGExpr x.1.Cond.Args) .ro, .int .i64 x.1.Cond.Var, .int .i64 x.1.Cond.Field, .int .i64 x.1.Cond.Kind, .int .i64 x.1.Cond.Value.Kind, .int .i64 x.1.Cond.Value.Num, .str x.1.Cond.Value.Text, .sl (Ar.lst (V.int .i64) x.1.Opens) .ro, .sl (Ar.lst (V.int .i64) x.1.Closes) .ro, .sl (Ar.lst Encs.eGExpr x.1.Checks) .ro, .sl (Ar.lst Encs.eGLimit x.1.Limits) .ro, .sl (Ar.lst (V.int .i64) x.1.Inside) .ro], .agg [.bool x.2.done, .int .i64 x.2.p.Op, .sl (Ar.lst Encs.eGPattern x.2.p.Args) .ro, .int .i64 x.2.p.Typ, .int .i64 x.2.p.Var, .int .i64 x.2.p.Scope, .int .i64 x.2.p.Span, .int .i64 x.2.p.Cond.Op, .sl (Ar.lst Encs.eGExpr x.2.p.Cond.Args) .ro, .int .i64 x.2.p.Cond.Var, .int .i64 x.2.p.Cond.Field, .int .i64 x.2.p.Cond.Kind, .int .i64 x.2.p.Cond.Value.Kind, .int .i64 x.2.p.Cond.Value.Num, .str x.2.p.Cond.Value.Text]]) (w14 ++ w9) ++ tl))) F4 [] _ := hO
        refine n_yield hE hI hD hy hO (.refl _) (fun H hO => ?_) (fun H hO => ?_)
        · cbv
          refine n_brF hE (Ar.nt_eq _) ?_
          cbv
          obtain ⟨hw, rfl⟩ := pair_some h
          rw [← hw] at hO
          exact ⟨_, rfl, hO⟩
        · clear h
          cbv
          refine n_brT hE (Ar.nt_eq _) ?_
          cbv
          first | exact .inr ⟨rfl, rfl, hO⟩ | exact .inr (hO)
      · clear h
        cbv
        refine n_brT hE (Ar.nt_eq _) ?_
        cbv
        first | exact .inr ⟨rfl, rfl, hO⟩ | exact .inr (hO)
  · rintro d15 _ H rfl hd hO
    have hO : Own (I (List.map (fun (x : (GEdge × Gderivative_rest)) => [.agg [.int .i64 x.1.From, .int .i64 x.1.To, .int .i64 x.1.Var, .int .i64 x.1.Typ, .int .i64 x.1.Cond.Op, .sl (Ar.lst Encs.eGExpr x.1.Cond.Args) .ro, .int .i64 x.1.Cond.Var, .int .i64 x.1.Cond.Field, .int .i64 x.1.Cond.Kind, .int .i64 x.1.Cond.Value.Kind, .int .i64 x.1.Cond.Value.Num, .str x.1.Cond.Value.Text, .sl (Ar.lst (V.int .i64) x.1.Opens) .ro, .sl (Ar.lst (V.int .i64) x.1.Closes) .ro, .sl (Ar.lst Encs.eGExpr x.1.Checks) .ro, .sl (Ar.lst Encs.eGLimit x.1.Limits) .ro, .sl (Ar.lst (V.int .i64) x.1.Inside) .ro], .agg [.bool x.2.done, .int .i64 x.2.p.Op, .sl (Ar.lst Encs.eGPattern x.2.p.Args) .ro, .int .i64 x.2.p.Typ, .int .i64 x.2.p.Var, .int .i64 x.2.p.Scope, .int .i64 x.2.p.Span, .int .i64 x.2.p.Cond.Op, .sl (Ar.lst Encs.eGExpr x.2.p.Cond.Args) .ro, .int .i64 x.2.p.Cond.Var, .int .i64 x.2.p.Cond.Field, .int .i64 x.2.p.Cond.Kind, .int .i64 x.2.p.Cond.Value.Kind, .int .i64 x.2.p.Cond.Value.Num, .str x.2.p.Cond.Value.Text]]) (w7 ++ []) ++ tl)) F [.blk d15 DB] H := Own.dblk hd hO
    clear hd hx
    cbv
    refine n_fin hE hO 0 rfl fun H hO => ?_
    cbv
    obtain ⟨hw, _⟩ := pair_some h
    rw [← hw] at hO
    exact hK _ _ _ hO trivial
  · rintro _ _ _ _ _ _ h
    exact h.elim
  · rintro d15 e H hd ⟨rfl, hO⟩
    have hO : Own D F [.blk d15 DB] H := Own.dblk hd hO
    clear hd hx h
    cbv
    refine n_fin hE hO 0 rfl fun H hO => ?_
    cbv
    exact hKD _ _ _ hO trivial

theorem k79 (N n : Nat) (ih45 : K45 N n) : K79 N (n + 1) := by
  intro x_1 r h
  unfold derivative_inner_1 at h
  obtain ⟨⟨w0, u0⟩, h1, hr⟩ := bind_some h
  clear h
  have hr := ret_some hr
  subst hr
  have h := h1
  clear h1
  refine emitP_of_spec cf79 okP Tryd.func79 (by rfl) (by kernel_rfl) Tryd.call79 Tryd.ntmps79 (by rfl) (fun _ => rfl) ?_
  intro yv I D hI hD hy tl F E H K hE hO hK hKD
  have hO : Own (I (List.map (fun (x : (GEdge × Gderivative_rest)) => [.agg [.int .i64 x.1.From, .int .i64 x.1.To, .int .i64 x.1.Var, .int .i64 x.1.Typ, .int .i64 x.1.Cond.Op, .sl (Ar.lst Encs.eGExpr x.1.Cond.Args) .ro, .int .i64 x.1.Cond.Var, .int .i64 x.1.Cond.Field, .int .i64 x.1.Cond.Kind, .int .i64 x.1.Cond.Value.Kind, .int .i64 x.1.Cond.Value.Num, .str x.1.Cond.Value.Text, .sl (Ar.lst (V.int .i64) x.1.Opens) .ro, .sl (Ar.lst (V.int .i64) x.1.Closes) .ro, .sl (Ar.lst Encs.eGExpr x.1.Checks) .ro, .sl (Ar.lst Encs.eGLimit x.1.Limits) .ro, .sl (Ar.lst (V.int .i64) x.1.Inside) .ro], .agg [.bool x.2.done, .int .i64 x.2.p.Op, .sl (Ar.lst Encs.eGPattern x.2.p.Args) .ro, .int .i64 x.2.p.Typ, .int .i64 x.2.p.Var, .int .i64 x.2.p.Scope, .int .i64 x.2.p.Span, .int .i64 x.2.p.Cond.Op, .sl (Ar.lst Encs.eGExpr x.2.p.Cond.Args) .ro, .int .i64 x.2.p.Cond.Var, .int .i64 x.2.p.Cond.Field, .int .i64 x.2.p.Cond.Kind, .int .i64 x.2.p.Cond.Value.Kind, .int .i64 x.2.p.Cond.Value.Num, .str x.2.p.Cond.Value.Text]]) (w0 ++ []) ++ tl)) F [] H := by rw [List.append_nil]; exact hO
  cbv
  refine n_need hE hy.1 ?_
  cbv
  refine n_idx hE Encs.eGPattern_eq h fun x1 h => ?_
  cbv
  refine n_callQ hE h (fun r2 hx => ih45 x1 r2 hx) (.refl _) fun r2 v3 hv3 h => ?_
  cbv
  obtain ⟨w7, w8, o11, hx, h1, he⟩ := thenE_some h
  clear h
  have h := h1
  clear h1
  rw [he, List.append_assoc] at hO
  clear he
  refine n_rangeE cf79 hE okP (ι := Nat × Nat) (σ := Unit) (R := Unit) (enc := fun (x : (GEdge × Gderivative_rest)) => [.agg [.int .i64 x.1.From, .int .i64 x.1.To, .int .i64 x.1.Var, .int .i64 x.1.Typ, .int .i64 x.1.Cond.Op, .sl (Ar.lst Encs.eGExpr x.1.Cond.Args) .ro, .int .i64 x.1.Cond.Var, .int .i64 x.1.Cond.Field, .int .i64 x.1.Cond.Kind, .int .i64 x.1.Cond.Value.Kind, .int .i64 x.1.Cond.Value.Num, .str x.1.Cond.Value.Text, .sl (Ar.lst (V.int .i64) x.1.Opens) .ro, .sl (Ar.lst (V.int .i64) x.1.Closes) .ro, .sl (Ar.lst Encs.eGExpr x.1.Checks) .ro, .sl (Ar.lst Encs.eGLimit x.1.Limits) .ro, .sl (Ar.lst (V.int .i64) x.1.Inside) .ro], .agg [.bool x.2.done, .int .i64 x.2.p.Op, .sl (Ar.lst Encs.eGPattern x.2.p.Args) .ro, .int .i64 x.2.p.Typ, .int .i64 x.2.p.Var, .int .i64 x.2.p.Scope, .int .i64 x.2.p.Span, .int .i64 x.2.p.Cond.Op, .sl (Ar.lst Encs.eGExpr x.2.p.Cond.Args) .ro, .int .i64 x.2.p.Cond.Var, .int .i64 x.2.p.Cond.Field, .int .i64 x.2.p.Cond.Kind, .int .i64 x.2.p.Cond.Value.Kind, .int .i64 x.2.p.Cond.Value.Num, .str x.2.p.Cond.Value.Text]]) (fun _ w F1 H => Own (I (List.map (fun (x : (GEdge × Gderivative_rest)) => [.agg [.int .i64 x.1.From, .int .i64 x.1.To, .int .i64 x.1.Var, .int .i64 x.1.Typ, .int .i64 x.1.Cond.Op, .sl (Ar.lst Encs.eGExpr x.1.Cond.Args) .ro, .int .i64 x.1.Cond.Var, .int .i64 x.1.Cond.Field, .int .i64 x.1.Cond.Kind, .int .i64 x.1.Cond.Value.Kind, .int .i64 x.1.Cond.Value.Num, .str x.1.Cond.Value.Text, .sl (Ar.lst (V.int .i64) x.1.Opens) .ro, .sl (Ar.lst (V.int .i64) x.1.Closes) .ro, .sl (Ar.lst Encs.eGExpr x.1.Checks) .ro, .sl (Ar.lst Encs.eGLimit x.1.Limits) .ro, .sl (Ar.lst (V.int .i64) x.1.Inside) .ro], .agg [.bool x.2.done, .int .i64 x.2.p.Op, .sl (Ar.lst Encs.eGPattern x.2.p.Args) .ro, .int .i64 x.2.p.Typ, .int .i64 x.2.p.Var, .int .i64 x.2.p.Scope, .int .i64 x.2.p.Span, .int .i64 x.2.p.Cond.Op, .sl (Ar.lst Encs.eGExpr x.2.p.Cond.Args) .ro, .int .i64 x.2.p.Cond.Var, .int .i64 x.2.p.Cond.Field, .int .i64 x.2.p.Cond.Kind, .int .i64 x.2.p.Cond.Value.Kind, .int .i64 x.2.p.Cond.Value.Num, .str x.2.p.Cond.Value.Text]]) w ++ tl)) F1 [] H) (fun _ e w F1 H => False) (fun e F1 H => e = .ret ∧ Own D F1 [] H) (fun i _ y4 => [(1, .v (.eref [.int .i64 x_1.Op, .sl (Ar.lst Encs.eGPattern x_1.Args) .ro, .int .i64 x_1.Typ, .int .i64 x_1.Var, .int .i64 x_1.Scope, .int .i64 x_1.Span, .int .i64 x_1.Cond.Op, .sl (Ar.lst Encs.eGExpr x_1.Cond.Args) .ro, .int .i64 x_1.Cond.Var, .int .i64 x_1.Cond.Field, .int .i64 x_1.Cond.Kind, .int .i64 x_1.Cond.Value.Kind, .int .i64 x_1.Cond.Value.Num, .str x_1.Cond.Value.Text] 0)), (2, .v (.eref [yv] 0)), (3, .v (.ref i.2 0)), (4, .v (.ref i.1 0))]) (fun i _ y4 w F1 H => Own (I (List.map (fun (x : (GEdge × Gderivative_rest)) => [.agg [.int .i64 x.1.From, .int .i64 x.1.To, .int .i64 x.1.Var, .int .i64 x.1.Typ, .int .i64 x.1.Cond.Op, .sl (Ar.lst Encs.eGExpr x.1.Cond.Args) .ro, .int .i64 x.1.Cond.Var, .int .i64 x.1.Cond.Field, .int .i64 x.1.Cond.Kind, .int .i64 x.1.Cond.Value.Kind, .int .i64 x.1.Cond.Value.Num, .str x.1.Cond.Value.Text, .sl (Ar.lst (V.int .i64) x.1.Opens) .ro, .sl (Ar.lst (V.int .i64) x.1.Closes) .ro, .sl (Ar.lst Encs.eGExpr x.1.Checks) .ro, .sl (Ar.lst Encs.eGLimit x.1.Limits) .ro, .sl (Ar.lst (V.int .i64) x.1.Inside) .ro], .agg [.bool x.2.done, .int .i64 x.2.p.Op, .sl (Ar.lst Encs.eGPattern x.2.p.Args) .ro, .int .i64 x.2.p.Typ, .int .i64 x.2.p.Var, .int .i64 x.2.p.Scope, .int .i64 x.2.p.Span, .int .i64 x.2.p.Cond.Op, .sl (Ar.lst Encs.eGExpr x.2.p.Cond.Args) .ro, .int .i64 x.2.p.Cond.Var, .int .i64 x.2.p.Cond.Field, .int .i64 x.2.p.Cond.Kind, .int .i64 x.2.p.Cond.Value.Kind, .int .i64 x.2.p.Cond.Value.Num, .str x.2.p.Cond.Value.Text]]) w ++ tl)) F1 [.blk i.1 (.cells [.bool y4.2.done, .int .i64 y4.2.p.Op, .sl (Ar.lst Encs.eGPattern y4.2.p.Args) .ro, .int .i64 y4.2.p.Typ, .int .i64 y4.2.p.Var, .int .i64 y4.2.p.Scope, .int .i64 y4.2.p.Span, .int .i64 y4.2.p.Cond.Op, .sl (Ar.lst Encs.eGExpr y4.2.p.Cond.Args) .ro, .int .i64 y4.2.p.Cond.Var, .int .i64 y4.2.p.Cond.Field, .int .i64 y4.2.p.Cond.Kind, .int .i64 y4.2.p.Cond.Value.Kind, .int .i64 y4.2.p.Cond.Value.Num, .str y4.2.p.Cond.Value.Text]), .blk i.2 (.cells [.int .i64 y4.1.From, .int .i64 y4.1.To, .int .i64 y4.1.Var, .int .i64 y4.1.Typ, .int .i64 y4.1.Cond.Op, .sl (Ar.lst Encs.eGExpr y4.1.Cond.Args) .ro, .int .i64 y4.1.Cond.Var, .int .i64 y4.1.Cond.Field, .int .i64 y4.1.Cond.Kind, .int .i64 y4.1.Cond.Value.Kind, .int .i64 y4.1.Cond.Value.Num, .str y4.1.Cond.Value.Text, .sl (Ar.lst (V.int .i64) y4.1.Opens) .ro, .sl (Ar.lst (V.int .i64) y4.1.Closes) .ro, .sl (Ar.lst Encs.eGExpr y4.1.Checks) .ro, .sl (Ar.lst Encs.eGLimit y4.1.Limits) .ro, .sl (Ar.lst (V.int .i64) y4.1.Inside) .ro])] H) (fun _ _ => Own.stable (hI _) _) (fun _ _ _ => ⟨fun h => h.elim, fun _ _ h => h.elim⟩) (fun _ => Stable.con (Own.stable hD _)) (fun _ _ _ _ => Own.stable (hI _) _) hv3 hx (w' := w8 ++ []) hO (by decide) (fun _ => rfl) (by kernel_rfl) (by kernel_rfl) ?_ ?_ ?_ ?_ ?_
  · rintro E i6 y4 _ w F5 H hE hO
    clear hx h
    cbv
    refine n_alloc hE hO fun b12 H hO => ?_
    cbv
    refine n_store hE hO 0 rfl rfl fun H hO => ?_
    cbv
    refine n_alloc hE hO fun b13 H hO => ?_
    cbv
    refine n_store hE hO 0 rfl rfl fun H hO => ?_
    cbv
    exact ⟨⟨b13, b12⟩, hO, .e rfl (.e rfl (.e rfl (.e rfl (.z)))), rfl⟩
  · rintro E i6 ⟨b13, b12⟩ y4 _ w9 w10 F5 H o hE hF h hO
    clear hx
    cbv
    obtain ⟨w15, w16, s14, hx, h1, he⟩ := thenE_some h
    clear h
    have h := h1
    clear h1
    rw [he, List.append_assoc] at hO
    clear he
    refine n_join cf79 hE okP (fun e l H1 => (e = .normal ∧ l = [(1, .v (.eref [.int .i64 x_1.Op, .sl (Ar.lst Encs.eGPattern x_1.Args) .ro, .int .i64 x_1.Typ, .int .i64 x_1.Var, .int .i64 x_1.Scope, .int .i64 x_1.Span, .int .i64 x_1.Cond.Op, .sl (Ar.lst Encs.eGExpr x_1.Cond.Args) .ro, .int .i64 x_1.Cond.Var, .int .i64 x_1.Cond.Field, .int .i64 x_1.Cond.Kind, .int .i64 x_1.Cond.Value.Kind, .int .i64 x_1.Cond.Value.Num, .str x_1.Cond.Value.Text] 0)), (2, .v (.eref [yv] 0)), (3, .v (.ref b12 0)), (4, .v (.ref b13 0)), (5, .v (.int .i64 s14.1))] ∧ Own (I (List.map (fun (x : (GEdge × Gderivative_rest)) => [.agg [.int .i64 x.1.From, .int .i64 x.1.To, .int .i64 x.1.Var, .int .i64 x.1.Typ, .int .i64 x.1.Cond.Op, .sl (Ar.lst Encs.eGExpr x.1.Cond.Args) .ro, .int .i64 x.1.Cond.Var, .int .i64 x.1.Cond.Field, .int .i64 x.1.Cond.Kind, .int .i64 x.1.Cond.Value.Kind, .int .i64 x.1.Cond.Value.Num, .str x.1.Cond.Value.Text, .sl (Ar.lst (V.int .i64) x.1.Opens) .ro, .sl (Ar.lst (V.int .i64) x.1.Closes) .ro, .sl (Ar.lst Encs.eGExpr x.1.Checks) .ro, .sl (Ar.lst Encs.eGLimit x.1.Limits) .ro, .sl (Ar.lst (V.int .i64) x.1.Inside) .ro], .agg [.bool x.2.done, .int .i64 x.2.p.Op, .sl (Ar.lst Encs.eGPattern x.2.p.Args) .ro, .int .i64 x.2.p.Typ, .int .i64 x.2.p.Var, .int .i64 x.2.p.Scope, .int .i64 x.2.p.Span, .int .i64 x.2.p.Cond.Op, .sl (Ar.lst Encs.eGExpr x.2.p.Cond.Args) .ro, .int .i64 x.2.p.Cond.Var, .int .i64 x.2.p.Cond.Field, .int .i64 x.2.p.Cond.Kind, .int .i64 x.2.p.Cond.Value.Kind, .int .i64 x.2.p.Cond.Value.Num, .str x.2.p.Cond.Value.Text]]) (w16 ++ w10) ++ tl)) F5 [.blk b13 (.cells [.bool y4.2.done, .int .i64 y4.2.p.Op, .sl (Ar.lst Encs.eGPattern y4.2.p.Args) .ro, .int .i64 y4.2.p.Typ, .int .i64 y4.2.p.Var, .int .i64 y4.2.p.Scope, .int .i64 y4.2.p.Span, .int .i64 y4.2.p.Cond.Op, .sl (Ar.lst Encs.eGExpr y4.2.p.Cond.Args) .ro, .int .i64 y4.2.p.Cond.Var, .int .i64 y4.2.p.Cond.Field, .int .i64 y4.2.p.Cond.Kind, .int .i64 y4.2.p.Cond.Value.Kind, .int .i64 y4.2.p.Cond.Value.Num, .str y4.2.p.Cond.Value.Text]), .blk b12 (.cells [.int .i64 s14.2.From, .int .i64 s14.2.To, .int .i64 s14.2.Var, .int .i64 s14.2.Typ, .int .i64 s14.2.Cond.Op, .sl (Ar.lst Encs.eGExpr s14.2.Cond.Args) .ro, .int .i64 s14.2.Cond.Var, .int .i64 s14.2.Cond.Field, .int .i64 s14.2.Cond.Kind, .int .i64 s14.2.Cond.Value.Kind, .int .i64 s14.2.Cond.Value.Num, .str s14.2.Cond.Value.Text, .sl (Ar.lst (V.int .i64) s14.2.Opens) .ro, .sl (Ar.lst (V.int .i64) s14.2.Closes) .ro, .sl (Ar.lst Encs.eGExpr s14.2.Checks) .ro, .sl (Ar.lst Encs.eGLimit s14.2.Limits) .ro, .sl (Ar.lst (V.int .i64) s14.2.Inside) .ro])] H1) ∨ (False)) (by kernel_rfl) ?_ ?_
    · clear h
      have h := hx
      clear hx
      cbv
      refine n_br hE h (fun hc h => ?_) (fun hc h => ?_)
      · cbv
        refine n_load hE hO 0 rfl ?_
        cbv
        refine n_br hE h (fun hc h => ?_) (fun hc h => ?_)
        · cbv
          refine n_load hE hO 1 rfl ?_
          cbv
          refine n_call hE (g := fun r17 => .sl (Ar.lst Encs.eGExpr r17) .ro) h (fun r17 hx => c80 N ([y4.1.Checks, [x_1.Cond]]) r17 hx) (.cons (.sl _ (.lstc (.eq (Encs.eLGExpr_eq y4.1.Checks) (.refl _)) (.lstc (.eq (Encs.eLGExpr_eq ([x_1.Cond])) (.lit _ (lst_cons ((Encs.eGExpr_eq x_1.Cond).symm) (lst_nil)))) (.lst0)))) (.refl _)) fun r17 h => ?_
          cbv
          refine n_store hE hO 1 rfl rfl fun H hO => ?_
          cbv
          obtain ⟨hw, rfl⟩ := pair_some h
          rw [← hw] at hO
          exact ⟨_, .inl ⟨rfl, rfl, hO⟩, .e rfl (.e rfl (.e rfl (.e rfl (.e rfl (.z))))), rfl⟩
        · cbv
          obtain ⟨hw, rfl⟩ := pair_some h
          rw [← hw] at hO
          exact ⟨_, .inl ⟨rfl, rfl, hO⟩, .e rfl (.e rfl (.e rfl (.e rfl (.e rfl (.z))))), rfl⟩
      · cbv
        obtain ⟨w19, w20, s18, hx, h1, he⟩ := thenE_some h
        clear h
        have h := h1
        clear h1
        rw [he, List.append_assoc] at hO
        clear he
        refine n_join cf79 hE okP (fun e l H1 => (e = .normal ∧ l = [(1, .v (.eref [.int .i64 x_1.Op, .sl (Ar.lst Encs.eGPattern x_1.Args) .ro, .int .i64 x_1.Typ, .int .i64 x_1.Var, .int .i64 x_1.Scope, .int .i64 x_1.Span, .int .i64 x_1.Cond.Op, .sl (Ar.lst Encs.eGExpr x_1.Cond.Args) .ro, .int .i64 x_1.Cond.Var, .int .i64 x_1.Cond.Field, .int .i64 x_1.Cond.Kind, .int .i64 x_1.Cond.Value.Kind, .int .i64 x_1.Cond.Value.Num, .str x_1.Cond.Value.Text] 0)), (2, .v (.eref [yv] 0)), (3, .v (.ref b12 0)), (4, .v (.ref b13 0)), (37, .v (.bool s18))] ∧ Own (I (List.map (fun (x : (GEdge × Gderivative_rest)) => [.agg [.int .i64 x.1.From, .int .i64 x.1.To, .int .i64 x.1.Var, .int .i64 x.1.Typ, .int .i64 x.1.Cond.Op, .sl (Ar.lst Encs.eGExpr x.1.Cond.Args) .ro, .int .i64 x.1.Cond.Var, .int .i64 x.1.Cond.Field, .int .i64 x.1.Cond.Kind, .int .i64 x.1.Cond.Value.Kind, .int .i64 x.1.Cond.Value.Num, .str x.1.Cond.Value.Text, .sl (Ar.lst (V.int .i64) x.1.Opens) .ro, .sl (Ar.lst (V.int .i64) x.1.Closes) .ro, .sl (Ar.lst Encs.eGExpr x.1.Checks) .ro, .sl (Ar.lst Encs.eGLimit x.1.Limits) .ro, .sl (Ar.lst (V.int .i64) x.1.Inside) .ro], .agg [.bool x.2.done, .int .i64 x.2.p.Op, .sl (Ar.lst Encs.eGPattern x.2.p.Args) .ro, .int .i64 x.2.p.Typ, .int .i64 x.2.p.Var, .int .i64 x.2.p.Scope, .int .i64 x.2.p.Span, .int .i64 x.2.p.Cond.Op, .sl (Ar.lst Encs.eGExpr x.2.p.Cond.Args) .ro, .int .i64 x.2.p.Cond.Var, .int .i64 x.2.p.Cond.Field, .int .i64 x.2.p.Cond.Kind, .int .i64 x.2.p.Cond.Value.Kind, .int .i64 x.2.p.Cond.Value.Num, .str x.2.p.Cond.Value.Text]]) (w20 ++ (w16 ++ w10)) ++ tl)) F5 [.blk b13 (.cells [.bool y4.2.done, .int .i64 y4.2.p.Op, .sl (Ar.lst Encs.eGPattern y4.2.p.Args) .ro, .int .i64 y4.2.p.Typ, .int .i64 y4.2.p.Var, .int .i64 y4.2.p.Scope, .int .i64 y4.2.p.Span, .int .i64 y4.2.p.Cond.Op, .sl (Ar.lst Encs.eGExpr y4.2.p.Cond.Args) .ro, .int .i64 y4.2.p.Cond.Var, .int .i64 y4.2.p.Cond.Field, .int .i64 y4.2.p.Cond.Kind, .int .i64 y4.2.p.Cond.Value.Kind, .int .i64 y4.2.p.Cond.Value.Num, .str y4.2.p.Cond.Value.Text]), .blk b12 (.cells [.int .i64 y4.1.From, .int .i64 y4.1.To, .int .i64 y4.1.Var, .int .i64 y4.1.Typ, .int .i64 y4.1.Cond.Op, .sl (Ar.lst Encs.eGExpr y4.1.Cond.Args) .ro, .int .i64 y4.1.Cond.Var, .int .i64 y4.1.Cond.Field, .int .i64 y4.1.Cond.Kind, .int .i64 y4.1.Cond.Value.Kind, .int .i64 y4.1.Cond.Value.Num, .str y4.1.Cond.Value.Text, .sl (Ar.lst (V.int .i64) y4.1.Opens) .ro, .sl (Ar.lst (V.int .i64) y4.1.Closes) .ro, .sl (Ar.lst Encs.eGExpr y4.1.Checks) .ro, .sl (Ar.lst Encs.eGLimit y4.1.Limits) .ro, .sl (Ar.lst (V.int .i64) y4.1.Inside) .ro])] H1) ∨ (False)) (by kernel_rfl) ?_ ?_
        · clear h
          have h := hx
          clear hx
          cbv
          refine n_br hE h (fun hc h => ?_) (fun hc h => ?_)
          · cbv
            obtain ⟨hw, rfl⟩ := pair_some h
            rw [← hw] at hO
            exact ⟨_, .inl ⟨rfl, rfl, hO⟩, .e rfl (.e rfl (.e rfl (.e rfl (.e rfl (.z))))), rfl⟩
          · cbv
            obtain ⟨hw, rfl⟩ := pair_some h
            rw [← hw] at hO
            exact ⟨_, .inl ⟨rfl, rfl, hO⟩, .e rfl (.e rfl (.e rfl (.e rfl (.e rfl (.z))))), rfl⟩
        · clear hx
          rintro e l H hX
          rcases hX with hX | hX
          · obtain ⟨rfl, rfl, hO⟩ := hX
            cbv
            refine n_br hE h (fun hc h => ?_) (fun hc h => ?_)
            · cbv
              refine n_load hE hO 1 rfl ?_
              cbv
              refine n_load hE hO 0 rfl ?_
              cbv
              refine n_call hE (g := fun r21 => .agg [.int .i64 r21.From, .int .i64 r21.To, .int .i64 r21.Var, .int .i64 r21.Typ, .int .i64 r21.Cond.Op, .sl (Ar.lst Encs.eGExpr r21.Cond.Args) .ro, .int .i64 r21.Cond.Var, .int .i64 r21.Cond.Field, .int .i64 r21.Cond.Kind, .int .i64 r21.Cond.Value.Kind, .int .i64 r21.Cond.Value.Num, .str r21.Cond.Value.Text, .sl (Ar.lst (V.int .i64) r21.Opens) .ro, .sl (Ar.lst (V.int .i64) r21.Closes) .ro, .sl (Ar.lst Encs.eGExpr r21.Checks) .ro, .sl (Ar.lst Encs.eGLimit r21.Limits) .ro, .sl (Ar.lst (V.int .i64) r21.Inside) .ro]) h (fun r21 hx => c81 N x_1 y4.1 y4.2.done (Ar.cmp .eql x_1.Op 5) r21 hx) (.refl _) fun r21 h => ?_
              cbv
              refine n_store hE hO 1 rfl rfl fun H hO => ?_
              cbv
              obtain ⟨hw, rfl⟩ := pair_some h
              rw [← hw] at hO
              exact ⟨_, .inl ⟨rfl, rfl, hO⟩, .e rfl (.e rfl (.e rfl (.e rfl (.e rfl (.z))))), rfl⟩
            · cbv
              refine n_load hE hO 1 rfl ?_
              cbv
              refine n_load hE hO 0 rfl ?_
              cbv
              refine n_call hE (g := fun r22 => .agg [.int .i64 r22.From, .int .i64 r22.To, .int .i64 r22.Var, .int .i64 r22.Typ, .int .i64 r22.Cond.Op, .sl (Ar.lst Encs.eGExpr r22.Cond.Args) .ro, .int .i64 r22.Cond.Var, .int .i64 r22.Cond.Field, .int .i64 r22.Cond.Kind, .int .i64 r22.Cond.Value.Kind, .int .i64 r22.Cond.Value.Num, .str r22.Cond.Value.Text, .sl (Ar.lst (V.int .i64) r22.Opens) .ro, .sl (Ar.lst (V.int .i64) r22.Closes) .ro, .sl (Ar.lst Encs.eGExpr r22.Checks) .ro, .sl (Ar.lst Encs.eGLimit r22.Limits) .ro, .sl (Ar.lst (V.int .i64) r22.Inside) .ro]) h (fun r22 hx => c81 N x_1 y4.1 y4.2.done (Ar.cmp .eql x_1.Op 6) r22 hx) (.refl _) fun r22 h => ?_
              cbv
              refine n_store hE hO 1 rfl rfl fun H hO => ?_
              cbv
              obtain ⟨hw, rfl⟩ := pair_some h
              rw [← hw] at hO
              exact ⟨_, .inl ⟨rfl, rfl, hO⟩, .e rfl (.e rfl (.e rfl (.e rfl (.e rfl (.z))))), rfl⟩
          · exact hX.elim
    · clear hx
      rintro e l H hX
      rcases hX with hX | hX
      · obtain ⟨rfl, rfl, hO⟩ := hX
        cbv
        refine n_load hE hO 0 rfl ?_
        cbv
        obtain ⟨w24, w25, s23, hx, h1, he⟩ := thenE_some h
        clear h
        have h := h1
        clear h1
        rw [he, List.append_assoc] at hO
        clear he
        refine n_join cf79 hE okP (fun e l H1 => (e = .normal ∧ l = [(2, .v (.eref [yv] 0)), (3, .v (.ref b12 0)), (4, .v (.ref b13 0))] ∧ Own (I (List.map (fun (x : (GEdge × Gderivative_rest)) => [.agg [.int .i64 x.1.From, .int .i64 x.1.To, .int .i64 x.1.Var, .int .i64 x.1.Typ, .int .i64 x.1.Cond.Op, .sl (Ar.lst Encs.eGExpr x.1.Cond.Args) .ro, .int .i64 x.1.Cond.Var, .int .i64 x.1.Cond.Field, .int .i64 x.1.Cond.Kind, .int .i64 x.1.Cond.Value.Kind, .int .i64 x.1.Cond.Value.Num, .str x.1.Cond.Value.Text, .sl (Ar.lst (V.int .i64) x.1.Opens) .ro, .sl (Ar.lst (V.int .i64) x.1.Closes) .ro, .sl (Ar.lst Encs.eGExpr x.1.Checks) .ro, .sl (Ar.lst Encs.eGLimit x.1.Limits) .ro, .sl (Ar.lst (V.int .i64) x.1.Inside) .ro], .agg [.bool x.2.done, .int .i64 x.2.p.Op, .sl (Ar.lst Encs.eGPattern x.2.p.Args) .ro, .int .i64 x.2.p.Typ, .int .i64 x.2.p.Var, .int .i64 x.2.p.Scope, .int .i64 x.2.p.Span, .int .i64 x.2.p.Cond.Op, .sl (Ar.lst Encs.eGExpr x.2.p.Cond.Args) .ro, .int .i64 x.2.p.Cond.Var, .int .i64 x.2.p.Cond.Field, .int .i64 x.2.p.Cond.Kind, .int .i64 x.2.p.Cond.Value.Kind, .int .i64 x.2.p.Cond.Value.Num, .str x.2.p.Cond.Value.Text]]) (w25 ++ w10) ++ tl)) F5 [.blk b13 (.cells [.bool s23.done, .int .i64 s23.p.Op, .sl (Ar.lst Encs.eGPattern s23.p.Args) .ro, .int .i64 s23.p.Typ, .int .i64 s23.p.Var, .int .i64 s23.p.Scope, .int .i64 s23.p.Span, .int .i64 s23.p.Cond.Op, .sl (Ar.lst Encs.eGExpr s23.p.Cond.Args) .ro, .int .i64 s23.p.Cond.Var, .int .i64 s23.p.Cond.Field, .int .i64 s23.p.Cond.Kind, .int .i64 s23.p.Cond.Value.Kind, .int .i64 s23.p.Cond.Value.Num, .str s23.p.Cond.Value.Text]), .blk b12 (.cells [.int .i64 s14.2.From, .int .i64 s14.2.To, .int .i64 s14.2.Var, .int .i64 s14.2.Typ, .int .i64 s14.2.Cond.Op, .sl (Ar.lst Encs.eGExpr s14.2.Cond.Args) .ro, .int .i64 s14.2.Cond.Var, .int .i64 s14.2.Cond.Field, .int .i64 s14.2.Cond.Kind, .int .i64 s14.2.Cond.Value.Kind, .int .i64 s14.2.Cond.Value.Num, .str s14.2.Cond.Value.Text, .sl (Ar.lst (V.int .i64) s14.2.Opens) .ro, .sl (Ar.lst (V.int .i64) s14.2.Closes) .ro, .sl (Ar.lst Encs.eGExpr s14.2.Checks) .ro, .sl (Ar.lst Encs.eGLimit s14.2.Limits) .ro, .sl (Ar.lst (V.int .i64) s14.2.Inside) .ro])] H1) ∨ (False)) (by kernel_rfl) ?_ ?_
        · clear h
          have h := hx
          clear hx
          cbv
          refine n_br hE h (fun hc h => ?_) (fun hc h => ?_)
          · cbv
            refine n_load hE hO 0 rfl ?_
            cbv
            refine n_call hE (g := fun r26 => .agg [.int .i64 r26.Op, .sl (Ar.lst Encs.eGPattern r26.Args) .ro, .int .i64 r26.Typ, .int .i64 r26.Var, .int .i64 r26.Scope, .int .i64 r26.Span, .int .i64 r26.Cond.Op, .sl (Ar.lst Encs.eGExpr r26.Cond.Args) .ro, .int .i64 r26.Cond.Var, .int .i64 r26.Cond.Field, .int .i64 r26.Cond.Kind, .int .i64 r26.Cond.Value.Kind, .int .i64 r26.Cond.Value.Num, .str r26.Cond.Value.Text]) h (fun r26 hx => c82 N x_1 s14.1 y4.2.p r26 hx) (.refl _) fun r26 h => ?_
            cbv
            refine n_store hE hO 0 rfl rfl fun H hO => ?_
            cbv
            obtain ⟨hw, rfl⟩ := pair_some h
            rw [← hw] at hO
            exact ⟨_, .inl ⟨rfl, rfl, hO⟩, .e rfl (.e rfl (.e rfl (.z))), rfl⟩
          · cbv
            obtain ⟨hw, rfl⟩ := pair_some h
            rw [← hw] at hO
            exact ⟨_, .inl ⟨rfl, rfl, hO⟩, .e rfl (.e rfl (.e rfl (.z))), rfl⟩
        · clear hx
          rintro e l H hX
          rcases hX with hX | hX
          · obtain ⟨rfl, rfl, hO⟩ := hX
            cbv
            refine n_load hE hO 1 rfl ?_
            cbv
            refine n_load hE hO 0 rfl ?_
            cbv
            obtain ⟨w27, h1, he⟩ := thenE_ret h
            clear h
            have h := h1
            clear h1
            rw [he, List.append_assoc] at hO
            clear he
            have hO : Own (I ([.agg [.int .i64 s14.2.From, .int .i64 s14.2.To, .int .i64 s14.2.Var, .int .i64 s14.2.Typ, .int .i64 s14.2.Cond.Op, .sl (Ar.lst Encs.eGExpr s14.2.Cond.Args) .ro, .int .i64 s14.2.Cond.Var, .int .i64 s14.2.Cond.Field, .int .i64 s14.2.Cond.Kind, .int .i64 s14.2.Cond.Value.Kind, .int .i64 s14.2.Cond.Value.Num, .str s14.2.Cond.Value.Text, .sl (Ar.lst (V.int .i64) s14.2.Opens) .ro, .sl (Ar.lst (V.int .i64) s14.2.Closes) .ro, .sl (Ar.lst Encs.eGExpr s14.2.Checks) .ro, .sl (Ar.lst Encs.eGLimit s14.2.Limits) .ro, .sl (Ar.lst (V.int .i64) s14.2.Inside) .ro], .agg [.bool s23.done, .int .i64 s23.p.Op, .sl (Ar.lst Encs.eGPattern s23.p.Args) .ro, .int .i64 s23.p.Typ, .int .i64 s23.p.Var, .int .i64 s23.p.Scope, .int .i64 s23.p.Span, .int .i64 s23.p.Cond.Op, .sl (Ar.lst Encs.eGExpr s23.p.Cond.Args) .ro, .int .i64 s23.p.Cond.Var, .int .i64 s23.p.Cond.Field, .int .i64 s23.p.Cond.Kind, .int .i64 s23.p.Cond.Value.Kind, .int .i64 s23.p.Cond.Value.Num, .str s23.p.Cond.Value.Text]] :: (List.map (fun (x : (GEdge × Gderivative_rest)) => [.agg [.int .i64 x.1.From, .int .i64 x.1.To, .int .i64 x.1.Var, .int .i64 x.1.Typ, .int .i64 x.1.Cond.Op, .sl (Ar.lst Encs.eGExpr x.1.Cond.Args) .ro, .int .i64 x.1.Cond.Var, .int .i64 x.1.Cond.Field, .int .i64 x.1.Cond.Kind, .int .i64 x.1.Cond.Value.Kind, .int .i64 x.1.Cond.Value.Num, .str x.1.Cond.Value.Text, .sl (Ar.lst (V.int .i64) x.1.Opens) .ro, .sl (Ar.lst (V.int .i64) x.1.Closes) .ro, .sl (Ar.lst Encs.eGExpr x.1.Checks) .ro, .sl (Ar.lst Encs.eGLimit x.1.Limits) .ro, .sl (Ar.lst (V.int .i64) x.1.Inside) .ro], .agg [.bool x.2.done, .int .i64 x.2.p.Op, .sl (Ar.lst Encs.eGPattern x.2.p.Args) .ro, .int .i64 x.2.p.Typ, .int .i64 x.2.p.Var, .int .i64 x.2.p.Scope, .int .i64 x.2.p.Span, .int .i64 x.2.p.Cond.Op, .sl (Ar.lst Encs.eGExpr x.2.p.Cond.Args) .ro, .int .i64 x.2.p.Cond.Var, .int .i64 x.2.p.Cond.Field, .int .i64 x.2.p.Cond.Kind, .int .i64 x.2.p.Cond.Value.Kind, .int .i64 x.2.p.Cond.Value.Num, .str x.2.p.Cond.Value.Text]]) (w27 ++ w10) ++ tl))) F5 [.blk b13 (.cells [.bool s23.done, .int .i64 s23.p.Op, .sl (Ar.lst Encs.eGPattern s23.p.Args) .ro, .int .i64 s23.p.Typ, .int .i64 s23.p.Var, .int .i64 s23.p.Scope, .int .i64 s23.p.Span, .int .i64 s23.p.Cond.Op, .sl (Ar.lst Encs.eGExpr s23.p.Cond.Args) .ro, .int .i64 s23.p.Cond.Var, .int .i64 s23.p.Cond.Field, .int .i64 s23.p.Cond.Kind, .int .i64 s23.p.Cond.Value.Kind, .int .i64 s23.p.Cond.Value.Num, .str s23.p.Cond.Value.Text]), .blk b12 (.cells [.int .i64 s14.2.From, .int .i64 s14.2.To, .int .i64 s14.2.Var, .int .i64 s14.2.Typ, .int .i64 s14.2.Cond.Op, .sl (Ar.lst Encs.eGExpr s14.2.Cond.Args) .ro, .int .i64 s14.2.Cond.Var, .int .i64 s14.2.Cond.Field, .int .i64 s14.2.Cond.Kind, .int .i64 s14.2.Cond.Value.Kind, .int .i64 s14.2.Cond.Value.Num, .str s14.2.Cond.Value.Text, .sl (Ar.lst (V.int .i64) s14.2.Opens) .ro, .sl (Ar.lst (V.int .i64) s14.2.Closes) .ro, .sl (Ar.lst Encs.eGExpr s14.2.Checks) .ro, .sl (Ar.lst Encs.eGLimit s14.2.Limits) .ro, .sl (Ar.lst (V.int .i64) s14.2.Inside) .ro])] _ := hO
            refine n_yield hE hI hD hy hO (.refl _) (fun H hO => ?_) (fun H hO => ?_)
            · cbv
              refine n_brF hE (Ar.nt_eq _) ?_
              cbv
              obtain ⟨hw, rfl⟩ := pair_some h
              rw [← hw] at hO
              exact ⟨_, rfl, hO.tail.tail⟩
            · clear h
              cbv
              refine n_brT hE (Ar.nt_eq _) ?_
              cbv
              first | exact .inr ⟨rfl, rfl, hO.tail.tail⟩ | exact .inr (hO.tail.tail)
          · exact hX.elim
      · exact hX.elim
  · rintro d28 _ H rfl hd hO
    have hO : Own (I (List.map (fun (x : (GEdge × Gderivative_rest)) => [.agg [.int .i64 x.1.From, .int .i64 x.1.To, .int .i64 x.1.Var, .int .i64 x.1.Typ, .int .i64 x.1.Cond.Op, .sl (Ar.lst Encs.eGExpr x.1.Cond.Args) .ro, .int .i64 x.1.Cond.Var, .int .i64 x.1.Cond.Field, .int .i64 x.1.Cond.Kind, .int .i64 x.1.Cond.Value.Kind, .int .i64 x.1.Cond.Value.Num, .str x.1.Cond.Value.Text, .sl (Ar.lst (V.int .i64) x.1.Opens) .ro, .sl (Ar.lst (V.int .i64) x.1.Closes) .ro, .sl (Ar.lst Encs.eGExpr x.1.Checks) .ro, .sl (Ar.lst Encs.eGLimit x.1.Limits) .ro, .sl (Ar.lst (V.int .i64) x.1.Inside) .ro], .agg [.bool x.2.done, .int .i64 x.2.p.Op, .sl (Ar.lst Encs.eGPattern x.2.p.Args) .ro, .int .i64 x.2.p.Typ, .int .i64 x.2.p.Var, .int .i64 x.2.p.Scope, .int .i64 x.2.p.Span, .int .i64 x.2.p.Cond.Op, .sl (Ar.lst Encs.eGExpr x.2.p.Cond.Args) .ro, .int .i64 x.2.p.Cond.Var, .int .i64 x.2.p.Cond.Field, .int .i64 x.2.p.Cond.Kind, .int .i64 x.2.p.Cond.Value.Kind, .int .i64 x.2.p.Cond.Value.Num, .str x.2.p.Cond.Value.Text]]) (w8 ++ []) ++ tl)) F [.blk d28 DB] H := Own.dblk hd hO
    clear hd hx
    cbv
    refine n_fin hE hO 0 rfl fun H hO => ?_
    cbv
    obtain ⟨hw, _⟩ := pair_some h
    rw [← hw] at hO
    exact hK _ _ _ hO trivial
  · rintro _ _ _ _ _ _ h
    exact h.elim
  · rintro d28 e H hd ⟨rfl, hO⟩
    have hO : Own D F [.blk d28 DB] H := Own.dblk hd hO
    clear hd hx h
    cbv
    refine n_fin hE hO 0 rfl fun H hO => ?_
    cbv
    exact hKD _ _ _ hO trivial

theorem m45_65_66_67_75_78_79 (N : Nat) : ∀ n, K45 N n ∧ K65 N n ∧ K66 N n ∧ K67 N n ∧ K75 N n ∧ K78 N n ∧ K79 N n := by
  intro n
  induction n with
  | zero => exact ⟨(by intro x_p r h; unfold derivative_pairs at h; cases h), (by intro x_p r h; unfold derivative_branches at h; cases h), (by intro x_first x_again r h; unfold derivative_repeated at h; cases h), (by intro x_p r h; unfold derivative_inner at h; cases h), (by intro x_1 r h; unfold derivative_branches_1 at h; cases h), (by intro x_1 x_2 r h; unfold derivative_repeated_1 at h; cases h), (by intro x_1 r h; unfold derivative_inner_1 at h; cases h)⟩
  | succ n ih =>
    obtain ⟨ih45, ih65, ih66, ih67, ih75, ih78, ih79⟩ := ih
    exact ⟨k45 N n ih65 ih66 ih67, k65 N n ih75, k66 N n ih78, k67 N n ih79, k75 N n ih45, k78 N n ih45, k79 N n ih45⟩

theorem c45 (N n : Nat) (x_p : GPattern) (r : (List (GEdge × Gderivative_rest))) (h : derivative_pairs N n x_p = some r) : CallQ Tryd.prog 45 [.agg [.int .i64 x_p.Op, .sl (Ar.lst Encs.eGPattern x_p.Args) .ro, .int .i64 x_p.Typ, .int .i64 x_p.Var, .int .i64 x_p.Scope, .int .i64 x_p.Span, .int .i64 x_p.Cond.Op, .sl (Ar.lst Encs.eGExpr x_p.Cond.Args) .ro, .int .i64 x_p.Cond.Var, .int .i64 x_p.Cond.Field, .int .i64 x_p.Cond.Kind, .int .i64 x_p.Cond.Value.Kind, .int .i64 x_p.Cond.Value.Num, .str x_p.Cond.Value.Text]] (fun v => IterV Tryd.prog v (r.map fun (x : (GEdge × Gderivative_rest)) => [.agg [.int .i64 x.1.From, .int .i64 x.1.To, .int .i64 x.1.Var, .int .i64 x.1.Typ, .int .i64 x.1.Cond.Op, .sl (Ar.lst Encs.eGExpr x.1.Cond.Args) .ro, .int .i64 x.1.Cond.Var, .int .i64 x.1.Cond.Field, .int .i64 x.1.Cond.Kind, .int .i64 x.1.Cond.Value.Kind, .int .i64 x.1.Cond.Value.Num, .str x.1.Cond.Value.Text, .sl (Ar.lst (V.int .i64) x.1.Opens) .ro, .sl (Ar.lst (V.int .i64) x.1.Closes) .ro, .sl (Ar.lst Encs.eGExpr x.1.Checks) .ro, .sl (Ar.lst Encs.eGLimit x.1.Limits) .ro, .sl (Ar.lst (V.int .i64) x.1.Inside) .ro], .agg [.bool x.2.done, .int .i64 x.2.p.Op, .sl (Ar.lst Encs.eGPattern x.2.p.Args) .ro, .int .i64 x.2.p.Typ, .int .i64 x.2.p.Var, .int .i64 x.2.p.Scope, .int .i64 x.2.p.Span, .int .i64 x.2.p.Cond.Op, .sl (Ar.lst Encs.eGExpr x.2.p.Cond.Args) .ro, .int .i64 x.2.p.Cond.Var, .int .i64 x.2.p.Cond.Field, .int .i64 x.2.p.Cond.Kind, .int .i64 x.2.p.Cond.Value.Kind, .int .i64 x.2.p.Cond.Value.Num, .str x.2.p.Cond.Value.Text]])) := (m45_65_66_67_75_78_79 N n).1 x_p r h

theorem c65 (N n : Nat) (x_p : GPattern) (r : (List (GEdge × Gderivative_rest))) (h : derivative_branches N n x_p = some r) : CallQ Tryd.prog 65 [.agg [.int .i64 x_p.Op, .sl (Ar.lst Encs.eGPattern x_p.Args) .ro, .int .i64 x_p.Typ, .int .i64 x_p.Var, .int .i64 x_p.Scope, .int .i64 x_p.Span, .int .i64 x_p.Cond.Op, .sl (Ar.lst Encs.eGExpr x_p.Cond.Args) .ro, .int .i64 x_p.Cond.Var, .int .i64 x_p.Cond.Field, .int .i64 x_p.Cond.Kind, .int .i64 x_p.Cond.Value.Kind, .int .i64 x_p.Cond.Value.Num, .str x_p.Cond.Value.Text]] (fun v => IterV Tryd.prog v (r.map fun (x : (GEdge × Gderivative_rest)) => [.agg [.int .i64 x.1.From, .int .i64 x.1.To, .int .i64 x.1.Var, .int .i64 x.1.Typ, .int .i64 x.1.Cond.Op, .sl (Ar.lst Encs.eGExpr x.1.Cond.Args) .ro, .int .i64 x.1.Cond.Var, .int .i64 x.1.Cond.Field, .int .i64 x.1.Cond.Kind, .int .i64 x.1.Cond.Value.Kind, .int .i64 x.1.Cond.Value.Num, .str x.1.Cond.Value.Text, .sl (Ar.lst (V.int .i64) x.1.Opens) .ro, .sl (Ar.lst (V.int .i64) x.1.Closes) .ro, .sl (Ar.lst Encs.eGExpr x.1.Checks) .ro, .sl (Ar.lst Encs.eGLimit x.1.Limits) .ro, .sl (Ar.lst (V.int .i64) x.1.Inside) .ro], .agg [.bool x.2.done, .int .i64 x.2.p.Op, .sl (Ar.lst Encs.eGPattern x.2.p.Args) .ro, .int .i64 x.2.p.Typ, .int .i64 x.2.p.Var, .int .i64 x.2.p.Scope, .int .i64 x.2.p.Span, .int .i64 x.2.p.Cond.Op, .sl (Ar.lst Encs.eGExpr x.2.p.Cond.Args) .ro, .int .i64 x.2.p.Cond.Var, .int .i64 x.2.p.Cond.Field, .int .i64 x.2.p.Cond.Kind, .int .i64 x.2.p.Cond.Value.Kind, .int .i64 x.2.p.Cond.Value.Num, .str x.2.p.Cond.Value.Text]])) := (m45_65_66_67_75_78_79 N n).2.1 x_p r h

theorem c66 (N n : Nat) (x_first : GPattern) (x_again : GPattern) (r : (List (GEdge × Gderivative_rest))) (h : derivative_repeated N n x_first x_again = some r) : CallQ Tryd.prog 66 [.agg [.int .i64 x_first.Op, .sl (Ar.lst Encs.eGPattern x_first.Args) .ro, .int .i64 x_first.Typ, .int .i64 x_first.Var, .int .i64 x_first.Scope, .int .i64 x_first.Span, .int .i64 x_first.Cond.Op, .sl (Ar.lst Encs.eGExpr x_first.Cond.Args) .ro, .int .i64 x_first.Cond.Var, .int .i64 x_first.Cond.Field, .int .i64 x_first.Cond.Kind, .int .i64 x_first.Cond.Value.Kind, .int .i64 x_first.Cond.Value.Num, .str x_first.Cond.Value.Text], .agg [.int .i64 x_again.Op, .sl (Ar.lst Encs.eGPattern x_again.Args) .ro, .int .i64 x_again.Typ, .int .i64 x_again.Var, .int .i64 x_again.Scope, .int .i64 x_again.Span, .int .i64 x_again.Cond.Op, .sl (Ar.lst Encs.eGExpr x_again.Cond.Args) .ro, .int .i64 x_again.Cond.Var, .int .i64 x_again.Cond.Field, .int .i64 x_again.Cond.Kind, .int .i64 x_again.Cond.Value.Kind, .int .i64 x_again.Cond.Value.Num, .str x_again.Cond.Value.Text]] (fun v => IterV Tryd.prog v (r.map fun (x : (GEdge × Gderivative_rest)) => [.agg [.int .i64 x.1.From, .int .i64 x.1.To, .int .i64 x.1.Var, .int .i64 x.1.Typ, .int .i64 x.1.Cond.Op, .sl (Ar.lst Encs.eGExpr x.1.Cond.Args) .ro, .int .i64 x.1.Cond.Var, .int .i64 x.1.Cond.Field, .int .i64 x.1.Cond.Kind, .int .i64 x.1.Cond.Value.Kind, .int .i64 x.1.Cond.Value.Num, .str x.1.Cond.Value.Text, .sl (Ar.lst (V.int .i64) x.1.Opens) .ro, .sl (Ar.lst (V.int .i64) x.1.Closes) .ro, .sl (Ar.lst Encs.eGExpr x.1.Checks) .ro, .sl (Ar.lst Encs.eGLimit x.1.Limits) .ro, .sl (Ar.lst (V.int .i64) x.1.Inside) .ro], .agg [.bool x.2.done, .int .i64 x.2.p.Op, .sl (Ar.lst Encs.eGPattern x.2.p.Args) .ro, .int .i64 x.2.p.Typ, .int .i64 x.2.p.Var, .int .i64 x.2.p.Scope, .int .i64 x.2.p.Span, .int .i64 x.2.p.Cond.Op, .sl (Ar.lst Encs.eGExpr x.2.p.Cond.Args) .ro, .int .i64 x.2.p.Cond.Var, .int .i64 x.2.p.Cond.Field, .int .i64 x.2.p.Cond.Kind, .int .i64 x.2.p.Cond.Value.Kind, .int .i64 x.2.p.Cond.Value.Num, .str x.2.p.Cond.Value.Text]])) := (m45_65_66_67_75_78_79 N n).2.2.1 x_first x_again r h

theorem c67 (N n : Nat) (x_p : GPattern) (r : (List (GEdge × Gderivative_rest))) (h : derivative_inner N n x_p = some r) : CallQ Tryd.prog 67 [.agg [.int .i64 x_p.Op, .sl (Ar.lst Encs.eGPattern x_p.Args) .ro, .int .i64 x_p.Typ, .int .i64 x_p.Var, .int .i64 x_p.Scope, .int .i64 x_p.Span, .int .i64 x_p.Cond.Op, .sl (Ar.lst Encs.eGExpr x_p.Cond.Args) .ro, .int .i64 x_p.Cond.Var, .int .i64 x_p.Cond.Field, .int .i64 x_p.Cond.Kind, .int .i64 x_p.Cond.Value.Kind, .int .i64 x_p.Cond.Value.Num, .str x_p.Cond.Value.Text]] (fun v => IterV Tryd.prog v (r.map fun (x : (GEdge × Gderivative_rest)) => [.agg [.int .i64 x.1.From, .int .i64 x.1.To, .int .i64 x.1.Var, .int .i64 x.1.Typ, .int .i64 x.1.Cond.Op, .sl (Ar.lst Encs.eGExpr x.1.Cond.Args) .ro, .int .i64 x.1.Cond.Var, .int .i64 x.1.Cond.Field, .int .i64 x.1.Cond.Kind, .int .i64 x.1.Cond.Value.Kind, .int .i64 x.1.Cond.Value.Num, .str x.1.Cond.Value.Text, .sl (Ar.lst (V.int .i64) x.1.Opens) .ro, .sl (Ar.lst (V.int .i64) x.1.Closes) .ro, .sl (Ar.lst Encs.eGExpr x.1.Checks) .ro, .sl (Ar.lst Encs.eGLimit x.1.Limits) .ro, .sl (Ar.lst (V.int .i64) x.1.Inside) .ro], .agg [.bool x.2.done, .int .i64 x.2.p.Op, .sl (Ar.lst Encs.eGPattern x.2.p.Args) .ro, .int .i64 x.2.p.Typ, .int .i64 x.2.p.Var, .int .i64 x.2.p.Scope, .int .i64 x.2.p.Span, .int .i64 x.2.p.Cond.Op, .sl (Ar.lst Encs.eGExpr x.2.p.Cond.Args) .ro, .int .i64 x.2.p.Cond.Var, .int .i64 x.2.p.Cond.Field, .int .i64 x.2.p.Cond.Kind, .int .i64 x.2.p.Cond.Value.Kind, .int .i64 x.2.p.Cond.Value.Num, .str x.2.p.Cond.Value.Text]])) := (m45_65_66_67_75_78_79 N n).2.2.2.1 x_p r h

theorem c75 (N n : Nat) (x_1 : GPattern) (r : (List (GEdge × Gderivative_rest))) (h : derivative_branches_1 N n x_1 = some r) : EmitP Tryd.prog 75 (fun yv => [yv, .eref [.int .i64 x_1.Op, .sl (Ar.lst Encs.eGPattern x_1.Args) .ro, .int .i64 x_1.Typ, .int .i64 x_1.Var, .int .i64 x_1.Scope, .int .i64 x_1.Span, .int .i64 x_1.Cond.Op, .sl (Ar.lst Encs.eGExpr x_1.Cond.Args) .ro, .int .i64 x_1.Cond.Var, .int .i64 x_1.Cond.Field, .int .i64 x_1.Cond.Kind, .int .i64 x_1.Cond.Value.Kind, .int .i64 x_1.Cond.Value.Num, .str x_1.Cond.Value.Text] 0]) (List.map (fun (x : (GEdge × Gderivative_rest)) => [.agg [.int .i64 x.1.From, .int .i64 x.1.To, .int .i64 x.1.Var, .int .i64 x.1.Typ, .int .i64 x.1.Cond.Op, .sl (Ar.lst Encs.eGExpr x.1.Cond.Args) .ro, .int .i64 x.1.Cond.Var, .int .i64 x.1.Cond.Field, .int .i64 x.1.Cond.Kind, .int .i64 x.1.Cond.Value.Kind, .int .i64 x.1.Cond.Value.Num, .str x.1.Cond.Value.Text, .sl (Ar.lst (V.int .i64) x.1.Opens) .ro, .sl (Ar.lst (V.int .i64) x.1.Closes) .ro, .sl (Ar.lst Encs.eGExpr x.1.Checks) .ro, .sl (Ar.lst Encs.eGLimit x.1.Limits) .ro, .sl (Ar.lst (V.int .i64) x.1.Inside) .ro], .agg [.bool x.2.done, .int .i64 x.2.p.Op, .sl (Ar.lst Encs.eGPattern x.2.p.Args) .ro, .int .i64 x.2.p.Typ, .int .i64 x.2.p.Var, .int .i64 x.2.p.Scope, .int .i64 x.2.p.Span, .int .i64 x.2.p.Cond.Op, .sl (Ar.lst Encs.eGExpr x.2.p.Cond.Args) .ro, .int .i64 x.2.p.Cond.Var, .int .i64 x.2.p.Cond.Field, .int .i64 x.2.p.Cond.Kind, .int .i64 x.2.p.Cond.Value.Kind, .int .i64 x.2.p.Cond.Value.Num, .str x.2.p.Cond.Value.Text]]) r) rbN := (m45_65_66_67_75_78_79 N n).2.2.2.2.1 x_1 r h

theorem c78 (N n : Nat) (x_1 : GPattern) (x_2 : GPattern) (r : (List (GEdge × Gderivative_rest))) (h : derivative_repeated_1 N n x_1 x_2 = some r) : EmitP Tryd.prog 78 (fun yv => [yv, .eref [.int .i64 x_1.Op, .sl (Ar.lst Encs.eGPattern x_1.Args) .ro, .int .i64 x_1.Typ, .int .i64 x_1.Var, .int .i64 x_1.Scope, .int .i64 x_1.Span, .int .i64 x_1.Cond.Op, .sl (Ar.lst Encs.eGExpr x_1.Cond.Args) .ro, .int .i64 x_1.Cond.Var, .int .i64 x_1.Cond.Field, .int .i64 x_1.Cond.Kind, .int .i64 x_1.Cond.Value.Kind, .int .i64 x_1.Cond.Value.Num, .str x_1.Cond.Value.Text] 0, .eref [.int .i64 x_2.Op, .sl (Ar.lst Encs.eGPattern x_2.Args) .ro, .int .i64 x_2.Typ, .int .i64 x_2.Var, .int .i64 x_2.Scope, .int .i64 x_2.Span, .int .i64 x_2.Cond.Op, .sl (Ar.lst Encs.eGExpr x_2.Cond.Args) .ro, .int .i64 x_2.Cond.Var, .int .i64 x_2.Cond.Field, .int .i64 x_2.Cond.Kind, .int .i64 x_2.Cond.Value.Kind, .int .i64 x_2.Cond.Value.Num, .str x_2.Cond.Value.Text] 0]) (List.map (fun (x : (GEdge × Gderivative_rest)) => [.agg [.int .i64 x.1.From, .int .i64 x.1.To, .int .i64 x.1.Var, .int .i64 x.1.Typ, .int .i64 x.1.Cond.Op, .sl (Ar.lst Encs.eGExpr x.1.Cond.Args) .ro, .int .i64 x.1.Cond.Var, .int .i64 x.1.Cond.Field, .int .i64 x.1.Cond.Kind, .int .i64 x.1.Cond.Value.Kind, .int .i64 x.1.Cond.Value.Num, .str x.1.Cond.Value.Text, .sl (Ar.lst (V.int .i64) x.1.Opens) .ro, .sl (Ar.lst (V.int .i64) x.1.Closes) .ro, .sl (Ar.lst Encs.eGExpr x.1.Checks) .ro, .sl (Ar.lst Encs.eGLimit x.1.Limits) .ro, .sl (Ar.lst (V.int .i64) x.1.Inside) .ro], .agg [.bool x.2.done, .int .i64 x.2.p.Op, .sl (Ar.lst Encs.eGPattern x.2.p.Args) .ro, .int .i64 x.2.p.Typ, .int .i64 x.2.p.Var, .int .i64 x.2.p.Scope, .int .i64 x.2.p.Span, .int .i64 x.2.p.Cond.Op, .sl (Ar.lst Encs.eGExpr x.2.p.Cond.Args) .ro, .int .i64 x.2.p.Cond.Var, .int .i64 x.2.p.Cond.Field, .int .i64 x.2.p.Cond.Kind, .int .i64 x.2.p.Cond.Value.Kind, .int .i64 x.2.p.Cond.Value.Num, .str x.2.p.Cond.Value.Text]]) r) rbN := (m45_65_66_67_75_78_79 N n).2.2.2.2.2.1 x_1 x_2 r h

theorem c79 (N n : Nat) (x_1 : GPattern) (r : (List (GEdge × Gderivative_rest))) (h : derivative_inner_1 N n x_1 = some r) : EmitP Tryd.prog 79 (fun yv => [yv, .eref [.int .i64 x_1.Op, .sl (Ar.lst Encs.eGPattern x_1.Args) .ro, .int .i64 x_1.Typ, .int .i64 x_1.Var, .int .i64 x_1.Scope, .int .i64 x_1.Span, .int .i64 x_1.Cond.Op, .sl (Ar.lst Encs.eGExpr x_1.Cond.Args) .ro, .int .i64 x_1.Cond.Var, .int .i64 x_1.Cond.Field, .int .i64 x_1.Cond.Kind, .int .i64 x_1.Cond.Value.Kind, .int .i64 x_1.Cond.Value.Num, .str x_1.Cond.Value.Text] 0]) (List.map (fun (x : (GEdge × Gderivative_rest)) => [.agg [.int .i64 x.1.From, .int .i64 x.1.To, .int .i64 x.1.Var, .int .i64 x.1.Typ, .int .i64 x.1.Cond.Op, .sl (Ar.lst Encs.eGExpr x.1.Cond.Args) .ro, .int .i64 x.1.Cond.Var, .int .i64 x.1.Cond.Field, .int .i64 x.1.Cond.Kind, .int .i64 x.1.Cond.Value.Kind, .int .i64 x.1.Cond.Value.Num, .str x.1.Cond.Value.Text, .sl (Ar.lst (V.int .i64) x.1.Opens) .ro, .sl (Ar.lst (V.int .i64) x.1.Closes) .ro, .sl (Ar.lst Encs.eGExpr x.1.Checks) .ro, .sl (Ar.lst Encs.eGLimit x.1.Limits) .ro, .sl (Ar.lst (V.int .i64) x.1.Inside) .ro], .agg [.bool x.2.done, .int .i64 x.2.p.Op, .sl (Ar.lst Encs.eGPattern x.2.p.Args) .ro, .int .i64 x.2.p.Typ, .int .i64 x.2.p.Var, .int .i64 x.2.p.Scope, .int .i64 x.2.p.Span, .int .i64 x.2.p.Cond.Op, .sl (Ar.lst Encs.eGExpr x.2.p.Cond.Args) .ro, .int .i64 x.2.p.Cond.Var, .int .i64 x.2.p.Cond.Field, .int .i64 x.2.p.Cond.Kind, .int .i64 x.2.p.Cond.Value.Kind, .int .i64 x.2.p.Cond.Value.Num, .str x.2.p.Cond.Value.Text]]) r) rbN := (m45_65_66_67_75_78_79 N n).2.2.2.2.2.2 x_1 r h

def cf68 : Cf := ⟨[], [], [], [], [], []⟩
theorem c68 (N : Nat) (x_s : List GEdge) (v_f : V) (x_f : GEdge → Option Bool) (h_f : ∀ y1 q, x_f y1 = some q → CallVP Tryd.prog v_f [.agg [.int .i64 y1.From, .int .i64 y1.To, .int .i64 y1.Var, .int .i64 y1.Typ, .int .i64 y1.Cond.Op, .sl (Ar.lst Encs.eGExpr y1.Cond.Args) .ro, .int .i64 y1.Cond.Var, .int .i64 y1.Cond.Field, .int .i64 y1.Cond.Kind, .int .i64 y1.Cond.Value.Kind, .int .i64 y1.Cond.Value.Num, .str y1.Cond.Value.Text, .sl (Ar.lst (V.int .i64) y1.Opens) .ro, .sl (Ar.lst (V.int .i64) y1.Closes) .ro, .sl (Ar.lst Encs.eGExpr y1.Checks) .ro, .sl (Ar.lst Encs.eGLimit y1.Limits) .ro, .sl (Ar.lst (V.int .i64) y1.Inside) .ro]] (.bool q)) (r : Int) (h : slices_IndexFunc_LEdge_Edge N x_s x_f = some r) : CallP Tryd.prog 68 [.sl (Ar.lst Encs.eGEdge x_s) .ro, v_f] (.int .i64 r) := by
  unfold slices_IndexFunc_LEdge_Edge at h
  refine callP_of_spec cf68 okP Tryd.func68 (by rfl) (by kernel_rfl) Tryd.call68 Tryd.ntmps68 (by rfl) (by rfl) ?_
  intro E H0 K hE hK
  have hO : Own Eq H0 [] H0 := .start stable_eq rfl
  cbv
  refine n_ln hE ?_
  cbv
  obtain ⟨s2, hx, h⟩ := bind_some h
  refine n_loopN cf68 hE okP (fun s1 => [(0, .v (.sl (Ar.lst Encs.eGEdge x_s) .ro)), (1, .v (v_f)), (7, .v (.int .i64 (Ar.len x_s))), (8, .v (.int .i64 s1))]) (fun s1 H1 => Own Eq H0 [] H1) (fun x e l H1 => match (generalizing := false) x with | .inl y => e = .exit 0 ∧ l = [] ∧ Own Eq H0 [] H1 | .inr y => e = .ret ∧ l = [(4, .v (.int .i64 y))] ∧ Own Eq H0 [] H1) (by kernel_rfl) ?_ hx ?_ hO ?_
  · intro s1 H o hO h
    clear hx
    cbv
    refine n_br hE h (fun hc h => ?_) (fun hc h => ?_)
    · cbv
      refine n_idx hE Encs.eGEdge_eq h fun x3 h => ?_
      cbv
      refine n_callF hE (g := fun r4 => .bool r4) h (fun r4 hx => h_f x3 r4 hx) (.refl _) fun r4 h => ?_
      cbv
      refine n_br hE h (fun hc h => ?_) (fun hc h => ?_)
      · cbv
        have h := ret_some h
        subst h
        exact ⟨_, _, rfl, ⟨rfl, rfl, hO⟩, .e rfl (.z), rfl⟩
      · cbv
        have h := ret_some h
        subst h
        exact ⟨_, rfl, .e rfl (.e rfl (.e rfl (.e rfl (.z)))), rfl, hO⟩
    · cbv
      have h := ret_some h
      subst h
      exact ⟨_, _, rfl, ⟨rfl, rfl, hO⟩, .z, rfl⟩
  · exact .e rfl (.e rfl (.e rfl (.e rfl (.z))))
  · clear hx
    rcases s2 with y5 | y6
    · rintro e l H ⟨rfl, rfl, hO⟩
      cbv
      have h := ret_some h
      subst h
      exact hK _ _ _ hO (.refl _)
    · rintro e l H ⟨rfl, rfl, hO⟩
      cbv
      have h := ret_some h
      subst h
      exact hK _ _ _ hO (.refl _)

def cf46 : Cf := ⟨[], [], [], [], [], []⟩
theorem c46 (N : Nat) (x_s : List GEdge) (v_f : V) (x_f : GEdge → Option Bool) (h_f : ∀ y1 q, x_f y1 = some q → CallVP Tryd.prog v_f [.agg [.int .i64 y1.From, .int .i64 y1.To, .int .i64 y1.Var, .int .i64 y1.Typ, .int .i64 y1.Cond.Op, .sl (Ar.lst Encs.eGExpr y1.Cond.Args) .ro, .int .i64 y1.Cond.Var, .int .i64 y1.Cond.Field, .int .i64 y1.Cond.Kind, .int .i64 y1.Cond.Value.Kind, .int .i64 y1.Cond.Value.Num, .str y1.Cond.Value.Text, .sl (Ar.lst (V.int .i64) y1.Opens) .ro, .sl (Ar.lst (V.int .i64) y1.Closes) .ro, .sl (Ar.lst Encs.eGExpr y1.Checks) .ro, .sl (Ar.lst Encs.eGLimit y1.Limits) .ro, .sl (Ar.lst (V.int .i64) y1.Inside) .ro]] (.bool q)) (r : Bool) (h : slices_ContainsFunc_LEdge_Edge N x_s x_f = some r) : CallP Tryd.prog 46 [.sl (Ar.lst Encs.eGEdge x_s) .ro, v_f] (.bool r) := by
  unfold slices_ContainsFunc_LEdge_Edge at h
  refine callP_of_spec cf46 okP Tryd.func46 (by rfl) (by kernel_rfl) Tryd.call46 Tryd.ntmps46 (by rfl) (by rfl) ?_
  intro E H0 K hE hK
  have hO : Own Eq H0 [] H0 := .start stable_eq rfl
  cbv
  refine n_call hE (g := fun r1 => .int .i64 r1) h (fun r1 hx => c68 N x_s v_f x_f h_f r1 hx) (.refl _) fun r1 h => ?_
  cbv
  have h := ret_some h
  subst h
  exact hK _ _ _ hO (.refl _)

def cf25 : Cf := ⟨[], [(6, 8)], [], [], [], []⟩
theorem c25 (N : Nat) (x_s1 : List Int) (x_s2 : List Int) (r : Bool) (h : slices_Equal_Lint_int N x_s1 x_s2 = some r) : CallP Tryd.prog 25 [.sl (Ar.lst (V.int .i64) x_s1) .ro, .sl (Ar.lst (V.int .i64) x_s2) .ro] (.bool r) := by
  unfold slices_Equal_Lint_int at h
  refine callP_of_spec cf25 okP Tryd.func25 (by rfl) (by kernel_rfl) Tryd.call25 Tryd.ntmps25 (by rfl) (by rfl) ?_
  intro E H0 K hE hK
  have hO : Own Eq H0 [] H0 := .start stable_eq rfl
  cbv
  refine n_ln hE ?_
  cbv
  refine n_ln hE ?_
  cbv
  refine n_br hE h (fun hc h => ?_) (fun hc h => ?_)
  · cbv
    have h := ret_some h
    subst h
    exact hK _ _ _ hO (.refl _)
  · cbv
    refine n_ln hE ?_
    cbv
    obtain ⟨s2, hx, h⟩ := bind_some h
    refine n_loopN cf25 hE okP (fun s1 => [(0, .v (.sl (Ar.lst (V.int .i64) x_s1) .ro)), (1, .v (.sl (Ar.lst (V.int .i64) x_s2) .ro)), (12, .v (.int .i64 (Ar.len x_s1))), (13, .v (.int .i64 s1))]) (fun s1 H1 => Own Eq H0 [] H1) (fun x e l H1 => match (generalizing := false) x with | .inl y => e = .exit 0 ∧ l = [] ∧ Own Eq H0 [] H1 | .inr y => e = .ret ∧ l = [(4, .b false)] ∧ Own Eq H0 [] H1) (by kernel_rfl) ?_ hx ?_ hO ?_
    · intro s1 H o hO h
      clear hx
      cbv
      refine n_br hE h (fun hc h => ?_) (fun hc h => ?_)
      · cbv
        refine n_idx hE (fun _ => rfl) h fun x3 h => ?_
        cbv
        refine n_idx hE (fun _ => rfl) h fun x4 h => ?_
        cbv
        refine n_br hE h (fun hc h => ?_) (fun hc h => ?_)
        · cbv
          have h := ret_some h
          subst h
          exact ⟨_, _, rfl, ⟨rfl, rfl, hO⟩, .b rfl (.z), rfl⟩
        · cbv
          have h := ret_some h
          subst h
          exact ⟨_, rfl, .e rfl (.e rfl (.e rfl (.e rfl (.z)))), rfl, hO⟩
      · cbv
        have h := ret_some h
        subst h
        exact ⟨_, _, rfl, ⟨rfl, rfl, hO⟩, .z, rfl⟩
    · exact .e rfl (.e rfl (.e rfl (.e rfl (.z))))
    · clear hx
      rcases s2 with y5 | y6
      · rintro e l H ⟨rfl, rfl, hO⟩
        cbv
        have h := ret_some h
        subst h
        exact hK _ _ _ hO (.refl _)
      · rintro e l H ⟨rfl, rfl, hO⟩
        cbv
        have h := ret_some h
        subst h
        exact hK _ _ _ hO (.refl _)

def cf26 : Cf := ⟨[], [(6, 8)], [], [], [], []⟩
theorem c26 (N : Nat) (x_s1 : List GLimit) (x_s2 : List GLimit) (r : Bool) (h : slices_Equal_LLimit_Limit N x_s1 x_s2 = some r) : CallP Tryd.prog 26 [.sl (Ar.lst Encs.eGLimit x_s1) .ro, .sl (Ar.lst Encs.eGLimit x_s2) .ro] (.bool r) := by
  unfold slices_Equal_LLimit_Limit at h
  refine callP_of_spec cf26 okP Tryd.func26 (by rfl) (by kernel_rfl) Tryd.call26 Tryd.ntmps26 (by rfl) (by rfl) ?_
  intro E H0 K hE hK
  have hO : Own Eq H0 [] H0 := .start stable_eq rfl
  cbv
  refine n_ln hE ?_
  cbv
  refine n_ln hE ?_
  cbv
  refine n_br hE h (fun hc h => ?_) (fun hc h => ?_)
  · cbv
    have h := ret_some h
    subst h
    exact hK _ _ _ hO (.refl _)
  · cbv
    refine n_ln hE ?_
    cbv
    obtain ⟨s2, hx, h⟩ := bind_some h
    refine n_loopN cf26 hE okP (fun s1 => [(0, .v (.sl (Ar.lst Encs.eGLimit x_s1) .ro)), (1, .v (.sl (Ar.lst Encs.eGLimit x_s2) .ro)), (12, .v (.int .i64 (Ar.len x_s1))), (13, .v (.int .i64 s1))]) (fun s1 H1 => Own Eq H0 [] H1) (fun x e l H1 => match (generalizing := false) x with | .inl y => e = .exit 0 ∧ l = [] ∧ Own Eq H0 [] H1 | .inr y => e = .ret ∧ l = [(4, .b false)] ∧ Own Eq H0 [] H1) (by kernel_rfl) ?_ hx ?_ hO ?_
    · intro s1 H o hO h
      clear hx
      cbv
      refine n_br hE h (fun hc h => ?_) (fun hc h => ?_)
      · cbv
        refine n_idx hE Encs.eGLimit_eq h fun x3 h => ?_
        cbv
        refine n_idx hE Encs.eGLimit_eq h fun x4 h => ?_
        cbv
        refine n_br hE h (fun hc h => ?_) (fun hc h => ?_)
        · cbv
          have h := ret_some h
          subst h
          exact ⟨_, _, rfl, ⟨rfl, rfl, hO⟩, .b rfl (.z), rfl⟩
        · cbv
          have h := ret_some h
          subst h
          exact ⟨_, rfl, .e rfl (.e rfl (.e rfl (.e rfl (.z)))), rfl, hO⟩
      · cbv
        have h := ret_some h
        subst h
        exact ⟨_, _, rfl, ⟨rfl, rfl, hO⟩, .z, rfl⟩
    · exact .e rfl (.e rfl (.e rfl (.e rfl (.z))))
    · clear hx
      rcases s2 with y5 | y6
      · rintro e l H ⟨rfl, rfl, hO⟩
        cbv
        have h := ret_some h
        subst h
        exact hK _ _ _ hO (.refl _)
      · rintro e l H ⟨rfl, rfl, hO⟩
        cbv
        have h := ret_some h
        subst h
        exact hK _ _ _ hO (.refl _)

def cf69 : Cf := ⟨[8], [], [], [], [], []⟩
theorem c69 (N : Nat) (x_s1 : List GExpr) (x_s2 : List GExpr) (v_eq : V) (x_eq : GExpr → GExpr → Option Bool) (h_eq : ∀ y1 y2 q, x_eq y1 y2 = some q → CallVP Tryd.prog v_eq [.agg [.int .i64 y1.Op, .sl (Ar.lst Encs.eGExpr y1.Args) .ro, .int .i64 y1.Var, .int .i64 y1.Field, .int .i64 y1.Kind, .int .i64 y1.Value.Kind, .int .i64 y1.Value.Num, .str y1.Value.Text], .agg [.int .i64 y2.Op, .sl (Ar.lst Encs.eGExpr y2.Args) .ro, .int .i64 y2.Var, .int .i64 y2.Field, .int .i64 y2.Kind, .int .i64 y2.Value.Kind, .int .i64 y2.Value.Num, .str y2.Value.Text]] (.bool q)) (r : Bool) (h : slices_EqualFunc_LExpr_LExpr_Expr_Expr N x_s1 x_s2 x_eq = some r) : CallP Tryd.prog 69 [.sl (Ar.lst Encs.eGExpr x_s1) .ro, .sl (Ar.lst Encs.eGExpr x_s2) .ro, v_eq] (.bool r) := by
  unfold slices_EqualFunc_LExpr_LExpr_Expr_Expr at h
  refine callP_of_spec cf69 okP Tryd.func69 (by rfl) (by kernel_rfl) Tryd.call69 Tryd.ntmps69 (by rfl) (by rfl) ?_
  intro E H0 K hE hK
  have hO : Own Eq H0 [] H0 := .start stable_eq rfl
  cbv
  refine n_ln hE ?_
  cbv
  refine n_ln hE ?_
  cbv
  refine n_br hE h (fun hc h => ?_) (fun hc h => ?_)
  · cbv
    have h := ret_some h
    subst h
    exact hK _ _ _ hO (.refl _)
  · cbv
    refine n_ln hE ?_
    cbv
    obtain ⟨s2, hx, h⟩ := bind_some h
    refine n_loopN cf69 hE okP (fun s1 => [(1, .v (.sl (Ar.lst Encs.eGExpr x_s2) .ro)), (2, .v (v_eq)), (15, .v (.sl (Ar.lst Encs.eGExpr x_s1) .ro)), (16, .v (.int .i64 (Ar.len x_s1))), (17, .v (.int .i64 s1))]) (fun s1 H1 => Own Eq H0 [] H1) (fun x e l H1 => match (generalizing := false) x with | .inl y => e = .exit 0 ∧ l = [] ∧ Own Eq H0 [] H1 | .inr y => e = .ret ∧ l = [(6, .b false)] ∧ Own Eq H0 [] H1) (by kernel_rfl) ?_ hx ?_ hO ?_
    · intro s1 H o hO h
      clear hx
      cbv
      refine n_br hE h (fun hc h => ?_) (fun hc h => ?_)
      · cbv
        refine n_idx hE Encs.eGExpr_eq h fun x3 h => ?_
        cbv
        refine n_alloc hE hO fun b4 H hO => ?_
        cbv
        refine n_store hE hO 0 rfl rfl fun H hO => ?_
        cbv
        refine n_idx hE Encs.eGExpr_eq h fun x5 h => ?_
        cbv
        refine n_load hE hO 0 rfl ?_
        cbv
        refine n_callF hE (g := fun r6 => .bool r6) h (fun r6 hx => h_eq x3 x5 r6 hx) (.refl _) fun r6 h => ?_
        cbv
        refine n_br hE h (fun hc h => ?_) (fun hc h => ?_)
        · cbv
          have h := ret_some h
          subst h
          exact ⟨_, _, rfl, ⟨rfl, rfl, hO.tail⟩, .b rfl (.z), rfl⟩
        · cbv
          have h := ret_some h
          subst h
          exact ⟨_, rfl, .e rfl (.e rfl (.e rfl (.e rfl (.e rfl (.z))))), rfl, hO.tail⟩
      · cbv
        have h := ret_some h
        subst h
        exact ⟨_, _, rfl, ⟨rfl, rfl, hO⟩, .z, rfl⟩
    · exact .e rfl (.e rfl (.e rfl (.e rfl (.e rfl (.z)))))
    · clear hx
      rcases s2 with y7 | y8
      · rintro e l H ⟨rfl, rfl, hO⟩
        cbv
        have h := ret_some h
        subst h
        exact hK _ _ _ hO (.refl _)
      · rintro e l H ⟨rfl, rfl, hO⟩
        cbv
        have h := ret_some h
        subst h
        exact hK _ _ _ hO (.refl _)

def cf48 : Cf := ⟨[], [], [], [], [], []⟩
theorem c48 (N : Nat) (x_a : GEdge) (x_b : GEdge) (r : Bool) (h : derivative_sameEdge N x_a x_b = some r) : CallP Tryd.prog 48 [.agg [.int .i64 x_a.From, .int .i64 x_a.To, .int .i64 x_a.Var, .int .i64 x_a.Typ, .int .i64 x_a.Cond.Op, .sl (Ar.lst Encs.eGExpr x_a.Cond.Args) .ro, .int .i64 x_a.Cond.Var, .int .i64 x_a.Cond.Field, .int .i64 x_a.Cond.Kind, .int .i64 x_a.Cond.Value.Kind, .int .i64 x_a.Cond.Value.Num, .str x_a.Cond.Value.Text, .sl (Ar.lst (V.int .i64) x_a.Opens) .ro, .sl (Ar.lst (V.int .i64) x_a.Closes) .ro, .sl (Ar.lst Encs.eGExpr x_a.Checks) .ro, .sl (Ar.lst Encs.eGLimit x_a.Limits) .ro, .sl (Ar.lst (V.int .i64) x_a.Inside) .ro], .agg [.int .i64 x_b.From, .int .i64 x_b.To, .int .i64 x_b.Var, .int .i64 x_b.Typ, .int .i64 x_b.Cond.Op, .sl (Ar.lst Encs.eGExpr x_b.Cond.Args) .ro, .int .i64 x_b.Cond.Var, .int .i64 x_b.Cond.Field, .int .i64 x_b.Cond.Kind, .int .i64 x_b.Cond.Value.Kind, .int .i64 x_b.Cond.Value.Num, .str x_b.Cond.Value.Text, .sl (Ar.lst (V.int .i64) x_b.Opens) .ro, .sl (Ar.lst (V.int .i64) x_b.Closes) .ro, .sl (Ar.lst Encs.eGExpr x_b.Checks) .ro, .sl (Ar.lst Encs.eGLimit x_b.Limits) .ro, .sl (Ar.lst (V.int .i64) x_b.Inside) .ro]] (.bool r) := by
  unfold derivative_sameEdge at h
  refine callP_of_spec cf48 okP Tryd.func48 (by rfl) (by kernel_rfl) Tryd.call48 Tryd.ntmps48 (by rfl) (by rfl) ?_
  intro E H0 K hE hK
  have hO : Own Eq H0 [] H0 := .start stable_eq rfl
  cbv
  refine n_br hE h (fun hc h => ?_) (fun hc h => ?_)
  · cbv
    refine n_call hE (g := fun r1 => .bool r1) h (fun r1 hx => c55 N N x_a.Cond x_b.Cond r1 hx) (.refl _) fun r1 h => ?_
    cbv
    refine n_br hE h (fun hc h => ?_) (fun hc h => ?_)
    · cbv
      refine n_call hE (g := fun r2 => .bool r2) h (fun r2 hx => c25 N x_a.Opens x_b.Opens r2 hx) (.refl _) fun r2 h => ?_
      cbv
      refine n_br hE h (fun hc h => ?_) (fun hc h => ?_)
      · cbv
        refine n_call hE (g := fun r3 => .bool r3) h (fun r3 hx => c25 N x_a.Closes x_b.Closes r3 hx) (.refl _) fun r3 h => ?_
        cbv
        refine n_br hE h (fun hc h => ?_) (fun hc h => ?_)
        · cbv
          refine n_call hE (g := fun r4 => .bool r4) h (fun r4 hx => c69 N x_a.Checks x_b.Checks (.func (.func 55) [] []) (fun y1 y2 => expr_Same N N y1 y2) (fun y1 y2 r hx => CallP.value (F := []) (C := []) (c55 N N y1 y2 r hx)) r4 hx) (.refl _) fun r4 h => ?_
          cbv
          refine n_br hE h (fun hc h => ?_) (fun hc h => ?_)
          · cbv
            refine n_call hE (g := fun r5 => .bool r5) h (fun r5 hx => c26 N x_a.Limits x_b.Limits r5 hx) (.refl _) fun r5 h => ?_
            cbv
            refine n_br hE h (fun hc h => ?_) (fun hc h => ?_)
            · cbv
              refine n_call hE (g := fun r6 => .bool r6) h (fun r6 hx => c25 N x_a.Inside x_b.Inside r6 hx) (.refl _) fun r6 h => ?_
              cbv
              have h := ret_some h
              subst h
              exact hK _ _ _ hO (.refl _)
            · cbv
              have h := ret_some h
              subst h
              exact hK _ _ _ hO (.refl _)
          · cbv
            have h := ret_some h
            subst h
            exact hK _ _ _ hO (.refl _)
        · cbv
          have h := ret_some h
          subst h
          exact hK _ _ _ hO (.refl _)
      · cbv
        have h := ret_some h
        subst h
        exact hK _ _ _ hO (.refl _)
    · cbv
      have h := ret_some h
      subst h
      exact hK _ _ _ hO (.refl _)
  · cbv
    have h := ret_some h
    subst h
    exact hK _ _ _ hO (.refl _)

def cf47 : Cf := ⟨[], [], [], [], [], []⟩
theorem c47 (N : Nat) (x_y : GEdge) (x_1 : GEdge) (r : Bool) (h : derivative_derived_1 N x_y x_1 = some r) : CallP Tryd.prog 47 [.agg [.int .i64 x_y.From, .int .i64 x_y.To, .int .i64 x_y.Var, .int .i64 x_y.Typ, .int .i64 x_y.Cond.Op, .sl (Ar.lst Encs.eGExpr x_y.Cond.Args) .ro, .int .i64 x_y.Cond.Var, .int .i64 x_y.Cond.Field, .int .i64 x_y.Cond.Kind, .int .i64 x_y.Cond.Value.Kind, .int .i64 x_y.Cond.Value.Num, .str x_y.Cond.Value.Text, .sl (Ar.lst (V.int .i64) x_y.Opens) .ro, .sl (Ar.lst (V.int .i64) x_y.Closes) .ro, .sl (Ar.lst Encs.eGExpr x_y.Checks) .ro, .sl (Ar.lst Encs.eGLimit x_y.Limits) .ro, .sl (Ar.lst (V.int .i64) x_y.Inside) .ro], .eref [.int .i64 x_1.From, .int .i64 x_1.To, .int .i64 x_1.Var, .int .i64 x_1.Typ, .int .i64 x_1.Cond.Op, .sl (Ar.lst Encs.eGExpr x_1.Cond.Args) .ro, .int .i64 x_1.Cond.Var, .int .i64 x_1.Cond.Field, .int .i64 x_1.Cond.Kind, .int .i64 x_1.Cond.Value.Kind, .int .i64 x_1.Cond.Value.Num, .str x_1.Cond.Value.Text, .sl (Ar.lst (V.int .i64) x_1.Opens) .ro, .sl (Ar.lst (V.int .i64) x_1.Closes) .ro, .sl (Ar.lst Encs.eGExpr x_1.Checks) .ro, .sl (Ar.lst Encs.eGLimit x_1.Limits) .ro, .sl (Ar.lst (V.int .i64) x_1.Inside) .ro] 0] (.bool r) := by
  unfold derivative_derived_1 at h
  refine callP_of_spec cf47 okP Tryd.func47 (by rfl) (by kernel_rfl) Tryd.call47 Tryd.ntmps47 (by rfl) (by rfl) ?_
  intro E H0 K hE hK
  have hO : Own Eq H0 [] H0 := .start stable_eq rfl
  cbv
  refine n_br hE h (fun hc h => ?_) (fun hc h => ?_)
  · cbv
    refine n_call hE (g := fun r1 => .bool r1) h (fun r1 hx => c48 N x_1 x_y r1 hx) (.refl _) fun r1 h => ?_
    cbv
    have h := ret_some h
    subst h
    exact hK _ _ _ hO (.refl _)
  · cbv
    have h := ret_some h
    subst h
    exact hK _ _ _ hO (.refl _)

def cf35 : Cf := ⟨[2, 3, 4, 5, 6, 7], [(13, 5), (18, 3)], [(16, 9)], [1000013], [(40, 7)], [(18, 2, [2])]⟩
theorem c35 (N : Nat) (x_p : GPattern) (r : ((List GEdge) × (List GPattern) × Int)) (h : derivative_derived N x_p = some r) : CallP Tryd.prog 35 [.agg [.int .i64 x_p.Op, .sl (Ar.lst Encs.eGPattern x_p.Args) .ro, .int .i64 x_p.Typ, .int .i64 x_p.Var, .int .i64 x_p.Scope, .int .i64 x_p.Span, .int .i64 x_p.Cond.Op, .sl (Ar.lst Encs.eGExpr x_p.Cond.Args) .ro, .int .i64 x_p.Cond.Var, .int .i64 x_p.Cond.Field, .int .i64 x_p.Cond.Kind, .int .i64 x_p.Cond.Value.Kind, .int .i64 x_p.Cond.Value.Num, .str x_p.Cond.Value.Text]] (.tup [.sl (Ar.lst Encs.eGEdge r.1) .ro, .sl (Ar.lst Encs.eGPattern r.2.1) .ro, .int .i64 r.2.2]) := by
  unfold derivative_derived at h
  refine callP_of_spec cf35 okP Tryd.func35 (by rfl) (by kernel_rfl) Tryd.call35 Tryd.ntmps35 (by rfl) (by rfl) ?_
  intro E H0 K hE hK
  have hO : Own Eq H0 [] H0 := .start stable_eq rfl
  cbv
  refine n_alloc hE hO fun b1 H hO => ?_
  cbv
  refine n_alloc hE hO fun b2 H hO => ?_
  cbv
  refine n_alloc hE hO fun b3 H hO => ?_
  cbv
  refine n_alloc hE hO fun b4 H hO => ?_
  cbv
  refine n_alloc hE hO fun b5 H hO => ?_
  cbv
  refine n_callQ hE h (fun r6 hx => c45 N N x_p r6 hx) (.refl _) fun r6 v7 hv7 h => ?_
  cbv
  replace hO := hO.tl0 (t := .nil) rfl
  replace hO := hO.tl0 (t := .nil) rfl
  obtain ⟨o14, hx, h⟩ := bind_some h
  replace hO := hO.cast (L' := [.tl .nil, .tl .nil, .blk b5 (.cells [.sl (Ar.lst Encs.eGPattern ([])) .nil]), .blk b4 (.cells [.sl (Ar.lst Encs.eGEdge ([])) .nil]), .blk b3 (.cells [.int .i64 0]), .blk b2 (.cells [.sl [] .nil]), .blk b1 (.cells [.sl [] .nil])]) (by simp only [← lst_nil])
  refine n_range cf35 hE okP (ι := Nat) (enc := fun (x : (GEdge × Gderivative_rest)) => [.agg [.int .i64 x.1.From, .int .i64 x.1.To, .int .i64 x.1.Var, .int .i64 x.1.Typ, .int .i64 x.1.Cond.Op, .sl (Ar.lst Encs.eGExpr x.1.Cond.Args) .ro, .int .i64 x.1.Cond.Var, .int .i64 x.1.Cond.Field, .int .i64 x.1.Cond.Kind, .int .i64 x.1.Cond.Value.Kind, .int .i64 x.1.Cond.Value.Num, .str x.1.Cond.Value.Text, .sl (Ar.lst (V.int .i64) x.1.Opens) .ro, .sl (Ar.lst (V.int .i64) x.1.Closes) .ro, .sl (Ar.lst Encs.eGExpr x.1.Checks) .ro, .sl (Ar.lst Encs.eGLimit x.1.Limits) .ro, .sl (Ar.lst (V.int .i64) x.1.Inside) .ro], .agg [.bool x.2.done, .int .i64 x.2.p.Op, .sl (Ar.lst Encs.eGPattern x.2.p.Args) .ro, .int .i64 x.2.p.Typ, .int .i64 x.2.p.Var, .int .i64 x.2.p.Scope, .int .i64 x.2.p.Span, .int .i64 x.2.p.Cond.Op, .sl (Ar.lst Encs.eGExpr x.2.p.Cond.Args) .ro, .int .i64 x.2.p.Cond.Var, .int .i64 x.2.p.Cond.Field, .int .i64 x.2.p.Cond.Kind, .int .i64 x.2.p.Cond.Value.Kind, .int .i64 x.2.p.Cond.Value.Num, .str x.2.p.Cond.Value.Text]]) (fun (s9 : (List GPattern) × (List GEdge)) F H => ∃ g : Tail × Tail, (Appn g.1 ∧ Appn g.2) ∧ Own Eq F [.tl g.1, .tl g.2, .blk b5 (.cells [.sl (Ar.lst Encs.eGPattern s9.1) g.2]), .blk b4 (.cells [.sl (Ar.lst Encs.eGEdge s9.2) g.1]), .blk b3 (.cells [.int .i64 0]), .blk b2 (.cells [.sl [] .nil]), .blk b1 (.cells [.sl [] .nil])] H) (fun (r : ((List GPattern) × (List GEdge) × Int)) e F H => ∃ g : Tail × Tail, (e = .ret ∧ Appn g.1 ∧ Appn g.2) ∧ Own Eq F [.tl g.1, .tl g.2, .blk b5 (.cells [.sl (Ar.lst Encs.eGPattern r.1) g.2]), .blk b4 (.cells [.sl (Ar.lst Encs.eGEdge r.2.1) g.1]), .blk b3 (.cells [.int .i64 r.2.2]), .blk b2 (.cells [.sl [] .nil]), .blk b1 (.cells [.sl [] .nil])] H) (fun i s9 y8 => [(2, .v (.ref b1 0)), (3, .v (.ref b2 0)), (4, .v (.ref b3 0)), (5, .v (.ref b4 0)), (6, .v (.ref b5 0)), (7, .v (.ref i 0)), (8, .v (.eref [.bool y8.2.done, .int .i64 y8.2.p.Op, .sl (Ar.lst Encs.eGPattern y8.2.p.Args) .ro, .int .i64 y8.2.p.Typ, .int .i64 y8.2.p.Var, .int .i64 y8.2.p.Scope, .int .i64 y8.2.p.Span, .int .i64 y8.2.p.Cond.Op, .sl (Ar.lst Encs.eGExpr y8.2.p.Cond.Args) .ro, .int .i64 y8.2.p.Cond.Var, .int .i64 y8.2.p.Cond.Field, .int .i64 y8.2.p.Cond.Kind, .int .i64 y8.2.p.Cond.Value.Kind, .int .i64 y8.2.p.Cond.Value.Num, .str y8.2.p.Cond.Value.Text] 0))]) (fun i s9 y8 F H => ∃ g : Tail × Tail, (Appn g.1 ∧ Appn g.2) ∧ Own Eq F [.blk i (.cells [.int .i64 y8.1.From, .int .i64 y8.1.To, .int .i64 y8.1.Var, .int .i64 y8.1.Typ, .int .i64 y8.1.Cond.Op, .sl (Ar.lst Encs.eGExpr y8.1.Cond.Args) .ro, .int .i64 y8.1.Cond.Var, .int .i64 y8.1.Cond.Field, .int .i64 y8.1.Cond.Kind, .int .i64 y8.1.Cond.Value.Kind, .int .i64 y8.1.Cond.Value.Num, .str y8.1.Cond.Value.Text, .sl (Ar.lst (V.int .i64) y8.1.Opens) .ro, .sl (Ar.lst (V.int .i64) y8.1.Closes) .ro, .sl (Ar.lst Encs.eGExpr y8.1.Checks) .ro, .sl (Ar.lst Encs.eGLimit y8.1.Limits) .ro, .sl (Ar.lst (V.int .i64) y8.1.Inside) .ro]), .tl g.1, .tl g.2, .blk b5 (.cells [.sl (Ar.lst Encs.eGPattern s9.1) g.2]), .blk b4 (.cells [.sl (Ar.lst Encs.eGEdge s9.2) g.1]), .blk b3 (.cells [.int .i64 0]), .blk b2 (.cells [.sl [] .nil]), .blk b1 (.cells [.sl [] .nil])] H) (fun _ => Stable.ex fun _ => Own.stable stable_eq _) (fun _ _ => Stable.ex fun _ => Own.stable stable_eq _) (fun _ _ _ => Stable.ex fun _ => Own.stable stable_eq _) hv7 hx (⟨⟨.nil, .nil⟩, ⟨trivial, trivial⟩, hO⟩) (by decide) (fun _ => rfl) (by kernel_rfl) (by kernel_rfl) ?_ ?_ ?_ ?_
  · rintro E i11 y8 s9 F10 H hE ⟨⟨t12, t13⟩, ⟨ht12, ht13⟩, hO⟩
    clear hx h
    cbv
    refine n_alloc hE hO fun b15 H hO => ?_
    cbv
    refine n_store hE hO 0 rfl rfl fun H hO => ?_
    cbv
    exact ⟨b15, ⟨⟨t12, t13⟩, ⟨ht12, ht13⟩, hO⟩, .e rfl (.e rfl (.e rfl (.e rfl (.e rfl (.e rfl (.e rfl (.z))))))), rfl⟩
  · rintro E i11 b15 y8 s9 F10 H o hE hF h ⟨⟨t12, t13⟩, ⟨ht12, ht13⟩, hO⟩
    clear hx
    cbv
    refine n_store hE hO 0 rfl rfl fun H hO => ?_
    cbv
    obtain ⟨s16, hx, h⟩ := bind_some h
    refine n_join cf35 hE okP (fun e l H1 => match (generalizing := false) s16 with | .inl y => ∃ u1 : Tail, Appn u1 ∧ e = .normal ∧ l = [(2, .v (.ref b1 0)), (3, .v (.ref b2 0)), (4, .v (.ref b3 0)), (5, .v (.ref b4 0)), (7, .v (.ref b15 0))] ∧ Own Eq F10 [.blk b15 (.cells [.int .i64 y.1.From, .int .i64 y.1.To, .int .i64 y.1.Var, .int .i64 y.1.Typ, .int .i64 y.1.Cond.Op, .sl (Ar.lst Encs.eGExpr y.1.Cond.Args) .ro, .int .i64 y.1.Cond.Var, .int .i64 y.1.Cond.Field, .int .i64 y.1.Cond.Kind, .int .i64 y.1.Cond.Value.Kind, .int .i64 y.1.Cond.Value.Num, .str y.1.Cond.Value.Text, .sl (Ar.lst (V.int .i64) y.1.Opens) .ro, .sl (Ar.lst (V.int .i64) y.1.Closes) .ro, .sl (Ar.lst Encs.eGExpr y.1.Checks) .ro, .sl (Ar.lst Encs.eGLimit y.1.Limits) .ro, .sl (Ar.lst (V.int .i64) y.1.Inside) .ro]), .tl t12, .tl u1, .blk b5 (.cells [.sl (Ar.lst Encs.eGPattern y.2) u1]), .blk b4 (.cells [.sl (Ar.lst Encs.eGEdge s9.2) t12]), .blk b3 (.cells [.int .i64 0]), .blk b2 (.cells [.sl [] .nil]), .blk b1 (.cells [.sl [] .nil])] H1 | .inr y => e = .ret ∧ l = [(2, .v (.ref b1 0)), (3, .v (.ref b2 0)), (4, .v (.ref b3 0))] ∧ Own Eq F10 [.blk b15 (.cells [.int .i64 y.1.From, .int .i64 y.1.To, .int .i64 y.1.Var, .int .i64 y.1.Typ, .int .i64 y.1.Cond.Op, .sl (Ar.lst Encs.eGExpr y.1.Cond.Args) .ro, .int .i64 y.1.Cond.Var, .int .i64 y.1.Cond.Field, .int .i64 y.1.Cond.Kind, .int .i64 y.1.Cond.Value.Kind, .int .i64 y.1.Cond.Value.Num, .str y.1.Cond.Value.Text, .sl (Ar.lst (V.int .i64) y.1.Opens) .ro, .sl (Ar.lst (V.int .i64) y.1.Closes) .ro, .sl (Ar.lst Encs.eGExpr y.1.Checks) .ro, .sl (Ar.lst Encs.eGLimit y.1.Limits) .ro, .sl (Ar.lst (V.int .i64) y.1.Inside) .ro]), .tl t12, .tl t13, .blk b5 (.cells [.sl (Ar.lst Encs.eGPattern s9.1) t13]), .blk b4 (.cells [.sl (Ar.lst Encs.eGEdge s9.2) t12]), .blk b3 (.cells [.int .i64 y.2]), .blk b2 (.cells [.sl [] .nil]), .blk b1 (.cells [.sl [] .nil])] H1) (by kernel_rfl) ?_ ?_
    · clear h
      have h := hx
      clear hx
      cbv
      refine n_br hE h (fun hc h => ?_) (fun hc h => ?_)
      · cbv
        refine n_load hE hO 3 rfl ?_
        cbv
        refine n_call hE (g := fun r17 => .int .i64 r17) h (fun r17 hx => c40 N s9.1 y8.2.p r17 hx) (.cons (.ro _ _) (.refl _)) fun r17 h => ?_
        cbv
        refine n_store hE hO 0 rfl rfl fun H hO => ?_
        cbv
        refine n_load hE hO 0 rfl ?_
        cbv
        refine n_br hE h (fun hc h => ?_) (fun hc h => ?_)
        · cbv
          refine n_call hE (g := fun r18 => .int .i64 r18) h (fun r18 hx => c27 N y8.2.p r18 hx) (.refl _) fun r18 h => ?_
          cbv
          refine n_br hE h (fun hc h => ?_) (fun hc h => ?_)
          · cbv
            refine n_store hE hO 7 rfl rfl fun H hO => ?_
            cbv
            refine n_store hE hO 6 rfl rfl fun H hO => ?_
            cbv
            refine n_store hE hO 5 rfl rfl fun H hO => ?_
            cbv
            have h := ret_some h
            subst h
            exact ⟨_, ⟨rfl, rfl, hO⟩, .e rfl (.e rfl (.e rfl (.z))), rfl⟩
          · cbv
            refine n_load hE hO 3 rfl ?_
            cbv
            refine n_ln hE ?_
            cbv
            refine n_store hE hO 0 rfl rfl fun H hO => ?_
            cbv
            refine n_load hE hO 3 rfl ?_
            cbv
            refine n_ln hE ?_
            cbv
            refine n_need hE (by first | exact len_lst _ | exact len_lst' _ | trivial | rfl) ?_
            cbv
            refine n_appn hE sz_GPattern (by decide) hO 2 rfl ht13 (l := s9.1) (m := [y8.2.p]) (.refl _) (.lstc (.eq (Encs.eGPattern_eq y8.2.p) (.refl _)) (.lst0)) h fun l20 t19 H hO ht19 h => ?_
            cbv
            refine n_store hE hO 3 rfl rfl fun H hO => ?_
            cbv
            have h := ret_some h
            subst h
            exact ⟨_, ⟨t19, ht19, rfl, rfl, hO⟩, .e rfl (.e rfl (.e rfl (.e rfl (.e rfl (.z))))), rfl⟩
        · cbv
          have h := ret_some h
          subst h
          exact ⟨_, ⟨t13, ht13, rfl, rfl, hO⟩, .e rfl (.e rfl (.e rfl (.e rfl (.e rfl (.z))))), rfl⟩
      · cbv
        have h := ret_some h
        subst h
        exact ⟨_, ⟨t13, ht13, rfl, rfl, hO⟩, .e rfl (.e rfl (.e rfl (.e rfl (.e rfl (.z))))), rfl⟩
    · clear hx
      rcases s16 with y21 | y26
      · rintro e l H ⟨t22, ht22, rfl, rfl, hO⟩
        cbv
        refine n_load hE hO 4 rfl ?_
        cbv
        refine n_frz hE hO 0 rfl fun H hO => ?_
        cbv
        refine n_call hE (g := fun r23 => .bool r23) h (fun r23 hx => c46 N s9.2 (.func (.func 47) [] [.eref [.int .i64 y21.1.From, .int .i64 y21.1.To, .int .i64 y21.1.Var, .int .i64 y21.1.Typ, .int .i64 y21.1.Cond.Op, .sl (Ar.lst Encs.eGExpr y21.1.Cond.Args) .ro, .int .i64 y21.1.Cond.Var, .int .i64 y21.1.Cond.Field, .int .i64 y21.1.Cond.Kind, .int .i64 y21.1.Cond.Value.Kind, .int .i64 y21.1.Cond.Value.Num, .str y21.1.Cond.Value.Text, .sl (Ar.lst (V.int .i64) y21.1.Opens) .ro, .sl (Ar.lst (V.int .i64) y21.1.Closes) .ro, .sl (Ar.lst Encs.eGExpr y21.1.Checks) .ro, .sl (Ar.lst Encs.eGLimit y21.1.Limits) .ro, .sl (Ar.lst (V.int .i64) y21.1.Inside) .ro] 0]) (fun y1 => derivative_derived_1 N y1 y21.1) (fun y1 r hx => CallP.value (F := []) (C := [.eref [.int .i64 y21.1.From, .int .i64 y21.1.To, .int .i64 y21.1.Var, .int .i64 y21.1.Typ, .int .i64 y21.1.Cond.Op, .sl (Ar.lst Encs.eGExpr y21.1.Cond.Args) .ro, .int .i64 y21.1.Cond.Var, .int .i64 y21.1.Cond.Field, .int .i64 y21.1.Cond.Kind, .int .i64 y21.1.Cond.Value.Kind, .int .i64 y21.1.Cond.Value.Num, .str y21.1.Cond.Value.Text, .sl (Ar.lst (V.int .i64) y21.1.Opens) .ro, .sl (Ar.lst (V.int .i64) y21.1.Closes) .ro, .sl (Ar.lst Encs.eGExpr y21.1.Checks) .ro, .sl (Ar.lst Encs.eGLimit y21.1.Limits) .ro, .sl (Ar.lst (V.int .i64) y21.1.Inside) .ro] 0]) (c47 N y1 y21.1 r hx)) r23 hx) (.cons (.ro _ _) (.refl _)) fun r23 h => ?_
        cbv
        refine n_br hE h (fun hc h => ?_) (fun hc h => ?_)
        · cbv
          have h := ret_some h
          subst h
          exact ⟨_, rfl, ⟨⟨t12, t22⟩, ⟨ht12, ht22⟩, hO⟩⟩
        · cbv
          refine n_load hE hO 3 rfl ?_
          cbv
          refine n_appn hE sz_GEdge (by decide) hO 0 rfl ht12 (l := s9.2) (m := [y21.1]) (.refl _) (.lstc (.eq (Encs.eGEdge_eq y21.1) (.refl _)) (.lst0)) h fun l25 t24 H hO ht24 h => ?_
          cbv
          refine n_store hE hO 3 rfl rfl fun H hO => ?_
          cbv
          refine n_load hE hO 3 rfl ?_
          cbv
          refine n_ln hE ?_
          cbv
          refine n_br hE h (fun hc h => ?_) (fun hc h => ?_)
          · cbv
            refine n_store hE hO 6 rfl rfl fun H hO => ?_
            cbv
            refine n_store hE hO 5 rfl rfl fun H hO => ?_
            cbv
            refine n_store hE hO 4 rfl rfl fun H hO => ?_
            cbv
            have h := ret_some h
            subst h
            exact ⟨_, rfl, rfl, ⟨⟨t24, t22⟩, ⟨rfl, ⟨ht24, ht22⟩⟩, hO⟩⟩
          · cbv
            have h := ret_some h
            subst h
            exact ⟨_, rfl, ⟨⟨t24, t22⟩, ⟨ht24, ht22⟩, hO⟩⟩
      · rintro e l H ⟨rfl, rfl, hO⟩
        cbv
        have h := ret_some h
        subst h
        exact ⟨_, rfl, rfl, ⟨⟨t12, t13⟩, ⟨rfl, ⟨ht12, ht13⟩⟩, hO.tail⟩⟩
  · rintro d27 s31 H rfl hd ⟨⟨t32, t33⟩, ⟨ht32, ht33⟩, hO⟩
    have hO : Own Eq H0 [.tl t32, .tl t33, .blk b5 (.cells [.sl (Ar.lst Encs.eGPattern s31.1) t33]), .blk b4 (.cells [.sl (Ar.lst Encs.eGEdge s31.2) t32]), .blk b3 (.cells [.int .i64 0]), .blk b2 (.cells [.sl [] .nil]), .blk b1 (.cells [.sl [] .nil]), .blk d27 DB] H := Own.dblk hd hO
    clear hd
    clear hx
    cbv
    refine n_take hE hO 6 rfl fun H1 hT hW => ?_
    cbv
    refine n_load hE hW 3 rfl ?_
    cbv
    refine n_load hE hW 2 rfl ?_
    cbv
    refine n_need hE trivial ?_
    cbv
    refine n_give hE hO 6 rfl hT fun H hO => ?_
    cbv
    refine n_store hE hO 5 rfl rfl fun H hO => ?_
    cbv
    refine n_store hE hO 4 rfl rfl fun H hO => ?_
    cbv
    refine n_fin hE hO 7 rfl fun H hO => ?_
    cbv
    refine n_load hE hO 6 rfl ?_
    cbv
    refine n_load hE hO 5 rfl ?_
    cbv
    refine n_load hE hO 4 rfl ?_
    cbv
    have h := ret_some h
    subst h
    exact hK _ _ _ hO (.tup (.cons (.ro _ _) (.cons (.ro _ _) (.refl _))))
  · rintro d27 y34 e H rfl hd hX
    clear hx
    rcases hX with ⟨⟨t35, t36⟩, ⟨rfl, ht35, ht36⟩, hO⟩
    have hO : Own Eq H0 [.tl t35, .tl t36, .blk b5 (.cells [.sl (Ar.lst Encs.eGPattern y34.1) t36]), .blk b4 (.cells [.sl (Ar.lst Encs.eGEdge y34.2.1) t35]), .blk b3 (.cells [.int .i64 y34.2.2]), .blk b2 (.cells [.sl [] .nil]), .blk b1 (.cells [.sl [] .nil]), .blk d27 DB] H := Own.dblk hd hO
    clear hd
    cbv
    refine n_fin hE hO 7 rfl fun H hO => ?_
    cbv
    refine n_load hE hO 6 rfl ?_
    cbv
    refine n_load hE hO 5 rfl ?_
    cbv
    refine n_load hE hO 4 rfl ?_
    cbv
    have h := ret_some h
    subst h
    exact hK _ _ _ hO (.tup (.cons (.lit _ (lst_nil)) (.cons (.lit _ (lst_nil)) (.refl _))))

end Go.Ab

