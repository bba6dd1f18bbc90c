/- AbA18 AbA19 -/
import Derived.Test.YtbjdkpckplopdaaGreatT13
set_option linter.all false

namespace Go.Ab
open Go.RowKit
variable [Glob]
structure Stable (I : Heap → Heap → Prop) : Prop where
 le : ∀ {F H}, I F H → ∀ id b, F id = some b → H id = some b
 chg : ∀ {F H} (id : Nat) (b : Option Blk), I F H → H id = F id → I (upd F id b) (upd H id b)
theorem Stable.fresh {I : Heap → Heap → Prop} (h : Stable I) {F H : Heap} (i : I F H) {id : Nat} (hn : H id = none) : F id = none := by
 cases hf : F id with
 | none => rfl
 | some b => rw [h.le i id b hf] at hn; cases hn
section
variable {P : Program} {nt : Nat}
end
end Go.Ab

namespace Go.Ab
open Go.RowKit
variable [Glob]
def opsG (P : Program) (A : Ann) (nt : Nat) (ops : Array Oper) : List Oper → Fr → Heap → (Fr → Heap → Prop) → Prop
 | [], fr, H, K => K fr H
 | o :: rest, fr, H, K =>
  dstOk nt o.dst = true ∧
   match o.guard with
   | none => opA P A o (ev fr) H fun v H' => opsG P A nt ops rest (fr.put o.dst v) H' K
   | some (j, want) =>
    match (ops[j]?).bind (·.dst) with
    | some d =>
     match fr.s d with
     | .bool c =>
      (c = want → opA P A o (ev (fr.put (some d) (.bool want))) H fun v H' => opsG P A nt ops rest ((fr.put (some d) (.bool want)).put o.dst v) H' K) ∧
       (c = !want → opsG P A nt ops rest ((fr.put (some d) (.bool !want)).put o.dst (.tup [])) H K)
     | _ => False
    | none => False
theorem appendA_mono {P : Program} {H : Heap} {K K' : V → Heap → Prop} {ts : List TypeId} {vs : List V} (h : appendA P H K ts vs) (hk : ∀ v H', K v H' → K' v H') : appendA P H K' ts vs := by
 unfold appendA at h ⊢
 split at h
 ·obtain ⟨e, sz, by_, z, k1, k2, k3, k4, k5, k6, k7, k8, k9, xs', ys', l1, l2, k10, k11, k12, k13, k14, k15⟩ := h
  exact ⟨e, sz, by_, z, k1, k2, k3, k4, k5, k6, k7, k8, k9, xs', ys', l1, l2, k10, k11, k12, k13, fun e => hk _ _ (k14 e), fun t e1 e2 => hk _ _ (k15 t e1 e2)⟩
 ·exact h.elim
theorem opA_mono {P : Program} {A : Ann} {o : Oper} {ρ : Operand → V} {H : Heap} {K K' : V → Heap → Prop} (h : opA P A o ρ H K) (hk : ∀ v H', K v H' → K' v H') : opA P A o ρ H K' := by
 unfold opA at h ⊢
 split at h
 ·rcases h with ⟨z, h1, h2, h3⟩ | ⟨h1, sz, h2⟩
  ·exact .inl ⟨z, h1, h2, fun id hid => (h3 id hid).imp fun _ h => ⟨h.1, hk _ _ h.2⟩⟩
  ·exact .inr ⟨h1, sz, fun q id hq hid => hk _ _ (h2 q id hq hid)⟩
 ·refine ⟨h.1, ?_⟩
  obtain ⟨_, h⟩ := h
  split at h <;> rename_i hA
  ·rw [if_pos hA]; exact fun id hid => hk _ _ (h id hid)
  ·rw [if_neg hA]; exact hk _ _ h
 ·rcases h with ⟨z, H', h0, h1, h2⟩ | ⟨z, H', h0, h1, h2⟩
  ·exact .inl ⟨z, H', h0, h1, hk _ _ h2⟩
  ·exact .inr ⟨z, H', h0, h1, hk _ _ h2⟩
 ·have key : ∀ {K K' : V → Heap → Prop} {t : TypeId} {l c : V}, (∀ v H', K v H' → K' v H') → makeO P H K t l c → makeO P H K' t l c := by
   intro K K' t l c hk h
   unfold makeO at h ⊢
   split at h
   ·obtain ⟨e, sz, by_, z, q1, q2, q3, q4, q5, q6, q7, q8, q9, q10, q11, q12⟩ := h
    exact ⟨e, sz, by_, z, q1, q2, q3, q4, q5, q6, q7, q8, q9, q10, q11, fun id hid => hk _ _ (q12 id hid)⟩
   ·exact h.elim
  exact h.imp (key hk) (key fun v H' ⟨id, sz, xs, ys, h1, h2, h3⟩ => ⟨id, sz, xs, ys, h1, h2, hk _ _ h3⟩)
 ·exact h.imp (hk _ _) fun ⟨h1, sz, h2⟩ => ⟨h1, sz, fun q hq => hk _ _ (h2 q hq)⟩
 ·exact h.imp (hk _ _) fun ⟨h1, sz, h2⟩ => ⟨h1, sz, fun q hq => hk _ _ (h2 q hq)⟩
 ·exact h.imp (fun ⟨v, h1, h2⟩ => ⟨v, h1, hk _ _ h2⟩) fun ⟨e, sz, xs, ys, h1, h2, h3, h4, h5⟩ => ⟨e, sz, xs, ys, h1, h2, h3, h4, fun q hq => hk _ _ (h5 q hq)⟩
 ·exact ⟨h.1, mapO_mono h.2 hk⟩
 ·exact updateO_mono h (hk _)
 ·exact updateO_mono h (hk _)
 ·exact rangeO_mono h hk
 ·exact ⟨h.1, nextO_mono h.2 hk⟩
 ·exact entryO_mono h hk
 ·rcases h with ⟨v, h1, h2⟩ | ⟨q, e, xs, q1, q2, q3, q4, q5, q6⟩
  ·exact .inl ⟨v, h1, hk _ _ h2⟩
  ·exact .inr ⟨q, e, xs, q1, q2, q3, q4, fun e => hk _ _ (q5 e), hk _ _ q6⟩
 ·split at h
  ·exact h.mono hk
  ·rcases h with h | h | h
   rotate_left
   ·refine .inr (.inl ?_)
    unfold appendO at h ⊢
    split at h
    ·obtain ⟨e, sz, by_, z, k1, k3, k4, k5, k6, k7, k8, k9, h⟩ := h
     refine ⟨e, sz, by_, z, k1, k3, k4, k5, k6, k7, k8, k9, ?_⟩
     rcases h with ⟨k2, ys', l1, l4⟩ | ⟨k2, k, m, l1, l2, l0, l4⟩
     ·exact .inl ⟨k2, ys', l1, appTo_mono l4 hk⟩
     ·exact .inr ⟨k2, k, m, l1, l2, l0, appTo_mono l4 hk⟩
    ·exact h.elim
   ·exact .inr (.inr (appendA_mono h fun v H' ⟨y, H2, h1, h2, h3⟩ => ⟨y, H2, h1, h2, hk _ _ h3⟩))
   exact .inl (appendA_mono h hk)
  ·unfold copyO at h ⊢
   split at h
   ·obtain ⟨e, sz, xs, ys', k1, k2, k3, k4, k5, k8⟩ := h
    exact ⟨e, sz, xs, ys', k1, k2, k3, k4, k5, hk _ _ k8⟩
   ·exact h.elim
  ·unfold clearO at h ⊢
   split at h
   ·obtain ⟨e, sz, z, xs, k1, k2, k3, k4, k5, k6, k7, k8⟩ := h
    exact ⟨e, sz, z, xs, k1, k2, k3, k4, k5, k6, k7, hk _ _ k8⟩
   ·exact h.elim
  ·exact deleteO_mono h hk
  ·obtain ⟨v, h1, h2⟩ := h; exact ⟨v, h1, hk _ _ h2⟩
  ·exact h.elim
 ·obtain ⟨v, h1, h2⟩ := h; exact ⟨v, h1, hk _ _ h2⟩
theorem put_self {fr : Fr} {d : Nat} {v : V} (h : fr.s d = v) : fr.put (some d) v = fr := by
 obtain ⟨s, df⟩ := fr
 simp only [Fr.put, Fr.mk.injEq, and_true]
 funext t
 split
 ·rename_i e; subst e; exact h.symm
 ·rfl
theorem opsG_opsA {P : Program} {A : Ann} {nt : Nat} {ops : Array Oper} {K : Fr → Heap → Prop} : ∀ (l : List Oper) (fr : Fr) (H : Heap), opsG P A nt ops l fr H K → opsA P A nt ops l fr H K
 | [], _, _, h => h
 | o :: rest, fr, H, h => by
  simp only [opsG] at h
  simp only [opsA]
  refine ⟨h.1, ?_⟩
  obtain ⟨_, h⟩ := h
  have mono : ∀ fr, opA P A o (ev fr) H (fun v H' => opsG P A nt ops rest (fr.put o.dst v) H' K) → opA P A o (ev fr) H fun v H' => opsA P A nt ops rest (fr.put o.dst v) H' K := by
   intro fr hh
   refine opA_mono hh fun v H' hk => opsG_opsA rest _ _ hk
  unfold guardV
  split at h
  ·rename_i hg
   simp only [hg]
   exact mono _ h
  ·rename_i j want hg
   simp only [hg]
   split at h
   ·rename_i d hd
    simp only [hd]
    split at h
    ·rename_i c hc
     simp only [hc]
     obtain ⟨h1, h2⟩ := h
     cases c <;> cases want <;> simp only [beq_self_eq_true, Bool.not_true, Bool.not_false, reduceCtorEq, false_implies, true_implies, forall_const] at h1 h2 ⊢
     all_goals first
      | (rw [put_self hc] at h1; exact mono _ h1)
      | (rw [put_self hc] at h2; exact opsG_opsA rest _ _ h2)
    ·exact h.elim
   ·exact h.elim
section
variable {P : Program} {nt : Nat} {rd : Option Nat} {fr : Fr} {H : Heap} {Q : Exit → Fr → Heap → Prop}
theorem Sim.step (A : Ann) {id : Nat} {ops : Array Oper} {rest : Code} (h : ∀ K : Fr → Heap → Prop, (∀ fr' H', Sim P nt rd rest fr' H' Q → K fr' H') → opsG P A nt ops ops.toList fr H K) :
 Sim P nt rd (.seq (.region id ops false) rest) fr H Q :=
 Sim.seq (Sim.region (A := A) (opsG_opsA _ _ _ (h _ fun _ _ x => x)))
theorem Sim.last (A : Ann) {id : Nat} {ops : Array Oper} (h : ∀ K : Fr → Heap → Prop, (∀ fr' H', Q .normal fr' H' → K fr' H') → opsG P A nt ops ops.toList fr H K) :
 Sim P nt rd (.region id ops false) fr H Q := Sim.region (A := A) (opsG_opsA _ _ _ (h _ fun _ _ x => x))
def look : List (Nat × V) → Nat → V
 | [], _ => .bad
 | (k, v) :: l, t => if t = k then v else look l t
def mk (l : List (Nat × V)) (df : List Nat) : Fr := ⟨look l, df⟩
def Agree (fr : Fr) : List (Nat × V) → Prop
 | [] => True
 | (k, v) :: l => fr.s k = v ∧ Agree fr l
theorem look_wk {fr : Fr} {l : List (Nat × V)} (h : Agree fr l) (t : Nat) : Wk (fr.s t) (look l t) := by
 induction l with
 | nil => exact Wk.bad _
 | cons p l ih =>
  obtain ⟨k, v⟩ := p
  obtain ⟨h1, h2⟩ := h
  simp only [look]
  split
  ·rename_i e; subst e; rw [h1]; exact Wk.refl _
  ·exact ih h2
theorem Sim.canon (l : List (Nat × V)) {c : Code} (h : Agree fr l) (k : Sim P nt rd c (mk l fr.df) H Q) : Sim P nt rd c fr H Q :=
 k.less (look_wk h) rfl fun _ _ h => h
end
end Go.Ab

