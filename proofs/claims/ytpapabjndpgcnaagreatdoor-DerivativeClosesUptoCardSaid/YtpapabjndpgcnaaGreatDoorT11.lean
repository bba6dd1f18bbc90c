/- AbA15 -/
import Derived.Test.YtpapabjndpgcnaaGreatDoorT10
set_option linter.all false

namespace Go.Ab
open Go.RowKit
variable [Glob]
inductive Pk where
 | inl (d : Nat)
 | inr (n : Nat)
 | tk (d : Nat)
deriving DecidableEq
def Pk.var : Pk → Bool
 | .tk _ => false
 | _ => true
abbrev Pv := Pk → Option (List V)
def pvSet (pv : Pv) (d : Pk) (cs : List V) : Pv := fun x => if x = d then some cs else pv x
def dstFree (pv : Pv) : Option Tmp → Prop
 | some d => pv (.inl d) = none ∧ pv (.tk d) = none
 | none => True
def pvDel (pv : Pv) : Option Nat → Pv
 | some d => fun x => if x = .tk d then none else pv x
 | none => pv
theorem pvDel_none {pv : Pv} {s : Option Nat} {x : Pk} (h : pv x = none) : pvDel pv s x = none := by
 cases s with
 | none => exact h
 | some d => simp only [pvDel]; split; rfl; exact h
theorem pvDel_some {pv : Pv} {s : Option Nat} {x : Pk} {c : List V} (h : pvDel pv s x = some c) : pv x = some c ∧ ∀ d, s = some d → x ≠ .tk d := by
 cases s with
 | none => exact ⟨h, fun d e => by cases e⟩
 | some d =>
  simp only [pvDel] at h
  split at h
  ·cases h
  ·rename_i hn; exact ⟨h, fun d' e => by cases e; exact hn⟩
theorem pvDel_other {pv : Pv} {s : Option Nat} {x : Pk} (h : ∀ d, s = some d → x ≠ .tk d) : pvDel pv s x = pv x := by
 cases s with
 | none => rfl
 | some d => simp only [pvDel, if_neg (h d rfl)]
theorem dstFree_unset {pv : Pv} {d : Pk} {cs : List V} {D : Option Tmp} (h : dstFree (pvSet pv d cs) D) : dstFree pv D := by
 cases D with
 | none => trivial
 | some e =>
  simp only [dstFree, pvSet] at h ⊢
  obtain ⟨h1, h2⟩ := h
  split at h1
  ·cases h1
  ·split at h2
   ·cases h2
   ·exact ⟨h1, h2⟩
theorem dstFree_set {pv : Pv} {d : Pk} {cs : List V} {D : Option Tmp} (h : dstFree pv D) (hn : ∀ e, D = some e → d ≠ .inl e ∧ d ≠ .tk e) : dstFree (pvSet pv d cs) D := by
 cases D with
 | none => trivial
 | some e =>
  have h1 : (Pk.inl e : Pk) ≠ d := fun x => (hn e rfl).1 x.symm
  have h2 : (Pk.tk e : Pk) ≠ d := fun x => (hn e rfl).2 x.symm
  simp only [dstFree, pvSet, if_neg h1, if_neg h2] at h ⊢
  exact h
theorem dstFree_del {pv : Pv} {s : Option Nat} {D : Option Tmp} (h : dstFree pv D) : dstFree (pvDel pv s) D := by
 cases D with
 | none => trivial
 | some e => exact ⟨pvDel_none h.1, pvDel_none h.2⟩
theorem dstFree_undel {pv : Pv} {s : Option Nat} {D : Option Tmp} (h : dstFree (pvDel pv s) D) (hn : ∀ e d, D = some e → s = some d → d ≠ e) : dstFree pv D := by
 cases D with
 | none => trivial
 | some e =>
  refine ⟨?_, ?_⟩
  ·have := h.1; rwa [pvDel_other fun d _ => by simp] at this
  ·have := h.2; rwa [pvDel_other fun d hd => by intro x; cases x; exact hn e e rfl hd rfl] at this
def Tgt (fr : Fr) (pv : Pv) (d : Nat) (k : Pk) (off : Nat) (cs : List V) : Prop :=
 (k = .inl d ∧ off = 0 ∧ pv (.inl d) = some cs) ∨ ∃ id, k = .inr id ∧ fr.s d = .ref id off ∧ pv (.inl d) = none ∧ pv (.inr id) = some cs
theorem Tgt.at {fr : Fr} {pv : Pv} {d off : Nat} {k : Pk} {cs : List V} (h : Tgt fr pv d k off cs) : pv k = some cs := by
 rcases h with ⟨rfl, _, h⟩ | ⟨id, rfl, _, _, h⟩ <;> exact h
theorem Tgt.put {fr : Fr} {pv : Pv} {d off : Nat} {k : Pk} {cs : List V} {D : Option Tmp} {v : V} (hn : ∀ e, D = some e → d ≠ e) : Tgt (fr.put D v) pv d k off cs ↔ Tgt fr pv d k off cs := by
 have : (fr.put D v).s d = fr.s d := by
  cases D with
  | none => rfl
  | some e => simp [Fr.put, hn e rfl]
 unfold Tgt
 rw [this]
theorem Tgt.set {fr : Fr} {pv : Pv} {d off : Nat} {k : Pk} {cs : List V} {e : Nat} {c : List V} (hn : d ≠ e) : Tgt fr (pvSet pv (.inl e) c) d k off cs ↔ Tgt fr pv d k off cs := by
 unfold Tgt pvSet
 simp only [Pk.inl.injEq, if_neg hn, reduceCtorEq, if_false]
section
variable {P : Program} {nt : Nat} {ops : Array Oper} {H0 : Heap}
def QStep (P : Program) (ops : Array Oper) (H0 : Heap) (o : Oper) (fr : Fr) (v : V) : Prop :=
 match guardV ops fr o with
 | some true => opQ P o (ev fr) H0 v
 | some false => v = .tup []
 | none => False
def AppC (P : Program) (sT yT : TypeId) (xs ys xs' ys' : List V) : Prop := ∃ e sz by_ z, slO P sT = some e ∧ (slO P yT).isSome = true ∧ szO P e = some sz ∧ 0 < sz ∧ byO P e = some by_ ∧ 0 < by_ ∧ zeO P e = some z ∧ z.one = true ∧ z.cells.length = sz ∧
 LeVs xs xs' ∧ LeVs ys ys' ∧ xs'.all (fun x => x.cells.length == sz) = true ∧ ys'.all (fun x => x.cells.length == sz) = true ∧ (xs'.length + ys'.length) * by_ ≤ 140737488355328
def PSrc (pv : Pv) (sx : Operand) (tlx : Tail) : Option Nat → Prop
 | none => tlx = .nil ∨ tlx = .full
 | some d => sx = .tmp d ∧ tlx = .ro ∧ (pv (.tk d)).isSome = true
def PApp (P : Program) (o : Oper) (fr : Fr) (pv : Pv) (src : Option Nat) (u : V) : Prop :=
 o.guard = none ∧ ∃ sx sy sT yT xs tlx ys tly xs' ys', o.op = .call { callee := .builtin .append, args := #[sx, sy], argTypes := #[sT, yT] } ∧ ev fr sx = .sl xs tlx ∧ ev fr sy = .sl ys tly ∧ PSrc pv sx tlx src ∧ AppC P sT yT xs ys xs' ys' ∧ u = .sl (xs' ++ ys') .ro
def Eff (P : Program) (ops : Array Oper) (H0 : Heap) (o : Oper) (fr : Fr) (pv : Pv) (u : V) (pv' : Pv) : Prop :=
 (isAlloc o.op = false ∧ isStore o.op = false ∧ QStep P ops H0 o fr u ∧ pv' = pv) ∨
 (∃ t z d, o.op = .alloc t ∧ o.guard = none ∧ o.dst = some d ∧ zeO P t = some z ∧ z.one = true ∧ u = .bad ∧ pv' = pvSet pv (.inl d) z.cells) ∨
 (∃ t d y k off cs, o.op = .store t (.tmp d) y ∧ o.guard = none ∧ Tgt fr pv d k off cs ∧ (ev fr y).one = true ∧ szO P t = some (ev fr y).cells.length ∧ off + (ev fr y).cells.length ≤ cs.length ∧ u = .bad ∧ pv' = pvSet pv k (splice cs off (ev fr y).cells)) ∨
 (∃ d src, o.dst = some d ∧ PApp P o fr pv src u ∧ pv' = pvSet (pvDel pv src) (.tk d) [])
def drawS (P : Program) (nt : Nat) (ops : Array Oper) (H0 : Heap) (o : Oper) (fr : Fr) (pv : Pv) (K : Fr → Pv → Prop) : Prop :=
 (dstOk nt o.dst = true ∧ dstFree pv o.dst) ∧ ∃ u pv', Eff P ops H0 o fr pv u pv' ∧ K (fr.put o.dst u) pv'
def drawB (P : Program) (nt : Nat) (ops : Array Oper) (H0 : Heap) : List Oper → Fr → Pv → (Fr → Pv → Prop) → Prop
 | [], fr, pv, K => K fr pv
 | o :: rest, fr, pv, K => drawS P nt ops H0 o fr pv fun fr' pv' => drawB P nt ops H0 rest fr' pv' K
theorem drawS_mono {o : Oper} {fr : Fr} {pv : Pv} {K K' : Fr → Pv → Prop} (h : drawS P nt ops H0 o fr pv K) (hk : ∀ fr pv, K fr pv → K' fr pv) : drawS P nt ops H0 o fr pv K' :=
 let ⟨h1, u, pv', h2, h3⟩ := h; ⟨h1, u, pv', h2, hk _ _ h3⟩
theorem QStep_put {o : Oper} {fr : Fr} {d : Option Tmp} {u v : V} (hl : ∀ t, d = some t → t ∉ o.looksAt ops) : QStep P ops H0 o (fr.put d u) v ↔ QStep P ops H0 o fr v := by
 unfold QStep
 rw [looks_guard hl]
 have he := looks_ev (fr := fr) (v := u) hl
 split
 ·exact ⟨opQ_congr fun x hx => he x hx, opQ_congr fun x hx => (he x hx).symm⟩
 ·exact Iff.rfl
 ·exact Iff.rfl
theorem pvSet_comm (pv : Pv) {a b : Pk} (x y : List V) (h : a ≠ b) : pvSet (pvSet pv a x) b y = pvSet (pvSet pv b y) a x := by
 funext t
 simp only [pvSet]
 by_cases h1 : t = a
 ·subst h1; simp [h]
 ·simp [h1]
theorem pvSet_del (pv : Pv) {a : Pk} (x : List V) {s : Option Nat} (h : ∀ d, s = some d → a ≠ .tk d) : pvDel (pvSet pv a x) s = pvSet (pvDel pv s) a x := by
 cases s with
 | none => rfl
 | some d =>
  funext t
  simp only [pvSet, pvDel]
  by_cases h1 : t = a
  ·subst h1; simp [h d rfl]
  ·simp [h1]
theorem pvDel_comm (pv : Pv) (s s' : Option Nat) : pvDel (pvDel pv s) s' = pvDel (pvDel pv s') s := by
 cases s with
 | none => rfl
 | some d =>
  cases s' with
  | none => rfl
  | some d' =>
   funext t
   simp only [pvDel]
   by_cases h1 : t = .tk d <;> by_cases h2 : t = .tk d' <;> simp [h1, h2]
theorem store_addr {o : Oper} {t : TypeId} {e : Nat} {q : Operand} (ho : o.op = .store t (.tmp e) q) : e ∈ o.looksAt ops :=
 List.mem_append_left _ (List.mem_filterMap.2 ⟨.tmp e, by simp [ho, Op.operands], rfl⟩)
theorem app_addr {o : Oper} {e : Nat} {sy : Operand} {ts : Array TypeId} (ho : o.op = .call { callee := .builtin .append, args := #[.tmp e, sy], argTypes := ts }) : e ∈ o.looksAt ops :=
 List.mem_append_left _ (List.mem_filterMap.2 ⟨.tmp e, by simp [ho, Op.operands, Call.operands], rfl⟩)
theorem Eff_put {o : Oper} {fr : Fr} {pv pv' : Pv} {d : Option Tmp} {w u : V} (hl : ∀ t, d = some t → t ∉ o.looksAt ops) (h : Eff P ops H0 o fr pv u pv') : Eff P ops H0 o (fr.put d w) pv u pv' := by
 have he := looks_ev (fr := fr) (v := w) hl
 rcases h with ⟨h1, h2, h3, h4⟩ | h | ⟨t, e, y, k, off, cs, ho, hg, e1, e2, e3, e4, e5, e6⟩ | ⟨e, src, hd, ⟨hg, sx, sy, sT, yT, xs, tlx, ys, tly, xs', ys', ho, q1, q2, q3, q4, q5⟩, hp⟩
 ·exact .inl ⟨h1, h2, (QStep_put hl).2 h3, h4⟩
 ·exact .inr (.inl h)
 ·have hy : ev (fr.put d w) y = ev fr y := he y (by simp [ho, Op.operands])
  refine .inr (.inr (.inl ⟨t, e, y, k, off, cs, ho, hg, (Tgt.put fun e' he' eq => hl e' he' (eq ▸ store_addr ho)).2 e1, ?_, ?_, ?_, e5, ?_⟩)) <;> rw [hy] <;> assumption
 ·refine .inr (.inr (.inr ⟨e, src, hd, ⟨hg, sx, sy, sT, yT, xs, tlx, ys, tly, xs', ys', ho, ?_, ?_, q3, q4, q5⟩, hp⟩))
  ·rw [he sx (by simp [ho, Op.operands, Call.operands])]; exact q1
  ·rw [he sy (by simp [ho, Op.operands, Call.operands])]; exact q2
theorem Eff_unput {o : Oper} {fr : Fr} {pv pv' : Pv} {d : Option Tmp} {w u : V} (hl : ∀ t, d = some t → t ∉ o.looksAt ops) (h : Eff P ops H0 o (fr.put d w) pv u pv') : Eff P ops H0 o fr pv u pv' := by
 have he := looks_ev (fr := fr) (v := w) hl
 rcases h with ⟨h1, h2, h3, h4⟩ | h | ⟨t, e, y, k, off, cs, ho, hg, e1, e2, e3, e4, e5, e6⟩ | ⟨e, src, hd, ⟨hg, sx, sy, sT, yT, xs, tlx, ys, tly, xs', ys', ho, q1, q2, q3, q4, q5⟩, hp⟩
 ·exact .inl ⟨h1, h2, (QStep_put hl).1 h3, h4⟩
 ·exact .inr (.inl h)
 ·have hy : ev (fr.put d w) y = ev fr y := he y (by simp [ho, Op.operands])
  rw [hy] at e2 e3 e4 e6
  exact .inr (.inr (.inl ⟨t, e, y, k, off, cs, ho, hg, (Tgt.put fun e' he' eq => hl e' he' (eq ▸ store_addr ho)).1 e1, e2, e3, e4, e5, e6⟩))
 ·refine .inr (.inr (.inr ⟨e, src, hd, ⟨hg, sx, sy, sT, yT, xs, tlx, ys, tly, xs', ys', ho, ?_, ?_, q3, q4, q5⟩, hp⟩))
  ·rw [he sx (by simp [ho, Op.operands, Call.operands])] at q1; exact q1
  ·rw [he sy (by simp [ho, Op.operands, Call.operands])] at q2; exact q2
theorem free_inl {pv : Pv} {D : Option Tmp} {d : Nat} (h : dstFree pv D) (e : D = some d) : pv (.inl d) = none := by subst e; exact h.1
theorem free_tk {pv : Pv} {D : Option Tmp} {d : Nat} (h : dstFree pv D) (e : D = some d) : pv (.tk d) = none := by subst e; exact h.2
theorem Tgt.key {fr : Fr} {pv : Pv} {d off : Nat} {k : Pk} {cs : List V} (h : Tgt fr pv d k off cs) (e : Nat) : k ≠ .tk e := by
 rcases h with ⟨rfl, _, _⟩ | ⟨id, rfl, _⟩ <;> simp
theorem Tgt.congr {fr : Fr} {pv pv' : Pv} {d off : Nat} {k : Pk} {cs : List V} (h : Tgt fr pv d k off cs) (h1 : pv' (.inl d) = pv (.inl d)) (h2 : pv' k = pv k) : Tgt fr pv' d k off cs := by
 rcases h with ⟨rfl, e1, e2⟩ | ⟨id, rfl, e1, e2, e3⟩
 ·exact .inl ⟨rfl, e1, by rw [h1]; exact e2⟩
 ·exact .inr ⟨id, rfl, e1, by rw [h1]; exact e2, by rw [h2]; exact e3⟩
theorem PSrc.congr {pv pv' : Pv} {sx : Operand} {tlx : Tail} {src : Option Nat} (h : PSrc pv sx tlx src) (h1 : ∀ d, src = some d → pv' (.tk d) = pv (.tk d)) : PSrc pv' sx tlx src := by
 cases src with
 | none => exact h
 | some d => exact ⟨h.1, h.2.1, by rw [h1 d rfl]; exact h.2.2⟩
theorem pvSet_ne {pv : Pv} {a b : Pk} {x : List V} (h : b ≠ a) : pvSet pv a x b = pv b := by simp [pvSet, h]
theorem Eff_swap {x y : Oper} {fr : Fr} {pv pv1 pv2 : Pv} {u v : V} (hi : indep ops x y = true) (hx : Eff P ops H0 x fr pv u pv1) (hy : Eff P ops H0 y fr pv1 v pv2) (fx : dstFree pv x.dst) (fy : dstFree pv1 y.dst) :
 ∃ pv3, Eff P ops H0 y fr pv v pv3 ∧ Eff P ops H0 x fr pv3 u pv2 ∧ dstFree pv y.dst ∧ dstFree pv3 x.dst := by
 simp only [indep, Bool.and_eq_true, Bool.not_eq_true'] at hi
 obtain ⟨hap, hss⟩ := hi
 obtain ⟨a1, a2, a3⟩ := Oper.apart_spec hap
 rcases hx with ⟨x1, x2, x3, rfl⟩ | ⟨t, z, d, ho, hg, hd, e1, e2, e3, rfl⟩ | ⟨t, d, p, k, off, cs, ho, hg, e1, e2, e3, e4, e5, rfl⟩ | ⟨d, src, hd, hP, rfl⟩
 ·
  refine ⟨pv2, hy, .inl ⟨x1, x2, x3, rfl⟩, fy, ?_⟩
  rcases hy with ⟨_, _, _, rfl⟩ | ⟨t, z, d, ho, hg, hd, e1, e2, e3, rfl⟩ | ⟨t, d, p, k, off, cs, ho, hg, e1, e2, e3, e4, e5, rfl⟩ | ⟨d, src, hd, hP, rfl⟩
  ·exact fx
  ·exact dstFree_set fx fun e he => ⟨fun x => by cases x; exact a2 d he hd, by simp⟩
  ·refine dstFree_set fx fun e he => ⟨fun x => ?_, e1.key e⟩
   have := e1.at; rw [x, free_inl fx he] at this; cases this
  ·exact dstFree_set (dstFree_del fx) fun e he => ⟨by simp, fun x => by cases x; exact a2 d he hd⟩
 ·
  rcases hy with ⟨y1, y2, y3, rfl⟩ | ⟨t', z', d', ho', hg', hd', e1', e2', e3', rfl⟩ | ⟨t', d', p', k', off', cs', ho', hg', e1', e2', e3', e4', e5', rfl⟩ | ⟨d', src', hd', hP', rfl⟩
  ·exact ⟨pv, .inl ⟨y1, y2, y3, rfl⟩, .inr (.inl ⟨t, z, d, ho, hg, hd, e1, e2, e3, rfl⟩), dstFree_unset fy, fx⟩
  ·have hne : (Pk.inl d' : Pk) ≠ .inl d := fun e => a2 d hd (by rw [hd']; cases e; rfl)
   exact ⟨_, .inr (.inl ⟨t', z', d', ho', hg', hd', e1', e2', e3', rfl⟩), .inr (.inl ⟨t, z, d, ho, hg, hd, e1, e2, e3, pvSet_comm _ _ _ (Ne.symm hne)⟩), dstFree_unset fy,
    dstFree_set fx fun e he => ⟨fun x => by rw [hd] at he; cases he; exact hne x, by simp⟩⟩
  ·have hne : d' ≠ d := fun e => a1 d hd (e ▸ store_addr ho')
   have hk : k' ≠ .inl d := fun e => by
    rcases e1' with ⟨q, _⟩ | ⟨id, q, _⟩
    ·rw [q] at e; cases e; exact hne rfl
    ·rw [q] at e; cases e
   have hT : Tgt fr pv d' k' off' cs' := e1'.congr (by rw [pvSet_ne fun e => by cases e; exact hne rfl]) (by rw [pvSet_ne hk])
   exact ⟨_, .inr (.inr (.inl ⟨t', d', p', k', off', cs', ho', hg', hT, e2', e3', e4', e5', rfl⟩)), .inr (.inl ⟨t, z, d, ho, hg, hd, e1, e2, e3, pvSet_comm _ _ _ (Ne.symm hk)⟩), dstFree_unset fy,
    dstFree_set fx fun e he => ⟨fun x => by rw [hd] at he; cases he; exact hk x, hT.key e⟩⟩
  ·obtain ⟨hg', sx, sy, sT, yT, xs, tlx, ys, tly, xs', ys', ho', q1, q2, q3, q4, q5⟩ := hP'
   refine ⟨_, .inr (.inr (.inr ⟨d', src', hd', ⟨hg', sx, sy, sT, yT, xs, tlx, ys, tly, xs', ys', ho', q1, q2, q3.congr fun e _ => (by rw [pvSet_ne (by simp)]), q4, q5⟩, rfl⟩)), .inr (.inl ⟨t, z, d, ho, hg, hd, e1, e2, e3, ?_⟩), dstFree_unset fy, ?_⟩
   ·rw [pvSet_del _ _ (by simp), pvSet_comm _ _ _ (by simp)]
   ·exact dstFree_set (dstFree_del fx) fun e he => ⟨by simp, fun x => by cases x; exact a2 _ he hd'⟩
 ·
  rcases hy with ⟨y1, y2, y3, rfl⟩ | ⟨t', z', d', ho', hg', hd', e1', e2', e3', rfl⟩ | ⟨t', d', p', k', off', cs', ho', _⟩ | ⟨d', src', hd', hP', rfl⟩
  ·exact ⟨pv, .inl ⟨y1, y2, y3, rfl⟩, .inr (.inr (.inl ⟨t, d, p, k, off, cs, ho, hg, e1, e2, e3, e4, e5, rfl⟩)), dstFree_unset fy, fx⟩
  ·have hne : d ≠ d' := fun e => a3 d' hd' (e ▸ store_addr ho)
   have hk : k ≠ .inl d' := fun e => by
    rcases e1 with ⟨q, _⟩ | ⟨id, q, _⟩
    ·rw [q] at e; cases e; exact hne rfl
    ·rw [q] at e; cases e
   have hT : Tgt fr (pvSet pv (.inl d') z'.cells) d k off cs := e1.congr (by rw [pvSet_ne fun e => by cases e; exact hne rfl]) (by rw [pvSet_ne hk])
   exact ⟨_, .inr (.inl ⟨t', z', d', ho', hg', hd', e1', e2', e3', rfl⟩), .inr (.inr (.inl ⟨t, d, p, k, off, cs, ho, hg, hT, e2, e3, e4, e5, pvSet_comm _ _ _ hk⟩)), dstFree_unset fy,
    dstFree_set fx fun e he => ⟨fun x => by cases x; exact a2 _ he hd', by simp⟩⟩
  ·simp [ho, ho', isStore] at hss
  ·obtain ⟨hg', sx, sy, sT, yT, xs, tlx, ys, tly, xs', ys', ho', q1, q2, q3, q4, q5⟩ := hP'
   have hk : ∀ e, k ≠ .tk e := e1.key
   have hT : Tgt fr (pvSet (pvDel pv src') (.tk d') []) d k off cs := e1.congr (by rw [pvSet_ne (by simp), pvDel_other (by simp)]) (by rw [pvSet_ne (hk _), pvDel_other fun e _ => hk e])
   refine ⟨_, .inr (.inr (.inr ⟨d', src', hd', ⟨hg', sx, sy, sT, yT, xs, tlx, ys, tly, xs', ys', ho', q1, q2, q3.congr fun e _ => (by rw [pvSet_ne fun x => hk e x.symm]), q4, q5⟩, rfl⟩)), .inr (.inr (.inl ⟨t, d, p, k, off, cs, ho, hg, hT, e2, e3, e4, e5, ?_⟩)), dstFree_unset fy, ?_⟩
   ·rw [pvSet_del _ _ fun e _ => hk e, pvSet_comm _ _ _ (hk _)]
   ·exact dstFree_set (dstFree_del fx) fun e he => ⟨by simp, fun x => by cases x; exact a2 _ he hd'⟩
 ·
  have hsrc : ∀ e, src = some e → e ∈ x.looksAt ops := fun e he => by
   subst he
   obtain ⟨_, sx, sy, sT, yT, xs, tlx, ys, tly, xs', ys', ho, _, _, q3, _⟩ := hP
   obtain ⟨rfl, _⟩ := q3
   exact app_addr ho
  have fy0 : dstFree pv y.dst := dstFree_undel (dstFree_unset fy) fun e c he hc eq => by subst eq; exact a3 _ he (hsrc _ hc)
  rcases hy with ⟨y1, y2, y3, rfl⟩ | ⟨t', z', d', ho', hg', hd', e1', e2', e3', rfl⟩ | ⟨t', d', p', k', off', cs', ho', hg', e1', e2', e3', e4', e5', rfl⟩ | ⟨d', src', hd', hP', rfl⟩
  ·exact ⟨pv, .inl ⟨y1, y2, y3, rfl⟩, .inr (.inr (.inr ⟨d, src, hd, hP, rfl⟩)), fy0, fx⟩
  ·obtain ⟨hg, sx, sy, sT, yT, xs, tlx, ys, tly, xs', ys', ho, q1, q2, q3, q4, q5⟩ := hP
   refine ⟨_, .inr (.inl ⟨t', z', d', ho', hg', hd', e1', e2', e3', rfl⟩), .inr (.inr (.inr ⟨d, src, hd, ⟨hg, sx, sy, sT, yT, xs, tlx, ys, tly, xs', ys', ho, q1, q2, q3.congr fun e _ => (by rw [pvSet_ne (by simp)]), q4, q5⟩, ?_⟩)), fy0, dstFree_set fx fun e he => ⟨fun x => by cases x; exact a2 _ he hd', by simp⟩⟩
   rw [pvSet_del _ _ (by simp), pvSet_comm _ _ _ (by simp)]
  ·obtain ⟨hg, sx, sy, sT, yT, xs, tlx, ys, tly, xs', ys', ho, q1, q2, q3, q4, q5⟩ := hP
   have hk : ∀ e, k' ≠ .tk e := e1'.key
   have hT : Tgt fr pv d' k' off' cs' := e1'.congr (by rw [pvSet_ne (by simp), pvDel_other (by simp)]) (by rw [pvSet_ne (hk _), pvDel_other fun e _ => hk e])
   refine ⟨_, .inr (.inr (.inl ⟨t', d', p', k', off', cs', ho', hg', hT, e2', e3', e4', e5', rfl⟩)), .inr (.inr (.inr ⟨d, src, hd, ⟨hg, sx, sy, sT, yT, xs, tlx, ys, tly, xs', ys', ho, q1, q2, q3.congr fun e _ => (by rw [pvSet_ne fun x => hk e x.symm]), q4, q5⟩, ?_⟩)), fy0, dstFree_set fx fun e he => ⟨fun x => ?_, hk e⟩⟩
   ·rw [pvSet_del _ _ fun e _ => hk e, pvSet_comm _ _ _ (hk _)]
   ·have := hT.at; rw [x, free_inl fx he] at this; cases this
  ·obtain ⟨hg, sx, sy, sT, yT, xs, tlx, ys, tly, xs', ys', ho, q1, q2, q3, q4, q5⟩ := hP
   obtain ⟨hg', sx', sy', sT', yT', xs2, tlx', ys2, tly', xs2', ys2', ho', r1, r2, r3, r4, r5⟩ := hP'
   have hdd : d ≠ d' := fun e => a2 d hd (by rw [hd', e])
   have n1 : ∀ e, src' = some e → e ≠ d := fun e he eq => by
    subst he; subst eq
    obtain ⟨rfl, _⟩ := r3
    exact a1 _ hd (app_addr ho')
   have n2 : ∀ e, src = some e → e ≠ d' := fun e he eq => by subst eq; exact a3 _ hd' (hsrc _ he)
   have n3 : ∀ e, src' = some e → src ≠ some e := fun e he he2 => by
    subst he; subst he2
    have := r3.2.2
    rw [pvSet_ne (fun x => by cases x; exact n1 _ rfl rfl)] at this
    simp [pvDel] at this
   have hs' : PSrc pv sx' tlx' src' := r3.congr fun e he => by
    rw [pvSet_ne fun x => by cases x; exact n1 _ he rfl, pvDel_other fun c hc x => by cases x; exact n3 _ he hc]
   refine ⟨_, .inr (.inr (.inr ⟨d', src', hd', ⟨hg', sx', sy', sT', yT', xs2, tlx', ys2, tly', xs2', ys2', ho', r1, r2, hs', r4, r5⟩, rfl⟩)), .inr (.inr (.inr ⟨d, src, hd, ⟨hg, sx, sy, sT, yT, xs, tlx, ys, tly, xs', ys', ho, q1, q2, q3.congr fun e he => ?_, q4, q5⟩, ?_⟩)), fy0, ?_⟩
   ·rw [pvSet_ne fun x => by cases x; exact n2 _ he rfl, pvDel_other fun c hc x => by cases x; exact n3 _ hc he]
   ·rw [pvSet_del _ _ fun e he x => by cases x; exact n1 _ he rfl, pvSet_del _ _ fun e he x => by cases x; exact n2 _ he rfl, pvDel_comm pv src src', pvSet_comm _ _ _ (fun x => by cases x; exact hdd rfl)]
   ·exact dstFree_set (dstFree_del fx) fun e he => ⟨by simp, fun x => by cases x; exact a2 _ he hd'⟩
theorem drawS_swap {x y : Oper} {fr : Fr} {pv : Pv} {K : Fr → Pv → Prop} (hi : indep ops x y = true) (h : drawS P nt ops H0 x fr pv fun fr1 pv1 => drawS P nt ops H0 y fr1 pv1 K) :
 drawS P nt ops H0 y fr pv fun fr1 pv1 => drawS P nt ops H0 x fr1 pv1 K := by
 have hi0 := hi
 simp only [indep, Bool.and_eq_true, Bool.not_eq_true'] at hi0
 obtain ⟨a1, a2, a3⟩ := Oper.apart_spec hi0.1
 obtain ⟨⟨hd, hf⟩, u, pv1, h1, ⟨hd', hf'⟩, v, pv2, h2, hK⟩ := h
 obtain ⟨pv3, k1, k2, k3, k4⟩ := Eff_swap hi h1 (Eff_unput a1 h2) hf hf'
 refine ⟨⟨hd', k3⟩, v, pv3, k1, ⟨hd, k4⟩, u, pv2, Eff_put a3 k2, ?_⟩
 rw [put_comm a2] at hK
 exact hK
theorem drawB_front {pre post : List Oper} {o : Oper} {K : Fr → Pv → Prop} (hi : ∀ x ∈ pre, indep ops x o = true) : ∀ {fr : Fr} {pv : Pv}, drawB P nt ops H0 (pre ++ o :: post) fr pv K → drawB P nt ops H0 (o :: (pre ++ post)) fr pv K := by
 induction pre with
 | nil => exact fun h => h
 | cons x pre ih =>
  intro fr pv h
  have h1 : drawS P nt ops H0 x fr pv fun fr1 pv1 => drawB P nt ops H0 (o :: (pre ++ post)) fr1 pv1 K := drawS_mono h fun _ _ h => ih (fun y hy => hi y (by simp [hy])) h
  exact drawS_swap (hi x (by simp)) h1
end
end Go.Ab

