/- GNR5 GNS1 GNS2 GNS3 -/
import Derived.Test.YtfeppncgdbbbeaaGreatDoorT41
set_option linter.all false

namespace Go.Ab
theorem wths_pre {α : Type} [DecidableEq α] : ∀ (l acc : List α), ∃ t, l.foldl wth acc = acc ++ t
 | [], acc => ⟨[], by simp⟩
 | y :: l, acc => by
  obtain ⟨t, h⟩ := wths_pre l (wth acc y)
  rw [List.foldl_cons, h]
  unfold wth
  split
  ·exact ⟨t, rfl⟩
  exact ⟨y :: t, by simp⟩
noncomputable def restsOf (N : Nat) (q : GPattern) : List GPattern := (derivedP N (raw q)).2.1
structure Closed (N : Nat) (x : GPattern) (l : List GPattern) : Prop where
 len : l.length ≤ 256
 ok : ∀ q ∈ l, ResOk N q
 nodup : l.Nodup
 head : ∃ t, l = x :: t
 good : ∀ q ∈ l, (derivedP N (raw q)).2.2 = 0
 rests : ∀ q ∈ l, ∀ r ∈ restsOf N q, r ∈ l
 vars : ∀ q ∈ l, ∀ v, EvIn q v → EvIn x v
end Go.Ab

namespace Go.Ab
open Classical
mutual
def opn : GPattern → List Int
 | ⟨op, args, _, _, scope, _, _⟩ =>
  if op = 9 ∨ op = 10 then scope :: opns args
  else if op = 1 ∨ op = 8 then opnh args
  else if op = 3 ∨ op = 7 then opns args else []
def opns : List GPattern → List Int
 | [] => []
 | a :: r => opn a ++ opns r
def opnh : List GPattern → List Int
 | [] => []
 | a :: _ => opn a
end
theorem opn_eq (x : GPattern) : opn x = if x.Op = 9 ∨ x.Op = 10 then x.Scope :: opns x.Args else if x.Op = 1 ∨ x.Op = 8 then opnh x.Args else if x.Op = 3 ∨ x.Op = 7 then opns x.Args else [] := by
 cases x; simp only [opn]
theorem opns_app : ∀ (l m : List GPattern), opns (l ++ m) = opns l ++ opns m
 | [], m => by simp [opns]
 | a :: l, m => by simp [opns, opns_app l m]
theorem opns_one (a : GPattern) : opns [a] = opn a := by simp [opns]
def Pln (x : GPattern) : Prop := ∀ y ∈ x.pre, 0 ≤ y.Op ∧ y.Op < 8
theorem pln_self {x : GPattern} (h : Pln x) : 0 ≤ x.Op ∧ x.Op < 8 := h x (by rw [GPattern.pre_eq]; simp)
theorem pln_arg {x a : GPattern} (h : Pln x) (ha : a ∈ x.Args) : Pln a := fun y hy => h y (by rw [GPattern.pre_eq]; exact List.mem_cons_of_mem _ (sub_pres_p hy _ ha))
mutual
theorem pln_opn : ∀ x : GPattern, Pln x → opn x = []
 | ⟨op, args, typ, var, scope, span, c⟩, h => by
  have h0 := pln_self h
  have ha : ∀ a ∈ args, Pln a := fun a ha => pln_arg (x := ⟨op, args, typ, var, scope, span, c⟩) h ha
  simp only at h0
  unfold opn
  rw [if_neg (by omega)]
  split
  ·exact pln_opnh args ha
  split
  ·exact pln_opns args ha
  rfl
theorem pln_opns : ∀ l : List GPattern, (∀ a ∈ l, Pln a) → opns l = []
 | [], _ => by simp [opns]
 | a :: l, h => by
  unfold opns
  rw [pln_opn a (h a (by simp)), pln_opns l fun b hb => h b (by simp [hb])]
  rfl
theorem pln_opnh : ∀ l : List GPattern, (∀ a ∈ l, Pln a) → opnh l = []
 | [], _ => by simp [opnh]
 | a :: l, h => by
  unfold opnh
  exact pln_opn a (h a (by simp))
end
inductive Rsd : GPattern → Prop
 | plain (x : GPattern) : Pln x → Rsd x
 | seq (x a : GPattern) (l : List GPattern) : x.Op = 1 → x.Args = a :: l → Rsd a → (∀ b ∈ l, Pln b) → Rsd x
 | all (x : GPattern) : x.Op = 3 → (∀ a ∈ x.Args, Rsd a) → Rsd x
 | more (x a : GPattern) (l : List GPattern) : x.Op = 8 → x.Args = a :: l → Rsd a → (∀ b ∈ l, Pln b) → Rsd x
 | one (x a : GPattern) : x.Op = 7 ∨ x.Op = 9 ∨ x.Op = 10 → x.Args = [a] → Rsd a → Rsd x
theorem rsd18 {x a : GPattern} {l : List GPattern} (h : Rsd x) (ho : x.Op = 1 ∨ x.Op = 8) (e : x.Args = a :: l) : Rsd a ∧ ∀ b ∈ l, Pln b := by
 cases h with
 | plain _ h => exact ⟨.plain _ (pln_arg h (by rw [e]; simp)), fun b hb => pln_arg h (by rw [e]; simp [hb])⟩
 | seq _ a' l' _ e' h1 h2 => rw [e] at e'; cases e'; exact ⟨h1, h2⟩
 | all _ h1 _ => omega
 | more _ a' l' _ e' h1 h2 => rw [e] at e'; cases e'; exact ⟨h1, h2⟩
 | one _ a' h1 _ _ => omega
theorem rsd3 {x : GPattern} (h : Rsd x) (ho : x.Op = 3) : ∀ a ∈ x.Args, Rsd a := by
 cases h with
 | plain _ h => exact fun a ha => .plain _ (pln_arg h ha)
 | seq _ a' l' h1 _ _ _ => omega
 | all _ _ h => exact h
 | more _ a' l' h1 _ _ _ => omega
 | one _ a' h1 _ _ => omega
theorem rsdP {x : GPattern} (h : Rsd x) (ho : x.Op ≠ 1 ∧ x.Op ≠ 3 ∧ x.Op ≠ 7 ∧ x.Op ≠ 8 ∧ x.Op ≠ 9 ∧ x.Op ≠ 10) : Pln x := by
 cases h with
 | plain _ h => exact h
 | seq _ a' l' h1 _ _ _ => omega
 | all _ h1 _ => omega
 | more _ a' l' h1 _ _ _ => omega
 | one _ a' h1 _ _ => omega
theorem rsd1 {x a : GPattern} {l : List GPattern} (h : Rsd x) (ho : x.Op = 7 ∨ x.Op = 9 ∨ x.Op = 10) (e : x.Args = a :: l) : Rsd a ∧ opns l = [] := by
 cases h with
 | plain _ h => exact ⟨.plain _ (pln_arg h (by rw [e]; simp)), pln_opns _ fun b hb => pln_arg h (by rw [e]; simp [hb])⟩
 | seq _ a' l' h1 _ _ _ => omega
 | all _ h1 _ => omega
 | more _ a' l' h1 _ _ _ => omega
 | one _ a' _ e' h1 => rw [e] at e'; cases e'; exact ⟨h1, by simp [opns]⟩
def opr (r : Gderivative_rest) : List Int := if r.done = true then [] else opn r.p
structure Nst (x : GPattern) (y : Pr) : Prop where
 rsd : y.2.done = false → Rsd y.2.p
 perm : (opn x ++ y.1.Opens).Perm (opr y.2 ++ y.1.Closes)
 lim : ∀ s, s ∈ y.1.Opens ∨ s ∈ y.1.Closes → s ∈ y.1.Inside ∨ ∃ l ∈ y.1.Limits, l.Scope = s
theorem rsd_list1 {a : GPattern} {l : List GPattern} (ha : Rsd a) (hl : ∀ b ∈ l, Pln b) : Rsd (listP 1 (a :: l)) ∧ opn (listP 1 (a :: l)) = opn a := by
 cases l with
 | nil => exact ⟨ha, rfl⟩
 | cons b l =>
  have e : listP 1 (a :: b :: l) = nd 1 (a :: b :: l) := rfl
  rw [e]
  refine ⟨.seq _ a (b :: l) rfl rfl ha hl, ?_⟩
  rw [opn_eq]
  simp [nd, opnh]
theorem rsd_list3 {l : List GPattern} (hl : ∀ b ∈ l, Rsd b) : Rsd (listP 3 l) ∧ opn (listP 3 l) = opns l := by
 have nd3 : Rsd (nd 3 l) ∧ opn (nd 3 l) = opns l := ⟨.all _ rfl hl, by rw [opn_eq]; simp [nd]⟩
 match l, hl, nd3 with
 | [], _, h => exact h
 | [b], hl, _ => exact ⟨hl b (by simp), (opns_one b).symm⟩
 | b :: c :: l, _, h => exact h
theorem nst_rep {ag a : GPattern} {z y : Pr} (hy : y ∈ rep ag z) (hag : Pln ag) (x : GPattern) (e : opn x = opn a) (h : Nst a z) : Nst x y := by
 unfold rep at hy
 by_cases hd : z.2.done = true
 ·rw [if_pos hd] at hy
  have hz : opr z.2 = [] := by unfold opr; rw [if_pos hd]
  rcases List.mem_cons.1 hy with rfl | hy
  ·exact ⟨h.rsd, by rw [e]; exact h.perm, h.lim⟩
  rw [List.mem_singleton.1 hy]
  refine ⟨fun _ => .plain _ hag, ?_, h.lim⟩
  have hp := h.perm
  rw [hz] at hp
  rw [e]
  have : opr ⟨false, ag⟩ = [] := by unfold opr; rw [if_neg (by simp)]; exact pln_opn _ hag
  rw [this]; exact hp
 rw [if_neg hd] at hy
 have hd' : z.2.done = false := by simpa using hd
 cases hg : ag.Args with
 | nil => rw [hg] at hy; cases hy
 | cons b l =>
  rw [hg] at hy
  rw [List.mem_singleton.1 hy]
  have hb : Pln b := pln_arg hag (by rw [hg]; simp)
  refine ⟨fun _ => .more _ z.2.p [b] rfl rfl (h.rsd hd') fun c hc => by rw [List.mem_singleton.1 hc]; exact hb, ?_, h.lim⟩
  have hz : opr z.2 = opn z.2.p := by unfold opr; rw [if_neg hd]
  have : opr ⟨false, nd 8 [z.2.p, b]⟩ = opn z.2.p := by
   unfold opr
   rw [if_neg (by simp), opn_eq]
   simp [nd, opnh]
  rw [e, this, ← hz]; exact h.perm
theorem raw_nst (d : Nat) (x : GPattern) (hd : x.dep ≤ d) : ∀ y ∈ raw x, Rsd x → Nst x y := by
 refine raw_ind (Q := fun x y => Rsd x → Nst x y) ?_ ?_ ?_ ?_ ?_ ?_ ?_ d x hd
 ·intro x o _
  refine ⟨fun h => (by cases h), ?_, fun s h => by rcases h with h | h <;> cases h⟩
  rw [opn_eq]
  simp [o, opr, doneR]
 ·intro x a l z o e _ ih hr
  obtain ⟨ha, hl⟩ := rsd18 hr (.inl o) e
  have h := ih ha
  have ex : opn x = opn a := by rw [opn_eq, e]; simp [o, opnh]
  have key : ((contR z.2 l).done = false → Rsd (contR z.2 l).p) ∧ opr (contR z.2 l) = opr z.2 := by
   unfold contR
   by_cases hd : z.2.done = true
   ·rw [if_pos hd]
    have hz : opr z.2 = [] := by unfold opr; rw [if_pos hd]
    rw [hz]
    cases l with
    | nil => exact ⟨fun h => (by cases h), rfl⟩
    | cons b l =>
     obtain ⟨k1, k2⟩ := rsd_list1 (l := l) (.plain b (hl b (by simp))) fun c hc => hl c (by simp [hc])
     refine ⟨fun _ => k1, ?_⟩
     show (if false = true then [] else opn (listP 1 (b :: l))) = []
     rw [if_neg (by decide), k2]
     exact pln_opn b (hl b (by simp))
   rw [if_neg hd]
   have hd' : z.2.done = false := by simpa using hd
   obtain ⟨k1, k2⟩ := rsd_list1 (h.rsd hd') hl
   refine ⟨fun _ => k1, ?_⟩
   show (if false = true then [] else opn (listP 1 (z.2.p :: l))) = opr z.2
   rw [if_neg (by decide), k2]
   unfold opr; rw [if_neg hd]
  exact ⟨key.1, by rw [ex, key.2]; exact h.perm, h.lim⟩
 ·intro x a z o ha _ ih hr
  have hp := rsdP hr (by omega)
  have h := ih (.plain _ (pln_arg hp ha))
  refine ⟨h.rsd, ?_, h.lim⟩
  rw [pln_opn x hp]
  have := h.perm
  rw [pln_opn a (pln_arg hp ha)] at this
  exact this
 ·intro x i hi z o _ ih hr
  have hall := rsd3 hr o
  have h := ih (hall _ (List.getElem_mem hi))
  have ex : opn x = opns x.Args := by rw [opn_eq]; simp [o]
  have hsplit : x.Args = x.Args.take i ++ x.Args[i] :: x.Args.drop (i + 1) := by
   rw [← List.drop_eq_getElem_cons hi, List.take_append_drop]
  have eargs : opns x.Args = opns (x.Args.take i) ++ (opn x.Args[i] ++ opns (x.Args.drop (i + 1))) := by
   conv => lhs; rw [hsplit]
   rw [opns_app]; simp only [opns]
  have key : (∀ b ∈ (if z.2.done = true then x.Args.take i ++ x.Args.drop (i + 1) else x.Args.set i z.2.p), Rsd b) ∧ opns (if z.2.done = true then x.Args.take i ++ x.Args.drop (i + 1) else x.Args.set i z.2.p) = opns (x.Args.take i) ++ (opr z.2 ++ opns (x.Args.drop (i + 1))) := by
   by_cases hd : z.2.done = true
   ·rw [if_pos hd]
    refine ⟨fun b hb => ?_, ?_⟩
    ·rcases List.mem_append.1 hb with hb | hb
     ·exact hall b (List.mem_of_mem_take hb)
     exact hall b (List.mem_of_mem_drop hb)
    rw [opns_app]; unfold opr; rw [if_pos hd]; rfl
   rw [if_neg hd]
   have hd' : z.2.done = false := by simpa using hd
   refine ⟨fun b hb => ?_, ?_⟩
   ·rcases List.mem_or_eq_of_mem_set hb with hb | rfl
    ·exact hall b hb
    exact h.rsd hd'
   rw [List.set_eq_take_append_cons_drop, if_pos hi, opns_app]
   unfold opr; rw [if_neg hd]; simp only [opns]
  obtain ⟨k1, k2⟩ := rsd_list3 key.1
  refine ⟨fun _ => k1, ?_, h.lim⟩
  have e2 : opr (joinR x.Args i z.2) = opns (x.Args.take i) ++ (opr z.2 ++ opns (x.Args.drop (i + 1))) := by
   unfold joinR
   show (if false = true then [] else opn _) = _
   rw [if_neg (by decide), k2, key.2]
  rw [ex, eargs, e2]
  have hp := h.perm
  have c1 : ∀ (A B C D : List Int), (A ++ (B ++ C) ++ D).Perm (A ++ C ++ (B ++ D)) := fun A B C D => by
   simp only [List.append_assoc]
   refine List.Perm.append_left A ?_
   rw [← List.append_assoc, ← List.append_assoc]
   exact (List.perm_append_comm).append_right D |>.trans (by simp)
  exact (c1 _ _ _ _).trans ((hp.append_left _).trans (c1 _ _ _ _).symm)
 ·intro x a l z y o e _ ih hy hr
  have hp := rsdP hr (by omega)
  have ha := pln_arg (a := a) hp (by rw [e]; simp)
  exact nst_rep hy hp x (by rw [pln_opn x hp, pln_opn a ha]) (ih (.plain _ ha))
 ·intro x a l z y o e _ ih hy hr
  obtain ⟨ha, hl⟩ := rsd18 hr (.inr o) e
  refine nst_rep hy ?_ x (by rw [opn_eq, e]; simp [o, opnh]) (ih ha)
  intro w hw
  rw [GPattern.pre_eq] at hw
  rcases List.mem_cons.1 hw with rfl | hw
  ·exact ⟨show (0 : Int) ≤ 4 by decide, show (4 : Int) < 8 by decide⟩
  obtain ⟨b, hb, hwb⟩ := mem_pres_iff.1 hw
  exact hl b hb w hwb
 intro x a l z o0 o1 o2 o3 o4 o8 e _ ih hr
 have hop : (x.Op = 7 ∨ x.Op = 9 ∨ x.Op = 10) ∨ (x.Op = 5 ∨ x.Op = 6) ∧ Pln x := by
  by_cases h : x.Op = 7 ∨ x.Op = 9 ∨ x.Op = 10
  ·exact .inl h
  have hp := rsdP hr (by omega)
  have := pln_self hp
  exact .inr ⟨by omega, hp⟩
 have ha : Rsd a := by
  rcases hop with h | ⟨_, hp⟩
  ·exact (rsd1 hr h e).1
  exact .plain _ (pln_arg hp (by rw [e]; simp))
 have h := ih ha
 have hrsd : (innR x z.2).done = false → Rsd (innR x z.2).p := by
  unfold innR
  by_cases hd : z.2.done = true
  ·rw [if_pos hd]; intro h'; rw [hd] at h'; cases h'
  rw [if_neg hd]
  intro _
  have hd' : z.2.done = false := by simpa using hd
  refine .one _ z.2.p ?_ rfl (h.rsd hd')
  show innOp x = 7 ∨ innOp x = 9 ∨ innOp x = 10
  unfold innOp
  split
  ·exact .inl rfl
  split
  ·exact .inr (.inl rfl)
  exact .inr (.inr rfl)
 by_cases h7 : x.Op = 7
 ·have ex : opn x = opn a := by
   rw [opn_eq, e]
   simp only [h7]
   rw [if_neg (by decide), if_neg (by decide), if_pos (by decide)]
   unfold opns
   rw [(rsd1 hr (.inl h7) e).2, List.append_nil]
  have eE : (innE x z).Opens = z.1.Opens ∧ (innE x z).Closes = z.1.Closes ∧ (innE x z).Inside = z.1.Inside ∧ (innE x z).Limits = z.1.Limits := by
   unfold innE
   rw [if_pos h7]
   split <;> exact ⟨rfl, rfl, rfl, rfl⟩
  have eR : opr (innR x z.2) = opr z.2 := by
   unfold innR opr
   by_cases hd : z.2.done = true
   ·simp only [if_pos hd]
   simp only [if_neg hd]
   rw [opn_eq]
   simp only [innOp, h7, if_true]
   rw [if_neg (by decide), if_neg (by decide), if_pos (by decide)]
   exact opns_one _
  refine ⟨hrsd, ?_, ?_⟩
  ·show (opn x ++ (innE x z).Opens).Perm (opr (innR x z.2) ++ (innE x z).Closes)
   rw [ex, eE.1, eE.2.1, eR]; exact h.perm
  show ∀ s, s ∈ (innE x z).Opens ∨ s ∈ (innE x z).Closes → s ∈ (innE x z).Inside ∨ ∃ l ∈ (innE x z).Limits, l.Scope = s
  rw [eE.1, eE.2.1, eE.2.2.1, eE.2.2.2]; exact h.lim
 have eE : innE x z = scopE x z.1 z.2.done (decide (x.Op = 5 ∨ x.Op = 6)) := by
  unfold innE
  rw [if_neg h7]
  congr 1
  by_cases h5 : x.Op = 5 ∨ x.Op = 9
  ·rw [if_pos h5]; congr 1; apply propext; omega
  rw [if_neg h5]; congr 1; apply propext; omega
 have eL : (opn x ++ (innE x z).Opens).Perm (x.Scope :: (opn a ++ z.1.Opens)) := by
  rw [eE]
  unfold scopE
  by_cases ho : x.Op = 5 ∨ x.Op = 6
  ·have hp : Pln x := by
    rcases hop with h' | h'
    ·omega
    exact h'.2
   rw [pln_opn x hp, pln_opn a (pln_arg hp (by rw [e]; simp))]
   simp [ho]
  have h9 : x.Op = 9 ∨ x.Op = 10 := by omega
  have : opn x = x.Scope :: opn a := by
   rw [opn_eq, if_pos h9, e]
   unfold opns
   rw [(rsd1 hr (.inr h9) e).2, List.append_nil]
  rw [this]
  simp [ho]
 have eRr : (opr (innR x z.2) ++ (innE x z).Closes).Perm (x.Scope :: (opr z.2 ++ z.1.Closes)) := by
  rw [eE]
  unfold scopE innR
  by_cases hd : z.2.done = true
  ·have hz : opr z.2 = [] := by unfold opr; rw [if_pos hd]
   simp only [if_pos hd, hz, List.nil_append]
   exact List.perm_append_comm
  have hz : opr z.2 = opn z.2.p := by unfold opr; rw [if_neg hd]
  simp only [if_neg hd, hz]
  have : opr ({ z.2 with p := { x with Op := innOp x, Args := [z.2.p] } } : Gderivative_rest) = x.Scope :: opn z.2.p := by
   unfold opr
   simp only [if_neg hd]
   rw [opn_eq]
   have hi : innOp x = 9 ∨ innOp x = 10 := by
    unfold innOp
    rw [if_neg h7]
    split
    ·exact .inl rfl
    exact .inr rfl
   simp only [if_pos hi]
   rw [opns_one]
  rw [this]
  exact List.Perm.refl _
 refine ⟨hrsd, eL.trans ((h.perm.cons _).trans eRr.symm), ?_⟩
 show ∀ s, s ∈ (innE x z).Opens ∨ s ∈ (innE x z).Closes → s ∈ (innE x z).Inside ∨ ∃ l ∈ (innE x z).Limits, l.Scope = s
 intro s hs
 have hs' : s = x.Scope ∨ (s ∈ z.1.Opens ∨ s ∈ z.1.Closes) := by
  rw [eE] at hs
  unfold scopE at hs
  simp only at hs
  rcases hs with hs | hs
  ·split at hs
   ·rcases List.mem_cons.1 hs with rfl | hs
    ·exact .inl rfl
    exact .inr (.inl hs)
   exact .inr (.inl hs)
  split at hs
  ·rcases List.mem_append.1 hs with hs | hs
   ·exact .inr (.inr hs)
   exact .inl (List.mem_singleton.1 hs)
  exact .inr (.inr hs)
 rw [eE]
 unfold scopE
 simp only
 rcases hs' with rfl | hs'
 ·by_cases h5 : x.Op = 5 ∨ x.Op = 9
  ·left; rw [if_pos h5]; simp
  right; rw [if_neg h5]; exact ⟨⟨x.Scope, x.Span⟩, by simp, rfl⟩
 rcases h.lim s hs' with k | ⟨w, hw, hws⟩
 ·left; split
  ·exact List.mem_cons_of_mem _ k
  exact k
 right; split
 ·exact ⟨w, hw, hws⟩
 exact ⟨w, List.mem_cons_of_mem _ hw, hws⟩
end Go.Ab

namespace Go.Ab
noncomputable def stepGd (F : GPattern → Option (List GGuard)) (s : List GGuard) (a : GPattern) : Option (List GGuard ⊕ List GGuard) := (F a).bind fun r => (appL s r).bind fun l => some (.inl l)
theorem range_gd {F : GPattern → Option (List GGuard)} : ∀ (l : List GPattern) (s : List GGuard), s.length + (GPattern.pres l).length ≤ 40000000 →
 (∀ a ∈ l, ∃ r, F a = some r ∧ r.length ≤ a.pre.length ∧ ∀ g ∈ r, g.Scope ∈ opn a) →
 ∃ r, rangeL (stepGd F) l s = some (.inl r) ∧ r.length ≤ s.length + (GPattern.pres l).length ∧ ∀ g ∈ r, g ∈ s ∨ g.Scope ∈ opns l
 | [], s, _, _ => ⟨s, rfl, by omega, fun g hg => .inl hg⟩
 | a :: l, s, hb, h => by
  obtain ⟨r, h1, h3, h4⟩ := h a (by simp)
  simp only [GPattern.pres, List.length_append] at hb ⊢
  obtain ⟨r2, k1, k3, k4⟩ := range_gd l (s ++ r) (by simp only [List.length_append]; omega) fun b hb => h b (by simp [hb])
  simp only [List.length_append] at k3
  refine ⟨r2, ?_, by omega, fun g hg => ?_⟩
  ·unfold rangeL stepGd
   rw [h1]; simp only [Option.bind_some]; rw [appL_eq (by omega)]; exact k1
  unfold opns
  rcases k4 g hg with k | k
  ·rcases List.mem_append.1 k with k | k
   ·exact .inl k
   exact .inr (List.mem_append_left _ (h4 g k))
  exact .inr (List.mem_append_right _ k)
theorem loop_gd {N : Nat} (hN : 40000000 ≤ N) {F : GPattern → Option (List GGuard)} {l : List GPattern} (hb : l.length ≤ 16777216) :
 loopN (fun (s4 : (List GGuard) × Int) =>
  (
   if Ar.cmp .lss s4.2 (Ar.len l) = true then
    (idxL l s4.2).bind fun x7 =>
    (F x7).bind fun r8 =>
    (appL s4.1 r8).bind fun l10 =>
    some (.inl (l10, Ar.ar .add .i64 s4.2 1))
   else
    some (.inr s4.1)
   : Option (((List GGuard) × Int) ⊕ (((List GGuard)))))) N ([], 0) = (rangeL (stepGd F) l []).bind fun o => match o with | .inl s => some s | .inr r => some r := by
 rw [loop_list l (by omega) (mk := fun (s : List GGuard) i => (s, i)) (body := stepGd F) (fin := fun s => s) (s := []) (by omega) ?_ ?_]
 ·cases rangeL (stepGd F) l [] with
  | none => rfl
  | some o => cases o <;> rfl
 ·intro s i a ha hi
  have e : Ar.ar .add .i64 (i : Int) 1 = i + 1 := add_i64 (by omega) (by omega)
  simp only [cmp_lss, len_def, hi, decide_true, if_true, idx_at, ha, Option.bind_some, e, stepGd]
  cases F a with
  | none => rfl
  | some r => simp only [Option.bind_some]; cases appL s r <;> rfl
 intro s; simp [cmp_lss, len_def]
theorem active_open {N : Nat} (hN : 40000000 ≤ N) : ∀ (n : Nat) (x : GPattern), x.bulk ≤ n → x.bulk ≤ 16777216 → x.pre.length ≤ 64 → Good N x →
 ∃ r, derivative_active N n x = some r ∧ r.length ≤ x.pre.length ∧ ∀ g ∈ r, g.Scope ∈ opn x := by
 intro n
 induction n with
 | zero => intro x h; have := bulk_pos x; omega
 | succ n ih =>
  intro x hx hb hp hg
  have hl := len_bulk x
  have hap : x.Args.length ≤ 64 := by
   have : x.Args.length ≤ (GPattern.pres x.Args).length := by
    generalize x.Args = l
    induction l with
    | nil => simp
    | cons a l ih =>
     simp only [GPattern.pres, List.length_append, List.length_cons]
     have : 1 ≤ a.pre.length := by rw [GPattern.pre_eq]; simp
     omega
   rw [GPattern.pre_eq] at hp
   simp only [List.length_cons] at hp
   omega
  have hself : nodeBad N x = 0 := hg x (by rw [GPattern.pre_eq]; simp)
  have hxb := GPattern.bulk_eq x
  have hrec : ∀ a ∈ x.Args, ∃ r, derivative_active N n a = some r ∧ r.length ≤ a.pre.length ∧ ∀ g ∈ r, g.Scope ∈ opn a := fun a ha => by
   have := mem_bulk ha
   have := pre_arg ha
   exact ih a (by omega) (by omega) (by omega) (hg.arg ha)
  unfold derivative_active
  by_cases h9 : x.Op = 9
  ·obtain ⟨a, l, he⟩ := arg0 hN hb (by omega) hself (by omega)
   obtain ⟨r, k1, k3, k4⟩ := hrec a (by rw [he]; simp)
   have hpa := pre_arg (x := x) (a := a) (by rw [he]; simp)
   have hi : idxL x.Args 0 = some a := by rw [he]; rfl
   refine ⟨(⟨x.Scope, x.Typ, x.Var, x.Cond⟩ : GGuard) :: r, ?_, by simp only [List.length_cons]; omega, fun g hgm => ?_⟩
   ·simp only [eql_false (show ¬ x.Op = 1 by omega), eql_false (show ¬ x.Op = 8 by omega), eql_false (show ¬ x.Op = 3 by omega), eql_true h9, Option.bind_some, Bool.false_eq_true, if_false, if_true, hi, k1]
    rw [appL_eq (by simp)]
    simp only [Option.bind_some]
    rw [appL_eq (by simp only [List.length_append, List.length_cons, List.length_nil]; omega)]
    rfl
   rw [opn_eq, if_pos (.inl h9), he]
   rcases List.mem_cons.1 hgm with rfl | hgm
   ·simp
   refine List.mem_cons_of_mem _ ?_
   unfold opns
   exact List.mem_append_left _ (k4 g hgm)
  by_cases h3 : x.Op = 3
  ·obtain ⟨r, k1, k3, k4⟩ := range_gd (F := derivative_active N n) x.Args [] (by have := pres_bulk_p x.Args; simp only [List.length_nil]; omega) hrec
   refine ⟨r, ?_, ?_, fun g hgm => ?_⟩
   ·simp only [eql_false (show ¬ x.Op = 1 by omega), eql_false (show ¬ x.Op = 8 by omega), eql_true h3, Option.bind_some, Bool.false_eq_true, if_false, if_true]
    rw [loop_gd (N := N) hN (F := derivative_active N n) (l := x.Args) (by omega), k1]; rfl
   ·rw [GPattern.pre_eq]; simp only [List.length_cons, List.length_nil] at k3 ⊢; omega
   rw [opn_eq, if_neg (by omega), if_neg (by omega), if_pos (.inl h3)]
   rcases k4 g hgm with k | k
   ·cases k
   exact k
  by_cases h1 : x.Op = 1 ∨ x.Op = 8 ∨ x.Op = 10 ∨ x.Op = 7
  ·obtain ⟨a, l, he⟩ := arg0 hN hb (by omega) hself (by omega)
   obtain ⟨r, k1, k3, k4⟩ := hrec a (by rw [he]; simp)
   have hpa := pre_arg (x := x) (a := a) (by rw [he]; simp)
   have hi : idxL x.Args 0 = some a := by rw [he]; rfl
   refine ⟨r, ?_, by omega, fun g hgm => ?_⟩
   ·rcases h1 with h1 | h1 | h1 | h1
    ·simp only [eql_true h1, if_true, Option.bind_some, hi, k1]
    ·simp only [eql_false (show ¬ x.Op = 1 by omega), eql_true h1, if_true, Option.bind_some, hi, k1, Bool.false_eq_true, if_false]
    ·simp only [eql_false (show ¬ x.Op = 1 by omega), eql_false (show ¬ x.Op = 8 by omega), eql_false (show ¬ x.Op = 3 by omega), eql_false (show ¬ x.Op = 9 by omega), eql_true h1, if_true, Option.bind_some, hi, k1, Bool.false_eq_true, if_false]
    simp only [eql_false (show ¬ x.Op = 1 by omega), eql_false (show ¬ x.Op = 8 by omega), eql_false (show ¬ x.Op = 3 by omega), eql_false (show ¬ x.Op = 9 by omega), eql_false (show ¬ x.Op = 10 by omega), eql_true h1, if_true, Option.bind_some, hi, k1, Bool.false_eq_true, if_false]
   have hk := k4 g hgm
   rw [opn_eq, he]
   rcases h1 with h1 | h1 | h1 | h1
   ·rw [if_neg (by omega), if_pos (.inl h1)]; unfold opnh; exact hk
   ·rw [if_neg (by omega), if_pos (.inr h1)]; unfold opnh; exact hk
   ·rw [if_pos (.inr h1)]
    refine List.mem_cons_of_mem _ ?_
    unfold opns
    exact List.mem_append_left _ hk
   rw [if_neg (by omega), if_neg (by omega), if_pos (.inr h1)]
   unfold opns
   exact List.mem_append_left _ hk
  refine ⟨[], ?_, Nat.zero_le _, fun g h => by cases h⟩
  simp only [eql_false (show ¬ x.Op = 1 by omega), eql_false (show ¬ x.Op = 8 by omega), eql_false h3, eql_false h9, eql_false (show ¬ x.Op = 10 by omega), eql_false (show ¬ x.Op = 7 by omega), Option.bind_some, Bool.false_eq_true, if_false]
end Go.Ab

namespace Go.Ab
mutual
theorem opn_len : ∀ x : GPattern, (opn x).length ≤ x.pre.length
 | ⟨op, args, typ, var, scope, span, c⟩ => by
  have h1 := opns_len args
  have h2 := opnh_len args
  unfold opn
  rw [GPattern.pre_eq]
  simp only [List.length_cons]
  split
  ·simp only [List.length_cons]; omega
  split
  ·omega
  split
  ·omega
  simp
theorem opns_len : ∀ l : List GPattern, (opns l).length ≤ (GPattern.pres l).length
 | [] => by simp [opns]
 | a :: l => by
  have h1 := opn_len a
  have h2 := opns_len l
  simp only [opns, GPattern.pres, List.length_append]; omega
theorem opnh_len : ∀ l : List GPattern, (opnh l).length ≤ (GPattern.pres l).length
 | [] => by simp [opnh]
 | a :: l => by
  have h1 := opn_len a
  simp only [opnh, GPattern.pres, List.length_append]; omega
end
theorem loop_open {N : Nat} (hN : 40000000 ≤ N) {F : GPattern → Option (List Int)} {l : List GPattern} {s : List Int} (hb : l.length ≤ 16777216) (hs : s.length + (GPattern.pres l).length ≤ 40000000) (h : ∀ a ∈ l, F a = some (opn a)) :
 loopN (fun (s10 : (List Int) × Int) =>
       (
        if Ar.cmp .lss s10.2 (Ar.len l) = true then
         (idxL l s10.2).bind fun x13 =>
         (F x13).bind fun r14 =>
         (appL s10.1 r14).bind fun l16 =>
         some (.inl (l16, Ar.ar .add .i64 s10.2 1))
        else
         some (.inr s10.1)
        : Option (((List Int) × Int) ⊕ (((List Int)))))) N (s, 0) = some (s ++ opns l) := by
 rw [loop_list l (by omega) (mk := fun (s : List Int) i => (s, i)) (body := fun s a => (F a).bind fun r => (appL s r).bind fun q => some (.inl q)) (fin := fun s => s) (s := s) (by omega) ?_ ?_]
 ·have key : ∀ (m : List GPattern) (s : List Int), s.length + (GPattern.pres m).length ≤ 40000000 → (∀ a ∈ m, F a = some (opn a)) → rangeL (fun s a => (F a).bind fun r => (appL s r).bind fun q => some (.inl q : List Int ⊕ List Int)) m s = some (.inl (s ++ opns m)) := by
   intro m
   induction m with
   | nil => intro s _ _; simp [rangeL, opns]
   | cons a m ih =>
    intro s hs hm
    simp only [GPattern.pres, List.length_append] at hs
    have hl := opn_len a
    unfold rangeL
    rw [hm a (by simp)]
    simp only [Option.bind_some]
    rw [appL_eq (by omega)]
    simp only [Option.bind_some]
    rw [ih (s ++ opn a) (by simp only [List.length_append]; omega) fun b hb => hm b (by simp [hb])]
    simp [opns]
  rw [key l s hs h]
  rfl
 ·intro s i a ha hi
  have e : Ar.ar .add .i64 (i : Int) 1 = i + 1 := add_i64 (by omega) (by omega)
  simp only [cmp_lss, len_def, hi, decide_true, if_true, idx_at, ha, Option.bind_some, e]
  cases F a with
  | none => rfl
  | some r => simp only [Option.bind_some]; cases appL s r <;> rfl
 intro s; simp [cmp_lss, len_def]
theorem open_eq {N : Nat} (hN : 40000000 ≤ N) : ∀ (n : Nat) (x : GPattern), x.bulk ≤ n → x.bulk ≤ 16777216 → x.pre.length ≤ 64 → Good N x → law22_open N n x = some (opn x) := by
 intro n
 induction n with
 | zero => intro x h; have := bulk_pos x; omega
 | succ n ih =>
  intro x hx hb hp hg
  have hap := args_pre x
  have hself : nodeBad N x = 0 := hg x (by rw [GPattern.pre_eq]; simp)
  have hxb := GPattern.bulk_eq x
  have hpp : (GPattern.pres x.Args).length ≤ 64 := by rw [GPattern.pre_eq] at hp; simp only [List.length_cons] at hp; omega
  have hrec : ∀ a ∈ x.Args, law22_open N n a = some (opn a) := fun a ha => by
   have := mem_bulk ha
   have := pre_arg ha
   exact ih a (by omega) (by omega) (by omega) (hg.arg ha)
  unfold law22_open
  rw [opn_eq]
  by_cases h9 : x.Op = 9 ∨ x.Op = 10
  ·rw [if_pos h9]
   have e : (if Ar.cmp .eql x.Op 9 = true then some true else some (Ar.cmp .eql x.Op 10) : Option Bool) = some true := by
    rcases h9 with h | h
    ·simp [eql_true h]
    simp [eql_false (show ¬ x.Op = 9 by omega), eql_true h]
   rw [e]
   simp only [Option.bind_some, if_true]
   rw [appL_eq (by simp)]
   simp only [Option.bind_some, List.nil_append]
   rw [loop_open hN (by omega) (by simp only [List.length_cons, List.length_nil]; omega) hrec]
   rfl
  rw [if_neg h9]
  have e9 : (if Ar.cmp .eql x.Op 9 = true then some true else some (Ar.cmp .eql x.Op 10) : Option Bool) = some false := by
   simp [eql_false (show ¬ x.Op = 9 by omega), eql_false (show ¬ x.Op = 10 by omega)]
  rw [e9]
  simp only [Option.bind_some, Bool.false_eq_true, if_false]
  by_cases h1 : x.Op = 1 ∨ x.Op = 8
  ·rw [if_pos h1]
   have e : (if Ar.cmp .eql x.Op 1 = true then some true else some (Ar.cmp .eql x.Op 8) : Option Bool) = some true := by
    rcases h1 with h | h
    ·simp [eql_true h]
    simp [eql_false (show ¬ x.Op = 1 by omega), eql_true h]
   rw [e]
   obtain ⟨a, l, he⟩ := arg0 hN hb (by omega) hself (by omega)
   have hsl : sliceL x.Args none (some 1) none = some [a] := by
    rw [he]
    unfold sliceL
    rw [if_pos ⟨by decide, by simp, by simp only [Option.getD_some, Option.getD_none, List.length_cons]; omega, Int.le_refl _, fun h => by cases h⟩]
    simp
   simp only [Option.bind_some, if_true, hsl]
   have hpa := pre_arg (x := x) (a := a) (by rw [he]; simp)
   rw [loop_open hN (l := [a]) (s := []) (by simp) (by simp [GPattern.pres]; omega) fun b hb => by rw [List.mem_singleton.1 hb]; exact hrec a (by rw [he]; simp)]
   rw [he]
   simp [opns, opnh]
  rw [if_neg h1]
  have e : (if Ar.cmp .eql x.Op 1 = true then some true else some (Ar.cmp .eql x.Op 8) : Option Bool) = some false := by
   simp [eql_false (show ¬ x.Op = 1 by omega), eql_false (show ¬ x.Op = 8 by omega)]
  rw [e]
  simp only [Option.bind_some, Bool.false_eq_true, if_false]
  by_cases h3 : x.Op = 3 ∨ x.Op = 7
  ·rw [if_pos h3]
   rcases h3 with h | h
   ·simp only [eql_true h, if_true, Option.bind_some]
    rw [loop_open hN (s := []) (by omega) (by simp only [List.length_nil]; omega) hrec]
    rfl
   simp only [eql_false (show ¬ x.Op = 3 by omega), eql_true h, if_true, Bool.false_eq_true, if_false, Option.bind_some]
   rw [loop_open hN (s := []) (by omega) (by simp only [List.length_nil]; omega) hrec]
   rfl
  rw [if_neg h3]
  simp only [eql_false (show ¬ x.Op = 3 by omega), eql_false (show ¬ x.Op = 7 by omega), Bool.false_eq_true, if_false, Option.bind_some]
end Go.Ab

