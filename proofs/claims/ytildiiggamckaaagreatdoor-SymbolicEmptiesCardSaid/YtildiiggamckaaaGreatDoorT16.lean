/- AbA21 -/
import Derived.Test.YtildiiggamckaaaGreatDoorT15
set_option linter.all false
namespace Go.Ab
open Go.RowKit
variable [G5] [Ar]
section
variable {P : Program} {nt : Nat} {rd : Option Nat} {T : Dm} {l : Fl} {df : List Nat} {H : A0}
def EY (G : List (Nat × Bool)) (l : Fl) : Prop := ∀ j w, TM G j w = true → PM (Y3 l j) w = true
theorem EY.nil : EY [] l := fun j w h => by simp [TM] at h
theorem EY.add {G : List (Nat × Bool)} (h : EY G l) {d : Nat} {w : Bool} (hd : PM (Y3 l d) w = true) : EY ((d, w) :: G) l := by
 intro j w' hg
 simp only [TM] at hg
 split at hg
 ·rename_i e
  simp only [Bool.and_eq_true, beq_iff_eq] at e
  have := Nat.eq_of_beq_eq_true e.1;rw [← this, ← e.2]; exact hd
 exact h j w' hg
theorem Ua {a b : Nat} (h : Nat.beq a b = false) : a ≠ b := fun e => by subst e; rw [Nat.beq_refl] at h; cases h
theorem Fy : ∀ (l : Fl) (t : Nat) (s : Sl), lk l t = s → (∀ j w x, s ≠ .g j w x) → Y3 l t = s.V
 | [], t, s, h, _ => by simp only [lk] at h; subst h; rfl
 | (k, x) :: l, t, s, h, hn => by
  simp only [lk] at h
  simp only [Y3]
  cases hb : Nat.beq t k with
  | true =>
   simp only [hb] at h
   subst h
   cases x with
   | v x => rfl
   | b c => rfl
   | g j w x => exact absurd rfl (hn j w x)
  | false => simp only [hb] at h; exact Fy l t s h hn
theorem MM : ∀ (l : Fl) (t j : Nat) (w : Bool) (x : V), lk l t = .g j w x → RW l t j = true → Y3 l t = bif PM (Y3 l j) w then x else .tup []
 | [], _, _, _, _, _, h => by simp [RW] at h
 | (k, s) :: l, t, j, w, x, h, hf => by
  simp only [RW] at hf
  simp only [lk] at h
  cases hj : Nat.beq k j with
  | true => simp [hj] at hf
  | false =>
   simp only [hj] at hf
   have hj' : Nat.beq j k = false := by
    cases e : Nat.beq j k with
    | false => rfl
    | true => exact absurd (Nat.eq_of_beq_eq_true e).symm (Ua hj)
   have ej : Y3 ((k, s) :: l) j = Y3 l j := by simp only [Y3, hj']
   rw [ej];simp only [Y3]
   cases ht : Nat.beq t k with
   | true =>
    simp only [ht] at h
    subst h;rfl
   | false =>
    have ht' : Nat.beq k t = false := by
     cases e : Nat.beq k t with
     | false => rfl
     | true => exact absurd (Nat.eq_of_beq_eq_true e).symm (Ua ht)
    simp only [ht', ht] at hf h ⊢
    exact MM l t j w x h hf
theorem Fo {G : List (Nat × Bool)} (hG : EY G l) {t : Nat} {s : Sl} (h : NM G l t = some s) : s.V = Y3 l t ∧ ∀ j w x, s ≠ .g j w x := by
 unfold NM at h
 split at h
 ·rename_i j w x hl
  split at h
  ·rename_i hf;have e := MM l t j w x hl hf
   split at h
   ·rename_i hg;cases h;rw [e, hG j w hg];exact ⟨rfl, fun _ _ _ h => (by cases h)⟩
   split at h
   ·rename_i c hc;have ec := Fy l j _ hc (fun _ _ _ h => by cases h)
    rw [ec] at e
    split at h
    ·rename_i hcw;cases h;rw [e]; simp only [PM, Sl.V, hcw];exact ⟨rfl, fun _ _ _ h => (by cases h)⟩
    rename_i hcw;cases h;rw [e]; simp only [PM, Sl.V, hcw];exact ⟨rfl, fun _ _ _ h => (by cases h)⟩
   cases h
  cases h
 rename_i s' hn;cases h;exact ⟨(Fy l t _ rfl (fun j w x e => hn j w x e)).symm, fun j w x e => hn j w x e⟩
theorem Qv {G : List (Nat × Bool)} (hG : EY G l) (t : Nat) : (UU G l t).V = Y3 l t := by
 unfold UU
 split
 ·rename_i s h; exact (Fo hG h).1
 rfl
theorem Bk {G : List (Nat × Bool)} (hG : EY G l) (x : Operand) : (K1 G l x).V = ev (D9 ⟨l, df⟩) x := by
 cases x with
 | tmp t => exact Qv hG t
 | const v =>
  cases v <;> first | rfl | skip
 | global n => rfl
 | func f => rfl
theorem IV : ∀ (l : Fl) (d : Nat) (c : Bool), Y3 l d = .bool c → ∀ t, Y3 (Gz l d c) t = Y3 l t
 | [], _, _, _, _ => rfl
 | (k, s) :: l, d, c, h, t => by
  simp only [Gz]
  cases hd : Nat.beq d k with
  | true =>
   have e := Nat.eq_of_beq_eq_true hd;subst e;simp only [Y3]
   cases ht : Nat.beq t d with
   | true =>
    have e := Nat.eq_of_beq_eq_true ht;subst e
    simp only [Y3, Nat.beq_refl] at h
    exact h.symm
   | false => rfl
  | false =>
   have hl : Y3 l d = .bool c := by simpa only [Y3, hd] using h
   have ih := IV l d c hl;simp only [Y3]
   cases ht : Nat.beq t k with
   | true =>
    cases s with
    | v x => rfl
    | b c => rfl
    | g j w x => simp only [ih j]
   | false => exact ih t
theorem Ia {d : Nat} {c : Bool} (h : Y3 l d = .bool c) : D9 ⟨Gz l d c, df⟩ = D9 ⟨l, df⟩ := by
 simp only [D9, Fr.mk.injEq, and_true]
 funext t; exact IV l d c h t
theorem Af {o : Option V} {k : V → Prop} (h : Gs o k) : ∃ y, o = some y ∧ k y := by
 unfold Gs at h
 split at h
 ·exact ⟨_, rfl, h⟩
 exact h.elim
theorem EZ (hT : EX P T) {t : Nat} {v : V} {k : V → Prop} (h : Ql (E6 P nt rd) T t v H k) : ∃ y, (Du P H t v = some y ∨ Gm P H t v = some y) ∧ k y := by
 unfold Ql at h
 split at h
 ·exact h.elim
 rename_i I hI;have ok := D4 hT hI
 split at h
 ·rename_i cs off
  split at h
  ·rename_i y hy; exact ⟨y, .inl (by simp only [Du, ok.ag, ok.sz]; exact hy), h⟩
  exact h.elim
 ·rename_i id off;obtain ⟨cs, hk, h⟩ := h
  split at h
  ·rename_i y hy; exact ⟨y, .inl (by simp only [Du, ok.ag, ok.sz, hk]; exact hy), h⟩
  exact h.elim
 ·rename_i id i esz off;obtain ⟨sz, xs, hk, hb, h⟩ := h
  split at h
  ·rename_i y hy; exact ⟨y, .inr (by simp only [Gm, ok.ag, ok.sz, Bu, hk]; rw [if_pos hb]; exact hy), h⟩
  exact h.elim
 exact h.elim
theorem Wd (hT : EX P T) {t f : Nat} {I : Sn} {p : Nat × Nat} (hI : tg T t = some I) (hf : I.fs[f]? = some (some p)) : WI P t f = some p := by
 have := MK I.fs 0 f p (D4 hT hI).fs hf
 rwa [Nat.zero_add] at this
theorem DY (hT : EX P T) {t f : Nat} {v : V} {k : V → Prop} (h : Gv T t v f k) : ∃ y, Dc P t v f = some y ∧ k y := by
 unfold Gv at h
 split at h
 ·exact h.elim
 rename_i I hI
 split at h
 ·rename_i p hp;obtain ⟨y, h1, h2⟩ := Af h;exact ⟨y, by simp only [Dc, Wd hT hI hp]; exact h1, h2⟩
 exact h.elim
theorem GV (hT : EX P T) {t f : Nat} {v : V} {k : V → Prop} (h : OY T t v f k) : ∃ y, Kg P t v f = some y ∧ k y := by
 unfold OY at h
 split at h
 ·exact h.elim
 rename_i I hI
 split at h
 ·rename_i p hp
  split at h
  ·exact h.elim
  rename_i J hJ
  split at h
  ·obtain ⟨y, h1, h2⟩ := Af h;exact ⟨y, by simp only [Kg, Wd hT hI hp, (D4 hT hJ).ag, (D4 hT hJ).sz]; exact h1, h2⟩
  exact h.elim
 exact h.elim
theorem HE (hT : EX P T) {t : Nat} {v i : V} {k : V → Prop} (h : Gu (E6 P nt rd) T t v i k) : ∃ ki j u y, i = .int ki j ∧ AM P t v j = some u ∧ Y4 u y ∧ k y := by
 unfold Gu at h
 split at h
 ·rename_i ki j
  split at h
  ·exact h.elim
  rename_i I hI;have ok := D4 hT hI;refine ⟨ki, j, ?_⟩
  split at h
  ·rename_i e he
   split at h
   ·exact h.elim
   rename_i J hJ;have okJ := D4 hT hJ
   split at h
   ·rename_i xs tl;obtain ⟨hb, h⟩ := h
    split at h
    ·rename_i hsz;refine ⟨_, _, rfl, ?_, .refl _, h⟩;simp only [AM, ok.sl, he, okJ.sz];rw [if_pos ⟨hb, by rw [Nat.eq_of_beq_eq_true hsz]⟩]
    exact h.elim
   exact h.elim
  rename_i he
  split at h
  ·rename_i n e hae
   split at h
   ·exact h.elim
   rename_i J hJ
   split at h
   ·obtain ⟨⟨hb1, hb2, hb3⟩, h⟩ := h;rename_i cs off
    have hle : off + j.toNat * J.sz + J.sz ≤ cs.length := by
     have h1 : j.toNat + 1 ≤ n := by omega
     have h2 := Nat.mul_le_mul_right J.sz h1
     rw [Nat.add_mul, Nat.one_mul] at h2
     omega
    refine ⟨_, _, rfl, ?_, .sub hle, h⟩;simp only [AM, ok.sl, he, ok.ar, hae, (D4 hT hJ).sz];rw [if_pos ⟨hb1, hb2⟩]; rfl
   obtain ⟨hb, h⟩ := h;obtain ⟨y, h1, h2⟩ := Af h;refine ⟨y, y, rfl, ?_, .refl _, h2⟩;simp only [AM, ok.sl, he, ok.ar, hae, (D4 hT hJ).sz];rw [if_pos hb]; exact h1
  exact h.elim
 exact h.elim
theorem LW (hT : EX P T) {t : Nat} {v i : V} {k : V → Prop} (h : OX (E6 P nt rd) T t v i k) : ∃ ki j y, i = .int ki j ∧ HW P t v j = some y ∧ k y := by
 unfold OX at h
 split at h
 ·rename_i ki j
  split at h
  ·exact h.elim
  rename_i I hI;have ok := D4 hT hI;refine ⟨ki, j, ?_⟩
  split at h
  ·rename_i n e hae
   split at h
   ·exact h.elim
   rename_i J hJ
   split at h
   ·obtain ⟨hb, h⟩ := h;obtain ⟨y, h1, h2⟩ := Af h;refine ⟨y, rfl, ?_, h2⟩;simp only [HW, ok.ar, hae, (D4 hT hJ).ag, (D4 hT hJ).sz];rw [if_pos hb]; exact h1
   exact h.elim
  rename_i hae
  split at h
  ·split at h
   ·rename_i hs;obtain ⟨hb, h⟩ := h;refine ⟨_, rfl, ?_, h⟩;rename_i str _
    have hb : 0 ≤ j ∧ j < (str.size : Nat) := by
     rw [Ar.an_eq, Ar.cmp_eq, Ar.cmp_eq, Ar.slen_eq] at hb
     simpa [Dk] using hb
    simp only [HW, ok.ar, hae, ok.st];rw [if_pos ⟨hs, hb.1⟩, Ar.sat_eq]
    have hlt : j.toNat < str.size := by omega
    simp [hlt]
   exact h.elim
  exact h.elim
 exact h.elim
theorem OZ : ∀ xs ys : List V, Us xs ys = R6 xs ys
 | [], [] => rfl
 | [], _ :: _ => rfl
 | x :: xs, [] => by unfold Us R6; rfl
 | x :: xs, y :: ys => by
  have ih := OZ xs ys
  have hAn : (Ar.an : Bool → Bool → Bool) = fun a b => a && b := by funext a b; exact Ar.an_eq a b
  unfold Us R6;rw [ih, hAn]
  cases x <;> cases y <;> simp only [CQ, Ar.cmp_eq, Ar.scmp_eq, Ar.beq_eq, Dk, WL] <;> first
   | rfl
   | (cases R6 xs ys <;> rfl)
   | (split <;> cases R6 xs ys <;> rfl)
theorem PO {op : BinOp} {ki : IntKind} {a b : Int} (h : JW op = true) : FC op ki a b = some (.bool (Ar.cmp op a b)) := by
 rw [Ar.cmp_eq]
 cases op <;> simp [JW] at h <;> rfl
theorem RT {op : BinOp} {ki : IntKind} {a b : Int} (h : Vr op = true) : FC op ki a b = some (.int ki (Ar.ar op ki a b)) := by
 rw [Ar.ar_eq]
 cases op <;> simp [Vr] at h <;> rfl
theorem PN {op : BinOp} {ki : IntKind} {a b : Int} (h : TG op = true) (hb : b ≠ 0) : FC op ki a b = some (.int ki (Ar.ar op ki a b)) := by
 rw [Ar.ar_eq]
 cases op <;> simp [TG] at h <;> simp [FC, WO, hb]
theorem Pf {op : BinOp} {a b : ByteArray} (h : JW op = true) : Jl op a b = some (.bool (Ar.scmp op a b)) := by
 rw [Ar.scmp_eq]
 cases op <;> simp [JW] at h <;> rfl
theorem Ru {op : BinOp} {ki : IntKind} {a b : Int} (h : Dv op = true) (hb : 0 ≤ b) : Jq op ki a b = some (.int ki (Ar.sh op ki a b)) := by
 rw [Ar.sh_eq]
 cases op <;> simp [Dv] at h <;> simp only [Jq, Xi] <;> rw [if_neg (by omega)]
theorem Jg (hT : EX P T) {op : BinOp} {t : Nat} {x y : V} {k : V → Prop} (h : Wj (E6 P nt rd) T op t x y k) : ∃ v, IQ P op t x y = some v ∧ k v := by
 unfold Wj at h
 split at h
 ·rename_i ka a kb b
  split at h
  ·rename_i hs;obtain ⟨hb, h⟩ := h
   have hb : 0 ≤ b := by rw [Ar.cmp_eq] at hb; simpa [Dk] using hb
   exact ⟨_, by simp only [IQ, hs, if_true]; exact Ru hs hb, h⟩
  rename_i hs
  split at h
  ·rename_i hk
   have e : IQ P op t (.int ka a) (.int kb b) = FC op ka a b := by simp [IQ, hs, hk]
   split at h
   ·rename_i hc; exact ⟨_, e.trans (PO hc), h⟩
   split at h
   ·rename_i hc; exact ⟨_, e.trans (RT hc), h⟩
   split at h
   ·rename_i hc;obtain ⟨hb, h⟩ := h
    have hb : b ≠ 0 := by rw [Ar.cmp_eq] at hb; simpa [Dk] using hb
    exact ⟨_, e.trans (PN hc hb), h⟩
   exact h.elim
  exact h.elim
 ·rename_i a b
  split at h
  ·rename_i hc; exact ⟨_, Pf hc, h⟩
  split at h
  ·obtain ⟨hb, h⟩ := h
   have hb : ((a.size + b.size : Nat) : Int) ≤ 9223372036854775807 := by
    rw [Ar.cmp_eq, Ar.slen_eq, Ar.cat_eq] at hb
    have e : (a ++ b).size = a.size + b.size := by simp
    rw [e] at hb
    simpa [Dk] using hb
   refine ⟨_, ?_, h⟩;simp only [IQ, Jl, Ar.cat_eq];rw [if_neg (by omega)]
  exact h.elim
 ·rename_i a b
  split at h
  ·exact h.elim
  rename_i I hI
  split at h
  ·rename_i hbo;have hbo' := (D4 hT hI).bo hbo
   split at h
   ·exact ⟨_, by simp only [IQ, hbo', if_true, Ar.beq_eq], h⟩
   ·exact ⟨_, by simp only [IQ, hbo', if_true, Ar.beq_eq, Ar.nt_eq], h⟩
   exact h.elim
  exact h.elim
 ·rename_i xs ys
  split at h
  ·exact h.elim
  rename_i I hI;have ok := D4 hT hI
  split at h
  ·rename_i hc;obtain ⟨h1, h2, h3⟩ := hc
   have hek : Cq P 9 t = some (xs.map kd) := by
    have := ok.ek
    rw [h2] at this
    exact this
   have hcond : MX P t = some true ∧ Cq P 9 t = some (xs.map kd) ∧ ys.map kd = xs.map kd := ⟨by rw [ok.ag, h1], hek, h3⟩;cases op <;> try exact h.elim
   ·cases hx : Us xs ys with
    | none => simp only [hx] at h
    | some b =>
     simp only [hx] at h
     rw [OZ] at hx
     exact ⟨_, by simp only [IQ]; rw [if_pos hcond]; simp only [hx], h⟩
   cases hx : Us xs ys with
   | none => simp only [hx] at h
   | some b =>
    simp only [hx] at h
    rw [OZ] at hx
    exact ⟨_, by simp only [IQ]; rw [if_pos hcond]; simp only [hx, Ar.nt_eq], h⟩
  exact h.elim
 exact h.elim
theorem La {op : UnOp} {x : Sl} {k : Sl → Prop} (h : xun op x k) : ∃ s : Sl, unV op x.V = some s.V ∧ k s := by
 unfold xun at h
 split at h
 ·split at h
  ·exact ⟨_, rfl, h⟩
  ·exact ⟨_, by rw [Ar.nt_eq]; rfl, h⟩
  exact h.elim
 ·split at h
  ·exact ⟨_, by rw [Ar.neg_eq]; rfl, h⟩
  exact h.elim
 exact h.elim
theorem Nf (hT : EX P T) {s d : Nat} {x : V} {H : A0} {k : V → Prop} (h : SB (E6 P nt rd) T s d x H k) : ∃ v, (LM P s d x = some v ∨ LN P H s d x v) ∧ k v := by
 unfold SB at h
 split at h
 ·rename_i I J hI hJ;have okI := D4 hT hI;have okJ := D4 hT hJ
  split at h
  ·rename_i ki kj n hi hj
   have e1 := okI.ik; rw [hi] at e1
   have e2 := okJ.ik; rw [hj] at e2
   simp only [X0] at e1 e2
   exact ⟨_, .inl (by simp only [LM, e1, e2, Ar.wr_eq]), h⟩
  ·rename_i b _
   split at h
   ·rename_i h1 h2;have e1 := HK (okI.st.trans h1);have e2 := HK (okJ.st.trans h2);exact ⟨_, .inl (by simp only [LM, e1, e2]), h⟩
   exact h.elim
  ·obtain ⟨v, h1, h2⟩ := h; exact ⟨v, .inr h1, h2⟩
  ·obtain ⟨v, h1, h2⟩ := h; exact ⟨v, .inr h1, h2⟩
  exact h.elim
 exact h.elim
theorem GW (hT : EX P T) {t : Nat} {parts : List (Nat × V)} {k : V → Prop} (h : Pa T t parts k) : ∃ v, Ig P t parts = some v ∧ k v := by
 unfold Pa at h
 split at h
 ·exact h.elim
 rename_i I hI;have ok := D4 hT hI
 split at h
 ·rename_i cs hz
  have ez := ok.ze; rw [hz] at ez; simp only [X0] at ez
  split at h
  ·rename_i n e ha
   split at h
   ·exact h.elim
   rename_i J hJ
   split at h
   ·rename_i c hc; exact ⟨_, by simp only [Ig, ok.ar, ha, ez, (D4 hT hJ).sz, hc]; rfl, h⟩
   exact h.elim
  rename_i ha
  split at h
  ·rename_i pl hpl
   have ep := ok.pl; rw [hpl] at ep; simp only [X0] at ep
   split at h
   ·rename_i c hc;have hc' : FF (pl[·]?) cs parts = some c := hc;exact ⟨_, by simp only [Ig, ok.ar, ha, ez, ep, hc']; rfl, h⟩
   exact h.elim
  exact h.elim
 exact h.elim
theorem Dn (hT : EX P T) {t n : Nat} {parts : List (Nat × V)} {k : V → Prop} (h : Dp T t n parts k) : ∃ v, S8 P t n parts = some v ∧ k v := by
 unfold Dp at h
 split at h
 ·exact h.elim
 rename_i I hI
 split at h
 ·exact h.elim
 rename_i e he
 split at h
 ·exact h.elim
 rename_i J hJ
 split at h
 ·exact h.elim
 rename_i z hz
 have ez := (D4 hT hJ).ze; rw [hz] at ez; simp only [X0] at ez
 split at h
 ·rename_i hc;refine ⟨_, ?_, h⟩;simp only [S8, (D4 hT hI).sl, he, (D4 hT hJ).sz, ez];rw [if_pos hc]
 exact h.elim
theorem LV (hT : EX P T) {t : Nat} {l c : V} {k : V → Prop} (h : OW T t l c k) : ∃ v, Tu P t l c v ∧ k v := by
 unfold OW at h
 split at h
 ·split at h
  ·exact h.elim
  rename_i I hI
  split at h
  ·exact h.elim
  rename_i e he
  split at h
  ·exact h.elim
  rename_i J hJ
  split at h
  ·exact h.elim
  rename_i z hz
  have ez := (D4 hT hJ).ze; rw [hz] at ez; simp only [X0] at ez
  split at h
  ·rename_i hc;obtain ⟨h1, h2, h3, h4, rfl, h6, h7⟩ := hc;exact ⟨_, ⟨_, _, _, e, J.sz, J.by_, z, rfl, rfl, by rw [(D4 hT hI).sl, he], (D4 hT hJ).sz, h1, (D4 hT hJ).by_, h2, ez, h3, h4, h6, h7, rfl⟩, h⟩
  exact h.elim
 exact h.elim
theorem LR (hT : EX P T) {t : Nat} {v : V} {lo hi mx : Option (Option Int)} {k : V → Prop} (h : OT (E6 P nt rd) T t v lo hi mx k) :
 ∃ a b c y, lo = some a ∧ hi = some b ∧ mx = some c ∧ Jm P t v a b c = some y ∧ k y := by
 unfold OT at h
 split at h
 ·rename_i a b c;refine ⟨a, b, c, ?_⟩
  split at h
  ·exact h.elim
  rename_i I hI
  split at h
  ·rename_i e he
   split at h
   ·exact h.elim
   rename_i J hJ
   split at h
   ·obtain ⟨hc, h⟩ := h;refine ⟨_, rfl, rfl, rfl, ?_, h⟩;simp only [Jm, (D4 hT hI).sl, he, (D4 hT hJ).sz];rw [if_pos hc]
   exact h.elim
  exact h.elim
 exact h.elim
theorem KI (hT : EX P T) {t id : Nat} {l0 n : Int} {lo hi mx : Option (Option Int)} {k : V → Prop} (h : LS (E6 P nt rd) T t H id l0 n lo hi mx k) :
 ∃ a b c y, lo = some a ∧ hi = some b ∧ mx = some c ∧ Fe P H t (.own id l0 n) a b c = some y ∧ k y := by
 unfold LS at h
 split at h
 ·rename_i a b c;refine ⟨a, b, c, ?_⟩
  split at h
  ·exact h.elim
  rename_i I hI
  split at h
  ·rename_i e he
   split at h
   ·exact h.elim
   rename_i J hJ;obtain ⟨xs, hk, hc, h⟩ := h;refine ⟨_, rfl, rfl, rfl, ?_, h⟩;simp only [Fe, (D4 hT hI).sl, he, (D4 hT hJ).sz, Bu, hk];rw [if_pos ⟨trivial, hc⟩];rfl
  exact h.elim
 exact h.elim
theorem ET (hT : EX P T) {b : Builtin} {ts : List TypeId} {vs : List V} {k : V → Prop} (h : HF (E6 P nt rd) T b ts vs k) : ∃ v, Bt P b ts vs v ∧ k v := by
 unfold HF at h
 split at h
 ·rename_i t x
  split at h
  ·exact h.elim
  rename_i I hI;have ok := D4 hT hI
  split at h
  ·rename_i e he
   split at h
   ·exact ⟨_, by simp only [Bt, RP, ok.sl, he], h⟩
   exact h.elim
  rename_i he
  split at h
  ·rename_i n e ha;exact ⟨_, by simp only [Bt, RP, ok.sl, he, ok.ar, ha, Ar.ofN_eq], h⟩
  rename_i ha
  split at h
  ·split at h
   ·rename_i hs;exact ⟨_, by simp only [Bt, RP, ok.sl, he, ok.ar, ha, ok.st, hs, if_true, Ar.slen_eq], h⟩
   exact h.elim
  exact h.elim
 ·split at h
  ·rename_i hk; rw [Ar.mx_eq] at h; exact ⟨_, ⟨hk, rfl⟩, h⟩
  exact h.elim
 ·split at h
  ·rename_i hk; rw [Ar.mn_eq] at h; exact ⟨_, ⟨hk, rfl⟩, h⟩
  exact h.elim
 ·rename_i sT yT xs tl ys tl'
  split at h
  ·rename_i I I2 hI hI2
   split at h
   ·rename_i e e2 he he2
    split at h
    ·rename_i J hJ
     split at h
     ·rename_i z hz
      have ez := (D4 hT hJ).ze; rw [hz] at ez; simp only [X0] at ez
      split at h
      ·rename_i hc;obtain ⟨c1, c2, c3, c4, c5⟩ := hc;obtain ⟨xs', ys', l1, l2, k1, k2, k3, k4⟩ := h;refine ⟨_, ⟨?_, e, J.sz, J.by_, z, xs', ys', (D4 hT hI).sl.trans he, by rw [(D4 hT hI2).sl, he2]; rfl, (D4 hT hJ).sz, c1, (D4 hT hJ).by_, c2, ez, c3, c4, l1, l2, k1, k2, k3, rfl⟩, k4⟩;cases tl <;> first | exact .inl rfl | exact .inr rfl | cases c5
      exact h.elim
     exact h.elim
    exact h.elim
   exact h.elim
  exact h.elim
 exact h.elim
theorem Il {t : Bool} {x y : Sl} {k : Sl → Prop} (h : Sv (E6 P nt rd) t x y k) : ∃ s : Sl, (t = true → s.V = x.V) ∧ (t = false → s.V = y.V) ∧ k s := by
 unfold Sv at h
 split at h
 ·exact ⟨_, fun _ => rfl, fun _ => rfl, h⟩
 ·exact ⟨_, fun e => (by simp [Sl.V, e]), fun e => (by simp [Sl.V, e]), h⟩
 ·exact ⟨_, fun e => (by simp [Sl.V, Ar.or_eq, e]), fun e => (by simp [Sl.V, Ar.or_eq, e]), h⟩
 ·exact ⟨_, fun e => (by simp [Sl.V, Ar.nt_eq, e]), fun e => (by simp [Sl.V, Ar.nt_eq, e]), h⟩
 ·exact ⟨_, fun _ => rfl, fun _ => rfl, h⟩
 ·exact ⟨_, fun e => (by simp [Sl.V, Ar.nt_eq, Ar.an_eq, e]), fun e => (by simp [Sl.V, Ar.nt_eq, Ar.an_eq, e]), h⟩
 ·exact ⟨_, fun e => (by simp [Sl.V, Ar.nt_eq, Ar.or_eq, e]), fun e => (by simp [Sl.V, Ar.nt_eq, Ar.or_eq, e]), h⟩
 ·exact ⟨_, fun e => (by simp [Sl.V, Ar.an_eq, e]), fun e => (by simp [Sl.V, Ar.an_eq, e]), h⟩
 ·exact ⟨_, fun e => (by simp [Sl.V, Ar.pk_eq, e]), fun e => (by simp [Sl.V, Ar.pk_eq, e]), h⟩
 obtain ⟨h1, h2⟩ := h;cases t
 ·exact ⟨y, fun e => (by cases e), fun _ => rfl, h2 rfl⟩
 exact ⟨x, fun _ => rfl, fun e => (by cases e), h1 rfl⟩
theorem EY.arm {G : List (Nat × Bool)} (hG : EY G l) {c : Operand} {w : Bool} (h : ev (D9 ⟨l, df⟩) c = .bool w) : EY (WQ c w G) l := by
 cases c with
 | tmp d =>
  refine hG.add ?_;have : Y3 l d = .bool w := h;rw [this]; simp [PM]
 | const _ => exact hG
 | global _ => exact hG
 | func _ => exact hG
theorem Im (hT : EX P T) {b : Builtin} {ts : List TypeId} {vs : List V} {w : V} {k : V → Prop} (hid : PB b vs = some w) (h : Sy (E6 P nt rd) T b ts H w k) : ∃ v, GG P H b ts vs v ∧ k v := by
 unfold PB at hid
 unfold Sy at h
 split at hid
 ·cases hid
  split at h
  ·split at h
   ·exact h.elim
   rename_i I hI
   split at h
   ·rename_i e he;exact ⟨_, by simp only [GG, Vl, (D4 hT hI).sl, he], h⟩
   exact h.elim
  exact h.elim
 ·cases hid
  split at h
  ·split at h
   ·exact h.elim
   rename_i I hI
   split at h
   ·rename_i e he
    split at h
    ·rename_i e1; cases e1
    ·obtain ⟨sz, xs, hk, h⟩ := h;exact ⟨_, by simp only [GG, PZ, (D4 hT hI).sl, he, Bu, hk]; rfl, h⟩
    ·exact ⟨_, by simp only [GG, PZ, (D4 hT hI).sl, he], h⟩
    ·exact ⟨_, by simp only [GG, PZ, (D4 hT hI).sl, he], h⟩
    exact h.elim
   exact h.elim
  exact h.elim
 cases hid
theorem GT (hT : EX P T) {G : List (Nat × Bool)} (hG : EY G l) {o : Oper} {k : Sl → Prop} (h : xq (E6 P nt rd) T G o l H k) : ∃ s : Sl, GD P o (ev (D9 ⟨l, df⟩)) H s.V ∧ k s := by
 have E : ∀ x, (K1 G l x).V = ev (D9 ⟨l, df⟩) x := fun x => Bk hG x;have Em : ∀ xs : List Operand, (xs.map fun x => (K1 G l x).V) = xs.map (ev (D9 ⟨l, df⟩)) := fun xs => List.map_congr_left fun p _ => E p
 have Eo : ∀ x : Option Operand, (x.map fun x => (K1 G l x).V) = x.map (ev (D9 ⟨l, df⟩)) := fun x => by cases x <;> simp [E]
 have Ep : ∀ ps : List (Nat × Operand), (ps.map fun p => (p.1, (K1 G l p.2).V)) = ps.map fun p => (p.1, ev (D9 ⟨l, df⟩) p.2) := fun ps => List.map_congr_left fun p _ => by rw [E]
 unfold xq at h
 unfold GD
 split at h <;> rename_i ho <;> simp only [ho]
 ·exact ⟨_, E _, h⟩
 ·exact ⟨_, E _, h⟩
 ·rename_i c x y
  split at h
  ·rename_i hc
   have : ev (D9 ⟨l, df⟩) c = .bool true := by rw [← E, hc]; rfl
   exact ⟨_, by simp only [this, if_true]; exact E _, h⟩
  ·rename_i hc
   have : ev (D9 ⟨l, df⟩) c = .bool false := by rw [← E, hc]; rfl
   exact ⟨_, by simp only [this]; exact E _, h⟩
  ·rename_i b hc
   have hb : ev (D9 ⟨l, df⟩) c = .bool b := by rw [← E, hc]; rfl
   obtain ⟨s, h1, h2, h3⟩ := Il h;refine ⟨s, ?_, h3⟩;simp only [hb];cases b
   ·simp only [Bool.false_eq_true, if_false]; rw [h2 rfl]; exact Bk (hG.arm hb) _
   simp only [if_true]; rw [h1 rfl]; exact Bk (hG.arm hb) _
  exact h.elim
 ·split at h
  ·rename_i h1; rw [E] at h1; exact ⟨_, ⟨h1, by rw [E]; rfl⟩, h⟩
  exact h.elim
 ·obtain ⟨v, h1, h2⟩ := GW hT h
  rw [Ep] at h1; exact ⟨.v v, h1, h2⟩
 ·obtain ⟨v, h1, h2⟩ := Dn hT h
  rw [Ep] at h1; exact ⟨.v v, h1, h2⟩
 ·obtain ⟨v, h1, h2⟩ := LV hT h
  rw [E, E] at h1; exact ⟨.v v, h1, h2⟩
 ·obtain ⟨v, h1, h2⟩ := EZ hT h
  rw [E] at h1; exact ⟨.v v, h1, h2⟩
 ·split at h
  ·rename_i h1; rw [E] at h1; exact ⟨_, ⟨h1, E _⟩, h⟩
  exact h.elim
 ·obtain ⟨v, h1, h2⟩ := Jg hT h
  rw [E, E] at h1; exact ⟨.v v, h1, h2⟩
 ·obtain ⟨s, h1, h2⟩ := La h
  rw [E] at h1; exact ⟨s, h1, h2⟩
 ·obtain ⟨v, h1, h2⟩ := Nf hT h
  rw [E] at h1; exact ⟨.v v, h1, h2⟩
 ·obtain ⟨v, h1, h2⟩ := h
  rw [E, E] at h1; exact ⟨.v v, h1, h2⟩
 ·split at h
  ·rename_i I hI
   split at h
   ·rename_i hn; exact ⟨_, ⟨(D4 hT hI).nif hn, by rw [E]; rfl⟩, h⟩
   exact h.elim
  exact h.elim
 ·exact ⟨_, by rw [Em, Em]; rfl, h⟩
 ·split at h
  ·rename_i id l0 n hx;obtain ⟨a, b, c, y, h1, h2, h3, h4, h5⟩ := KI hT h
   rw [Eo] at h1 h2 h3
   rw [E] at hx
   exact ⟨.v y, by simp only [h1, h2, h3, hx]; exact .inr h4, h5⟩
  obtain ⟨a, b, c, y, h1, h2, h3, h4, h5⟩ := LR hT h
  rw [Eo] at h1 h2 h3
  rw [E] at h4
  exact ⟨.v y, by simp only [h1, h2, h3]; exact .inl h4, h5⟩
 ·obtain ⟨v, h1, h2⟩ := DY hT h
  rw [E] at h1; exact ⟨.v v, h1, h2⟩
 ·obtain ⟨v, h1, h2⟩ := GV hT h
  rw [E] at h1; exact ⟨.v v, h1, h2⟩
 ·split at h
  ·rename_i id lo n hx
   unfold VP at h
   split at h
   ·rename_i i hi
    split at h
    ·exact h.elim
    rename_i I hI
    split at h
    ·rename_i e he
     split at h
     ·exact h.elim
     rename_i J hJ;obtain ⟨⟨xs, hk⟩, hb, h⟩ := h
     rw [E] at hx hi
     refine ⟨.v _, ?_, h⟩;simp only [hi, hx];refine .inr ?_;simp only [PP, (D4 hT hI).sl, he, Bu, hk, (D4 hT hJ).sz, Ar.ofs_eq];rw [if_pos ⟨hb, trivial⟩]; rfl
    exact h.elim
   exact h.elim
  obtain ⟨ki, j, u, y, h1, h2, h4, h3⟩ := HE hT h
  rw [E] at h1 h2
  exact ⟨.v y, by simp only [h1]; exact .inl ⟨u, h2, h4⟩, h3⟩
 ·obtain ⟨ki, j, y, h1, h2, h3⟩ := LW hT h
  rw [E] at h1 h2
  exact ⟨.v y, by simp only [h1]; exact h2, h3⟩
 ·split at h
  ·rename_i cs hc
   rw [E] at hc
   obtain ⟨y, h1, h2⟩ := Af h;exact ⟨.v y, by simp only [hc]; exact h1, h2⟩
  exact h.elim
 ·rename_i c
  split at h
  ·rename_i b hb
   split at h
   ·rename_i w hid
    rw [Em] at hid
    obtain ⟨v, h1, h2⟩ := Im hT hid h;exact ⟨.v v, by simp only [hb]; exact .inr h1, h2⟩
   obtain ⟨v, h1, h2⟩ := ET hT h
   rw [Em] at h1
   exact ⟨.v v, by simp only [hb]; exact .inl h1, h2⟩
  exact h.elim
 exact h.elim
end
end Go.Ab
