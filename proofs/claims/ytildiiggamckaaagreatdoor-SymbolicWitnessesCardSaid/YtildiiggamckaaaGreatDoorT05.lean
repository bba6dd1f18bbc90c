/- AbA21 AbA22 AbA23 AbP1 AbD1 -/
import Derived.Test.YtildiiggamckaaaGreatDoorT04
set_option linter.all false
namespace Go.Ab
open Go.RowKit
variable [H5] [Ar]
section
variable {P : Program} {nt : Nat} {rd : Option Nat} {T : Dt} {l : Fl} {df : List Nat} {H : A0}
def Fa (G : List (Nat × Bool)) (l : Fl) : Prop := ∀ j w, Uh G j w = true → Qh (Z4 l j) w = true
theorem Fa.nil : Fa [] l := fun j w h => by simp [Uh] at h
theorem Fa.add {G : List (Nat × Bool)} (h : Fa G l) {d : Nat} {w : Bool} (hd : Qh (Z4 l d) w = true) : Fa ((d, w) :: G) l := by
 intro j w' hg
 simp only [Uh] at hg
 split at hg
 ·rename_i e
  simp only [Bool.and_eq_true, beq_iff_eq] at e
  have := Nat.eq_of_beq_eq_true e.1;rw [← this, ← e.2]; exact hd
 exact h j w' hg
theorem Uv {a b : Nat} (h : Nat.beq a b = false) : a ≠ b := fun e => by subst e; rw [Nat.beq_refl] at h; cases h
theorem Fy : ∀ (l : Fl) (t : Nat) (s : Sl), lk l t = s → (∀ j w x, s ≠ .g j w x) → Z4 l t = s.V
 | [], t, s, h, _ => by simp only [lk] at h; subst h; rfl
 | (k, x) :: l, t, s, h, hn => by
  simp only [lk] at h
  simp only [Z4]
  cases hb : Nat.beq t k with
  | true =>
   simp only [hb] at h
   subst h
   cases x with
   | v x => rfl
   | b c => rfl
   | g j w x => exact absurd rfl (hn j w x)
  | false => simp only [hb] at h; exact Fy l t s h hn
theorem Nl : ∀ (l : Fl) (t j : Nat) (w : Bool) (x : V), lk l t = .g j w x → Sp l t j = true → Z4 l t = bif Qh (Z4 l j) w then x else .tup []
 | [], _, _, _, _, _, h => by simp [Sp] at h
 | (k, s) :: l, t, j, w, x, h, hf => by
  simp only [Sp] at hf
  simp only [lk] at h
  cases hj : Nat.beq k j with
  | true => simp [hj] at hf
  | false =>
   simp only [hj] at hf
   have hj' : Nat.beq j k = false := by
    cases e : Nat.beq j k with
    | false => rfl
    | true => exact absurd (Nat.eq_of_beq_eq_true e).symm (Uv hj)
   have ej : Z4 ((k, s) :: l) j = Z4 l j := by simp only [Z4, hj']
   rw [ej];simp only [Z4]
   cases ht : Nat.beq t k with
   | true =>
    simp only [ht] at h
    subst h;rfl
   | false =>
    have ht' : Nat.beq k t = false := by
     cases e : Nat.beq k t with
     | false => rfl
     | true => exact absurd (Nat.eq_of_beq_eq_true e).symm (Uv ht)
    simp only [ht', ht] at hf h ⊢
    exact Nl l t j w x h hf
theorem Fp {G : List (Nat × Bool)} (hG : Fa G l) {t : Nat} {s : Sl} (h : Oq G l t = some s) : s.V = Z4 l t ∧ ∀ j w x, s ≠ .g j w x := by
 unfold Oq at h
 split at h
 ·rename_i j w x hl
  split at h
  ·rename_i hf;have e := Nl l t j w x hl hf
   split at h
   ·rename_i hg;cases h;rw [e, hG j w hg];exact ⟨rfl, fun _ _ _ h => (by cases h)⟩
   split at h
   ·rename_i c hc;have ec := Fy l j _ hc (fun _ _ _ h => by cases h)
    rw [ec] at e
    split at h
    ·rename_i hcw;cases h;rw [e]; simp only [Qh, Sl.V, hcw];exact ⟨rfl, fun _ _ _ h => (by cases h)⟩
    rename_i hcw;cases h;rw [e]; simp only [Qh, Sl.V, hcw];exact ⟨rfl, fun _ _ _ h => (by cases h)⟩
   cases h
  cases h
 rename_i s' hn;cases h;exact ⟨(Fy l t _ rfl (fun j w x e => hn j w x e)).symm, fun j w x e => hn j w x e⟩
theorem QN {G : List (Nat × Bool)} (hG : Fa G l) (t : Nat) : (Vm G l t).V = Z4 l t := by
 unfold Vm
 split
 ·rename_i s h; exact (Fp hG h).1
 rfl
theorem Bt {G : List (Nat × Bool)} (hG : Fa G l) (x : Operand) : (K6 G l x).V = ev (E3 ⟨l, df⟩) x := by
 cases x with
 | tmp t => exact QN hG t
 | const v =>
  cases v <;> first | rfl | skip
 | global n => rfl
 | func f => rfl
theorem Jl : ∀ (l : Fl) (d : Nat) (c : Bool), Z4 l d = .bool c → ∀ t, Z4 (GB l d c) t = Z4 l t
 | [], _, _, _, _ => rfl
 | (k, s) :: l, d, c, h, t => by
  simp only [GB]
  cases hd : Nat.beq d k with
  | true =>
   have e := Nat.eq_of_beq_eq_true hd;subst e;simp only [Z4]
   cases ht : Nat.beq t d with
   | true =>
    have e := Nat.eq_of_beq_eq_true ht;subst e
    simp only [Z4, Nat.beq_refl] at h
    exact h.symm
   | false => rfl
  | false =>
   have hl : Z4 l d = .bool c := by simpa only [Z4, hd] using h
   have ih := Jl l d c hl;simp only [Z4]
   cases ht : Nat.beq t k with
   | true =>
    cases s with
    | v x => rfl
    | b c => rfl
    | g j w x => simp only [ih j]
   | false => exact ih t
theorem Ir {d : Nat} {c : Bool} (h : Z4 l d = .bool c) : E3 ⟨GB l d c, df⟩ = E3 ⟨l, df⟩ := by
 simp only [E3, Fr.mk.injEq, and_true]
 funext t; exact Jl l d c h t
theorem Ao {o : Option V} {k : V → Prop} (h : Gv o k) : ∃ y, o = some y ∧ k y := by
 unfold Gv at h
 split at h
 ·exact ⟨_, rfl, h⟩
 exact h.elim
theorem Fb (hT : EZ P T) {t : Nat} {v : V} {k : V → Prop} (h : QF (E7 P nt rd) T t v H k) : ∃ y, (Dx P H t v = some y ∨ Gq P H t v = some y) ∧ k y := by
 unfold QF at h
 split at h
 ·exact h.elim
 rename_i I hI;have ok := D6 hT hI
 split at h
 ·rename_i cs off
  split at h
  ·rename_i y hy; exact ⟨y, .inl (by simp only [Dx, ok.ag, ok.sz]; exact hy), h⟩
  exact h.elim
 ·rename_i id off;obtain ⟨cs, hk, h⟩ := h
  split at h
  ·rename_i y hy; exact ⟨y, .inl (by simp only [Dx, ok.ag, ok.sz, hk]; exact hy), h⟩
  exact h.elim
 ·rename_i id i esz off;obtain ⟨sz, xs, hk, hb, h⟩ := h
  split at h
  ·rename_i y hy; exact ⟨y, .inr (by simp only [Gq, ok.ag, ok.sz, BD, hk]; rw [if_pos hb]; exact hy), h⟩
  exact h.elim
 exact h.elim
theorem Wy (hT : EZ P T) {t f : Nat} {I : SF} {p : Nat × Nat} (hI : tg T t = some I) (hf : I.fs[f]? = some (some p)) : WY P t f = some p := by
 have := Nk I.fs 0 f p (D6 hT hI).fs hf
 rwa [Nat.zero_add] at this
theorem DX (hT : EZ P T) {t f : Nat} {v : V} {k : V → Prop} (h : Gy T t v f k) : ∃ y, Dj P t v f = some y ∧ k y := by
 unfold Gy at h
 split at h
 ·exact h.elim
 rename_i I hI
 split at h
 ·rename_i p hp;obtain ⟨y, h1, h2⟩ := Ao h;exact ⟨y, by simp only [Dj, Wy hT hI hp]; exact h1, h2⟩
 exact h.elim
theorem Hb (hT : EZ P T) {t f : Nat} {v : V} {k : V → Prop} (h : Pu T t v f k) : ∃ y, KA P t v f = some y ∧ k y := by
 unfold Pu at h
 split at h
 ·exact h.elim
 rename_i I hI
 split at h
 ·rename_i p hp
  split at h
  ·exact h.elim
  rename_i J hJ
  split at h
  ·obtain ⟨y, h1, h2⟩ := Ao h;exact ⟨y, by simp only [KA, Wy hT hI hp, (D6 hT hJ).ag, (D6 hT hJ).sz]; exact h1, h2⟩
  exact h.elim
 exact h.elim
theorem HW (hT : EZ P T) {t : Nat} {v i : V} {k : V → Prop} (h : Gx (E7 P nt rd) T t v i k) : ∃ ki j u y, i = .int ki j ∧ AY P t v j = some u ∧ Z6 u y ∧ k y := by
 unfold Gx at h
 split at h
 ·rename_i ki j
  split at h
  ·exact h.elim
  rename_i I hI;have ok := D6 hT hI;refine ⟨ki, j, ?_⟩
  split at h
  ·rename_i e he
   split at h
   ·exact h.elim
   rename_i J hJ;have okJ := D6 hT hJ
   split at h
   ·rename_i xs tl;obtain ⟨hb, h⟩ := h
    split at h
    ·rename_i hsz;refine ⟨_, _, rfl, ?_, .refl _, h⟩;simp only [AY, ok.sl, he, okJ.sz];rw [if_pos ⟨hb, by rw [Nat.eq_of_beq_eq_true hsz]⟩]
    exact h.elim
   exact h.elim
  rename_i he
  split at h
  ·rename_i n e hae
   split at h
   ·exact h.elim
   rename_i J hJ
   split at h
   ·obtain ⟨⟨hb1, hb2, hb3⟩, h⟩ := h;rename_i cs off
    have hle : off + j.toNat * J.sz + J.sz ≤ cs.length := by
     have h1 : j.toNat + 1 ≤ n := by omega
     have h2 := Nat.mul_le_mul_right J.sz h1
     rw [Nat.add_mul, Nat.one_mul] at h2
     omega
    refine ⟨_, _, rfl, ?_, .sub hle, h⟩;simp only [AY, ok.sl, he, ok.ar, hae, (D6 hT hJ).sz];rw [if_pos ⟨hb1, hb2⟩]; rfl
   obtain ⟨hb, h⟩ := h;obtain ⟨y, h1, h2⟩ := Ao h;refine ⟨y, y, rfl, ?_, .refl _, h2⟩;simp only [AY, ok.sl, he, ok.ar, hae, (D6 hT hJ).sz];rw [if_pos hb]; exact h1
  exact h.elim
 exact h.elim
theorem Mx (hT : EZ P T) {t : Nat} {v i : V} {k : V → Prop} (h : Pt (E7 P nt rd) T t v i k) : ∃ ki j y, i = .int ki j ∧ Io P t v j = some y ∧ k y := by
 unfold Pt at h
 split at h
 ·rename_i ki j
  split at h
  ·exact h.elim
  rename_i I hI;have ok := D6 hT hI;refine ⟨ki, j, ?_⟩
  split at h
  ·rename_i n e hae
   split at h
   ·exact h.elim
   rename_i J hJ
   split at h
   ·obtain ⟨hb, h⟩ := h;obtain ⟨y, h1, h2⟩ := Ao h;refine ⟨y, rfl, ?_, h2⟩;simp only [Io, ok.ar, hae, (D6 hT hJ).ag, (D6 hT hJ).sz];rw [if_pos hb]; exact h1
   exact h.elim
  rename_i hae
  split at h
  ·split at h
   ·rename_i hs;obtain ⟨hb, h⟩ := h;refine ⟨_, rfl, ?_, h⟩;rename_i str _
    have hb : 0 ≤ j ∧ j < (str.size : Nat) := by
     rw [Ar.an_eq, Ar.cmp_eq, Ar.cmp_eq, Ar.slen_eq] at hb
     simpa [Dn] using hb
    simp only [Io, ok.ar, hae, ok.st];rw [if_pos ⟨hs, hb.1⟩, Ar.sat_eq]
    have hlt : j.toNat < str.size := by omega
    simp [hlt]
   exact h.elim
  exact h.elim
 exact h.elim
theorem Pw : ∀ xs ys : List V, UJ xs ys = S6 xs ys
 | [], [] => rfl
 | [], _ :: _ => rfl
 | x :: xs, [] => by unfold UJ S6; rfl
 | x :: xs, y :: ys => by
  have ih := Pw xs ys
  have hAn : (Ar.an : Bool → Bool → Bool) = fun a b => a && b := by funext a b; exact Ar.an_eq a b
  unfold UJ S6;rw [ih, hAn]
  cases x <;> cases y <;> simp only [CX, Ar.cmp_eq, Ar.scmp_eq, Ar.beq_eq, Dn, Xd] <;> first
   | rfl
   | (cases S6 xs ys <;> rfl)
   | (split <;> cases S6 xs ys <;> rfl)
theorem Qj {op : BinOp} {ki : IntKind} {a b : Int} (h : Kq op = true) : FC op ki a b = some (.bool (Ar.k op a b)) := by
 rw [Ar.cmp_eq]
 cases op <;> simp [Kq] at h <;> rfl
theorem Sm {op : BinOp} {ki : IntKind} {a b : Int} (h : VL op = true) : FC op ki a b = some (.int ki (Ar.ar op ki a b)) := by
 rw [Ar.ar_eq]
 cases op <;> simp [VL] at h <;> rfl
theorem Qi {op : BinOp} {ki : IntKind} {a b : Int} (h : Ub op = true) (hb : b ≠ 0) : FC op ki a b = some (.int ki (Ar.ar op ki a b)) := by
 rw [Ar.ar_eq]
 cases op <;> simp [Ub] at h <;> simp [FC, Xf, hb]
theorem PB {op : BinOp} {a b : ByteArray} (h : Kq op = true) : JI op a b = some (.bool (Ar.scmp op a b)) := by
 rw [Ar.scmp_eq]
 cases op <;> simp [Kq] at h <;> rfl
theorem RP {op : BinOp} {ki : IntKind} {a b : Int} (h : Dy op = true) (hb : 0 ≤ b) : JN op ki a b = some (.int ki (Ar.sh op ki a b)) := by
 rw [Ar.sh_eq]
 cases op <;> simp [Dy] at h <;> simp only [JN, XB] <;> rw [if_neg (by omega)]
theorem Jz (hT : EZ P T) {op : BinOp} {t : Nat} {x y : V} {k : V → Prop} (h : WE (E7 P nt rd) T op t x y k) : ∃ v, Je P op t x y = some v ∧ k v := by
 unfold WE at h
 split at h
 ·rename_i ka a kb b
  split at h
  ·rename_i hs;obtain ⟨hb, h⟩ := h
   have hb : 0 ≤ b := by rw [Ar.cmp_eq] at hb; simpa [Dn] using hb
   exact ⟨_, by simp only [Je, hs, if_true]; exact RP hs hb, h⟩
  rename_i hs
  split at h
  ·rename_i hk
   have e : Je P op t (.int ka a) (.int kb b) = FC op ka a b := by simp [Je, hs, hk]
   split at h
   ·rename_i hc; exact ⟨_, e.trans (Qj hc), h⟩
   split at h
   ·rename_i hc; exact ⟨_, e.trans (Sm hc), h⟩
   split at h
   ·rename_i hc;obtain ⟨hb, h⟩ := h
    have hb : b ≠ 0 := by rw [Ar.cmp_eq] at hb; simpa [Dn] using hb
    exact ⟨_, e.trans (Qi hc hb), h⟩
   exact h.elim
  exact h.elim
 ·rename_i a b
  split at h
  ·rename_i hc; exact ⟨_, PB hc, h⟩
  split at h
  ·obtain ⟨hb, h⟩ := h
   have hb : ((a.size + b.size : Nat) : Int) ≤ 9223372036854775807 := by
    rw [Ar.cmp_eq, Ar.slen_eq, Ar.cat_eq] at hb
    have e : (a ++ b).size = a.size + b.size := by simp
    rw [e] at hb
    simpa [Dn] using hb
   refine ⟨_, ?_, h⟩;simp only [Je, JI, Ar.cat_eq];rw [if_neg (by omega)]
  exact h.elim
 ·rename_i a b
  split at h
  ·exact h.elim
  rename_i I hI
  split at h
  ·rename_i hbo;have hbo' := (D6 hT hI).bo hbo
   split at h
   ·exact ⟨_, by simp only [Je, hbo', if_true, Ar.beq_eq], h⟩
   ·exact ⟨_, by simp only [Je, hbo', if_true, Ar.beq_eq, Ar.nt_eq], h⟩
   exact h.elim
  exact h.elim
 ·rename_i xs ys
  split at h
  ·exact h.elim
  rename_i I hI;have ok := D6 hT hI
  split at h
  ·rename_i hc;obtain ⟨h1, h2, h3⟩ := hc
   have hek : Cx P 9 t = some (xs.map kd) := by
    have := ok.ek
    rw [h2] at this
    exact this
   have hcond : Nw P t = some true ∧ Cx P 9 t = some (xs.map kd) ∧ ys.map kd = xs.map kd := ⟨by rw [ok.ag, h1], hek, h3⟩;cases op <;> try exact h.elim
   ·cases hx : UJ xs ys with
    | none => simp only [hx] at h
    | some b =>
     simp only [hx] at h
     rw [Pw] at hx
     exact ⟨_, by simp only [Je]; rw [if_pos hcond]; simp only [hx], h⟩
   cases hx : UJ xs ys with
   | none => simp only [hx] at h
   | some b =>
    simp only [hx] at h
    rw [Pw] at hx
    exact ⟨_, by simp only [Je]; rw [if_pos hcond]; simp only [hx, Ar.nt_eq], h⟩
  exact h.elim
 exact h.elim
theorem LB {op : UnOp} {x : Sl} {k : Sl → Prop} (h : xun op x k) : ∃ s : Sl, unV op x.V = some s.V ∧ k s := by
 unfold xun at h
 split at h
 ·split at h
  ·exact ⟨_, rfl, h⟩
  ·exact ⟨_, by rw [Ar.nt_eq]; rfl, h⟩
  exact h.elim
 ·split at h
  ·exact ⟨_, by rw [Ar.neg_eq]; rfl, h⟩
  exact h.elim
 exact h.elim
theorem NF (hT : EZ P T) {s d : Nat} {x : V} {H : A0} {k : V → Prop} (h : SU (E7 P nt rd) T s d x H k) : ∃ v, (Mk P s d x = some v ∨ Ml P H s d x v) ∧ k v := by
 unfold SU at h
 split at h
 ·rename_i I J hI hJ;have okI := D6 hT hI;have okJ := D6 hT hJ
  split at h
  ·rename_i ki kj n hi hj
   have e1 := okI.ik; rw [hi] at e1
   have e2 := okJ.ik; rw [hj] at e2
   simp only [Y1] at e1 e2
   exact ⟨_, .inl (by simp only [Mk, e1, e2, Ar.wr_eq]), h⟩
  ·rename_i b _
   split at h
   ·rename_i h1 h2;have e1 := Ic (okI.st.trans h1);have e2 := Ic (okJ.st.trans h2);exact ⟨_, .inl (by simp only [Mk, e1, e2]), h⟩
   exact h.elim
  ·obtain ⟨v, h1, h2⟩ := h; exact ⟨v, .inr h1, h2⟩
  ·obtain ⟨v, h1, h2⟩ := h; exact ⟨v, .inr h1, h2⟩
  exact h.elim
 exact h.elim
theorem Hc (hT : EZ P T) {t : Nat} {parts : List (Nat × V)} {k : V → Prop} (h : Px T t parts k) : ∃ v, Ix P t parts = some v ∧ k v := by
 unfold Px at h
 split at h
 ·exact h.elim
 rename_i I hI;have ok := D6 hT hI
 split at h
 ·rename_i cs hz
  have ez := ok.ze; rw [hz] at ez; simp only [Y1] at ez
  split at h
  ·rename_i n e ha
   split at h
   ·exact h.elim
   rename_i J hJ
   split at h
   ·rename_i c hc; exact ⟨_, by simp only [Ix, ok.ar, ha, ez, (D6 hT hJ).sz, hc]; rfl, h⟩
   exact h.elim
  rename_i ha
  split at h
  ·rename_i pl hpl
   have ep := ok.pl; rw [hpl] at ep; simp only [Y1] at ep
   split at h
   ·rename_i c hc;have hc' : FF (pl[·]?) cs parts = some c := hc;exact ⟨_, by simp only [Ix, ok.ar, ha, ez, ep, hc']; rfl, h⟩
   exact h.elim
  exact h.elim
 exact h.elim
theorem Du (hT : EZ P T) {t n : Nat} {parts : List (Nat × V)} {k : V → Prop} (h : Dv T t n parts k) : ∃ v, T9 P t n parts = some v ∧ k v := by
 unfold Dv at h
 split at h
 ·exact h.elim
 rename_i I hI
 split at h
 ·exact h.elim
 rename_i e he
 split at h
 ·exact h.elim
 rename_i J hJ
 split at h
 ·exact h.elim
 rename_i z hz
 have ez := (D6 hT hJ).ze; rw [hz] at ez; simp only [Y1] at ez
 split at h
 ·rename_i hc;refine ⟨_, ?_, h⟩;simp only [T9, (D6 hT hI).sl, he, (D6 hT hJ).sz, ez];rw [if_pos hc]
 exact h.elim
theorem Mw (hT : EZ P T) {t : Nat} {l c : V} {k : V → Prop} (h : Ps T t l c k) : ∃ v, TP P t l c v ∧ k v := by
 unfold Ps at h
 split at h
 ·split at h
  ·exact h.elim
  rename_i I hI
  split at h
  ·exact h.elim
  rename_i e he
  split at h
  ·exact h.elim
  rename_i J hJ
  split at h
  ·exact h.elim
  rename_i z hz
  have ez := (D6 hT hJ).ze; rw [hz] at ez; simp only [Y1] at ez
  split at h
  ·rename_i hc;obtain ⟨h1, h2, h3, h4, rfl, h6, h7⟩ := hc;exact ⟨_, ⟨_, _, _, e, J.sz, J.by_, z, rfl, rfl, by rw [(D6 hT hI).sl, he], (D6 hT hJ).sz, h1, (D6 hT hJ).by_, h2, ez, h3, h4, h6, h7, rfl⟩, h⟩
  exact h.elim
 exact h.elim
theorem Ms (hT : EZ P T) {t : Nat} {v : V} {lo hi mx : Option (Option Int)} {k : V → Prop} (h : Pp (E7 P nt rd) T t v lo hi mx k) :
 ∃ a b c y, lo = some a ∧ hi = some b ∧ mx = some c ∧ JJ P t v a b c = some y ∧ k y := by
 unfold Pp at h
 split at h
 ·rename_i a b c;refine ⟨a, b, c, ?_⟩
  split at h
  ·exact h.elim
  rename_i I hI
  split at h
  ·rename_i e he
   split at h
   ·exact h.elim
   rename_i J hJ
   split at h
   ·obtain ⟨hc, h⟩ := h;refine ⟨_, rfl, rfl, rfl, ?_, h⟩;simp only [JJ, (D6 hT hI).sl, he, (D6 hT hJ).sz];rw [if_pos hc]
   exact h.elim
  exact h.elim
 exact h.elim
theorem Li (hT : EZ P T) {t id : Nat} {l0 n : Int} {lo hi mx : Option (Option Int)} {k : V → Prop} (h : Mt (E7 P nt rd) T t H id l0 n lo hi mx k) :
 ∃ a b c y, lo = some a ∧ hi = some b ∧ mx = some c ∧ Ff P H t (.own id l0 n) a b c = some y ∧ k y := by
 unfold Mt at h
 split at h
 ·rename_i a b c;refine ⟨a, b, c, ?_⟩
  split at h
  ·exact h.elim
  rename_i I hI
  split at h
  ·rename_i e he
   split at h
   ·exact h.elim
   rename_i J hJ;obtain ⟨xs, hk, hc, h⟩ := h;refine ⟨_, rfl, rfl, rfl, ?_, h⟩;simp only [Ff, (D6 hT hI).sl, he, (D6 hT hJ).sz, BD, hk];rw [if_pos ⟨trivial, hc⟩];rfl
  exact h.elim
 exact h.elim
theorem EV (hT : EZ P T) {b : Builtin} {ts : List TypeId} {vs : List V} {k : V → Prop} (h : HX (E7 P nt rd) T b ts vs k) : ∃ v, BC P b ts vs v ∧ k v := by
 unfold HX at h
 split at h
 ·rename_i t x
  split at h
  ·exact h.elim
  rename_i I hI;have ok := D6 hT hI
  split at h
  ·rename_i e he
   split at h
   ·exact ⟨_, by simp only [BC, Si, ok.sl, he], h⟩
   exact h.elim
  rename_i he
  split at h
  ·rename_i n e ha;exact ⟨_, by simp only [BC, Si, ok.sl, he, ok.ar, ha, Ar.ofN_eq], h⟩
  rename_i ha
  split at h
  ·split at h
   ·rename_i hs;exact ⟨_, by simp only [BC, Si, ok.sl, he, ok.ar, ha, ok.st, hs, if_true, Ar.slen_eq], h⟩
   exact h.elim
  exact h.elim
 ·split at h
  ·rename_i hk; rw [Ar.mx_eq] at h; exact ⟨_, ⟨hk, rfl⟩, h⟩
  exact h.elim
 ·split at h
  ·rename_i hk; rw [Ar.mn_eq] at h; exact ⟨_, ⟨hk, rfl⟩, h⟩
  exact h.elim
 ·rename_i sT yT xs tl ys tl'
  split at h
  ·rename_i I I2 hI hI2
   split at h
   ·rename_i e e2 he he2
    split at h
    ·rename_i J hJ
     split at h
     ·rename_i z hz
      have ez := (D6 hT hJ).ze; rw [hz] at ez; simp only [Y1] at ez
      split at h
      ·rename_i hc;obtain ⟨c1, c2, c3, c4, c5⟩ := hc;obtain ⟨xs', ys', l1, l2, k1, k2, k3, k4⟩ := h;refine ⟨_, ⟨?_, e, J.sz, J.by_, z, xs', ys', (D6 hT hI).sl.trans he, by rw [(D6 hT hI2).sl, he2]; rfl, (D6 hT hJ).sz, c1, (D6 hT hJ).by_, c2, ez, c3, c4, l1, l2, k1, k2, k3, rfl⟩, k4⟩;cases tl <;> first | exact .inl rfl | exact .inr rfl | cases c5
      exact h.elim
     exact h.elim
    exact h.elim
   exact h.elim
  exact h.elim
 exact h.elim
theorem ID {t : Bool} {x y : Sl} {k : Sl → Prop} (h : SO (E7 P nt rd) t x y k) : ∃ s : Sl, (t = true → s.V = x.V) ∧ (t = false → s.V = y.V) ∧ k s := by
 unfold SO at h
 split at h
 ·exact ⟨_, fun _ => rfl, fun _ => rfl, h⟩
 ·exact ⟨_, fun e => (by simp [Sl.V, e]), fun e => (by simp [Sl.V, e]), h⟩
 ·exact ⟨_, fun e => (by simp [Sl.V, Ar.or_eq, e]), fun e => (by simp [Sl.V, Ar.or_eq, e]), h⟩
 ·exact ⟨_, fun e => (by simp [Sl.V, Ar.nt_eq, e]), fun e => (by simp [Sl.V, Ar.nt_eq, e]), h⟩
 ·exact ⟨_, fun _ => rfl, fun _ => rfl, h⟩
 ·exact ⟨_, fun e => (by simp [Sl.V, Ar.nt_eq, Ar.an_eq, e]), fun e => (by simp [Sl.V, Ar.nt_eq, Ar.an_eq, e]), h⟩
 ·exact ⟨_, fun e => (by simp [Sl.V, Ar.nt_eq, Ar.or_eq, e]), fun e => (by simp [Sl.V, Ar.nt_eq, Ar.or_eq, e]), h⟩
 ·exact ⟨_, fun e => (by simp [Sl.V, Ar.an_eq, e]), fun e => (by simp [Sl.V, Ar.an_eq, e]), h⟩
 ·exact ⟨_, fun e => (by simp [Sl.V, Ar.pk_eq, e]), fun e => (by simp [Sl.V, Ar.pk_eq, e]), h⟩
 obtain ⟨h1, h2⟩ := h;cases t
 ·exact ⟨y, fun e => (by cases e), fun _ => rfl, h2 rfl⟩
 exact ⟨x, fun _ => rfl, fun e => (by cases e), h1 rfl⟩
theorem Fa.arm {G : List (Nat × Bool)} (hG : Fa G l) {c : Operand} {w : Bool} (h : ev (E3 ⟨l, df⟩) c = .bool w) : Fa (Xj c w G) l := by
 cases c with
 | tmp d =>
  refine hG.add ?_;have : Z4 l d = .bool w := h;rw [this]; simp [Qh]
 | const _ => exact hG
 | global _ => exact hG
 | func _ => exact hG
theorem IE (hT : EZ P T) {b : Builtin} {ts : List TypeId} {vs : List V} {w : V} {k : V → Prop} (hid : PW b vs = some w) (h : SR (E7 P nt rd) T b ts H w k) : ∃ v, GN P H b ts vs v ∧ k v := by
 unfold PW at hid
 unfold SR at h
 split at hid
 ·cases hid
  split at h
  ·split at h
   ·exact h.elim
   rename_i I hI
   split at h
   ·rename_i e he;exact ⟨_, by simp only [GN, VG, (D6 hT hI).sl, he], h⟩
   exact h.elim
  exact h.elim
 ·cases hid
  split at h
  ·split at h
   ·exact h.elim
   rename_i I hI
   split at h
   ·rename_i e he
    split at h
    ·rename_i e1; cases e1
    ·obtain ⟨sz, xs, hk, h⟩ := h;exact ⟨_, by simp only [GN, Qx, (D6 hT hI).sl, he, BD, hk]; rfl, h⟩
    ·exact ⟨_, by simp only [GN, Qx, (D6 hT hI).sl, he], h⟩
    ·exact ⟨_, by simp only [GN, Qx, (D6 hT hI).sl, he], h⟩
    exact h.elim
   exact h.elim
  exact h.elim
 cases hid
theorem GZ (hT : EZ P T) {G : List (Nat × Bool)} (hG : Fa G l) {o : Oper} {k : Sl → Prop} (h : xq (E7 P nt rd) T G o l H k) : ∃ s : Sl, GG P o (ev (E3 ⟨l, df⟩)) H s.V ∧ k s := by
 have E : ∀ x, (K6 G l x).V = ev (E3 ⟨l, df⟩) x := fun x => Bt hG x;have Em : ∀ xs : List Operand, (xs.map fun x => (K6 G l x).V) = xs.map (ev (E3 ⟨l, df⟩)) := fun xs => List.map_congr_left fun p _ => E p
 have Eo : ∀ x : Option Operand, (x.map fun x => (K6 G l x).V) = x.map (ev (E3 ⟨l, df⟩)) := fun x => by cases x <;> simp [E]
 have Ep : ∀ ps : List (Nat × Operand), (ps.map fun p => (p.1, (K6 G l p.2).V)) = ps.map fun p => (p.1, ev (E3 ⟨l, df⟩) p.2) := fun ps => List.map_congr_left fun p _ => by rw [E]
 unfold xq at h
 unfold GG
 split at h <;> rename_i ho <;> simp only [ho]
 ·exact ⟨_, E _, h⟩
 ·exact ⟨_, E _, h⟩
 ·rename_i c x y
  split at h
  ·rename_i hc
   have : ev (E3 ⟨l, df⟩) c = .bool true := by rw [← E, hc]; rfl
   exact ⟨_, by simp only [this, if_true]; exact E _, h⟩
  ·rename_i hc
   have : ev (E3 ⟨l, df⟩) c = .bool false := by rw [← E, hc]; rfl
   exact ⟨_, by simp only [this]; exact E _, h⟩
  ·rename_i b hc
   have hb : ev (E3 ⟨l, df⟩) c = .bool b := by rw [← E, hc]; rfl
   obtain ⟨s, h1, h2, h3⟩ := ID h;refine ⟨s, ?_, h3⟩;simp only [hb];cases b
   ·simp only [Bool.false_eq_true, if_false]; rw [h2 rfl]; exact Bt (hG.arm hb) _
   simp only [if_true]; rw [h1 rfl]; exact Bt (hG.arm hb) _
  exact h.elim
 ·split at h
  ·rename_i h1; rw [E] at h1; exact ⟨_, ⟨h1, by rw [E]; rfl⟩, h⟩
  exact h.elim
 ·obtain ⟨v, h1, h2⟩ := Hc hT h
  rw [Ep] at h1; exact ⟨.v v, h1, h2⟩
 ·obtain ⟨v, h1, h2⟩ := Du hT h
  rw [Ep] at h1; exact ⟨.v v, h1, h2⟩
 ·obtain ⟨v, h1, h2⟩ := Mw hT h
  rw [E, E] at h1; exact ⟨.v v, h1, h2⟩
 ·obtain ⟨v, h1, h2⟩ := Fb hT h
  rw [E] at h1; exact ⟨.v v, h1, h2⟩
 ·split at h
  ·rename_i h1; rw [E] at h1; exact ⟨_, ⟨h1, E _⟩, h⟩
  exact h.elim
 ·obtain ⟨v, h1, h2⟩ := Jz hT h
  rw [E, E] at h1; exact ⟨.v v, h1, h2⟩
 ·obtain ⟨s, h1, h2⟩ := LB h
  rw [E] at h1; exact ⟨s, h1, h2⟩
 ·obtain ⟨v, h1, h2⟩ := NF hT h
  rw [E] at h1; exact ⟨.v v, h1, h2⟩
 ·obtain ⟨v, h1, h2⟩ := h
  rw [E, E] at h1; exact ⟨.v v, h1, h2⟩
 ·split at h
  ·rename_i I hI
   split at h
   ·rename_i hn; exact ⟨_, ⟨(D6 hT hI).nif hn, by rw [E]; rfl⟩, h⟩
   exact h.elim
  exact h.elim
 ·exact ⟨_, by rw [Em, Em]; rfl, h⟩
 ·split at h
  ·rename_i id l0 n hx;obtain ⟨a, b, c, y, h1, h2, h3, h4, h5⟩ := Li hT h
   rw [Eo] at h1 h2 h3
   rw [E] at hx
   exact ⟨.v y, by simp only [h1, h2, h3, hx]; exact .inr h4, h5⟩
  obtain ⟨a, b, c, y, h1, h2, h3, h4, h5⟩ := Ms hT h
  rw [Eo] at h1 h2 h3
  rw [E] at h4
  exact ⟨.v y, by simp only [h1, h2, h3]; exact .inl h4, h5⟩
 ·obtain ⟨v, h1, h2⟩ := DX hT h
  rw [E] at h1; exact ⟨.v v, h1, h2⟩
 ·obtain ⟨v, h1, h2⟩ := Hb hT h
  rw [E] at h1; exact ⟨.v v, h1, h2⟩
 ·split at h
  ·rename_i id lo n hx
   unfold Wm at h
   split at h
   ·rename_i i hi
    split at h
    ·exact h.elim
    rename_i I hI
    split at h
    ·rename_i e he
     split at h
     ·exact h.elim
     rename_i J hJ;obtain ⟨⟨xs, hk⟩, hb, h⟩ := h
     rw [E] at hx hi
     refine ⟨.v _, ?_, h⟩;simp only [hi, hx];refine .inr ?_;simp only [Qk, (D6 hT hI).sl, he, BD, hk, (D6 hT hJ).sz, Ar.ofs_eq];rw [if_pos ⟨hb, trivial⟩]; rfl
    exact h.elim
   exact h.elim
  obtain ⟨ki, j, u, y, h1, h2, h4, h3⟩ := HW hT h
  rw [E] at h1 h2
  exact ⟨.v y, by simp only [h1]; exact .inl ⟨u, h2, h4⟩, h3⟩
 ·obtain ⟨ki, j, y, h1, h2, h3⟩ := Mx hT h
  rw [E] at h1 h2
  exact ⟨.v y, by simp only [h1]; exact h2, h3⟩
 ·split at h
  ·rename_i cs hc
   rw [E] at hc
   obtain ⟨y, h1, h2⟩ := Ao h;exact ⟨.v y, by simp only [hc]; exact h1, h2⟩
  exact h.elim
 ·rename_i c
  split at h
  ·rename_i b hb
   split at h
   ·rename_i w hid
    rw [Em] at hid
    obtain ⟨v, h1, h2⟩ := IE hT hid h;exact ⟨.v v, by simp only [hb]; exact .inr h1, h2⟩
   obtain ⟨v, h1, h2⟩ := EV hT h
   rw [Em] at h1
   exact ⟨.v v, by simp only [hb]; exact .inl h1, h2⟩
  exact h.elim
 exact h.elim
end
end Go.Ab
namespace Go.Ab
open Go.RowKit
variable [H5] [Ar]
def AL (d : Option Tmp) (s : Sl) (l : Fl) : Fl :=
 match d with
 | some d => (d, s) :: l
 | none => l
section
variable (E : CU) (T : Dt) (nt : Nat) (A : Nat → Bool) (Z : Nat → List Nat)
def QG (H : A0) (k : V → A0 → Prop) (ts : List TypeId) (vs : List V) : Prop :=
 match ts, vs with
 | [sT, yT], [.sl xs tl, .sl ys _] =>
  (match tg T sT, tg T yT with
   | some I, some I2 =>
    (match I.sl, I2.sl with
     | some e, some _ =>
      (match tg T e with
       | some J =>
        (match J.ze with
         | some z => if 0 < J.sz ∧ 0 < J.by_ ∧ z.one = true ∧ z.cells.length = J.sz then E.appn J.sz J.by_ H tl xs ys k else False
         | none => False)
       | none => False)
     | _, _ => False)
   | _, _ => False)
 | _, _ => False
def NG (H : A0) (k : V → A0 → Prop) (ts : List TypeId) (vs : List V) : Prop :=
 match ts, vs with
 | [sT, yT], [.sl xs tl, .sl ys _] =>
  (match tg T sT, tg T yT with
   | some I, some I2 =>
    (match I.sl, I2.sl with
     | some e, some _ =>
      (match tg T e with
       | some J =>
        (match J.ze with
         | some z => if 0 < J.sz ∧ 0 < J.by_ ∧ z.one = true ∧ z.cells.length = J.sz then E.appw J.sz J.by_ H tl xs ys k else False
         | none => False)
       | none => False)
     | _, _ => False)
   | _, _ => False)
 | _, _ => False
def Tz (a : Bool) (vs : List V) : Bool :=
 match vs with
 | .own _ _ _ :: _ => true
 | _ => a
def NH (H : A0) (k : V → A0 → Prop) (ts : List TypeId) (vs : List V) : Prop :=
 match ts, vs with
 | [sT, yT], [x, y] =>
  (match tg T sT, tg T yT with
   | some I, some I2 =>
    (match I.sl with
     | some e =>
      (match tg T e with
       | some J =>
        (match J.ze with
         | some z =>
          if 0 < J.sz ∧ 0 < J.by_ ∧ z.one = true ∧ z.cells.length = J.sz then
           (match I2.sl, I2.ik, y with
            | some _, _, y => E.oapp J.sz J.by_ z H x y k
            | none, some _, .int _ m => E.oappz J.sz J.by_ z H x m k
            | _, _, _ => False)
          else False
         | none => False)
       | none => False)
     | _ => False)
   | _, _ => False)
 | _, _ => False
def Wp (H : A0) (k : V → A0 → Prop) (ts : List TypeId) (vs : List V) : Prop :=
 match ts, vs with
 | [sT, _], [.own id lo n, y] =>
  (match tg T sT with
   | some I =>
    (match I.sl with
     | some e => (match tg T e with | some J => if 0 < J.sz then E.ocopy J.sz H (.own id lo n) y k else False | none => False)
     | _ => False)
   | _ => False)
 | _, _ => False
def SV (H : A0) (k : V → A0 → Prop) (ts : List TypeId) (vs : List V) : Prop :=
 match ts, vs with
 | [sT], [.own id lo n] =>
  (match tg T sT with
   | some I =>
    (match I.sl with
     | some e =>
      (match tg T e with
       | some J => (match J.ze with | some z => if 0 < J.sz ∧ z.one = true ∧ z.cells.length = J.sz then E.oclear J.sz z H (.own id lo n) fun H' => k (.tup []) H' else False | none => False)
       | none => False)
     | _ => False)
   | _ => False)
 | _, _ => False
def Wn (t : Nat) (H : A0) (k : V → A0 → Prop) (l c : V) : Prop :=
 match l, c with
 | .int _ n, .int _ m =>
  (match tg T t with
   | some I =>
    (match I.sl with
     | some e =>
      (match tg T e with
       | some J =>
        (match J.ze with
         | some z => if 0 < J.sz ∧ 0 < J.by_ ∧ z.one = true ∧ z.cells.length = J.sz then E.omk J.sz J.by_ z n m H k else False
         | none => False)
       | none => False)
     | none => False)
   | none => False)
 | _, _ => False
def UP (t : Nat) (H : A0) (k : Sl → A0 → Prop) : Prop :=
 match tg T t with
 | some I => (match I.sl with | some e => (match tg T e with | some J => E.onil J.sz H fun v H' => k (.v v) H' | none => False) | none => False)
 | none => False
def Xz (t n : Nat) (H : A0) (parts : List (Nat × V)) (k : Sl → A0 → Prop) : Prop :=
 match tg T t with
 | none => False
 | some I =>
  match I.sl with
  | none => False
  | some e =>
   match tg T e with
   | none => False
   | some J =>
    match J.ze with
    | none => False
    | some _ => if n * J.sz ≤ 16777216 ∧ parts.length = n ∧ Aa J.sz 0 parts = true then E.olit J.sz H (parts.map fun q => q.2) fun v H' => k (.v v) H' else False
def SQ (G : List (Nat × Bool)) (o : Oper) (l : Fl) (H : A0) (k : Sl → A0 → Prop) : Prop :=
 match o.op with
 | .alloc t =>
  (match tg T t with
   | some I =>
    (match I.ze with
     | some z =>
      (match A (o.dst.getD 0 + 5000000), FA z with
       | true, true => (match I.sl with | some e => (match tg T e with | some J => E.oalloc J.sz H fun id H' => k (.v (.ref id 0)) H' | none => False) | none => False)
       | _, _ => (match z.one with | true => E.alloc H z.cells fun id H' => (match A (o.dst.getD 0 + 10000000) with | true => E.wkB H' id fun H2 => k (.v (.ref id 0)) H2 | false => k (.v (.ref id 0)) H') | false => False))
     | none => False)
   | none => False)
 | .box _ x =>
  match A (o.dst.getD 0 + 1000000) with
  | true => E.need ((K6 G l x).V.one = true ∧ (K6 G l x).V.cells = [(K6 G l x).V]) fun _ => (match A (o.dst.getD 0) with | true => E.alloc H [(K6 G l x).V] fun id H' => k (.v (.ref id 0)) H' | false => k (.v (.eref [(K6 G l x).V] 0)) H)
  | false =>
  (match (K6 G l x).V.one with
   | true => (match A (o.dst.getD 0) with | true => E.alloc H (K6 G l x).V.cells fun id H' => k (.v (.ref id 0)) H' | false => k (.v (.eref (K6 G l x).V.cells 0)) H)
   | false => False)
 | .store t x y =>
  (match tg T t with
   | some I =>
    (match (K6 G l x).V with
     | .ref id off =>
      (match (K6 G l y).V.one with
       | true =>
        (match Nat.beq (K6 G l y).V.cells.length I.sz with
         | true => E.store H id off I.sz (K6 G l y).V.cells fun H' => k (.v .bad) H'
         | false => False)
       | false => False)
     | .elem id i esz off => E.ostore H id i esz I.sz off (K6 G l y).V fun H' => k (.v .bad) H'
     | _ => False)
   | none => False)
 | .binOp op t x y _ =>
  (match Rk op, FA (K6 G l y).V with
   | some q, true => (match tg T t with | some I => (match I.sl with | some _ => E.nilc (K6 G l x).V (fun _ => k (.b q) H) (fun _ => k (.b (!q)) H) | none => xq E T G o l H fun s => k s H) | none => False)
   | _, _ => xq E T G o l H fun s => k s H)
 | .makeSlice t x y => Wn E T t H (fun v H' => k (.v v) H') (K6 G l x).V (K6 G l y).V
 | .assign x => (match A (o.dst.getD 0 + 6000000), VK x with | true, true => (match FA (K6 G l x).V with | true => UP E T o.type H k | false => k (K6 G l x) H) | _, _ => k (K6 G l x) H)
 | .move x => (match A (o.dst.getD 0 + 6000000), VK x with | true, true => (match FA (K6 G l x).V with | true => UP E T o.type H k | false => k (K6 G l x) H) | _, _ => k (K6 G l x) H)
 | .buildSlice t n ps =>
  (match A (o.dst.getD 0 + 6000000) with
   | true => Xz E T t n H (ps.toList.map fun p => (p.1, (K6 G l p.2).V)) k
   | false => Dv T t n (ps.toList.map fun p => (p.1, (K6 G l p.2).V)) fun v => k (.v v) H)
 | .makeMap _ r => (match r with | none => E.mmk H fun v H' => k (.v v) H' | some _ => False)
 | .mapUpdate t x y z => E.mset t H (K6 G l x).V (K6 G l y).V (K6 G l z).V fun H' => k (.v .bad) H'
 | .insert t x y z => E.mset t H (K6 G l x).V (K6 G l y).V (K6 G l z).V fun H' => k (.v .bad) H'
 | .range t x => E.mrg t H (K6 G l x).V fun v H' => k (.v v) H'
 | .next x s => (match s with | false => E.mnx H (K6 G l x).V fun v H' => k (.v v) H' | true => False)
 | .entry x => E.men H (K6 G l x).V fun v H' => k (.v v) H'
 | .call c =>
  (match c.callee with
   | .value x => E.call (K6 G l x).V (c.args.toList.map fun x => (K6 G l x).V) H fun v H' => k (.v v) H'
   | .builtin .append =>
    (match Tz (A (o.dst.getD 0)) (c.args.toList.map fun x => (K6 G l x).V) with
     | true => NH E T H (fun v H' => k (.v v) H') c.argTypes.toList (c.args.toList.map fun x => (K6 G l x).V)
     | false =>
      (match A (o.dst.getD 0 + 4000000) with
       | true => NG E T H (fun v H' => k (.v v) H') c.argTypes.toList (c.args.toList.map fun x => (K6 G l x).V)
       | false => QG E T H (fun v H' => k (.v v) H') c.argTypes.toList (c.args.toList.map fun x => (K6 G l x).V)))
   | .builtin .copy => Wp E T H (fun v H' => k (.v v) H') c.argTypes.toList (c.args.toList.map fun x => (K6 G l x).V)
   | .builtin .clear => SV E T H (fun v H' => k (.v v) H') c.argTypes.toList (c.args.toList.map fun x => (K6 G l x).V)
   | .builtin .delete => E.mdel c.argTypes.toList H (c.args.toList.map fun x => (K6 G l x).V) fun v H' => k (.v v) H'
   | .builtin _ => xq E T G o l H fun s => k s H
   | _ => False)
 | _ => xq E T G o l H fun s => k s H
def Qf (o o2 : Oper) : Option (Nat × TypeId × TypeId × Operand) :=
 match o.op, o.dst, o.guard with
 | .alloc t, some d, none =>
  (match o2.op, o2.dst, o2.guard with
   | .store t2 (.tmp d2) x, none, none =>
    (match A d, Nat.beq d d2 with
     | false, true => (match x with | .tmp d3 => (match Nat.beq d d3 with | true => none | false => some (d, t, t2, x)) | _ => some (d, t, t2, x))
     | _, _ => none)
   | _, _, _ => none)
 | _, _, _ => none
def Wu (l : Fl) (t t2 : TypeId) (x : Operand) : Option (List V) :=
 match tg T t, tg T t2 with
 | some I, some I2 =>
  (match I.ze with
   | some z => if z.one = true ∧ (K6 [] l x).V.one = true ∧ (K6 [] l x).V.cells.length = I2.sz ∧ I2.sz ≤ z.cells.length then some (L8 z.cells 0 (K6 [] l x).V.cells) else none
   | none => none)
 | _, _ => none
def CV (ops : Array Oper) (o : Oper) : Nat → Fl → (List (Nat × Bool) → Fl → (Sl → Sl) → Prop) → (Fl → Prop) → Prop
 | n, l, go, skip =>
  match o.guard with
  | none => go [] l Sl.n
  | some (j, want) =>
   (match (ops[j]?).bind (·.dst) with
    | none => False
    | some d =>
     (match Oq [] l d with
      | some (.b c) => (match c == want with | true => go [] l Sl.n | false => skip l)
      | some (.v (.bool c)) =>
       (match Fz [(d, want)] o l with
        | true => go [(d, want)] l fun s => .g d want s.V
        | false =>
         E.br c (fun _ => match want with | true => go [] (GB l d true) Sl.n | false => skip (GB l d true))
          (fun _ => match want with | false => go [] (GB l d false) Sl.n | true => skip (GB l d false)))
      | some (.v (.tup _)) => skip l
      | some _ => False
      | none =>
       (match lk l d with
        | .g j' _ (.bool _) =>
         (match Sp l d j' with
          | true =>
           (match Fz [(d, want)] o l with
            | true => go [(d, want)] l fun s => .g d want s.V
            | false =>
             (match lk l j', n with
              | .v (.bool c), n + 1 => E.br c (fun _ => CV ops o n (GB l j' true) go skip) (fun _ => CV ops o n (GB l j' false) go skip)
              | _, _ => False))
          | false => False)
        | _ => False)))
def Jd : Option (Nat × Int × Int × List V) → List Nat → Fl → A0 → (Fl → A0 → Prop) → Prop
 | _, [], l, H, k => k l H
 | some (id, lo, n, xs), d :: ds, l, H, k =>
  (match lk l d with
   | .v (.own id' lo' n') => E.need (id' = id ∧ lo' = lo ∧ n' = n) fun _ => Jd (some (id, lo, n, xs)) ds ((d, .v (.sl xs .ro)) :: l) H k
   | _ => Jd none ds l H k)
 | none, d :: ds, l, H, k =>
  match decide (1000000 ≤ d) with
  | true =>
   (match lk l (d % 1000000) with
    | .v (.ref id 0) =>
     (match decide (100000000 ≤ d) with
      | true => E.adoptIn H id ((d - 100000000) / 1000000) fun H' => Jd none ds l H' k
      | false => E.frzIn H id (d / 1000000 - 1) fun H' => Jd none ds l H' k)
    | _ => False)
  | false =>
   match lk l d with
   | .v (.ref id 0) => E.frzL H id fun cs H' => Jd none ds ((d, .v (.eref cs 0)) :: l) H' k
   | .v (.own id lo n) => E.ofrz H id lo n fun xs H' => Jd (some (id, lo, n, xs)) ds ((d, .v (.sl xs .ro)) :: l) H' k
   | .v (.sl _ _) => Jd none ds l H k
   | _ => False
def XO (o : Oper) : List Nat :=
 match o.dst with
 | some q => Z q
 | none => []
def Ha (ops : Array Oper) : List Oper → Fl → A0 → (Fl → A0 → Prop) → Prop
 | [], l, H, K => K l H
 | o :: rest, l, H, K =>
  match CD nt o.dst with
  | false => False
  | true =>
   Jd E none (XO Z o) l H fun l H =>
   match rest with
   | [] => CV E ops o 4 l (fun G l' wr => SQ E T A G o l' H fun s H' => K (AL o.dst (wr s) l') H') fun l' => K (AL o.dst (.v (.tup [])) l') H
   | o2 :: rest' =>
    (match Qf A o o2 with
     | some (d, t, t2, x) =>
      (match Wu T l t t2 x with
       | some cs => Ha ops rest' ((d, .v (.eref cs 0)) :: l) H K
       | none => False)
     | none => CV E ops o 4 l (fun G l' wr => SQ E T A G o l' H fun s H' => Ha ops (o2 :: rest') (AL o.dst (wr s) l') H' K) fun l' => Ha ops (o2 :: rest') (AL o.dst (.v (.tup [])) l') H K)
end
section
variable {P : Program} {nt : Nat} {rd : Option Nat} {T : Dt} {A : Nat → Bool} {df : List Nat}
theorem QY (l : Fl) (d t : Nat) (s : Sl) : Z4 ((d, s) :: l) t = if t = d then SJ l s else Z4 l t := by
 simp only [Z4]
 by_cases h : t = d
 ·subst h; simp only [Nat.beq_refl, if_true]; cases s <;> rfl
 have : Nat.beq t d = false := by
  cases hb : Nat.beq t d with
  | false => rfl
  | true => exact absurd (Nat.eq_of_beq_eq_true hb) h
 simp [this, h]
theorem H8 (l : Fl) (d : Option Tmp) (s : Sl) : E3 ⟨AL d s l, df⟩ = (E3 ⟨l, df⟩).put d (SJ l s) := by
 cases d with
 | none => rfl
 | some d =>
  simp only [E3, AL, Fr.put, Fr.mk.injEq, and_true]
  funext t
  exact QY l d t s
theorem Bj {ops : Array Oper} {o : Oper} {go : List (Nat × Bool) → Fl → (Sl → Sl) → Prop} {skip : Fl → Prop} : ∀ (n : Nat) (l : Fl), CV (E7 P nt rd) ops o n l go skip →
 ∃ l', (∀ t, Z4 l' t = Z4 l t) ∧ ((V9 ops (E3 ⟨l, df⟩) o = some true ∧ ∃ G wr, Fa G l' ∧ (∀ s, SJ l' (wr s) = s.V) ∧ go G l' wr) ∨
  (V9 ops (E3 ⟨l, df⟩) o = some false ∧ (skip l' ∨ ∃ G d want, Fz G o l' = true ∧ Qh (Z4 l' d) want = false ∧ go G l' fun s => .g d want s.V)))
 | n, l, h => by
  unfold CV at h
  split at h
  ·rename_i hg;exact ⟨l, fun _ => rfl, .inl ⟨by simp [V9, hg], [], _, Fa.nil, fun s => by cases s <;> rfl, h⟩⟩
  rename_i j want hg
  split at h
  ·exact h.elim
  rename_i d hjd
  have gv : ∀ x, Z4 l d = x → V9 ops (E3 ⟨l, df⟩) o = match x with | .bool c => some (c == want) | .tup _ => some false | _ => none := fun x hx => by
   simp only [V9, hg, hjd, E3, hx]
   try (cases x <;> rfl)
  have idok : ∀ (l' : Fl) (s : Sl), SJ l' s.n = s.V := fun l' s => by cases s <;> rfl
  have tot : ∀ c, Z4 l d = .bool c → Fz [(d, want)] o l = true → go [(d, want)] l (fun s => .g d want s.V) → ∃ l', (∀ t, Z4 l' t = Z4 l t) ∧ ((V9 ops (E3 ⟨l, df⟩) o = some true ∧ ∃ G wr, Fa G l' ∧ (∀ s, SJ l' (wr s) = s.V) ∧ go G l' wr) ∨
   (V9 ops (E3 ⟨l, df⟩) o = some false ∧ (skip l' ∨ ∃ G d want, Fz G o l' = true ∧ Qh (Z4 l' d) want = false ∧ go G l' fun s => .g d want s.V))) := by
   intro c hc ht h;have := gv _ hc
   simp only at this
   cases hcw : c == want with
   | true => exact ⟨l, fun _ => rfl, .inl ⟨by rw [this, hcw], _, _, Fa.nil.add (by rw [hc]; simp only [Qh, hcw]), fun s => by simp only [SJ, hc, Qh, hcw, cond_true], h⟩⟩
   | false => exact ⟨l, fun _ => rfl, .inr ⟨by rw [this, hcw], .inr ⟨_, d, want, ht, by rw [hc]; simp only [Qh, hcw], h⟩⟩⟩
  split at h
  ·rename_i c hc;have hv : Z4 l d = .bool c := (Fp Fa.nil hc).1.symm;have := gv _ hv
   split at h
   ·rename_i e; exact ⟨l, fun _ => rfl, .inl ⟨by rw [this]; simp only [e], [], _, Fa.nil, idok l, h⟩⟩
   rename_i e; exact ⟨l, fun _ => rfl, .inr ⟨by rw [this]; simp only [e], .inl h⟩⟩
  ·rename_i c hc;have hv : Z4 l d = .bool c := (Fp Fa.nil hc).1.symm;have hgv := gv _ hv
   split at h
   ·rename_i ht; exact tot c hv ht h
   have e := Jl l d c hv;obtain ⟨h1, h2⟩ := h;cases c
   ·have h := h2 rfl;cases want
    ·exact ⟨_, e, .inl ⟨hgv, [], _, Fa.nil, idok _, h⟩⟩
    exact ⟨_, e, .inr ⟨hgv, .inl h⟩⟩
   have h := h1 rfl;cases want
   ·exact ⟨_, e, .inr ⟨hgv, .inl h⟩⟩
   exact ⟨_, e, .inl ⟨hgv, [], _, Fa.nil, idok _, h⟩⟩
  ·rename_i vs hc;have hv : Z4 l d = .tup vs := (Fp Fa.nil hc).1.symm;exact ⟨l, fun _ => rfl, .inr ⟨gv _ hv, .inl h⟩⟩
  ·exact h.elim
  split at h
  ·rename_i j' w' cx hl
   split at h
   ·rename_i hf;have hv := Nl l d j' w' _ hl hf
    split at h
    ·rename_i ht
     cases hb : Qh (Z4 l j') w' with
     | true =>
      rw [hb] at hv
      exact tot cx hv ht h
     | false =>
      rw [hb] at hv
      have hv : Z4 l d = .tup [] := hv;exact ⟨l, fun _ => rfl, .inr ⟨gv _ hv, .inr ⟨_, d, want, ht, by rw [hv]; rfl, h⟩⟩⟩
    split at h
    ·rename_i c m hc;have hvj := Fy l j' _ hc (fun _ _ _ h => by cases h);obtain ⟨h1, h2⟩ := h
     have key : ∀ b, c = b → CV (E7 P nt rd) ops o m (GB l j' b) go skip → ∃ l', (∀ t, Z4 l' t = Z4 l t) ∧ ((V9 ops (E3 ⟨l, df⟩) o = some true ∧ ∃ G wr, Fa G l' ∧ (∀ s, SJ l' (wr s) = s.V) ∧ go G l' wr) ∨
      (V9 ops (E3 ⟨l, df⟩) o = some false ∧ (skip l' ∨ ∃ G d want, Fz G o l' = true ∧ Qh (Z4 l' d) want = false ∧ go G l' fun s => .g d want s.V))) := by
      intro b hb h
      have hk : Z4 l j' = .bool b := by rw [hvj, hb]; rfl
      have e := Jl l j' b hk;obtain ⟨l', e', h⟩ := Bj m _ h
      rw [Ir hk] at h
      exact ⟨l', fun t => (e' t).trans (e t), h⟩
     cases c
     ·exact key false rfl (h2 rfl)
     exact key true rfl (h1 rfl)
    exact h.elim
   exact h.elim
  exact h.elim
theorem G9.whole {y : V} {vs : List V} (h : G9 y.cells vs) (h1 : y.one = true) : ∃ z, Z6 y z ∧ z.cells = vs := by
 have one : ∀ {y : V} {vs : List V}, G9 [y] vs → (∀ z, Z6 y z → z.cells = [z]) → ∃ z, Z6 y z ∧ z.cells = vs := by
  intro y vs h hz
  cases h with
  | cons q r => cases r; exact ⟨_, q, hz _ q⟩
 cases y with
 | agg cs => exact ⟨.agg vs, .agg h, rfl⟩
 | tup vs => cases h1
 | _ => exact one h fun z hz => by cases hz <;> rfl
theorem HV (hT : EZ P T) {G : List (Nat × Bool)} {o : Oper} {l : Fl} (hG : Fa G l) {H : A0} {k : Sl → A0 → Prop} (h : SQ (E7 P nt rd) T A G o l H k) : Dr P A o (ev (E3 ⟨l, df⟩)) H fun v H' => ∃ s : Sl, v = s.V ∧ k s H' := by
 have E : ∀ x, (K6 G l x).V = ev (E3 ⟨l, df⟩) x := fun x => Bt hG x;have Em : ∀ xs : List Operand, (xs.map fun x => (K6 G l x).V) = xs.map (ev (E3 ⟨l, df⟩)) := fun xs => List.map_congr_left fun p _ => E p
 have quiet : xq (E7 P nt rd) T G o l H (fun s => k s H) → ∃ v, GG P o (ev (E3 ⟨l, df⟩)) H v ∧ ∃ s : Sl, v = s.V ∧ k s H := fun h => by
  obtain ⟨s, h1, h2⟩ := GZ (df := df) hT hG h;exact ⟨_, h1, s, rfl, h2⟩
 unfold SQ at h
 split at h
 ·rename_i t ho;simp only [Dr, ho]
  split at h
  ·rename_i I hI
   split at h
   ·rename_i z hz
    have ez := (D6 hT hI).ze; rw [hz] at ez; simp only [Y1] at ez
    split at h
    ·rename_i hA hn
     split at h
     ·split at h
      ·rename_i J _
       have e2 : z = .sl [] .nil := by
        unfold FA at hn
        split at hn
        ·rfl
        cases hn
       rw [e2] at ez
       exact .inr ⟨ez, J.sz, fun q id hq hid => ⟨.v (.ref id 0), rfl, h q id hq hid⟩⟩
      exact h.elim
     exact h.elim
    split at h
    ·rename_i h1;refine .inl ⟨z, ez, h1, fun id hid => ?_⟩;have h := h id hid
     split at h
     ·obtain ⟨cs, ds, q1, q2, q3⟩ := h
      rw [A9] at q1; cases q1
      rw [Q9] at q3
      exact ⟨ds, q2, .v (.ref id 0), rfl, q3⟩
     exact ⟨_, .refl _, .v (.ref id 0), rfl, h⟩
    exact h.elim
   exact h.elim
  exact h.elim
 ·rename_i t x ho;simp only [Dr, ho]
  split at h
  ·rw [E] at h
   obtain ⟨⟨h1, h2⟩, h⟩ := h;refine ⟨h1, ?_⟩;rw [h2]
   split at h
   ·rename_i hA;rw [if_pos hA];exact fun id hid => ⟨.v (.ref id 0), rfl, h id hid⟩
   rename_i hA;rw [if_neg (by rw [hA]; simp)];exact ⟨.v (.eref _ 0), rfl, h⟩
  split at h
  ·rename_i h1
   rw [E] at h1
   refine ⟨h1, ?_⟩
   split at h
   ·rename_i hA;rw [if_pos hA];intro id hid;have := h id hid
    rw [E] at this
    exact ⟨.v (.ref id 0), rfl, this⟩
   rename_i hA;rw [if_neg (by rw [hA]; simp)]
   rw [E] at h
   exact ⟨.v (.eref _ 0), rfl, h⟩
  exact h.elim
 ·rename_i t x y ho;simp only [Dr, ho]
  split at h
  ·rename_i I hI
   split at h
   ·rename_i id off hx
    split at h
    ·rename_i h1
     split at h
     ·rename_i h2;obtain ⟨cs, vs', hle, hk, h3, h⟩ := h
      rw [E] at hx h1 h2 hle
      obtain ⟨z, hz, hzc⟩ := hle.whole h1;subst hzc;refine .inl ⟨z, _, hz, ?_, .v .bad, rfl, h⟩;simp only [Gz, (D6 hT hI).sz, hx, hk];rw [if_pos ⟨hz.one h1, by rw [← hz.cells.length]; exact Nat.eq_of_beq_eq_true h2, Nat.le_of_ble_eq_true h3⟩]
     exact h.elim
    exact h.elim
   ·rename_i id i esz off hx;obtain ⟨xs, y', q1, q2, q3, q4, q5, q6, h⟩ := h
    rw [E] at hx q1
    refine .inr ⟨y', _, q1, ?_, .v .bad, rfl, h⟩;simp only [MC, (D6 hT hI).sz, hx, BD, q5];rw [if_pos ⟨q6, trivial, q2, q3, q4⟩]
   exact h.elim
  exact h.elim
 ·rename_i op t x y ty ho
  have old : xq (E7 P nt rd) T G o l H (fun s => k s H) → Dr P A o (ev (E3 ⟨l, df⟩)) H fun v H' => ∃ s : Sl, v = s.V ∧ k s H' := fun h => by
   obtain ⟨v, h1, h2⟩ := quiet h;simp only [Dr, ho];exact .inl ⟨v, h1, h2⟩
  split at h
  ·rename_i q hq hn
   split at h
   ·rename_i I hI
    split at h
    ·rename_i e he;obtain ⟨p, h1, h2, h3⟩ := h
     rw [E] at h1 hn
     simp only [Dr, ho];refine .inr ⟨q, e, p, hq, (D6 hT hI).sl.trans he, h1, ?_, fun hx => ⟨.b q, rfl, h2 hx⟩, ⟨.b (!q), rfl, h3⟩⟩
     unfold FA at hn
     split at hn
     ·assumption
     cases hn
    exact old h
   exact h.elim
  exact old h
 ·rename_i t x y ho;simp only [Dr, ho]
  rw [E, E] at h
  refine .inr ?_
  unfold Wn at h
  unfold IM
  split at h
  ·rename_i k1 n k2 m e1 e2;rw [e1, e2]
   simp only
   split at h
   ·rename_i I hI
    split at h
    ·rename_i e he
     split at h
     ·rename_i J hJ
      split at h
      ·rename_i z hz
       have ez := (D6 hT hJ).ze; rw [hz] at ez; simp only [Y1] at ez
       split at h
       ·rename_i hc;obtain ⟨c1, c2, c3, c4⟩ := hc;obtain ⟨⟨q1, q2, q3⟩, ys, hle, h⟩ := h;exact ⟨e, J.sz, J.by_, z, (D6 hT hI).sl.trans he, (D6 hT hJ).sz, c1, (D6 hT hJ).by_, c2, ez, c3, c4, q1, q2, q3, fun id hid => ⟨id, J.sz, _, ys, A9 _ _ _, hle, .v _, rfl, by rw [Q9]; exact h id hid⟩⟩
       exact h.elim
      exact h.elim
     exact h.elim
    exact h.elim
   exact h.elim
  exact h.elim
 ·rename_i x ho;simp only [Dr, ho]
  split at h
  ·split at h
   ·rename_i hn
    rw [E] at hn
    unfold UP at h
    split at h
    ·split at h
     ·split at h
      ·rename_i J _;refine .inr ⟨?_, J.sz, fun q hq => ⟨.v _, rfl, h q hq⟩⟩
       unfold FA at hn
       split at hn
       ·assumption
       cases hn
      exact h.elim
     exact h.elim
    exact h.elim
   exact .inl ⟨_, (E x).symm, h⟩
  exact .inl ⟨_, (E x).symm, h⟩
 ·rename_i x ho;simp only [Dr, ho]
  split at h
  ·split at h
   ·rename_i hn
    rw [E] at hn
    unfold UP at h
    split at h
    ·split at h
     ·split at h
      ·rename_i J _;refine .inr ⟨?_, J.sz, fun q hq => ⟨.v _, rfl, h q hq⟩⟩
       unfold FA at hn
       split at hn
       ·assumption
       cases hn
      exact h.elim
     exact h.elim
    exact h.elim
   exact .inl ⟨_, (E x).symm, h⟩
  exact .inl ⟨_, (E x).symm, h⟩
 ·rename_i t n ps ho
  have Ep : ∀ ps : List (Nat × Operand), (ps.map fun p => (p.1, (K6 G l p.2).V)) = ps.map fun p => (p.1, ev (E3 ⟨l, df⟩) p.2) := fun ps => List.map_congr_left fun p _ => by rw [E]
  split at h
  ·simp only [Dr, ho];refine .inr ?_
   rw [Ep] at h
   unfold Xz at h
   split at h
   ·exact h.elim
   rename_i I hI
   split at h
   ·exact h.elim
   rename_i e he
   split at h
   ·exact h.elim
   rename_i J hJ
   split at h
   ·exact h.elim
   rename_i z hz
   have ez := (D6 hT hJ).ze; rw [hz] at ez; simp only [Y1] at ez
   split at h
   ·rename_i hc;obtain ⟨ys, hle, h⟩ := h;refine ⟨e, J.sz, _, ys, ?_, (D6 hT hI).sl.trans he, (D6 hT hJ).sz, hle, fun q hq => ⟨.v _, rfl, h q hq⟩⟩;simp only [T9, (D6 hT hI).sl, he, (D6 hT hJ).sz, ez];rw [if_pos hc]
   exact h.elim
  obtain ⟨v, h1, h2⟩ := Du hT h
  rw [Ep] at h1
  simp only [Dr, ho];exact .inl ⟨v, by simp only [GG, ho]; exact h1, .v v, rfl, h2⟩
 ·rename_i t r ho;simp only [Dr, ho]
  split at h
  ·exact ⟨rfl, LP (K := fun v H' => k (.v v) H') h fun v H' hk => ⟨.v v, rfl, hk⟩⟩
  exact h.elim
 ·rename_i t x y z ho;simp only [Dr, ho]
  rw [E, E, E] at h
  exact CI (K := fun _ H' => k (.v .bad) H') h fun H' hk => ⟨.v .bad, rfl, hk⟩
 ·rename_i t x y z ho;simp only [Dr, ho]
  rw [E, E, E] at h
  exact CI (K := fun _ H' => k (.v .bad) H') h fun H' hk => ⟨.v .bad, rfl, hk⟩
 ·rename_i t x ho;simp only [Dr, ho]
  rw [E] at h
  exact II (K := fun v H' => k (.v v) H') h fun v H' hk => ⟨.v v, rfl, hk⟩
 ·rename_i x s ho;simp only [Dr, ho]
  cases s with
  | true => exact h.elim
  | false =>
   rw [E] at h
   exact ⟨rfl, Ke (K := fun v H' => k (.v v) H') h fun v H' hk => ⟨.v v, rfl, hk⟩⟩
 ·rename_i x ho;simp only [Dr, ho]
  rw [E] at h
  exact IU (K := fun v H' => k (.v v) H') h fun v H' hk => ⟨.v v, rfl, hk⟩
 ·rename_i c ho
  split at h
  ·rename_i x hc;simp only [Dr, ho, hc]
   rw [E, Em] at h
   exact AD.mono h fun v H' hk => ⟨.v v, rfl, hk⟩
  ·rename_i hc;simp only [Dr, ho, hc]
   rw [Em] at h
   split at h
   ·refine .inr (.inl ?_)
    unfold NH at h
    unfold HQ
    split at h
    ·rename_i sT yT x y hts hvs;rw [hts, hvs]
     simp only
     split at h
     ·rename_i I I2 hI hI2
      split at h
      ·rename_i e he
       split at h
       ·rename_i J hJ
        split at h
        ·rename_i z hz
         have ez := (D6 hT hJ).ze; rw [hz] at ez; simp only [Y1] at ez
         split at h
         ·rename_i hc;obtain ⟨c1, c2, c3, c4⟩ := hc;refine ⟨e, J.sz, J.by_, z, (D6 hT hI).sl.trans he, (D6 hT hJ).sz, c1, (D6 hT hJ).by_, c2, ez, c3, c4, ?_⟩
          split at h
          ·rename_i he2;obtain ⟨ys', q1, h⟩ := h;exact .inl ⟨by rw [(D6 hT hI2).sl, he2]; rfl, ys', q1, ET h fun v H' hk => ⟨.v _, rfl, hk⟩⟩
          ·rename_i k0 he2 hik;have eik := (D6 hT hI2).ik
           rw [hik] at eik
           obtain ⟨q1, h⟩ := h;exact .inr ⟨⟨_, eik⟩, _, _, rfl, q1.1, q1.2, ET h fun v H' hk => ⟨.v _, rfl, hk⟩⟩
          exact h.elim
         exact h.elim
        exact h.elim
       exact h.elim
      exact h.elim
     exact h.elim
    exact h.elim
   split at h
   ·refine .inr (.inr ?_)
    unfold NG at h
    unfold CO
    split at h
    ·rename_i sT yT xs tl ys tl' hts hvs;rw [hts, hvs]
     simp only
     split at h
     ·rename_i I I2 hI hI2
      split at h
      ·rename_i e e2 he he2
       split at h
       ·rename_i J hJ
        split at h
        ·rename_i z hz
         have ez := (D6 hT hJ).ze; rw [hz] at ez; simp only [Y1] at ez
         split at h
         ·rename_i hc;obtain ⟨c1, c2, c3, c4⟩ := hc;obtain ⟨xs', ys', l1, l2, k1, k2, k3, k4, k5⟩ := h;exact ⟨e, J.sz, J.by_, z, (D6 hT hI).sl.trans he, by rw [(D6 hT hI2).sl, he2]; rfl, (D6 hT hJ).sz, c1, (D6 hT hJ).by_, c2, ez, c3, c4, xs', ys', l1, l2, k1, k2, k3, k4, fun e => ⟨_, _, by subst e; rw [List.append_nil]; exact .ro _ _, fun _ _ hx => Bv hx, ⟨.v _, rfl, k5⟩⟩, fun t h1 h2 => ⟨_, _, .ro _ _, fun id b hx => by rw [A4 _ _ fun e => by subst e; rw [h2] at hx; cases hx]; exact hx, ⟨.v _, rfl, k5⟩⟩⟩
         exact h.elim
        exact h.elim
       exact h.elim
      exact h.elim
     exact h.elim
    exact h.elim
   refine .inl ?_
   unfold QG at h
   unfold CO
   split at h
   ·rename_i sT yT xs tl ys tl' hts hvs;rw [hts, hvs]
    simp only
    split at h
    ·rename_i I I2 hI hI2
     split at h
     ·rename_i e e2 he he2
      split at h
      ·rename_i J hJ
       split at h
       ·rename_i z hz
        have ez := (D6 hT hJ).ze; rw [hz] at ez; simp only [Y1] at ez
        split at h
        ·rename_i hc;obtain ⟨c1, c2, c3, c4⟩ := hc;obtain ⟨xs', ys', l1, l2, k1, k2, k3, k4, k5, k6⟩ := h;exact ⟨e, J.sz, J.by_, z, (D6 hT hI).sl.trans he, by rw [(D6 hT hI2).sl, he2]; rfl, (D6 hT hJ).sz, c1, (D6 hT hJ).by_, c2, ez, c3, c4, xs', ys', l1, l2, k1, k2, k3, k4, fun e => ⟨.v _, rfl, k5 e⟩, fun t h1 h2 => ⟨.v _, rfl, k6 t h1 h2⟩⟩
        exact h.elim
       exact h.elim
      exact h.elim
     exact h.elim
    exact h.elim
   exact h.elim
  ·rename_i hc;simp only [Dr, ho, hc]
   rw [Em] at h
   unfold Wp at h
   unfold OW
   split at h
   ·rename_i sT yT id lo n y hts hvs;rw [hts, hvs]
    simp only
    split at h
    ·rename_i I hI
     split at h
     ·rename_i e he
      split at h
      ·rename_i J hJ
       split at h
       ·rename_i c1;obtain ⟨xs, ys', q1, q2, h⟩ := h;exact ⟨e, J.sz, xs, ys', (D6 hT hI).sl.trans he, (D6 hT hJ).sz, c1, q1, q2, .v _, rfl, h⟩
       exact h.elim
      exact h.elim
     exact h.elim
    exact h.elim
   exact h.elim
  ·rename_i hc;simp only [Dr, ho, hc]
   rw [Em] at h
   unfold SV at h
   unfold KK
   split at h
   ·rename_i sT id lo n hts hvs;rw [hts, hvs]
    simp only
    split at h
    ·rename_i I hI
     split at h
     ·rename_i e he
      split at h
      ·rename_i J hJ
       split at h
       ·rename_i z hz
        have ez := (D6 hT hJ).ze; rw [hz] at ez; simp only [Y1] at ez
        split at h
        ·rename_i c1;obtain ⟨xs, q1, h⟩ := h;exact ⟨e, J.sz, z, xs, (D6 hT hI).sl.trans he, (D6 hT hJ).sz, c1.1, ez, c1.2.1, c1.2.2, q1, .v _, rfl, h⟩
        exact h.elim
       exact h.elim
      exact h.elim
     exact h.elim
    exact h.elim
   exact h.elim
  ·rename_i hc;simp only [Dr, ho, hc]
   rw [Em] at h
   exact HJ (K := fun v H' => k (.v v) H') h fun v H' hk => ⟨.v v, rfl, hk⟩
  ·rename_i b hb _ _ _ hc;obtain ⟨v, h1, h2⟩ := quiet h
   simp only [GG, ho, hc] at h1
   simp only [Dr, ho, hc];exact ⟨v, h1, h2⟩
  exact h.elim
 rename_i n1 n2 n3 n4 n5 n6 n7 n8 n9 n10 n11 n12 n13 n14 n15;obtain ⟨v, h1, h2⟩ := quiet h;unfold Dr
 split <;> rename_i ho <;> first | exact ⟨v, h1, h2⟩ | exact (n1 _ ho).elim | exact (n1 _ _ ho).elim | exact (n1 _ _ _ ho).elim | exact (n1 _ _ _ _ ho).elim | exact (n1 _ _ _ _ _ ho).elim | exact (n2 _ ho).elim | exact (n2 _ _ ho).elim | exact (n2 _ _ _ ho).elim | exact (n2 _ _ _ _ ho).elim | exact (n2 _ _ _ _ _ ho).elim | exact (n3 _ ho).elim | exact (n3 _ _ ho).elim | exact (n3 _ _ _ ho).elim | exact (n3 _ _ _ _ ho).elim | exact (n3 _ _ _ _ _ ho).elim | exact (n4 _ ho).elim | exact (n4 _ _ ho).elim | exact (n4 _ _ _ ho).elim | exact (n4 _ _ _ _ ho).elim | exact (n4 _ _ _ _ _ ho).elim | exact (n5 _ ho).elim | exact (n5 _ _ ho).elim | exact (n5 _ _ _ ho).elim | exact (n5 _ _ _ _ ho).elim | exact (n5 _ _ _ _ _ ho).elim | exact (n6 _ ho).elim | exact (n6 _ _ ho).elim | exact (n6 _ _ _ ho).elim | exact (n6 _ _ _ _ ho).elim | exact (n6 _ _ _ _ _ ho).elim | exact (n7 _ ho).elim | exact (n7 _ _ ho).elim | exact (n7 _ _ _ ho).elim | exact (n7 _ _ _ _ ho).elim | exact (n7 _ _ _ _ _ ho).elim | exact (n8 _ ho).elim | exact (n8 _ _ ho).elim | exact (n8 _ _ _ ho).elim | exact (n8 _ _ _ _ ho).elim | exact (n8 _ _ _ _ _ ho).elim | exact (n9 _ ho).elim | exact (n9 _ _ ho).elim | exact (n9 _ _ _ ho).elim | exact (n9 _ _ _ _ ho).elim | exact (n9 _ _ _ _ _ ho).elim | exact (n10 _ ho).elim | exact (n10 _ _ ho).elim | exact (n10 _ _ _ ho).elim | exact (n10 _ _ _ _ ho).elim | exact (n10 _ _ _ _ _ ho).elim | exact (n11 _ ho).elim | exact (n11 _ _ ho).elim | exact (n11 _ _ _ ho).elim | exact (n11 _ _ _ _ ho).elim | exact (n11 _ _ _ _ _ ho).elim | exact (n12 _ ho).elim | exact (n12 _ _ ho).elim | exact (n12 _ _ _ ho).elim | exact (n12 _ _ _ _ ho).elim | exact (n12 _ _ _ _ _ ho).elim | exact (n13 _ ho).elim | exact (n13 _ _ ho).elim | exact (n13 _ _ _ ho).elim | exact (n13 _ _ _ _ ho).elim | exact (n13 _ _ _ _ _ ho).elim | exact (n14 _ ho).elim | exact (n14 _ _ ho).elim | exact (n14 _ _ _ ho).elim | exact (n14 _ _ _ _ ho).elim | exact (n14 _ _ _ _ _ ho).elim | exact (n15 _ ho).elim | exact (n15 _ _ ho).elim | exact (n15 _ _ _ ho).elim | exact (n15 _ _ _ _ ho).elim | exact (n15 _ _ _ _ _ ho).elim
theorem VR.nil_inv {g : Gh} {w : World} {u : Value} (h : VR g w u (.sl [] .nil)) : u = .slice none 0 0 := by
 cases h with
 | sl0 _ => rfl
 | sle ht => rcases ht with h | ⟨h, _⟩ <;> cases h
 | sl _ _ _ _ _ _ _ _ ht => exact ht.elim
theorem Be {cs : List V} {i j : Nat} {x : V} (hi : i < cs.length) : (cs.set i x).getD j .bad = if j = i then x else cs.getD j .bad := by
 simp only [List.getD_eq_getElem?_getD, List.getElem?_set]
 by_cases h : i = j
 ·subst h; simp [hi]
 rw [if_neg h, if_neg (fun e => h e.symm)]
theorem VR.erefLe {g : Gh} {w : World} {v : Value} {cs ds : List V} {off : Nat} (h : VR g w v (.eref cs off)) (hl : G9 cs ds) : VR g w v (.eref ds off) := by
 have e := hl.length
 cases h with
 | eref vs hf hw h1 hv =>
  exact .eref vs (fun j hj => hf j (by omega)) (fun j hj => hw j (by omega)) (fun j hj => h1 j (by omega)) fun j hj => (hv j (by omega)).le (hl.at j)
theorem Z7 {w : World} {a : Act} : ∀ (q : Option (Nat × Int × Int × List V)) (ds : List Nat) (l : Fl) (H : A0) (g : Gh) (k : Fl → A0 → Prop), (∀ id lo n xs, q = some (id, lo, n, xs) → ∀ v, VR g w v (.own id lo n) → VR g w v (.sl xs .ro)) → Rl g H w → FR nt g w a (E3 ⟨l, df⟩) → Jd (E7 P nt rd) q ds l H k → ∃ g' l' H', N4 g w g' w ∧ Rl g' H' w ∧ FR nt g' w a (E3 ⟨l', df⟩) ∧ k l' H'
 | q, [], l, H, g, k, _, hR, hF, h => ⟨g, l, H, N4.refl _ _, hR, hF, by unfold Jd at h; exact h⟩
 | some (id, lo, n, xs), d :: ds, l, H, g, k, hq, hR, hF, h => by
  unfold Jd at h
  split at h
  ·rename_i id' lo' n' hl;obtain ⟨⟨e, e2, e3⟩, h⟩ := h;subst e; subst e2; subst e3
   have hF1 : FR nt g w a (E3 ⟨(d, .v (.sl xs .ro)) :: l, df⟩) := by
    have e := H8 (df := df) l (some d) (.v (.sl xs .ro))
    rw [show AL (some d) (.v (.sl xs .ro)) l = (d, Sl.v (.sl xs .ro)) :: l from rfl] at e
    rw [e];refine ⟨hF.size, fun t => ?_, hF.df⟩;simp only [Fr.put]
    split
    ·rename_i ht; subst ht;have h0 := hF.s t;have e0 : (E3 ⟨l, df⟩).s t = .own id' lo' n' := Fy l t _ hl (fun _ _ _ h => by cases h)
     rw [e0] at h0
     exact hq _ _ _ _ rfl _ h0
    exact hF.s t
   exact Z7 _ ds _ _ g k hq hR hF1 h
  exact Z7 none ds _ _ g k (fun _ _ _ _ h => by cases h) hR hF h
 | none, d :: ds, l, H, g, k, _, hR, hF, h => by
  unfold Jd at h
  split at h
  ·split at h
   ·rename_i id hl
    split at h
    ·obtain ⟨cs, sz, hk, hj, h⟩ := h;obtain ⟨jl, _⟩ := List.getElem?_eq_some_iff.1 hj;obtain ⟨g1, s1, hR1, hn, hv⟩ := BN hR sz (.inl rfl) (.sl0 rfl : VR g w (.slice none 0 0) (.sl [] .nil))
     have hk1 : upd H g.nx (some (.arr sz [])) id = some (.cells cs) := by
      rw [A4 _ _ (fun e => by rw [e] at hk; rw [hn] at hk; cases hk)]; exact hk
     have hR2 := hR1.chgCells hk1 (ds := cs.set ((d - 100000000) / 1000000) (.own g.nx 0 0)) (by simp) fun j' u hj' hu => by
      rw [Be jl]
      split
      ·rename_i e; subst e
       rw [List.getD_eq_getElem?_getD, hj] at hu
       rw [VR.nil_inv hu]; exact hv
      exact hu
     obtain ⟨g2, l2, H2, s2, r⟩ := Z7 none ds _ _ g1 k (fun _ _ _ _ h => by cases h) hR2 (hF.mono s1) (h _ hn);exact ⟨g2, l2, H2, s1.trans s2, r⟩
    obtain ⟨cs, q, lo, n, sz, xs, ys, hk, hj, hq, hle, h⟩ := h;obtain ⟨jl, _⟩ := List.getElem?_eq_some_iff.1 hj;obtain ⟨g1, s1, hR1, hv⟩ := hR.freezeArr hq
    have hk1 : upd H q none id = some (.cells cs) := by
     rw [A4 _ _ (fun e => by subst e; rw [hk] at hq; cases hq)]; exact hk
    have hR2 := hR1.chgCells hk1 (ds := cs.set (d / 1000000 - 1) (.sl ys .ro)) (by simp) fun j' u hj' hu => by
     rw [Be jl]
     split
     ·rename_i e; subst e
      rw [List.getD_eq_getElem?_getD, hj] at hu
      exact (hv _ _ _ hu).le (.sl _ hle)
     exact hu
    obtain ⟨g2, l2, H2, s2, r⟩ := Z7 none ds _ _ g1 k (fun _ _ _ _ h => by cases h) hR2 (hF.mono s1) h;exact ⟨g2, l2, H2, s1.trans s2, r⟩
   exact h.elim
  split at h
  ·rename_i id hl;obtain ⟨cs0, cs, hk, hle, h⟩ := h;obtain ⟨g1, s1, hR1, hv⟩ := hR.freeze hk
   have hF1 : FR nt g1 w a (E3 ⟨(d, .v (.eref cs 0)) :: l, df⟩) := by
    have e := H8 (df := df) l (some d) (.v (.eref cs 0))
    rw [show AL (some d) (.v (.eref cs 0)) l = (d, Sl.v (.eref cs 0)) :: l from rfl] at e
    rw [e];have hm := hF.mono s1;refine ⟨hm.size, fun t => ?_, hm.df⟩;simp only [Fr.put]
    split
    ·rename_i ht; subst ht;have h0 := hF.s t;have e0 : (E3 ⟨l, df⟩).s t = .ref id 0 := Fy l t _ hl (fun _ _ _ h => by cases h)
     rw [e0] at h0
     exact (hv _ _ h0).erefLe hle
    exact hm.s t
   obtain ⟨g2, l2, H2, s2, r⟩ := Z7 none ds _ _ g1 k (fun _ _ _ _ h => by cases h) hR1 hF1 h;exact ⟨g2, l2, H2, s1.trans s2, r⟩
  ·rename_i id lo n hl;obtain ⟨sz, xs, ys, hk, hle, h⟩ := h;obtain ⟨g1, s1, hR1, hv0⟩ := hR.freezeArr hk;have hv : ∀ v, VR g1 w v (.own id lo n) → VR g1 w v (.sl ys .ro) := fun v hv1 => (hv0 v lo n hv1).le (.sl _ hle)
   have hF1 : FR nt g1 w a (E3 ⟨(d, .v (.sl ys .ro)) :: l, df⟩) := by
    have e := H8 (df := df) l (some d) (.v (.sl ys .ro))
    rw [show AL (some d) (.v (.sl ys .ro)) l = (d, Sl.v (.sl ys .ro)) :: l from rfl] at e
    rw [e];have hm := hF.mono s1;refine ⟨hm.size, fun t => ?_, hm.df⟩;simp only [Fr.put]
    split
    ·rename_i ht; subst ht;have h0 := hm.s t;have e0 : (E3 ⟨l, df⟩).s t = .own id lo n := Fy l t _ hl (fun _ _ _ h => by cases h)
     rw [e0] at h0
     exact hv _ h0
    exact hm.s t
   obtain ⟨g2, l2, H2, s2, r⟩ := Z7 (some (id, lo, n, ys)) ds _ _ g1 k (fun _ _ _ _ h => by cases h; exact hv) hR1 hF1 h;exact ⟨g2, l2, H2, s1.trans s2, r⟩
  ·exact Z7 none ds _ _ g k (fun _ _ _ _ h => by cases h) hR hF h
  exact h.elim
theorem Pq (hT : EZ P T) {G : List (Nat × Bool)} {o : Oper} {l : Fl} {H : A0} {k : Sl → Prop} (ht : Fz G o l = true) (h : xq (E7 P nt rd) T G o l H k) : ∃ s, k s := by
 unfold Fz at ht
 unfold xq at h
 split at ht <;> rename_i ho <;> try simp only [ho] at h
 ·exact ⟨_, h⟩
 ·exact ⟨_, h⟩
 ·split at h
  ·exact ⟨_, h⟩
  ·exact ⟨_, h⟩
  ·obtain ⟨s, _, _, hk⟩ := ID h; exact ⟨s, hk⟩
  exact h.elim
 ·obtain ⟨_, _, hk⟩ := Fb hT h; exact ⟨_, hk⟩
 ·obtain ⟨_, _, hk⟩ := DX hT h; exact ⟨_, hk⟩
 ·obtain ⟨_, _, hk⟩ := Hb hT h; exact ⟨_, hk⟩
 ·obtain ⟨_, _, hk⟩ := Hc hT h; exact ⟨_, hk⟩
 ·obtain ⟨_, _, hk⟩ := Jz hT h; exact ⟨_, hk⟩
 ·obtain ⟨_, _, hk⟩ := LB h; exact ⟨_, hk⟩
 ·split at h
  ·obtain ⟨_, _, hk⟩ := Ao h; exact ⟨_, hk⟩
  exact h.elim
 ·split at h
  ·split at h
   ·rename_i hid; obtain ⟨_, _, hk⟩ := IE hT hid h; exact ⟨_, hk⟩
   obtain ⟨_, _, hk⟩ := EV hT h; exact ⟨_, hk⟩
  exact h.elim
 cases ht
theorem Mu (hT : EZ P T) {G : List (Nat × Bool)} {o : Oper} {l : Fl} {H : A0} {k : Sl → A0 → Prop} (ht : Fz G o l = true) (h : SQ (E7 P nt rd) T A G o l H k) : ∃ s, k s H := by
 have key : xq (E7 P nt rd) T G o l H (fun s => k s H) → ∃ s, k s H := fun h => Pq hT ht h
 unfold Fz at ht
 unfold SQ at h
 split at ht <;> rename_i ho <;> try simp only [ho] at h
 all_goals try exact key h
 ·simp only [Bool.not_eq_true'] at ht
  split at h
  ·rename_i h1; rw [ht] at h1; cases h1
  exact ⟨_, h⟩
 ·simp only [Bool.not_eq_true'] at ht
  split at h
  ·rename_i h1; rw [ht] at h1; cases h1
  exact ⟨_, h⟩
 ·split at h
  ·split at h
   ·split at h
    ·obtain ⟨_, _, _, h⟩ := h; exact ⟨_, h⟩
    exact key h
   exact h.elim
  exact key h
 ·split at ht
  ·rename_i hc
   simp only [hc] at h
   exact key h
  cases ht
 cases ht
end
end Go.Ab
namespace Go.Ab
open Go.RowKit
variable [H5] [Ar]
section
variable {P : Program} {nt : Nat} {rd : Option Nat} {T : Dt} {A : Nat → Bool} {Z : Nat → List Nat} {df : List Nat}
theorem Qe {o o2 : Oper} {d : Nat} {t t2 : TypeId} {x : Operand} (h : Qf A o o2 = some (d, t, t2, x)) :
 o.op = .alloc t ∧ o.dst = some d ∧ o.guard = none ∧ o2.op = .store t2 (.tmp d) x ∧ o2.dst = none ∧ o2.guard = none ∧ x ≠ .tmp d := by
 unfold Qf at h
 split at h
 ·rename_i t' d' h1 h2 h3
  split at h
  ·rename_i t2' d2 x' k1 k2 k3
   split at h
   ·rename_i hA hb;have hd := Nat.eq_of_beq_eq_true hb;subst hd
    split at h
    ·rename_i d3
     split at h
     ·cases h
     rename_i hn;cases h;refine ⟨h1, h2, h3, k1, k2, k3, fun e => ?_⟩;cases e
     rw [Nat.beq_refl] at hn; cases hn
    rename_i hx;cases h;exact ⟨h1, h2, h3, k1, k2, k3, fun e => hx _ e⟩
   cases h
  cases h
 cases h
theorem Pr (hT : EZ P T) {ops : Array Oper} {r : Option Nat} {K : Fl → A0 → Prop} {Q : Exit → Act → World → Prop} {g0 : Gh} {w0 : World}
 (hQ : ∀ g w a l H, N4 g0 w0 g w → Rl g H w → FR nt g w a (E3 ⟨l, df⟩) → K l H → Q .normal a w) :
 ∀ (m i : Nat) (l : Fl) (H : A0), i + m = ops.size → Ha (E7 P nt rd) T nt A Z ops (ops.toList.drop i) l H K → ∀ g w a, N4 g0 w0 g w → Rl g H w → FR nt g w a (E3 ⟨l, df⟩) → wpOpsIn (Fw r) 0 P ops Q (List.range' i m) a w := by
 intro m
 induction m using Nat.strongRecOn with
 | _ m ih =>
 intro i l H hi h g w a s hR hF
 cases m with
 | zero =>
  have : ops.toList.drop i = [] := by simp; omega
  rw [this] at h
  unfold Ha at h
  exact hQ g w a l H s hR hF h
 | succ m =>
  have hlt : i < ops.toList.length := by simp; omega
  have hlt' : i < ops.size := by omega
  have hdrop := List.drop_eq_getElem_cons hlt
  rw [hdrop] at h
  simp only [Array.getElem_toList] at h
  generalize ho : ops[i] = o at h
  simp only [List.range'_succ, wpOpsIn, Array.getElem?_eq_getElem hlt', ho]
  unfold Ha at h
  split at h
  ·exact h.elim
  rename_i hd;obtain ⟨g1, l1, H1, s1, hR1, hF1, h⟩ := Z7 (df := df) none _ _ _ _ _ (fun _ _ _ _ h => by cases h) hR hF h;replace s := s.trans s1;clear s1 hR hF
  revert h hF1 hR1 s
  generalize l1 = l, H1 = H, g1 = g;intro hR hF h s
  have guarded : ∀ {rest : List Oper}, CD nt o.dst = true → rest = ops.toList.drop (i + 1) →
   CV (E7 P nt rd) ops o 4 l (fun G l' wr => SQ (E7 P nt rd) T A G o l' H fun s H' => Ha (E7 P nt rd) T nt A Z ops rest (AL o.dst (wr s) l') H' K) (fun l' => Ha (E7 P nt rd) T nt A Z ops rest (AL o.dst (.v (.tup [])) l') H K) →
   if Region.wanted o (yielded ops a.tmps) then o.wpIn (Fw r) 0 P a w (wpOpsIn (Fw r) 0 P ops Q (List.range' (i + 1) m)) Q else (∀ f, o.about P w a.eval = some f → (Fw r).fn f) ∧ wpOpsIn (Fw r) 0 P ops Q (List.range' (i + 1) m) (a.put o.dst undef) w := by
   intro rest hd hrest h;subst hrest;obtain ⟨l', e, h⟩ := Bj (df := df) 4 l h
   have ef : E3 ⟨l', df⟩ = E3 ⟨l, df⟩ := by simp only [E3, Fr.mk.injEq, and_true]; funext t; exact e t
   have hF' : FR nt g w a (E3 ⟨l', df⟩) := ef ▸ hF
   rcases h with ⟨hgv, G, wr, hG, hwr, h⟩ | ⟨hgv, h⟩
   ·have hw : Region.wanted o (yielded ops a.tmps) = true := O5 hF.s hgv;rw [if_pos hw];refine LE (A := A) hR hF' hd (HV (df := df) hT hG h) fun g' w' a' v H' s' hR' hF2 ⟨sl, hv, hK⟩ => ?_;subst hv
    rw [← hwr sl, ← H8] at hF2
    exact ih m (by omega) (i + 1) _ _ (by omega) hK g' w' a' (s.trans s') hR' hF2
   have hw : Region.wanted o (yielded ops a.tmps) = false := O5 hF.s hgv;rw [if_neg (by rw [hw]; simp)];refine ⟨fun _ _ => trivial, ?_⟩;have hput : FR nt g w (a.put o.dst undef) ((E3 ⟨l', df⟩).put o.dst (.tup [])) := hF'.put (Bu hd) (VR.und _ _)
   rcases h with h | ⟨G, d, want, ht, hb, h⟩
   ·refine ih m (by omega) (i + 1) _ _ (by omega) h g w _ s hR ?_;rw [H8];exact hput
   obtain ⟨sl, h⟩ := Mu hT ht h;refine ih m (by omega) (i + 1) _ _ (by omega) h g w _ s hR ?_;rw [H8];simp only [SJ, hb, cond_false];exact hput
  split at h
  ·rename_i hrest;refine guarded hd hrest.symm ?_
   have e : (fun (G : List (Nat × Bool)) (l' : Fl) (wr : Sl → Sl) => SQ (E7 P nt rd) T A G o l' H fun s H' => Ha (E7 P nt rd) T nt A Z ops [] (AL o.dst (wr s) l') H' K) = fun G l' wr => SQ (E7 P nt rd) T A G o l' H fun s H' => K (AL o.dst (wr s) l') H' := by
    funext G l' wr
    have : (fun s H' => Ha (E7 P nt rd) T nt A Z ops [] (AL o.dst (wr s) l') H' K) = fun s H' => K (AL o.dst (wr s) l') H' := by
     funext s H'; unfold Ha; rfl
    rw [this]
   have e2 : (fun l' => Ha (E7 P nt rd) T nt A Z ops [] (AL o.dst (.v (.tup [])) l') H K) = fun l' => K (AL o.dst (.v (.tup [])) l') H := by
    funext l'; unfold Ha; rfl
   rw [e, e2]; exact h
  rename_i o2 rest' hrest
  split at h
  ·rename_i d t t2 x hp;obtain ⟨p1, p2, p3, p4, p5, p6, p7⟩ := Qe hp
   have hw : ∀ y, Region.wanted o y = true := fun y => by simp [Region.wanted, p3]
   rw [if_pos (hw _)]
   split at h
   ·rename_i cs hcs
    unfold Wu at hcs
    split at hcs
    ·rename_i I I2 hI hI2
     split at hcs
     ·rename_i z hz
      have ez := (D6 hT hI).ze; rw [hz] at ez; simp only [Y1] at ez
      split at hcs
      ·rename_i hc;obtain ⟨c1, c2, c3, c4⟩ := hc;cases hcs
       have hlen : i + 1 < ops.toList.length := by
        rcases Nat.lt_or_ge (i + 1) ops.toList.length with h' | h'
        ·exact h'
        rw [List.drop_eq_nil_of_le h'] at hrest; cases hrest
       have hlen' : i + 1 < ops.size := by simpa using hlen
       have hdrop2 := List.drop_eq_getElem_cons hlen
       rw [hrest, Array.getElem_toList] at hdrop2
       have ho2 : ops[i + 1] = o2 := by injection hdrop2 with e _; exact e.symm
       have hr2 : rest' = ops.toList.drop (i + 2) := by injection hdrop2
       rw [hr2] at h
       obtain ⟨m', rfl⟩ : ∃ m', m = m' + 1 := ⟨m - 1, by omega⟩
       refine LE (A := A) (K := fun v H' => ∃ id, v = .ref id 0 ∧ H id = none ∧ H' = upd H id (some (.cells z.cells))) hR hF hd (by
        simp only [Dr, p1]
        exact .inl ⟨z, ez, c1, fun id hid => ⟨_, .refl _, id, rfl, hid, rfl⟩⟩) fun g1 w1 a1 v H1 s1 hR1 hF1 hK1 => ?_
       obtain ⟨id, rfl, hid, rfl⟩ := hK1;simp only [List.range'_succ, wpOpsIn, Array.getElem?_eq_getElem hlen', ho2];rw [if_pos (by simp [Region.wanted, p6])]
       have hev : ev ((E3 ⟨l, df⟩).put o.dst (.ref id 0)) x = (K6 [] l x).V := by
        rw [Bt (df := df) Fa.nil, p2]
        cases x with
        | tmp t =>
         have : t ≠ d := fun e => p7 (by rw [e]);simp [ev, Fr.put, this]
        | const _ => rfl
        | global _ => rfl
        | func _ => rfl
       have hev2 : ev ((E3 ⟨l, df⟩).put o.dst (.ref id 0)) (.tmp d) = .ref id 0 := by rw [p2]; simp [ev, Fr.put]
       refine LE (A := A) (K := fun v H' => H' = upd (upd H id (some (.cells z.cells))) id (some (.cells (L8 z.cells 0 (K6 [] l x).V.cells)))) hR1 hF1 (by rw [p5]; rfl) (by
        simp only [Dr, p4];refine .inl ⟨_, _, .refl _, ?_, rfl⟩;simp only [Gz, (D6 hT hI2).sz, hev, hev2, A9]
        rw [if_pos ⟨c2, c3, by omega⟩]) fun g2 w2 a2 v2 H2 s2 hR2 hF2 hK2 => ?_
       subst hK2;obtain ⟨g3, s3, hR3, hv3⟩ := hR2.freeze (A9 _ _ _)
       rw [Q9, NK _ _ _ hid] at hR3
       refine ih m' (by omega) (i + 2) _ H (by omega) h g3 w2 a2 (((s.trans s1).trans s2).trans s3) hR3 ?_
       rw [p5, p2] at hF2
       have hF3 := hF2.mono s3;have e1 := H8 (df := df) l (some d) (.v (.eref (L8 z.cells 0 (K6 [] l x).V.cells) 0))
       rw [show AL (some d) (.v (.eref (L8 z.cells 0 (K6 [] l x).V.cells) 0)) l = (d, .v (.eref (L8 z.cells 0 (K6 [] l x).V.cells) 0)) :: l from rfl] at e1
       rw [e1];refine ⟨hF3.size, fun q => ?_, hF3.df⟩;have hq := hF2.s q;have hq3 := hF3.s q
       simp only [Fr.put] at hq hq3 ⊢
       split
       ·rename_i e; rw [if_pos e] at hq; exact hv3 _ _ hq
       rename_i e; rw [if_neg e] at hq3; exact hq3
      cases hcs
     cases hcs
    cases hcs
   exact h.elim
  exact guarded hd hrest.symm h
end
end Go.Ab
namespace Go.Ab
open Go.RowKit
variable [H5]
def IP (c : Array Value) (A sz : Nat) (f : Nat → Value) : Array Value := (c.toList.take A ++ (List.range sz).map f ++ c.toList.drop (A + sz)).toArray
theorem Kn {c : Array Value} {A sz : Nat} {f : Nat → Value} (h : A + sz ≤ c.size) : (IP c A sz f).size = c.size := by simp [IP]; omega
theorem VH {c : Array Value} {A sz : Nat} {f f' : Nat → Value} (h : A + sz ≤ c.size) : IP (IP c A sz f) A sz f' = IP c A sz f' := by
 have e1 : (IP c A sz f).toList.take A = c.toList.take A := by
  simp only [IP, List.append_assoc];rw [List.take_append_of_le_length (by simp; omega), List.take_take]; simp
 have e2 : (IP c A sz f).toList.drop (A + sz) = c.toList.drop (A + sz) := by
  simp only [IP];rw [List.drop_append_of_le_length (by simp; omega)];rw [List.drop_of_length_le (by simp; omega)]; simp
 unfold IP at e1 e2 ⊢
 rw [e1, e2]
theorem Re {c : Array Value} {A sz : Nat} {f : Nat → Value} (h : A + sz ≤ c.size) {k : Nat} (hk : k < c.size) : (IP c A sz f)[k]? = if A ≤ k ∧ k < A + sz then some (f (k - A)) else c[k]? := by
 have := (Rb (vs := (List.range sz).map f) (m := sz) (A := A) (c := c) (by simp) h rfl).2 k hk;rw [show IP c A sz f = (c.toList.take A ++ (List.range sz).map f ++ c.toList.drop (A + sz)).toArray from rfl, this]
 split
 ·rename_i hc; rw [List.getElem?_map, List.getElem?_range (by omega)]; rfl
 rfl
theorem Ln (w : World) (b : Nat) (c c' : Array Value) : (w.setRow b c).setRow b c' = w.setRow b c' := by
 simp only [World.setRow, World.mk.injEq, and_true];apply Array.ext
 ·simp
 intro i h1 h2;simp only [Array.getElem_modify]
 split
 ·cases w.heap[i]'(by simpa using h1) <;> rfl
 rfl
theorem NZ (w : World) {b b' : Nat} (c c' : Array Value) (h : b ≠ b') : (w.setRow b c).setRow b' c' = (w.setRow b' c').setRow b c := by
 simp only [World.setRow, World.mk.injEq, and_true];apply Array.ext
 ·simp
 intro i h1 h2;simp only [Array.getElem_modify]
 by_cases e1 : b = i <;> by_cases e2 : b' = i
 ·omega
 ·simp [e1, e2]
 ·simp [e1, e2]
 simp [e1, e2]
theorem Nu (w : World) (C C' : Array Value) (e : TypeId) : (w.alloc (.cells C e)).setRow w.heap.size C' = w.alloc (.cells C' e) := by
 simp only [World.alloc, World.setRow, World.mk.injEq, and_true];apply Array.ext
 ·simp
 intro i h1 h2;simp only [Array.getElem_modify, Array.getElem_push]
 have : i < w.heap.size + 1 := by simpa using h2
 by_cases e : w.heap.size = i
 ·subst e; simp
 rw [if_neg e]
 have : i < w.heap.size := by omega
 simp [this]
section
variable {P : Program} {H : A0}
theorem Fe {w : World} {b A sz : Nat} {c : Array Value} {T : TypeId} {f : Nat → Value} (hw : w.heap[b]? = some (.cells c T (0, 0))) (h : A + sz ≤ c.size) (hf : ∀ j, j < sz → (f j).oneCell' = true) :
 (storeCells ⟨b, A, none⟩ ((List.range sz).map f)).run P w = .ok () (w.setRow b (IP c A sz f)) := by
 have := run_storeCells_at P b A T ((List.range sz).map f) 0 c w hw (by simp; omega) (by
  intro v hv;obtain ⟨k, hk, rfl⟩ := List.mem_map.1 hv
  exact hf k (List.mem_range.1 hk))
 simpa [IP] using this
theorem QA {g : Gh} {w : World} (hR : Rl g H w) {sT yT e ty : TypeId} {sz by_ : Nat} {z : V} {xs : List V} {tl : D8} {vs : Value} (hvs : VR g w vs (.sl xs tl)) (he : BY P sT = some e) (hyT : (BY P yT).isSome = true) (hsz : BF P e = some sz) (hpos : 0 < sz) (hby : Jv P e = some by_) (hbp : 0 < by_)
 (hz : Eu P e = some z) (hz1 : z.one = true) (hzl : z.cells.length = sz) (hA : DF H tl) (hax : xs.all (fun x => x.cells.length == sz) = true) (hbound : (xs.length + 1) * by_ ≤ 140737488355328) :
 ∃ (b off G : Nat) (W : (Nat → Value) → World) (C : (Nat → Value) → Array Value) (T : TypeId),
  (∀ (y0 : V) (tl' : D8) (vy : Value), VR g w vy (.sl [y0] tl') → y0.cells.length = sz → ∃ f0, (∀ j, j < sz → (f0 j).oneCell' = true) ∧ (Builtin.append_ #[sT, yT] ty #[vs, vy]).run P w = .ok (.slice (some ⟨b, off, none⟩) (xs.length + 1) G) (W f0)) ∧
  xs.length + 1 ≤ G ∧
  (∀ f, (W f).heap[b]? = some (.cells (C f) T (0, 0)) ∧ off + xs.length * sz + sz ≤ (C f).size) ∧
  (∀ f f', (W f).setRow b (IP (C f) (off + xs.length * sz) sz f') = W f') ∧
  (∀ x, x ≠ b → x < w.heap.size → ∀ f, (W f).heap[x]? = w.heap[x]?) ∧
  (∀ id x, g.at (C8 H tl) id = some x → x ≠ b) ∧
  (∀ (vV : V) (f : Nat → Value), vV.cells.length = sz → (∀ j, j < sz → (f j).oneCell' = true ∧ VR g w (f j) (vV.cells.getD j .bad)) →
   ∃ g' t, N4 g w g' (W f) ∧ C8 H tl t = none ∧ Rl g' (upd (C8 H tl) t (some .spare)) (W f) ∧ VR g' (W f) (.slice (some ⟨b, off, none⟩) (xs.length + 1) G) (.sl (xs ++ [vV]) (.tok t))) := by
 obtain ⟨base, cap, fs, es, hcap, hfs, hrs, hbs⟩ := Bb (P := P) hvs hax;have hu := I6 he;obtain ⟨e', hyT'⟩ := Option.isSome_iff_exists.1 hyT;have huy := I6 hyT';obtain ⟨zv, ez, hzv⟩ := AO hz
 have hzr : VR g w zv z := by rw [ez]; exact BA g w zv
 have hzs : zv.cells.size = sz := by rw [(hzr.cells hz1).1, hzl]
 have hbytes : ∀ w, (typeInfo e).run P w = .ok ((P.info? e).getD default) w ∧ ((P.info? e).getD default).bytes = by_ := by
  intro w
  unfold Jv at hby
  cases hi : P.info? e with
  | none => simp [hi] at hby
  | some i => simp [hi] at hby; simp [typeInfo, hi, hby]
 have hbi : ∀ w, (typeInfo e).run P w = .ok ((P.info? e).getD default) w := fun w => (hbytes w).1;have hbb := (hbytes w).2;have hR1 : Rl g (C8 H tl) w := hR.less fun id b hb => Bv hb;have hlenx := Cp hax
 have hlenxy : ∀ (vV : V), vV.cells.length = sz → ∀ i, i < xs.length + 1 → ((xs ++ [vV]).getD i .bad).cells.length = sz := fun vV hv i hi => by
  rw [Aj]; split
  ·exact hlenx i (by assumption)
  rw [show i - xs.length = 0 by omega]; exact hv
 have hsrc : ∀ (y0 : V) (tl' : D8) (vy : Value), VR g w vy (.sl [y0] tl') → y0.cells.length = sz → ∃ ybase ycap f0, vy = .slice ybase 1 ycap ∧ (∀ j, j < sz → (f0 j).oneCell' = true) ∧
  ∀ w' : World, (∀ b o, w'.cell? ⟨b, o, none⟩ = w.cell? ⟨b, o, none⟩) → (Builtin.firstCells sz 1 vy).run P w' = .ok ((List.range sz).map f0).toArray w' := fun y0 tl' vy hvy hy0 => by
  obtain ⟨ybase, ycap, fy, ey, _, hfy, hry, _⟩ := Bb (P := P) (sz := sz) hvy (by simp [hy0]);refine ⟨ybase, ycap, fun j => fy 0 j, ey, fun j hj => (hfy 0 j (by simp) hj).1, fun w' hw' => ?_⟩;have := hry w' hw'
  simp only [List.length_singleton, Nat.one_mul] at this
  rw [this];refine congrArg (fun l : List Value => Result.ok l.toArray w') (List.map_congr_left fun k hk => ?_);have hk' := List.mem_range.1 hk;rw [Nat.div_eq_of_lt hk', Nat.mod_eq_of_lt hk']
 have hvals : ∀ (vV : V) (f : Nat → Value), (∀ j, j < sz → (f j).oneCell' = true ∧ VR g w (f j) (vV.cells.getD j .bad)) → ∀ (g' : Gh) (w' : World), N4 g w g' w' → ∀ i j, i < xs.length + 1 → j < sz → (if i < xs.length then fs i j else f j).oneCell' = true ∧
  VR g' w' (if i < xs.length then fs i j else f j) (((xs ++ [vV]).getD i .bad).cells.getD j .bad) := by
  intro vV f hf g' w' st i j hi hj;rw [Aj]
  split
  ·rename_i hlt; exact ⟨(hfs i j hlt hj).1, (hfs i j hlt hj).2.mono st⟩
  rw [show i - xs.length = 0 by omega];exact ⟨(hf j hj).1, (hf j hj).2.mono st⟩
 have hn63 : ¬ (IntKind.i64.max < ((xs.length + 1 : Nat) : Int) ∧ (False ∨ by_ = 0)) := by
  rintro ⟨_, hF | hF⟩
  ·exact hF
  omega
 by_cases hc : xs.length + 1 ≤ cap
 ·
  rcases hbs with ⟨hx0, hc0 | hc0, _⟩ | ⟨b, q, hbase, hcell, _, sz', hsz', htl⟩
  ·subst hx0; simp at hc; omega
  ·subst hc0; exact hA.elim
  cases tl with
  | nil => exact htl.elim
  | ro => exact hA.elim
  | full => simp only [DU] at htl; omega
  | tok t =>
   obtain ⟨hn0, lim, ht1, ht2⟩ := htl;have := hsz' hn0;subst this;have hA' : H t = some .spare := hA;obtain ⟨b2, e2, lim2, c, T, k1, k2, k3, k4, k5, k6⟩ := hR.blk t _ hA'
   rw [ht1] at k1
   simp only [Option.some.injEq, Prod.mk.injEq] at k1
   obtain ⟨rfl, rfl, rfl⟩ := k1;have hcapsz : (xs.length + 1) * sz' ≤ cap * sz' := Nat.mul_le_mul_right _ hc
   have hadd : (xs.length + 1) * sz' = xs.length * sz' + sz' := by rw [Nat.add_mul, Nat.one_mul]
   have hfit : q + xs.length * sz' + sz' ≤ c.size := by omega
   have hnown : ∀ id x, g.at (C8 H (.tok t)) id = some x → x ≠ b := by
    rintro id x hid rfl
    have hat : g.at H t = some x := by simp [Gh.at, hA', ht1]
    by_cases hid' : id = t
    ·subst hid'; simp [Gh.at, C8, A9] at hid
    have : g.at H id = some x := by simpa only [Gh.at, C8, A4 _ _ hid'] using hid
    exact hid' (hR.inj _ _ _ this hat)
   refine ⟨b, q, cap, fun f => w.setRow b (IP c (q + xs.length * sz') sz' f), fun f => IP c (q + xs.length * sz') sz' f, T, fun y0 tl' vy hvy hy0 => ?_, hc, fun f => ?_, fun f f' => ?_, fun x hx _ f => I8 w b _ x hx, hnown, fun vV f hv hf => ?_⟩
   ·obtain ⟨ybase, ycap, f0, ey, hf0, hry⟩ := hsrc y0 tl' vy hvy hy0;refine ⟨f0, hf0, ?_⟩;have hst := Fe (P := P) (f := f0) k3 hfit hf0;have hry' := hry w fun _ _ => rfl
    rw [ey] at hry' ⊢
    rw [es, hbase]
    simp only [Builtin.append_, Sem.run_bind, run_underlying hu, Result.andThen_ok, I1 hsz, run_underlying huy, Sem.run_pure, Builtin.lenOf, Sem.run_ite, List.getElem?_toArray,
     List.getElem?_cons_zero, List.getElem?_cons_succ, Bool.false_eq_true, if_false, Bool.not_false, if_true, if_pos hc, hry', P5, hst]
   ·exact ⟨setRow_heap w b c _ T (0, 0) k3, by rw [Kn hfit]; exact hfit⟩
   ·rw [Ln, VH hfit]
   dsimp only
   have hCg : ∀ k, k < c.size → (IP c (q + xs.length * sz') sz' f)[k]? = if q + xs.length * sz' ≤ k ∧ k < q + xs.length * sz' + sz' then some (f (k - (q + xs.length * sz'))) else c[k]? := fun k hk => Re hfit hk
   generalize hC : IP c (q + xs.length * sz') sz' f = C at hCg
   have hCs : C.size = c.size := by rw [← hC]; exact Kn hfit
   have hcellp : ∀ x o, g.fz x o → (w.setRow b C).cell? ⟨x, o, none⟩ = w.cell? ⟨x, o, none⟩ := by
    intro x o hf
    by_cases hx : x = b
    ·subst hx
     have ho : o < q + xs.length * sz' := by
      rcases Nat.lt_or_ge o (q + xs.length * sz') with h | h
      ·exact h
      exact absurd hf (k6 o h)
     have hw' : (w.setRow x C).heap[x]? = some (.cells C T (0, 0)) := setRow_heap w x c C T (0, 0) k3;simp only [World.cell?, hw', k3, Option.isSome_none, Bool.false_eq_true, if_false];rw [hCg o (by omega), if_neg (by omega)]
    exact Z2 w b C x o hx
   have hbel : Below g.base w (w.setRow b C) := CN w b C k2
   have hRn := Rl.tok (e0 := q + xs.length * sz') (e := q + (xs.length + 1) * sz') (lim := c.size) hR1 k2 (setRow_heap w b c C T (0, 0) k3) hCs (by omega) k6 (by omega) hcellp hbel
    (fun x hx _ => I8 w b C x hx) (fun id hid => hnown id _ hid rfl)
   have hStp := N4.tok hR1 b (q + xs.length * sz') (q + (xs.length + 1) * sz') c.size hcellp hbel;refine ⟨_, g.nx, hStp, (hR1.nxt _ (Nat.le_refl _)).2.2, hRn, ?_⟩
   refine .sl (sz := sz') (fun i j => if i < xs.length then fs i j else f j) (by simp) hc (fun i hi => hlenxy vV hv i hi) (fun i j hi hj => ?_) (fun i j hi hj => ?_)
    (fun i j hi hj => (hvals vV f hf _ _ hStp i j hi hj).1) (fun i j hi hj => (hvals vV f hf _ _ hStp i j hi hj).2) ?_
   ·by_cases hix : i < xs.length
    ·exact .inl (hcell i j hix hj).1
    have h2 := AN hi hj;have h1 : xs.length * sz' ≤ i * sz' := Nat.mul_le_mul_right _ (by omega);exact .inr ⟨rfl, by omega, by omega⟩
   ·have h2 := AN hi hj;have hw' : (w.setRow b C).heap[b]? = some (.cells C T (0, 0)) := setRow_heap w b c C T (0, 0) k3
    by_cases hix : i < xs.length
    ·rw [if_pos hix];exact (hcellp b _ (hcell i j hix hj).1).trans (hcell i j hix hj).2
    rw [if_neg hix]
    have h1 : i = xs.length := by omega
    subst h1;simp only [World.cell?, hw', Option.isSome_none, Bool.false_eq_true, if_false];rw [hCg _ (by omega), if_pos (by omega), show q + xs.length * sz' + j - (q + xs.length * sz') = j by omega]
   refine ⟨by omega, c.size, ?_, by omega⟩;simp [Gh.tok]
 have hnf : ¬ (2 ^ 48 < Builtin.nextslicecap (xs.length + 1) cap * by_) := by
  have := growslice_fits (Nat.lt_of_not_le hc) hbound; omega
 have hdr : ∀ b o, w.drew.cell? ⟨b, o, none⟩ = w.cell? ⟨b, o, none⟩ := fun _ _ => rfl;generalize hG : grownCap w (xs.length + 1) cap e = G
 have hGe : xs.length + 1 ≤ G := by rw [← hG]; exact grownCap_ge w _ _ _
 have hGs : (xs.length + 1) * sz ≤ G * sz := Nat.mul_le_mul_right _ hGe
 have hadd : (xs.length + 1) * sz = xs.length * sz + sz := by rw [Nat.add_mul, Nat.one_mul]
 generalize hO : ((List.range (xs.length * sz)).map fun k => fs (k / sz) (k % sz)) = O at *
 have hOl : O.length = xs.length * sz := by rw [← hO]; simp
 generalize hZ : Builtin.zeroCells zv.cells (G - (xs.length + 1)) = Z at *
 have hZs : Z.size = G * sz - (xs.length + 1) * sz := by rw [← hZ, size_zeroCells, hzs, Nat.sub_mul]
 have hCs : ∀ f : Nat → Value, (O.toArray ++ ((List.range sz).map f).toArray ++ Z).size = G * sz := fun f => by
  simp only [Array.size_append, List.size_toArray, List.length_map, List.length_range, hOl, hZs]; omega
 have hCg : ∀ (f : Nat → Value) k, k < (xs.length + 1) * sz → (O.toArray ++ ((List.range sz).map f).toArray ++ Z)[k]? = some (if k < xs.length * sz then fs (k / sz) (k % sz) else f (k - xs.length * sz)) := by
  intro f k hk;rw [Array.getElem?_append, if_pos (by simp [hOl]; omega), Array.getElem?_append];simp only [List.size_toArray, hOl, List.getElem?_toArray, List.getElem?_map]
  split
  ·rw [← hO, List.getElem?_map, List.getElem?_range (by assumption)]; rfl
  rw [List.getElem?_range (by omega)]; rfl
 refine ⟨w.heap.size, 0, G, fun f => w.drew.alloc (.cells (O.toArray ++ ((List.range sz).map f).toArray ++ Z) e), fun f => O.toArray ++ ((List.range sz).map f).toArray ++ Z, e, fun y0 tl' vy hvy hy0 => ?_, hGe, fun f => ⟨Y3 (w := w.drew), by rw [hCs]; omega⟩, fun f f' => ?_,
  fun x hx hlt f => heap_alloc (w := w.drew) hlt, fun id x hid e => absurd (e ▸ hR1.lt hid) (Nat.lt_irrefl _), fun vV f hv hf => ?_⟩
 ·obtain ⟨ybase, ycap, f0, ey, hf0, hry⟩ := hsrc y0 tl' vy hvy hy0;refine ⟨f0, hf0, ?_⟩;have hGd : (Question.appendCap (xs.length + 1) cap e).cut (w.tape w.drawn (.appendCap (xs.length + 1) cap e)) = G := hG;have hf : (Question.appendCap (xs.length + 1) cap e).forced = false := rfl;have hrs' := hrs w.drew hdr;have hry' := hry w.drew hdr
  rw [es] at hrs' ⊢; rw [ey] at hry' ⊢
  simp only [Builtin.append_, Sem.run_bind, run_underlying hu, Result.andThen_ok, I1 hsz, run_underlying huy, Sem.run_pure, Builtin.lenOf, Sem.run_ite, hbi, hbb, List.getElem?_toArray,
   List.getElem?_cons_zero, List.getElem?_cons_succ, Bool.false_eq_true, if_false, Bool.not_false, if_true, gt_iff_lt, false_or, if_neg hc, if_neg hnf, run_choose, hf, hGd, World.drew_eq, run_askRoom, hrs', hry', hzv, newRow, run_newObj,
   World.alloc_eq, World.size_drew, hO, hZ]
  rw [if_neg (by simpa using hn63)]
 ·rw [show w.heap.size = w.drew.heap.size from rfl, Nu]
  congr 2
  apply Array.ext';simp only [IP, Nat.zero_add, Array.toList_append, List.toList_toArray, List.append_assoc];rw [List.take_append_of_le_length (by omega), List.take_of_length_le (by omega), show xs.length * sz + sz = O.length + sz by omega, ← List.drop_drop, List.drop_left]
  congr 1
  congr 1
  exact List.drop_left' (by simp)
 have hcellp : ∀ x o, g.fz x o → (w.drew.alloc (.cells (O.toArray ++ ((List.range sz).map f).toArray ++ Z) e)).cell? ⟨x, o, none⟩ = w.cell? ⟨x, o, none⟩ := fun x o hf => An (w := w.drew) (hR.fz_lt hf);have hbel : Below g.base w (w.drew.alloc (.cells (O.toArray ++ ((List.range sz).map f).toArray ++ Z) e)) := (Below.refl _ _).drew.alloc hR.bnd _
 have hnown : ∀ id, g.at (C8 H tl) id ≠ some w.heap.size := fun id hid => absurd (hR1.lt hid) (Nat.lt_irrefl _)
 have hRn := Rl.tok (e0 := 0) (e := (xs.length + 1) * sz) (lim := G * sz) hR1 hR.bnd (Y3 (w := w.drew) (o := .cells (O.toArray ++ ((List.range sz).map f).toArray ++ Z) e)) (hCs f) hGs (fun o _ hf => absurd (hR.fz_lt hf) (Nat.lt_irrefl _)) (Nat.zero_le _) hcellp hbel
  (fun x hx hlt => heap_alloc (w := w.drew) hlt) hnown
 have hStp := N4.tok hR1 w.heap.size 0 ((xs.length + 1) * sz) (G * sz) hcellp hbel;refine ⟨_, g.nx, hStp, (hR1.nxt _ (Nat.le_refl _)).2.2, hRn, ?_⟩
 refine .sl (sz := sz) (fun i j => if i < xs.length then fs i j else f j) (by simp) hGe (fun i hi => hlenxy vV hv i hi) (fun i j hi hj => .inr ⟨rfl, Nat.zero_le _, by have := AN hi hj; omega⟩) (fun i j hi hj => ?_)
  (fun i j hi hj => (hvals vV f hf _ _ hStp i j hi hj).1) (fun i j hi hj => (hvals vV f hf _ _ hStp i j hi hj).2) ?_
 ·have h2 := AN hi hj;rw [show (⟨w.heap.size, 0 + i * sz + j, none⟩ : Addr) = ⟨w.drew.heap.size, i * sz + j, none⟩ by simp];rw [FK (w := w.drew), hCg f _ h2]
  congr 1
  by_cases hix : i < xs.length
  ·have h3 := AN hix hj;rw [if_pos h3, if_pos hix, (J5 hj).1, (J5 hj).2]
  have h1 : i = xs.length := by omega
  subst h1;rw [if_neg (by omega), if_neg hix, show xs.length * sz + j - xs.length * sz = j by omega]
 refine ⟨by omega, G * sz, ?_, by simp⟩;simp [Gh.tok]
end
end Go.Ab
namespace Go.Ab
open Go.RowKit
variable [H5] [Ar]
section
variable {P : Program} {nt : Nat} {ops : Array Oper} {H0 : A0}
def Eg (A : Nat → Bool) : List Nat → Pv → Fr → A0 → (Fr → A0 → Prop) → Prop
 | [], _, fr, H, K => K fr H
 | d :: ds, pv, fr, H, K =>
  match pv (.inl d) with
  | some cs => if A d then ∀ id, H id = none → Eg A ds pv (fr.put (some d) (.ref id 0)) (upd H id (some (.cells cs))) K else Eg A ds pv (fr.put (some d) (.eref cs 0)) H K
  | none => False
theorem Kf {A : Nat → Bool} {w : World} {a : Act} {ids : Pk → Nat} {pv : Pv} {K : Fr → A0 → Prop} (hinj : ∀ d d' cs cs', pv d = some cs → pv d' = some cs' → d.var = true → d'.var = true → ids d = ids d' → d = d') :
 ∀ (ds : List Nat) (fr : Fr) (g : Gh) (H H1 : A0), Rl g H w → ds.Nodup → (∀ d ∈ ds, ∀ cs, pv (.inl d) = some cs → H (ids (.inl d)) = some (.cells cs) ∧ ∃ b, g.mu (ids (.inl d)) = some b ∧ a.tmps.getD d undef = .pointer (some ⟨b, 0, none⟩)) →
  (∀ id b, H1 id = some b → H id = some b) → (∀ d ∈ ds, ∀ cs, pv (.inl d) = some cs → H1 (ids (.inl d)) = none) → FR nt g w a fr → Eg A ds pv fr H1 K → ∃ g' fr' H', N4 g w g' w ∧ Rl g' H' w ∧ FR nt g' w a fr' ∧ K fr' H'
 | [], fr, g, H, H1, hR, _, _, hl, _, hF, h => ⟨g, fr, H1, N4.refl _ _, hR.less hl, hF, h⟩
 | d :: ds, fr, g, H, H1, hR, hnd, hpv, hl, hfr, hF, h => by
  simp only [Eg] at h
  have hnd' := List.nodup_cons.1 hnd
  split at h
  ·rename_i cs hcs;obtain ⟨k1, b, k2, k3⟩ := hpv d (by simp) cs hcs
   split at h
   ·refine Kf hinj ds _ g H _ hR hnd'.2 (fun d' hd' => hpv d' (by simp [hd'])) (fun id bk hb => ?_) (fun d' hd' cs' hp => ?_) ?_ (h (ids (.inl d)) (hfr d (by simp) cs hcs))
    ·by_cases e : id = ids (.inl d)
     ·subst e; rw [A9] at hb; cases hb; exact k1
     rw [A4 _ _ e] at hb; exact hl _ _ hb
    ·by_cases e : ids (.inl d') = ids (.inl d)
     ·exact absurd (hinj _ _ _ _ hp hcs rfl rfl e) fun x => hnd'.1 (by cases x; exact hd')
     rw [A4 _ _ e]; exact hfr d' (by simp [hd']) cs' hp
    refine ⟨hF.size, fun t => ?_, hF.df⟩;simp only [Fr.put]
    split
    ·rename_i e; subst e; rw [k3]; exact .ref k2
    exact hF.s t
   obtain ⟨g', s, hR', hv⟩ := hR.freeze k1;have hF' := hF.mono s
   have e1 : ∀ d' ∈ ds, ∀ cs', pv (.inl d') = some cs' → (upd H (ids (.inl d)) none) (ids (.inl d')) = some (.cells cs') ∧ ∃ b, g'.mu (ids (.inl d')) = some b ∧ a.tmps.getD d' undef = .pointer (some ⟨b, 0, none⟩) := fun d' hd' cs' hp => by
    obtain ⟨q1, b', q2, q3⟩ := hpv d' (by simp [hd']) cs' hp;have hne : ids (.inl d') ≠ ids (.inl d) := fun e => absurd (hinj _ _ _ _ hp hcs rfl rfl e) fun x => hnd'.1 (by cases x; exact hd');exact ⟨by rw [A4 _ _ hne]; exact q1, b', s.mu _ _ q2, q3⟩
   have e2 : ∀ id bk, H1 id = some bk → (upd H (ids (.inl d)) none) id = some bk := fun id bk hb => by
    have hne : id ≠ ids (.inl d) := fun e => by subst e; rw [hfr d (by simp) cs hcs] at hb; cases hb
    rw [A4 _ _ hne]; exact hl _ _ hb
   have e3 : FR nt g' w a (fr.put (some d) (.eref cs 0)) := by
    refine ⟨hF'.size, fun t => ?_, hF'.df⟩;simp only [Fr.put]
    split
    ·rename_i e; subst e; rw [k3]; exact hv _ _ (.ref k2)
    exact hF'.s t
   obtain ⟨g2, fr2, H2, s2, r⟩ := Kf hinj ds _ g' _ H1 hR' hnd'.2 e1 e2 (fun d' hd' => hfr d' (by simp [hd'])) e3 h;exact ⟨g2, fr2, H2, s.trans s2, r⟩
  exact h.elim
abbrev Tk := List (Nat × List V)
def WL (W : Tk) (ex : Option D8) : Pv
 | .inl _ => none
 | .inr id => (W.find? fun p => p.1 == id).map (·.2)
 | .tk _ => none
 | .ex => ex.map fun τ => [.sl [] τ]
def EP (H : A0) : Option D8 → A0
 | some τ => C8 H τ
 | none => H
def ED (dx : Option Nat) (pv : Pv) (fr : Fr) (H : A0) (K : Fr → A0 → Prop) : Prop :=
 match dx with
 | none => K fr H
 | some d => ∃ xs, (pv (.tk d)).isSome = true ∧ fr.s d = .sl xs .ro ∧ (∀ tl, tl = .nil ∨ tl = .full → K (fr.put (some d) (.sl xs tl)) H) ∧ ∀ t, H t = none → K (fr.put (some d) (.sl xs (.tok t))) (upd H t (some .spare))
theorem GS {H : A0} {ex : Option D8} {id : Nat} {b : AI} (h : EP H ex id = some b) : H id = some b ∧ ∀ t, ex = some (.tok t) → id ≠ t := by
 cases ex with
 | none => exact ⟨h, fun t ht => by cases ht⟩
 | some τ =>
  cases τ with
  | tok t =>
   simp only [EP, C8] at h
   by_cases e : id = t
   ·subst e; rw [A9] at h; cases h
   rw [A4 _ _ e] at h; exact ⟨h, fun t' ht => by cases ht; exact e⟩
  | _ => exact ⟨h, fun t ht => by cases ht⟩
def BX (H : A0) : Tk → A0
 | [] => H
 | (id, _) :: W => upd (BX H W) id none
def Ma : Tk → Pv → A0 → (A0 → Prop) → Prop
 | [], _, H, K => K H
 | (id, _) :: W, pv, H, K => Ma W pv H fun H' => match pv (.inr id) with | some cs => K (upd H' id (some (.cells cs))) | none => False
theorem Fc {H : A0} : ∀ {W : Tk} {id : Nat} {b : AI}, BX H W id = some b → H id = some b ∧ ∀ p ∈ W, p.1 ≠ id
 | [], id, b, h => ⟨h, fun p hp => by simp at hp⟩
 | (i, c) :: W, id, b, h => by
  simp only [BX] at h
  by_cases e : id = i
  ·subst e; rw [A9] at h; cases h
  rw [A4 _ _ e] at h
  obtain ⟨h1, h2⟩ := Fc h;refine ⟨h1, fun p hp => ?_⟩
  rcases List.mem_cons.1 hp with rfl | hp
  ·exact fun x => e x.symm
  exact h2 p hp
theorem Hf {H : A0} : ∀ {W : Tk} {p : Nat × List V}, p ∈ W → BX H W p.1 = none
 | (i, c) :: W, p, h => by
  simp only [BX]
  by_cases e : p.1 = i
  ·rw [e, A9]
  rw [A4 _ _ e]
  rcases List.mem_cons.1 h with rfl | h
  ·exact absurd rfl e
  exact Hf h
theorem OI {Hw : A0} {pv : Pv} (hpv : ∀ id cs, pv (.inr id) = some cs → Hw id = some (.cells cs)) : ∀ (W : Tk) (H : A0) (K : A0 → Prop), (∀ id b, H id = some b → Hw id = some b) → Ma W pv H K → ∃ H', (∀ id b, H' id = some b → Hw id = some b) ∧ (∀ id, H' id ≠ none → H id ≠ none ∨ ∃ cs, pv (.inr id) = some cs) ∧ K H'
 | [], H, K, hl, h => ⟨H, hl, fun id hn => .inl hn, h⟩
 | (i, c) :: W, H, K, hl, h => by
  simp only [Ma] at h
  obtain ⟨H', h1, h2, h3⟩ := OI hpv W H _ hl h
  split at h3
  ·rename_i cs hcs;refine ⟨_, fun id b hb => ?_, fun id hn => ?_, h3⟩
   ·by_cases e : id = i
    ·subst e; rw [A9] at hb; cases hb; exact hpv _ _ hcs
    rw [A4 _ _ e] at hb; exact h1 _ _ hb
   by_cases e : id = i
   ·exact .inr ⟨cs, e ▸ hcs⟩
   rw [A4 _ _ e] at hn
   exact h2 id hn
  exact h3.elim
end
def X5 (P : Program) (nt : Nat) (rd : Option Nat) (ops : Array Oper) (fr : Fr) (H : A0) (Q : Exit → Fr → A0 → Prop) : Prop :=
 ∀ r g w a, UD g rd r → Rl g H w → FR nt g w a fr → wpAnyIn (Fw r) 0 P .any ops (Pn nt g w Q) ops.size (Array.replicate ops.size false) a w.drew
theorem O9.of_any {P : Program} {nt id : Nat} {rd : Option Nat} {ops : Array Oper} {fr : Fr} {H : A0} {Q : Exit → Fr → A0 → Prop} (hm : P.follows .mixedOrders = true) (h : X5 P nt rd ops fr H Q) : O9 P nt rd (.region id ops true) fr H Q :=
 fun r g w a hr hR hF => wpIn_region_any hm (h r g w a hr hR hF)
section
variable {P : Program} {nt : Nat} {ops : Array Oper} {H0 : A0}
theorem X5.drawF {A : Lg} {rd : Option Nat} {k : Nat} {al : List Nat} {W : Tk} {ex : Option D8} {dx : Option Nat} {fr : Fr} {Q : Exit → Fr → A0 → Prop} (hok : KI ops k = true) (hnd : al.Nodup)
 (hX : ∀ τ, ex = some τ → DF H0 τ) (hW : ∀ p ∈ W, EP H0 ex p.1 = some (.cells p.2))
 (h : Er P nt ops (BX (EP H0 ex) W) (ops.toList.take k) fr (WL W ex) fun fr' pv => Ma W pv (BX (EP H0 ex) W) fun H1 => ED dx pv fr' H1 fun fr1 H2 => Eg A al pv fr1 H2 fun fr'' H => DN P A nt ops (ops.toList.drop k) fr'' H (Q .normal)) : X5 P nt rd ops fr H0 Q := by
 intro r g w a _ hR hF;obtain ⟨hk, hat⟩ := Sz hok;have sd : N4 g w g w.drew := ⟨fun _ _ e => e, fun _ _ e => e, fun _ _ e => e, rfl, fun _ _ _ => rfl, (Below.refl _ _).drew, fun _ _ _ => rfl⟩
 have hRd : Rl g H0 w.drew := by
  refine ⟨fun id b hb => (hR.blk id b hb).mono hb sd fun _ _ => ⟨rfl, fun _ ho => ho⟩, hR.inj, hR.frz, hR.nxt, hR.bnd, fun n => (hR.glb n).mono sd⟩
 have hI : QD nt (BX (EP H0 ex) W) g w.drew fr (WL W ex) g w.drew a := by
  refine ⟨H0, fun k => match k with | .inl _ => 0 | .inr n => n | .tk _ => 0 | .ex => 0, N4.refl _ _, hRd, hF.mono sd, fun id b hb => (GS (Fc hb).1).1, fun d cs h hv => ?_, fun d d' cs cs' h h' hv hv' e => ?_, fun _ => none, fun d cs h => (by cases h), fun d d' cs cs' t h => (by cases h), fun cs h => ?_⟩
  ·cases d with
   | inl d => cases h
   | inr n =>
    simp only [WL] at h
    cases hf : W.find? fun p => p.1 == n with
    | none => rw [hf] at h; cases h
    | some p =>
     rw [hf] at h
     simp only [Option.map_some, Option.some.injEq] at h
     have hp := List.mem_of_find?_eq_some hf
     have hn : p.1 = n := by have := List.find?_some hf; simpa using this
     subst h; subst hn;exact ⟨(GS (hW p hp)).1, Hf hp, rfl⟩
   | tk d => cases h
   | ex => cases hv
  ·cases d with
   | inl d => cases h
   | tk d => cases h
   | ex => cases hv
   | inr n =>
    cases d' with
    | inl d' => cases h'
    | tk d' => cases h'
    | ex => cases hv'
    | inr n' => simp only at e; rw [e]
  cases hx : ex with
  | none => rw [hx] at h; cases h
  | some τ =>
   rw [hx] at h
   cases h;refine ⟨τ, rfl, ?_⟩;have hA := hX τ hx
   cases τ with
   | nil => exact .inl (.inl rfl)
   | full => exact .inl (.inr rfl)
   | ro => exact hA.elim
   | tok t =>
    refine .inr ⟨t, rfl, hA, ?_, fun d cs' h => by cases h⟩
    cases hn : BX (EP H0 (some (.tok t))) W t with
    | none => rfl
    | some b => exact absurd rfl ((GS (Fc hn).1).2 t rfl)
 have hmap : (List.range k).map (fun i => ops.getD i default) = ops.toList.take k := by
  apply List.ext_getElem
  ·simp; omega
  intro i h1 h2
  simp at h1
  simp [Array.getD, show i < ops.size by omega]
 have hb := KV (r := r) (Q := Pn nt g w Q) hk (fun i hi => ⟨(hat i hi).1, fun j hj => ((hat i hi).2 j hj).imp (fun h => h) .inl⟩) (K := fun fr' pv => Ma W pv (BX (EP H0 ex) W) fun H1 => ED dx pv fr' H1 fun fr1 H2 => Eg A al pv fr1 H2 fun fr'' H => DN P A nt ops (ops.toList.drop k) fr'' H (Q .normal)) (g0 := g) (w0 := w.drew)
  (fun g' w' a' fr' pv listed hsz hl hI' hK => ?_) k (List.range k) (Array.replicate ops.size false) fr (WL W ex) (by simp) (List.pairwise_lt_range) (fun i hi => by simpa using hi) (by simp) (fun i b hi => by simp [Array.getD, hi]) (fun m j hm _ => by simp [Array.getD] at hm) (by rw [hmap]; exact h) g w.drew a hI
 ·rw [show k + (ops.size - k) = ops.size by omega] at hb
  exact hb
 obtain ⟨H, ids, s, hR', hF', hext, hpv, hinj, tks, htk, _⟩ := hI'
 have hex : ∀ n cs, pv (.inr n) = some cs → H n = some (.cells cs) := fun n cs hn => by
  obtain ⟨k1, _, k3⟩ := hpv _ cs hn rfl;have k3 : ids (.inr n) = n := k3
  rwa [k3] at k1
 obtain ⟨H1, g1, g2, hK⟩ := OI hex W _ _ hext hK
 have hfree : ∀ d cs, pv (.inl d) = some cs → H1 (ids (.inl d)) = none := fun d cs hd => by
  obtain ⟨k1, k2, _⟩ := hpv _ cs hd rfl
  cases hn : H1 (ids (.inl d)) with
  | none => rfl
  | some b =>
   exfalso
   rcases g2 _ (by rw [hn]; simp) with h | ⟨cs', hp⟩
   ·exact h k2
   have k3 : ids (.inr (ids (.inl d))) = ids (.inl d) := (hpv _ cs' hp rfl).2.2;cases hinj _ _ _ _ hp hd rfl rfl k3
 have hmid : ∃ fr1 H1', FR nt g' w' a' fr1 ∧ (∀ id b, H1' id = some b → H id = some b) ∧ (∀ d cs, pv (.inl d) = some cs → H1' (ids (.inl d)) = none) ∧ Eg A al pv fr1 H1' fun fr'' H => DN P A nt ops (ops.toList.drop k) fr'' H (Q .normal) := by
  rcases dx with _ | d
  ·exact ⟨fr', H1, hF', g1, hfree, hK⟩
  simp only [ED] at hK
  obtain ⟨xs, e1, e2, e3, e4⟩ := hK;obtain ⟨c, hc⟩ := Option.isSome_iff_exists.1 e1;obtain ⟨xs', tl, q1, q2, q3⟩ := htk d c hc
  rw [e2] at q1
  cases q1
  have hFR : FR nt g' w' a' (fr'.put (some d) (.sl xs tl)) := by
   refine ⟨hF'.size, fun t => ?_, hF'.df⟩;simp only [Fr.put]
   split
   ·rename_i e; subst e; exact q2
   exact hF'.s t
  rcases q3 with ⟨_, q⟩ | ⟨t, _, q, q4, q5⟩
  ·exact ⟨_, H1, hFR, g1, hfree, e3 tl q⟩
  subst q
  have ht : H1 t = none := by
   cases hn : H1 t with
   | none => rfl
   | some b =>
    exfalso
    rcases g2 _ (by rw [hn]; simp) with h | ⟨cs', hp⟩
    ·exact h q5
    have := hex _ _ hp; rw [q4] at this; cases this
  refine ⟨_, _, hFR, fun id b hb => ?_, fun d' cs hd' => ?_, e4 t ht⟩
  ·by_cases e : id = t
   ·subst e; rw [A9] at hb; cases hb; exact q4
   rw [A4 _ _ e] at hb; exact g1 _ _ hb
  have hne : ids (.inl d') ≠ t := fun e => by
   have := (hpv _ cs hd' rfl).1
   rw [e, q4] at this; cases this
  rw [A4 _ _ hne]; exact hfree d' cs hd'
 obtain ⟨fr1, H1', hF1, g1', hfree', hK⟩ := hmid
 obtain ⟨g3, fr2, H2, s2, hR2, hF2, hK2⟩ := Kf hinj al fr1 g' H H1' hR' hnd (fun d _ cs hd => by
  obtain ⟨k1, _, _, b, k4, k5⟩ := hpv _ cs hd rfl
  exact ⟨k1, b, k4, k5⟩) g1' (fun d _ cs hd => hfree' d cs hd) hF1 hK
 exact JE (A := A) (r := r) (K := Q .normal) (k := k) (fun i hi => ⟨(hat i hi).1, fun j hj hkj => ((hat i hi).2 j hj).elim (fun h => h) fun h => absurd h.1 (by omega)⟩) (g0 := g) (w0 := w) (fun g3 w3 a3 fr3 H3 s3 hR3 hF3 hK3 => ⟨g3, fr3, H3, s3, hR3, hF3, hK3⟩) (ops.size - k) k listed fr2 H2 (by omega) (by omega) hsz hl hK2 g3 w' a' ((sd.trans s).trans s2) hR2 hF2
end
end Go.Ab
