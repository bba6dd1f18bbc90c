/- AbA21 -/
import Derived.Test.YtildiiggamckaaaGreatDoorT15
set_option linter.all false
namespace Go.Ab
open Go.RowKit
variable [G5] [Ar]
section
variable {P : Program} {nt : Nat} {rd : Option Nat} {T : CW} {l : Fl} {df : List Nat} {H : A0}
def ED (G : List (Nat × Bool)) (l : Fl) : Prop := ∀ j w, SA G j w = true → OM (X1 l j) w = true
theorem ED.nil : ED [] l := fun j w h => by simp [SA] at h
theorem ED.add {G : List (Nat × Bool)} (h : ED G l) {d : Nat} {w : Bool} (hd : OM (X1 l d) w = true) : ED ((d, w) :: G) l := by
 intro j w' hg
 simp only [SA] at hg
 split at hg
 ·rename_i e
  simp only [Bool.and_eq_true, beq_iff_eq] at e
  have := Nat.eq_of_beq_eq_true e.1;rw [← this, ← e.2]; exact hd
 exact h j w' hg
theorem SM {a b : Nat} (h : Nat.beq a b = false) : a ≠ b := fun e => by subst e; rw [Nat.beq_refl] at h; cases h
theorem EX : ∀ (l : Fl) (t : Nat) (s : Sl), lk l t = s → (∀ j w x, s ≠ .g j w x) → X1 l t = s.V
 | [], t, s, h, _ => by simp only [lk] at h; subst h; rfl
 | (k, x) :: l, t, s, h, hn => by
  simp only [lk] at h
  simp only [X1]
  cases hb : Nat.beq t k with
  | true =>
   simp only [hb] at h
   subst h
   cases x with
   | v x => rfl
   | b c => rfl
   | g j w x => exact absurd rfl (hn j w x)
  | false => simp only [hb] at h; exact EX l t s h hn
theorem LY : ∀ (l : Fl) (t j : Nat) (w : Bool) (x : V), lk l t = .g j w x → QO l t j = true → X1 l t = bif OM (X1 l j) w then x else .tup []
 | [], _, _, _, _, _, h => by simp [QO] at h
 | (k, s) :: l, t, j, w, x, h, hf => by
  simp only [QO] at hf
  simp only [lk] at h
  cases hj : Nat.beq k j with
  | true => simp [hj] at hf
  | false =>
   simp only [hj] at hf
   have hj' : Nat.beq j k = false := by
    cases e : Nat.beq j k with
    | false => rfl
    | true => exact absurd (Nat.eq_of_beq_eq_true e).symm (SM hj)
   have ej : X1 ((k, s) :: l) j = X1 l j := by simp only [X1, hj']
   rw [ej];simp only [X1]
   cases ht : Nat.beq t k with
   | true =>
    simp only [ht] at h
    subst h;rfl
   | false =>
    have ht' : Nat.beq k t = false := by
     cases e : Nat.beq k t with
     | false => rfl
     | true => exact absurd (Nat.eq_of_beq_eq_true e).symm (SM ht)
    simp only [ht', ht] at hf h ⊢
    exact LY l t j w x h hf
theorem EQ {G : List (Nat × Bool)} (hG : ED G l) {t : Nat} {s : Sl} (h : MV G l t = some s) : s.V = X1 l t ∧ ∀ j w x, s ≠ .g j w x := by
 unfold MV at h
 split at h
 ·rename_i j w x hl
  split at h
  ·rename_i hf;have e := LY l t j w x hl hf
   split at h
   ·rename_i hg;cases h;rw [e, hG j w hg];exact ⟨rfl, fun _ _ _ h => (by cases h)⟩
   split at h
   ·rename_i c hc;have ec := EX l j _ hc (fun _ _ _ h => by cases h)
    rw [ec] at e
    split at h
    ·rename_i hcw;cases h;rw [e]; simp only [OM, Sl.V, hcw];exact ⟨rfl, fun _ _ _ h => (by cases h)⟩
    rename_i hcw;cases h;rw [e]; simp only [OM, Sl.V, hcw];exact ⟨rfl, fun _ _ _ h => (by cases h)⟩
   cases h
  cases h
 rename_i s' hn;cases h;exact ⟨(EX l t _ rfl (fun j w x e => hn j w x e)).symm, fun j w x e => hn j w x e⟩
theorem Py {G : List (Nat × Bool)} (hG : ED G l) (t : Nat) : (TE G l t).V = X1 l t := by
 unfold TE
 split
 ·rename_i s h; exact (EQ hG h).1
 rfl
theorem Bb {G : List (Nat × Bool)} (hG : ED G l) (x : Operand) : (J8 G l x).V = ev (D8 ⟨l, df⟩) x := by
 cases x with
 | tmp t => exact Py hG t
 | const v =>
  cases v <;> first | rfl | skip
 | global n => rfl
 | func f => rfl
theorem Iu : ∀ (l : Fl) (d : Nat) (c : Bool), X1 l d = .bool c → ∀ t, X1 (FY l d c) t = X1 l t
 | [], _, _, _, _ => rfl
 | (k, s) :: l, d, c, h, t => by
  simp only [FY]
  cases hd : Nat.beq d k with
  | true =>
   have e := Nat.eq_of_beq_eq_true hd;subst e;simp only [X1]
   cases ht : Nat.beq t d with
   | true =>
    have e := Nat.eq_of_beq_eq_true ht;subst e
    simp only [X1, Nat.beq_refl] at h
    exact h.symm
   | false => rfl
  | false =>
   have hl : X1 l d = .bool c := by simpa only [X1, hd] using h
   have ih := Iu l d c hl;simp only [X1]
   cases ht : Nat.beq t k with
   | true =>
    cases s with
    | v x => rfl
    | b c => rfl
    | g j w x => simp only [ih j]
   | false => exact ih t
theorem HB {d : Nat} {c : Bool} (h : X1 l d = .bool c) : D8 ⟨FY l d c, df⟩ = D8 ⟨l, df⟩ := by
 simp only [D8, Fr.mk.injEq, and_true]
 funext t; exact Iu l d c h t
theorem Y9 {o : Option V} {k : V → Prop} (h : Fs0 o k) : ∃ y, o = some y ∧ k y := by
 unfold Fs0 at h
 split at h
 ·exact ⟨_, rfl, h⟩
 exact h.elim
theorem EE (hT : EC P T) {t : Nat} {v : V} {k : V → Prop} (h : Pp (E4 P nt rd) T t v H k) : ∃ y, (Da P H t v = some y ∨ FM P H t v = some y) ∧ k y := by
 unfold Pp at h
 split at h
 ·exact h.elim
 rename_i I hI;have ok := D2 hT hI
 split at h
 ·rename_i cs off
  split at h
  ·rename_i y hy; exact ⟨y, .inl (by simp only [Da, ok.ag, ok.sz]; exact hy), h⟩
  exact h.elim
 ·rename_i id off;obtain ⟨cs, hk, h⟩ := h
  split at h
  ·rename_i y hy; exact ⟨y, .inl (by simp only [Da, ok.ag, ok.sz, hk]; exact hy), h⟩
  exact h.elim
 ·rename_i id i esz off;obtain ⟨sz, xs, hk, hb, h⟩ := h
  split at h
  ·rename_i y hy; exact ⟨y, .inr (by simp only [FM, ok.ag, ok.sz, Bk, hk]; rw [if_pos hb]; exact hy), h⟩
  exact h.elim
 exact h.elim
theorem UO (hT : EC P T) {t f : Nat} {I : Rc} {p : Nat × Nat} (hI : tg T t = some I) (hf : I.fs[f]? = some (some p)) : Vo P t f = some p := by
 have := LX I.fs 0 f p (D2 hT hI).fs hf
 rwa [Nat.zero_add] at this
theorem DE (hT : EC P T) {t f : Nat} {v : V} {k : V → Prop} (h : FV T t v f k) : ∃ y, CO P t v f = some y ∧ k y := by
 unfold FV at h
 split at h
 ·exact h.elim
 rename_i I hI
 split at h
 ·rename_i p hp;obtain ⟨y, h1, h2⟩ := Y9 h;exact ⟨y, by simp only [CO, UO hT hI hp]; exact h1, h2⟩
 exact h.elim
theorem GA (hT : EC P T) {t f : Nat} {v : V} {k : V → Prop} (h : NZ T t v f k) : ∃ y, JE P t v f = some y ∧ k y := by
 unfold NZ at h
 split at h
 ·exact h.elim
 rename_i I hI
 split at h
 ·rename_i p hp
  split at h
  ·exact h.elim
  rename_i J hJ
  split at h
  ·obtain ⟨y, h1, h2⟩ := Y9 h;exact ⟨y, by simp only [JE, UO hT hI hp, (D2 hT hJ).ag, (D2 hT hJ).sz]; exact h1, h2⟩
  exact h.elim
 exact h.elim
theorem Hi (hT : EC P T) {t : Nat} {v i : V} {k : V → Prop} (h : FU (E4 P nt rd) T t v i k) : ∃ ki j u y, i = .int ki j ∧ AD P t v j = some u ∧ X2 u y ∧ k y := by
 unfold FU at h
 split at h
 ·rename_i ki j
  split at h
  ·exact h.elim
  rename_i I hI;have ok := D2 hT hI;refine ⟨ki, j, ?_⟩
  split at h
  ·rename_i e he
   split at h
   ·exact h.elim
   rename_i J hJ;have okJ := D2 hT hJ
   split at h
   ·rename_i xs tl;obtain ⟨hb, h⟩ := h
    split at h
    ·rename_i hsz;refine ⟨_, _, rfl, ?_, .refl _, h⟩;simp only [AD, ok.sl, he, okJ.sz];rw [if_pos ⟨hb, by rw [Nat.eq_of_beq_eq_true hsz]⟩]
    exact h.elim
   exact h.elim
  rename_i he
  split at h
  ·rename_i n e hae
   split at h
   ·exact h.elim
   rename_i J hJ
   split at h
   ·obtain ⟨⟨hb1, hb2, hb3⟩, h⟩ := h;rename_i cs off
    have hle : off + j.toNat * J.sz + J.sz ≤ cs.length := by
     have h1 : j.toNat + 1 ≤ n := by omega
     have h2 := Nat.mul_le_mul_right J.sz h1
     rw [Nat.add_mul, Nat.one_mul] at h2
     omega
    refine ⟨_, _, rfl, ?_, .sub hle, h⟩;simp only [AD, ok.sl, he, ok.ar, hae, (D2 hT hJ).sz];rw [if_pos ⟨hb1, hb2⟩]; rfl
   obtain ⟨hb, h⟩ := h;obtain ⟨y, h1, h2⟩ := Y9 h;refine ⟨y, y, rfl, ?_, .refl _, h2⟩;simp only [AD, ok.sl, he, ok.ar, hae, (D2 hT hJ).sz];rw [if_pos hb]; exact h1
  exact h.elim
 exact h.elim
theorem Lq (hT : EC P T) {t : Nat} {v i : V} {k : V → Prop} (h : NY (E4 P nt rd) T t v i k) : ∃ ki j y, i = .int ki j ∧ Hy P t v j = some y ∧ k y := by
 unfold NY at h
 split at h
 ·rename_i ki j
  split at h
  ·exact h.elim
  rename_i I hI;have ok := D2 hT hI;refine ⟨ki, j, ?_⟩
  split at h
  ·rename_i n e hae
   split at h
   ·exact h.elim
   rename_i J hJ
   split at h
   ·obtain ⟨hb, h⟩ := h;obtain ⟨y, h1, h2⟩ := Y9 h;refine ⟨y, rfl, ?_, h2⟩;simp only [Hy, ok.ar, hae, (D2 hT hJ).ag, (D2 hT hJ).sz];rw [if_pos hb]; exact h1
   exact h.elim
  rename_i hae
  split at h
  ·split at h
   ·rename_i hs;obtain ⟨hb, h⟩ := h;refine ⟨_, rfl, ?_, h⟩;rename_i str _
    have hb : 0 ≤ j ∧ j < (str.size : Nat) := by
     rw [Ar.an_eq, Ar.cmp_eq, Ar.cmp_eq, Ar.slen_eq] at hb
     simpa [CV] using hb
    simp only [Hy, ok.ar, hae, ok.st];rw [if_pos ⟨hs, hb.1⟩, Ar.sat_eq]
    have hlt : j.toNat < str.size := by omega
    simp [hlt]
   exact h.elim
  exact h.elim
 exact h.elim
theorem Oa : ∀ xs ys : List V, Tc xs ys = Q7 xs ys
 | [], [] => rfl
 | [], _ :: _ => rfl
 | x :: xs, [] => by unfold Tc Q7; rfl
 | x :: xs, y :: ys => by
  have ih := Oa xs ys
  have hAn : (Ar.an : Bool → Bool → Bool) = fun a b => a && b := by funext a b; exact Ar.an_eq a b
  unfold Tc Q7;rw [ih, hAn]
  cases x <;> cases y <;> simp only [CD, Ar.cmp_eq, Ar.scmp_eq, Ar.beq_eq, CV, Vs] <;> first
   | rfl
   | (cases Q7 xs ys <;> rfl)
   | (split <;> cases Q7 xs ys <;> rfl)
theorem OO {op : BinOp} {ki : IntKind} {a b : Int} (h : Jx op = true) : Fa op ki a b = some (.bool (Ar.cmp op a b)) := by
 rw [Ar.cmp_eq]
 cases op <;> simp [Jx] at h <;> rfl
theorem QL {op : BinOp} {ki : IntKind} {a b : Int} (h : Ud op = true) : Fa op ki a b = some (.int ki (Ar.ar op ki a b)) := by
 rw [Ar.ar_eq]
 cases op <;> simp [Ud] at h <;> rfl
theorem ON {op : BinOp} {ki : IntKind} {a b : Int} (h : Sv op = true) (hb : b ≠ 0) : Fa op ki a b = some (.int ki (Ar.ar op ki a b)) := by
 rw [Ar.ar_eq]
 cases op <;> simp [Sv] at h <;> simp [Fa, Vt, hb]
theorem Of {op : BinOp} {a b : ByteArray} (h : Jx op = true) : IM op a b = some (.bool (Ar.scmp op a b)) := by
 rw [Ar.scmp_eq]
 cases op <;> simp [Jx] at h <;> rfl
theorem Qt {op : BinOp} {ki : IntKind} {a b : Int} (h : Db op = true) (hb : 0 ≤ b) : IS op ki a b = some (.int ki (Ar.sh op ki a b)) := by
 rw [Ar.sh_eq]
 cases op <;> simp [Db] at h <;> simp only [IS, VP] <;> rw [if_neg (by omega)]
theorem IG (hT : EC P T) {op : BinOp} {t : Nat} {x y : V} {k : V → Prop} (h : UU (E4 P nt rd) T op t x y k) : ∃ v, Io P op t x y = some v ∧ k v := by
 unfold UU at h
 split at h
 ·rename_i ka a kb b
  split at h
  ·rename_i hs;obtain ⟨hb, h⟩ := h
   have hb : 0 ≤ b := by rw [Ar.cmp_eq] at hb; simpa [CV] using hb
   exact ⟨_, by simp only [Io, hs, if_true]; exact Qt hs hb, h⟩
  rename_i hs
  split at h
  ·rename_i hk
   have e : Io P op t (.int ka a) (.int kb b) = Fa op ka a b := by simp [Io, hs, hk]
   split at h
   ·rename_i hc; exact ⟨_, e.trans (OO hc), h⟩
   split at h
   ·rename_i hc; exact ⟨_, e.trans (QL hc), h⟩
   split at h
   ·rename_i hc;obtain ⟨hb, h⟩ := h
    have hb : b ≠ 0 := by rw [Ar.cmp_eq] at hb; simpa [CV] using hb
    exact ⟨_, e.trans (ON hc hb), h⟩
   exact h.elim
  exact h.elim
 ·rename_i a b
  split at h
  ·rename_i hc; exact ⟨_, Of hc, h⟩
  split at h
  ·obtain ⟨hb, h⟩ := h
   have hb : ((a.size + b.size : Nat) : Int) ≤ 9223372036854775807 := by
    rw [Ar.cmp_eq, Ar.slen_eq, Ar.cat_eq] at hb
    have e : (a ++ b).size = a.size + b.size := by simp
    rw [e] at hb
    simpa [CV] using hb
   refine ⟨_, ?_, h⟩;simp only [Io, IM, Ar.cat_eq];rw [if_neg (by omega)]
  exact h.elim
 ·rename_i a b
  split at h
  ·exact h.elim
  rename_i I hI
  split at h
  ·rename_i hbo;have hbo' := (D2 hT hI).bo hbo
   split at h
   ·exact ⟨_, by simp only [Io, hbo', if_true, Ar.beq_eq], h⟩
   ·exact ⟨_, by simp only [Io, hbo', if_true, Ar.beq_eq, Ar.nt_eq], h⟩
   exact h.elim
  exact h.elim
 ·rename_i xs ys
  split at h
  ·exact h.elim
  rename_i I hI;have ok := D2 hT hI
  split at h
  ·rename_i hc;obtain ⟨h1, h2, h3⟩ := hc
   have hek : Cc P 9 t = some (xs.map kd) := by
    have := ok.ek
    rw [h2] at this
    exact this
   have hcond : Mj P t = some true ∧ Cc P 9 t = some (xs.map kd) ∧ ys.map kd = xs.map kd := ⟨by rw [ok.ag, h1], hek, h3⟩;cases op <;> try exact h.elim
   ·cases hx : Tc xs ys with
    | none => simp only [hx] at h
    | some b =>
     simp only [hx] at h
     rw [Oa] at hx
     exact ⟨_, by simp only [Io]; rw [if_pos hcond]; simp only [hx], h⟩
   cases hx : Tc xs ys with
   | none => simp only [hx] at h
   | some b =>
    simp only [hx] at h
    rw [Oa] at hx
    exact ⟨_, by simp only [Io]; rw [if_pos hcond]; simp only [hx, Ar.nt_eq], h⟩
  exact h.elim
 exact h.elim
theorem KA {op : UnOp} {x : Sl} {k : Sl → Prop} (h : xun op x k) : ∃ s : Sl, unV op x.V = some s.V ∧ k s := by
 unfold xun at h
 split at h
 ·split at h
  ·exact ⟨_, rfl, h⟩
  ·exact ⟨_, by rw [Ar.nt_eq]; rfl, h⟩
  exact h.elim
 ·split at h
  ·exact ⟨_, by rw [Ar.neg_eq]; rfl, h⟩
  exact h.elim
 exact h.elim
theorem Mo (hT : EC P T) {s d : Nat} {x : V} {H : A0} {k : V → Prop} (h : Rs (E4 P nt rd) T s d x H k) : ∃ v, (Lg P s d x = some v ∨ Lh P H s d x v) ∧ k v := by
 unfold Rs at h
 split at h
 ·rename_i I J hI hJ;have okI := D2 hT hI;have okJ := D2 hT hJ
  split at h
  ·rename_i ki kj n hi hj
   have e1 := okI.ik; rw [hi] at e1
   have e2 := okJ.ik; rw [hj] at e2
   simp only [V7] at e1 e2
   exact ⟨_, .inl (by simp only [Lg, e1, e2, Ar.wr_eq]), h⟩
  ·rename_i b _
   split at h
   ·rename_i h1 h2;have e1 := Hn (okI.st.trans h1);have e2 := Hn (okJ.st.trans h2);exact ⟨_, .inl (by simp only [Lg, e1, e2]), h⟩
   exact h.elim
  ·obtain ⟨v, h1, h2⟩ := h; exact ⟨v, .inr h1, h2⟩
  ·obtain ⟨v, h1, h2⟩ := h; exact ⟨v, .inr h1, h2⟩
  exact h.elim
 exact h.elim
theorem GB (hT : EC P T) {t : Nat} {parts : List (Nat × V)} {k : V → Prop} (h : Ob T t parts k) : ∃ v, HG P t parts = some v ∧ k v := by
 unfold Ob at h
 split at h
 ·exact h.elim
 rename_i I hI;have ok := D2 hT hI
 split at h
 ·rename_i cs hz
  have ez := ok.ze; rw [hz] at ez; simp only [V7] at ez
  split at h
  ·rename_i n e ha
   split at h
   ·exact h.elim
   rename_i J hJ
   split at h
   ·rename_i c hc; exact ⟨_, by simp only [HG, ok.ar, ha, ez, (D2 hT hJ).sz, hc]; rfl, h⟩
   exact h.elim
  rename_i ha
  split at h
  ·rename_i pl hpl
   have ep := ok.pl; rw [hpl] at ep; simp only [V7] at ep
   split at h
   ·rename_i c hc;have hc' : Fd (pl[·]?) cs parts = some c := hc;exact ⟨_, by simp only [HG, ok.ar, ha, ez, ep, hc']; rfl, h⟩
   exact h.elim
  exact h.elim
 exact h.elim
theorem CX (hT : EC P T) {t n : Nat} {parts : List (Nat × V)} {k : V → Prop} (h : CY T t n parts k) : ∃ v, R8 P t n parts = some v ∧ k v := by
 unfold CY at h
 split at h
 ·exact h.elim
 rename_i I hI
 split at h
 ·exact h.elim
 rename_i e he
 split at h
 ·exact h.elim
 rename_i J hJ
 split at h
 ·exact h.elim
 rename_i z hz
 have ez := (D2 hT hJ).ze; rw [hz] at ez; simp only [V7] at ez
 split at h
 ·rename_i hc;refine ⟨_, ?_, h⟩;simp only [R8, (D2 hT hI).sl, he, (D2 hT hJ).sz, ez];rw [if_pos hc]
 exact h.elim
theorem Lp (hT : EC P T) {t : Nat} {l c : V} {k : V → Prop} (h : NX T t l c k) : ∃ v, Sh P t l c v ∧ k v := by
 unfold NX at h
 split at h
 ·split at h
  ·exact h.elim
  rename_i I hI
  split at h
  ·exact h.elim
  rename_i e he
  split at h
  ·exact h.elim
  rename_i J hJ
  split at h
  ·exact h.elim
  rename_i z hz
  have ez := (D2 hT hJ).ze; rw [hz] at ez; simp only [V7] at ez
  split at h
  ·rename_i hc;obtain ⟨h1, h2, h3, h4, rfl, h6, h7⟩ := hc;exact ⟨_, ⟨_, _, _, e, J.sz, J.by_, z, rfl, rfl, by rw [(D2 hT hI).sl, he], (D2 hT hJ).sz, h1, (D2 hT hJ).by_, h2, ez, h3, h4, h6, h7, rfl⟩, h⟩
  exact h.elim
 exact h.elim
theorem Ll (hT : EC P T) {t : Nat} {v : V} {lo hi mx : Option (Option Int)} {k : V → Prop} (h : NU (E4 P nt rd) T t v lo hi mx k) :
 ∃ a b c y, lo = some a ∧ hi = some b ∧ mx = some c ∧ IN P t v a b c = some y ∧ k y := by
 unfold NU at h
 split at h
 ·rename_i a b c;refine ⟨a, b, c, ?_⟩
  split at h
  ·exact h.elim
  rename_i I hI
  split at h
  ·rename_i e he
   split at h
   ·exact h.elim
   rename_i J hJ
   split at h
   ·obtain ⟨hc, h⟩ := h;refine ⟨_, rfl, rfl, rfl, ?_, h⟩;simp only [IN, (D2 hT hI).sl, he, (D2 hT hJ).sz];rw [if_pos hc]
   exact h.elim
  exact h.elim
 exact h.elim
theorem Kh (hT : EC P T) {t id : Nat} {l0 n : Int} {lo hi mx : Option (Option Int)} {k : V → Prop} (h : Lm (E4 P nt rd) T t H id l0 n lo hi mx k) :
 ∃ a b c y, lo = some a ∧ hi = some b ∧ mx = some c ∧ EI P H t (.own id l0 n) a b c = some y ∧ k y := by
 unfold Lm at h
 split at h
 ·rename_i a b c;refine ⟨a, b, c, ?_⟩
  split at h
  ·exact h.elim
  rename_i I hI
  split at h
  ·rename_i e he
   split at h
   ·exact h.elim
   rename_i J hJ;obtain ⟨xs, hk, hc, h⟩ := h;refine ⟨_, rfl, rfl, rfl, ?_, h⟩;simp only [EI, (D2 hT hI).sl, he, (D2 hT hJ).sz, Bk, hk];rw [if_pos ⟨trivial, hc⟩];rfl
  exact h.elim
 exact h.elim
theorem Ex (hT : EC P T) {b : Builtin} {ts : List TypeId} {vs : List V} {k : V → Prop} (h : Hj (E4 P nt rd) T b ts vs k) : ∃ v, Bj P b ts vs v ∧ k v := by
 unfold Hj at h
 split at h
 ·rename_i t x
  split at h
  ·exact h.elim
  rename_i I hI;have ok := D2 hT hI
  split at h
  ·rename_i e he
   split at h
   ·exact ⟨_, by simp only [Bj, QI, ok.sl, he], h⟩
   exact h.elim
  rename_i he
  split at h
  ·rename_i n e ha;exact ⟨_, by simp only [Bj, QI, ok.sl, he, ok.ar, ha, Ar.ofN_eq], h⟩
  rename_i ha
  split at h
  ·split at h
   ·rename_i hs;exact ⟨_, by simp only [Bj, QI, ok.sl, he, ok.ar, ha, ok.st, hs, if_true, Ar.slen_eq], h⟩
   exact h.elim
  exact h.elim
 ·split at h
  ·rename_i hk; rw [Ar.mx_eq] at h; exact ⟨_, ⟨hk, rfl⟩, h⟩
  exact h.elim
 ·split at h
  ·rename_i hk; rw [Ar.mn_eq] at h; exact ⟨_, ⟨hk, rfl⟩, h⟩
  exact h.elim
 ·rename_i sT yT xs tl ys tl'
  split at h
  ·rename_i I I2 hI hI2
   split at h
   ·rename_i e e2 he he2
    split at h
    ·rename_i J hJ
     split at h
     ·rename_i z hz
      have ez := (D2 hT hJ).ze; rw [hz] at ez; simp only [V7] at ez
      split at h
      ·rename_i hc;obtain ⟨c1, c2, c3, c4, c5⟩ := hc;obtain ⟨xs', ys', l1, l2, k1, k2, k3, k4⟩ := h;refine ⟨_, ⟨?_, e, J.sz, J.by_, z, xs', ys', (D2 hT hI).sl.trans he, by rw [(D2 hT hI2).sl, he2]; rfl, (D2 hT hJ).sz, c1, (D2 hT hJ).by_, c2, ez, c3, c4, l1, l2, k1, k2, k3, rfl⟩, k4⟩;cases tl <;> first | exact .inl rfl | exact .inr rfl | cases c5
      exact h.elim
     exact h.elim
    exact h.elim
   exact h.elim
  exact h.elim
 exact h.elim
theorem HM {t : Bool} {x y : Sl} {k : Sl → Prop} (h : Rm (E4 P nt rd) t x y k) : ∃ s : Sl, (t = true → s.V = x.V) ∧ (t = false → s.V = y.V) ∧ k s := by
 unfold Rm at h
 split at h
 ·exact ⟨_, fun _ => rfl, fun _ => rfl, h⟩
 ·exact ⟨_, fun e => (by simp [Sl.V, e]), fun e => (by simp [Sl.V, e]), h⟩
 ·exact ⟨_, fun e => (by simp [Sl.V, Ar.or_eq, e]), fun e => (by simp [Sl.V, Ar.or_eq, e]), h⟩
 ·exact ⟨_, fun e => (by simp [Sl.V, Ar.nt_eq, e]), fun e => (by simp [Sl.V, Ar.nt_eq, e]), h⟩
 ·exact ⟨_, fun _ => rfl, fun _ => rfl, h⟩
 ·exact ⟨_, fun e => (by simp [Sl.V, Ar.nt_eq, Ar.an_eq, e]), fun e => (by simp [Sl.V, Ar.nt_eq, Ar.an_eq, e]), h⟩
 ·exact ⟨_, fun e => (by simp [Sl.V, Ar.nt_eq, Ar.or_eq, e]), fun e => (by simp [Sl.V, Ar.nt_eq, Ar.or_eq, e]), h⟩
 ·exact ⟨_, fun e => (by simp [Sl.V, Ar.an_eq, e]), fun e => (by simp [Sl.V, Ar.an_eq, e]), h⟩
 ·exact ⟨_, fun e => (by simp [Sl.V, Ar.pk_eq, e]), fun e => (by simp [Sl.V, Ar.pk_eq, e]), h⟩
 obtain ⟨h1, h2⟩ := h;cases t
 ·exact ⟨y, fun e => (by cases e), fun _ => rfl, h2 rfl⟩
 exact ⟨x, fun _ => rfl, fun e => (by cases e), h1 rfl⟩
theorem ED.arm {G : List (Nat × Bool)} (hG : ED G l) {c : Operand} {w : Bool} (h : ev (D8 ⟨l, df⟩) c = .bool w) : ED (Vx c w G) l := by
 cases c with
 | tmp d =>
  refine hG.add ?_;have : X1 l d = .bool w := h;rw [this]; simp [OM]
 | const _ => exact hG
 | global _ => exact hG
 | func _ => exact hG
theorem HN (hT : EC P T) {b : Builtin} {ts : List TypeId} {vs : List V} {w : V} {k : V → Prop} (hid : OC b vs = some w) (h : Rp (E4 P nt rd) T b ts H w k) : ∃ v, Gl P H b ts vs v ∧ k v := by
 unfold OC at hid
 unfold Rp at h
 split at hid
 ·cases hid
  split at h
  ·split at h
   ·exact h.elim
   rename_i I hI
   split at h
   ·rename_i e he;exact ⟨_, by simp only [Gl, TY, (D2 hT hI).sl, he], h⟩
   exact h.elim
  exact h.elim
 ·cases hid
  split at h
  ·split at h
   ·exact h.elim
   rename_i I hI
   split at h
   ·rename_i e he
    split at h
    ·rename_i e1; cases e1
    ·obtain ⟨sz, xs, hk, h⟩ := h;exact ⟨_, by simp only [Gl, Pb, (D2 hT hI).sl, he, Bk, hk]; rfl, h⟩
    ·exact ⟨_, by simp only [Gl, Pb, (D2 hT hI).sl, he], h⟩
    ·exact ⟨_, by simp only [Gl, Pb, (D2 hT hI).sl, he], h⟩
    exact h.elim
   exact h.elim
  exact h.elim
 cases hid
theorem Gy (hT : EC P T) {G : List (Nat × Bool)} (hG : ED G l) {o : Oper} {k : Sl → Prop} (h : xq (E4 P nt rd) T G o l H k) : ∃ s : Sl, Ge P o (ev (D8 ⟨l, df⟩)) H s.V ∧ k s := by
 have E : ∀ x, (J8 G l x).V = ev (D8 ⟨l, df⟩) x := fun x => Bb hG x;have Em : ∀ xs : List Operand, (xs.map fun x => (J8 G l x).V) = xs.map (ev (D8 ⟨l, df⟩)) := fun xs => List.map_congr_left fun p _ => E p
 have Eo : ∀ x : Option Operand, (x.map fun x => (J8 G l x).V) = x.map (ev (D8 ⟨l, df⟩)) := fun x => by cases x <;> simp [E]
 have Ep : ∀ ps : List (Nat × Operand), (ps.map fun p => (p.1, (J8 G l p.2).V)) = ps.map fun p => (p.1, ev (D8 ⟨l, df⟩) p.2) := fun ps => List.map_congr_left fun p _ => by rw [E]
 unfold xq at h
 unfold Ge
 split at h <;> rename_i ho <;> simp only [ho]
 ·exact ⟨_, E _, h⟩
 ·exact ⟨_, E _, h⟩
 ·rename_i c x y
  split at h
  ·rename_i hc
   have : ev (D8 ⟨l, df⟩) c = .bool true := by rw [← E, hc]; rfl
   exact ⟨_, by simp only [this, if_true]; exact E _, h⟩
  ·rename_i hc
   have : ev (D8 ⟨l, df⟩) c = .bool false := by rw [← E, hc]; rfl
   exact ⟨_, by simp only [this]; exact E _, h⟩
  ·rename_i b hc
   have hb : ev (D8 ⟨l, df⟩) c = .bool b := by rw [← E, hc]; rfl
   obtain ⟨s, h1, h2, h3⟩ := HM h;refine ⟨s, ?_, h3⟩;simp only [hb];cases b
   ·simp only [Bool.false_eq_true, if_false]; rw [h2 rfl]; exact Bb (hG.arm hb) _
   simp only [if_true]; rw [h1 rfl]; exact Bb (hG.arm hb) _
  exact h.elim
 ·split at h
  ·rename_i h1; rw [E] at h1; exact ⟨_, ⟨h1, by rw [E]; rfl⟩, h⟩
  exact h.elim
 ·obtain ⟨v, h1, h2⟩ := GB hT h
  rw [Ep] at h1; exact ⟨.v v, h1, h2⟩
 ·obtain ⟨v, h1, h2⟩ := CX hT h
  rw [Ep] at h1; exact ⟨.v v, h1, h2⟩
 ·obtain ⟨v, h1, h2⟩ := Lp hT h
  rw [E, E] at h1; exact ⟨.v v, h1, h2⟩
 ·obtain ⟨v, h1, h2⟩ := EE hT h
  rw [E] at h1; exact ⟨.v v, h1, h2⟩
 ·split at h
  ·rename_i h1; rw [E] at h1; exact ⟨_, ⟨h1, E _⟩, h⟩
  exact h.elim
 ·obtain ⟨v, h1, h2⟩ := IG hT h
  rw [E, E] at h1; exact ⟨.v v, h1, h2⟩
 ·obtain ⟨s, h1, h2⟩ := KA h
  rw [E] at h1; exact ⟨s, h1, h2⟩
 ·obtain ⟨v, h1, h2⟩ := Mo hT h
  rw [E] at h1; exact ⟨.v v, h1, h2⟩
 ·obtain ⟨v, h1, h2⟩ := h
  rw [E, E] at h1; exact ⟨.v v, h1, h2⟩
 ·split at h
  ·rename_i I hI
   split at h
   ·rename_i hn; exact ⟨_, ⟨(D2 hT hI).nif hn, by rw [E]; rfl⟩, h⟩
   exact h.elim
  exact h.elim
 ·exact ⟨_, by rw [Em, Em]; rfl, h⟩
 ·split at h
  ·rename_i id l0 n hx;obtain ⟨a, b, c, y, h1, h2, h3, h4, h5⟩ := Kh hT h
   rw [Eo] at h1 h2 h3
   rw [E] at hx
   exact ⟨.v y, by simp only [h1, h2, h3, hx]; exact .inr h4, h5⟩
  obtain ⟨a, b, c, y, h1, h2, h3, h4, h5⟩ := Ll hT h
  rw [Eo] at h1 h2 h3
  rw [E] at h4
  exact ⟨.v y, by simp only [h1, h2, h3]; exact .inl h4, h5⟩
 ·obtain ⟨v, h1, h2⟩ := DE hT h
  rw [E] at h1; exact ⟨.v v, h1, h2⟩
 ·obtain ⟨v, h1, h2⟩ := GA hT h
  rw [E] at h1; exact ⟨.v v, h1, h2⟩
 ·split at h
  ·rename_i id lo n hx
   unfold UB at h
   split at h
   ·rename_i i hi
    split at h
    ·exact h.elim
    rename_i I hI
    split at h
    ·rename_i e he
     split at h
     ·exact h.elim
     rename_i J hJ;obtain ⟨⟨xs, hk⟩, hb, h⟩ := h
     rw [E] at hx hi
     refine ⟨.v _, ?_, h⟩;simp only [hi, hx];refine .inr ?_;simp only [OQ, (D2 hT hI).sl, he, Bk, hk, (D2 hT hJ).sz, Ar.ofs_eq];rw [if_pos ⟨hb, trivial⟩]; rfl
    exact h.elim
   exact h.elim
  obtain ⟨ki, j, u, y, h1, h2, h4, h3⟩ := Hi hT h
  rw [E] at h1 h2
  exact ⟨.v y, by simp only [h1]; exact .inl ⟨u, h2, h4⟩, h3⟩
 ·obtain ⟨ki, j, y, h1, h2, h3⟩ := Lq hT h
  rw [E] at h1 h2
  exact ⟨.v y, by simp only [h1]; exact h2, h3⟩
 ·split at h
  ·rename_i cs hc
   rw [E] at hc
   obtain ⟨y, h1, h2⟩ := Y9 h;exact ⟨.v y, by simp only [hc]; exact h1, h2⟩
  exact h.elim
 ·rename_i c
  split at h
  ·rename_i b hb
   split at h
   ·rename_i w hid
    rw [Em] at hid
    obtain ⟨v, h1, h2⟩ := HN hT hid h;exact ⟨.v v, by simp only [hb]; exact .inr h1, h2⟩
   obtain ⟨v, h1, h2⟩ := Ex hT h
   rw [Em] at h1
   exact ⟨.v v, by simp only [hb]; exact .inl h1, h2⟩
  exact h.elim
 exact h.elim
end
end Go.Ab
