/- AbA21 -/
import Derived.Test.YtodfgmbacmnalaaGreatT15
set_option linter.all false

namespace Go.Ab
open Go.RowKit
variable [Glob] [Ar]
section
variable {P : Program} {nt : Nat} {rd : Option Nat} {T : Tbl} {l : Fl} {df : List Nat} {H : Heap}
def Gok (G : List (Nat × Bool)) (l : Fl) : Prop := ∀ j w, hasG G j w = true → isB (lkV l j) w = true
theorem Gok.nil : Gok [] l := fun j w h => by simp [hasG] at h
theorem Gok.add {G : List (Nat × Bool)} (h : Gok G l) {d : Nat} {w : Bool} (hd : isB (lkV l d) w = true) : Gok ((d, w) :: G) l := by
 intro j w' hg
 simp only [hasG] at hg
 split at hg
 ·rename_i e
  simp only [Bool.and_eq_true, beq_iff_eq] at e
  have := Nat.eq_of_beq_eq_true e.1
  rw [← this, ← e.2]; exact hd
 ·exact h j w' hg
theorem beq_ne {a b : Nat} (h : Nat.beq a b = false) : a ≠ b := fun e => by subst e; rw [Nat.beq_refl] at h; cases h
theorem lkV_lk : ∀ (l : Fl) (t : Nat) (s : Sl), lk l t = s → (∀ j w x, s ≠ .g j w x) → lkV l t = s.V
 | [], t, s, h, _ => by simp only [lk] at h; subst h; rfl
 | (k, x) :: l, t, s, h, hn => by
  simp only [lk] at h
  simp only [lkV]
  cases hb : Nat.beq t k with
  | true =>
   simp only [hb] at h
   subst h
   cases x with
   | v x => rfl
   | b c => rfl
   | g j w x => exact absurd rfl (hn j w x)
  | false => simp only [hb] at h; exact lkV_lk l t s h hn
theorem frsh_ok : ∀ (l : Fl) (t j : Nat) (w : Bool) (x : V), lk l t = .g j w x → frsh l t j = true → lkV l t = bif isB (lkV l j) w then x else .tup []
 | [], _, _, _, _, _, h => by simp [frsh] at h
 | (k, s) :: l, t, j, w, x, h, hf => by
  simp only [frsh] at hf
  simp only [lk] at h
  cases hj : Nat.beq k j with
  | true => simp [hj] at hf
  | false =>
   simp only [hj] at hf
   have hj' : Nat.beq j k = false := by
    cases e : Nat.beq j k with
    | false => rfl
    | true => exact absurd (Nat.eq_of_beq_eq_true e).symm (beq_ne hj)
   have ej : lkV ((k, s) :: l) j = lkV l j := by simp only [lkV, hj']
   rw [ej]
   simp only [lkV]
   cases ht : Nat.beq t k with
   | true =>
    simp only [ht] at h
    subst h
    rfl
   | false =>
    have ht' : Nat.beq k t = false := by
     cases e : Nat.beq k t with
     | false => rfl
     | true => exact absurd (Nat.eq_of_beq_eq_true e).symm (beq_ne ht)
    simp only [ht', ht] at hf h ⊢
    exact frsh_ok l t j w x h hf
theorem opndO_ok {G : List (Nat × Bool)} (hG : Gok G l) {t : Nat} {s : Sl} (h : opndO G l t = some s) : s.V = lkV l t ∧ ∀ j w x, s ≠ .g j w x := by
 unfold opndO at h
 split at h
 ·rename_i j w x hl
  split at h
  ·rename_i hf
   have e := frsh_ok l t j w x hl hf
   split at h
   ·rename_i hg
    cases h
    rw [e, hG j w hg]
    exact ⟨rfl, fun _ _ _ h => (by cases h)⟩
   ·split at h
    ·rename_i c hc
     have ec := lkV_lk l j _ hc (fun _ _ _ h => by cases h)
     rw [ec] at e
     split at h
     ·rename_i hcw
      cases h
      rw [e]; simp only [isB, Sl.V, hcw]
      exact ⟨rfl, fun _ _ _ h => (by cases h)⟩
     ·rename_i hcw
      cases h
      rw [e]; simp only [isB, Sl.V, hcw]
      exact ⟨rfl, fun _ _ _ h => (by cases h)⟩
    ·cases h
  ·cases h
 ·rename_i s' hn
  cases h
  exact ⟨(lkV_lk l t _ rfl (fun j w x e => hn j w x e)).symm, fun j w x e => hn j w x e⟩
theorem opnd_ok {G : List (Nat × Bool)} (hG : Gok G l) (t : Nat) : (opnd G l t).V = lkV l t := by
 unfold opnd
 split
 ·rename_i s h; exact (opndO_ok hG h).1
 ·rfl
theorem evS_ev {G : List (Nat × Bool)} (hG : Gok G l) (x : Operand) : (evS G l x).V = ev (frOf ⟨l, df⟩) x := by
 cases x with
 | tmp t => exact opnd_ok hG t
 | const v =>
  cases v <;> first | rfl | skip
 | global n => rfl
 | func f => rfl
theorem setK_ok : ∀ (l : Fl) (d : Nat) (c : Bool), lkV l d = .bool c → ∀ t, lkV (setK l d c) t = lkV l t
 | [], _, _, _, _ => rfl
 | (k, s) :: l, d, c, h, t => by
  simp only [setK]
  cases hd : Nat.beq d k with
  | true =>
   have e := Nat.eq_of_beq_eq_true hd
   subst e
   simp only [lkV]
   cases ht : Nat.beq t d with
   | true =>
    have e := Nat.eq_of_beq_eq_true ht
    subst e
    simp only [lkV, Nat.beq_refl] at h
    exact h.symm
   | false => rfl
  | false =>
   have hl : lkV l d = .bool c := by simpa only [lkV, hd] using h
   have ih := setK_ok l d c hl
   simp only [lkV]
   cases ht : Nat.beq t k with
   | true =>
    cases s with
    | v x => rfl
    | b c => rfl
    | g j w x => simp only [ih j]
   | false => exact ih t
theorem frOf_setK {d : Nat} {c : Bool} (h : lkV l d = .bool c) : frOf ⟨setK l d c, df⟩ = frOf ⟨l, df⟩ := by
 simp only [frOf, Fr.mk.injEq, and_true]
 funext t; exact setK_ok l d c h t
theorem xsomeK_sound {o : Option V} {k : V → Prop} (h : xsomeK o k) : ∃ y, o = some y ∧ k y := by
 unfold xsomeK at h
 split at h
 ·exact ⟨_, rfl, h⟩
 ·exact h.elim
theorem xload_sound (hT : TOk P T) {t : Nat} {v : V} {k : V → Prop} (h : xload (real P nt rd) T t v H k) : ∃ y, (loadV P H t v = some y ∨ loadO P H t v = some y) ∧ k y := by
 unfold xload at h
 split at h
 ·exact h.elim
 ·rename_i I hI
  have ok := tg_ok hT hI
  split at h
  ·rename_i cs off
   split at h
   ·rename_i y hy; exact ⟨y, .inl (by simp only [loadV, ok.ag, ok.sz]; exact hy), h⟩
   ·exact h.elim
  ·rename_i id off
   obtain ⟨cs, hk, h⟩ := h
   split at h
   ·rename_i y hy; exact ⟨y, .inl (by simp only [loadV, ok.ag, ok.sz, hk]; exact hy), h⟩
   ·exact h.elim
  ·rename_i id i esz off
   obtain ⟨sz, xs, hk, hb, h⟩ := h
   split at h
   ·rename_i y hy; exact ⟨y, .inr (by simp only [loadO, ok.ag, ok.sz, arrO, hk]; rw [if_pos hb]; exact hy), h⟩
   ·exact h.elim
  ·exact h.elim
theorem fd_at (hT : TOk P T) {t f : Nat} {I : TInf} {p : Nat × Nat} (hI : tg T t = some I) (hf : I.fs[f]? = some (some p)) : fdO P t f = some p := by
 have := fsOk_at I.fs 0 f p (tg_ok hT hI).fs hf
 rwa [Nat.zero_add] at this
theorem xfieldAddr_sound (hT : TOk P T) {t f : Nat} {v : V} {k : V → Prop} (h : xfieldAddr T t v f k) : ∃ y, fieldAddrV P t v f = some y ∧ k y := by
 unfold xfieldAddr at h
 split at h
 ·exact h.elim
 ·rename_i I hI
  split at h
  ·rename_i p hp
   obtain ⟨y, h1, h2⟩ := xsomeK_sound h
   exact ⟨y, by simp only [fieldAddrV, fd_at hT hI hp]; exact h1, h2⟩
  ·exact h.elim
theorem xfield_sound (hT : TOk P T) {t f : Nat} {v : V} {k : V → Prop} (h : xfield T t v f k) : ∃ y, fieldV P t v f = some y ∧ k y := by
 unfold xfield at h
 split at h
 ·exact h.elim
 ·rename_i I hI
  split at h
  ·rename_i p hp
   split at h
   ·exact h.elim
   ·rename_i J hJ
    split at h
    ·obtain ⟨y, h1, h2⟩ := xsomeK_sound h
     exact ⟨y, by simp only [fieldV, fd_at hT hI hp, (tg_ok hT hJ).ag, (tg_ok hT hJ).sz]; exact h1, h2⟩
    ·exact h.elim
  ·exact h.elim
theorem xindexAddr_sound (hT : TOk P T) {t : Nat} {v i : V} {k : V → Prop} (h : xindexAddr (real P nt rd) T t v i k) : ∃ ki j u y, i = .int ki j ∧ indexAddrV P t v j = some u ∧ LeV u y ∧ k y := by
 unfold xindexAddr at h
 split at h
 ·rename_i ki j
  split at h
  ·exact h.elim
  ·rename_i I hI
   have ok := tg_ok hT hI
   refine ⟨ki, j, ?_⟩
   split at h
   ·rename_i e he
    split at h
    ·exact h.elim
    ·rename_i J hJ
     have okJ := tg_ok hT hJ
     split at h
     ·rename_i xs tl
      obtain ⟨hb, h⟩ := h
      split at h
      ·rename_i hsz
       refine ⟨_, _, rfl, ?_, .refl _, h⟩
       simp only [indexAddrV, ok.sl, he, okJ.sz]
       rw [if_pos ⟨hb, by rw [Nat.eq_of_beq_eq_true hsz]⟩]
      ·exact h.elim
     ·exact h.elim
   ·rename_i he
    split at h
    ·rename_i n e hae
     split at h
     ·exact h.elim
     ·rename_i J hJ
      split at h
      ·obtain ⟨⟨hb1, hb2, hb3⟩, h⟩ := h
       rename_i cs off
       have hle : off + j.toNat * J.sz + J.sz ≤ cs.length := by
        have h1 : j.toNat + 1 ≤ n := by omega
        have h2 := Nat.mul_le_mul_right J.sz h1
        rw [Nat.add_mul, Nat.one_mul] at h2
        omega
       refine ⟨_, _, rfl, ?_, .sub hle, h⟩
       simp only [indexAddrV, ok.sl, he, ok.ar, hae, (tg_ok hT hJ).sz]
       rw [if_pos ⟨hb1, hb2⟩]; rfl
      ·obtain ⟨hb, h⟩ := h
       obtain ⟨y, h1, h2⟩ := xsomeK_sound h
       refine ⟨y, y, rfl, ?_, .refl _, h2⟩
       simp only [indexAddrV, ok.sl, he, ok.ar, hae, (tg_ok hT hJ).sz]
       rw [if_pos hb]; exact h1
    ·exact h.elim
 ·exact h.elim
theorem xindex_sound (hT : TOk P T) {t : Nat} {v i : V} {k : V → Prop} (h : xindex (real P nt rd) T t v i k) : ∃ ki j y, i = .int ki j ∧ indexV P t v j = some y ∧ k y := by
 unfold xindex at h
 split at h
 ·rename_i ki j
  split at h
  ·exact h.elim
  ·rename_i I hI
   have ok := tg_ok hT hI
   refine ⟨ki, j, ?_⟩
   split at h
   ·rename_i n e hae
    split at h
    ·exact h.elim
    ·rename_i J hJ
     split at h
     ·obtain ⟨hb, h⟩ := h
      obtain ⟨y, h1, h2⟩ := xsomeK_sound h
      refine ⟨y, rfl, ?_, h2⟩
      simp only [indexV, ok.ar, hae, (tg_ok hT hJ).ag, (tg_ok hT hJ).sz]
      rw [if_pos hb]; exact h1
     ·exact h.elim
   ·rename_i hae
    split at h
    ·split at h
     ·rename_i hs
      obtain ⟨hb, h⟩ := h
      refine ⟨_, rfl, ?_, h⟩
      rename_i str _
      have hb : 0 ≤ j ∧ j < (str.size : Nat) := by
       rw [Ar.an_eq, Ar.cmp_eq, Ar.cmp_eq, Ar.slen_eq] at hb
       simpa [cmpI] using hb
      simp only [indexV, ok.ar, hae, ok.st]
      rw [if_pos ⟨hs, hb.1⟩, Ar.sat_eq]
      have hlt : j.toNat < str.size := by omega
      simp [hlt]
     ·exact h.elim
    ·exact h.elim
 ·exact h.elim
theorem xeq_eq : ∀ xs ys : List V, xeq xs ys = eqCells xs ys
 | [], [] => rfl
 | [], _ :: _ => rfl
 | x :: xs, [] => by unfold xeq eqCells; rfl
 | x :: xs, y :: ys => by
  have ih := xeq_eq xs ys
  have hAn : (Ar.an : Bool → Bool → Bool) = fun a b => a && b := by funext a b; exact Ar.an_eq a b
  unfold xeq eqCells
  rw [ih, hAn]
  cases x <;> cases y <;> simp only [scalarEq, Ar.cmp_eq, Ar.scmp_eq, Ar.beq_eq, cmpI, cmpS] <;> first
   | rfl
   | (cases eqCells xs ys <;> rfl)
   | (split <;> cases eqCells xs ys <;> rfl)
theorem intBin_cmp {op : BinOp} {ki : IntKind} {a b : Int} (h : isCmp op = true) : intBin op ki a b = some (.bool (Ar.cmp op a b)) := by
 rw [Ar.cmp_eq]
 cases op <;> simp [isCmp] at h <;> rfl
theorem intBin_ar {op : BinOp} {ki : IntKind} {a b : Int} (h : isAr op = true) : intBin op ki a b = some (.int ki (Ar.ar op ki a b)) := by
 rw [Ar.ar_eq]
 cases op <;> simp [isAr] at h <;> rfl
theorem intBin_div {op : BinOp} {ki : IntKind} {a b : Int} (h : isDiv op = true) (hb : b ≠ 0) : intBin op ki a b = some (.int ki (Ar.ar op ki a b)) := by
 rw [Ar.ar_eq]
 cases op <;> simp [isDiv] at h <;> simp [intBin, arI, hb]
theorem strBin_cmp {op : BinOp} {a b : ByteArray} (h : isCmp op = true) : strBin op a b = some (.bool (Ar.scmp op a b)) := by
 rw [Ar.scmp_eq]
 cases op <;> simp [isCmp] at h <;> rfl
theorem shiftV_eq {op : BinOp} {ki : IntKind} {a b : Int} (h : isShift op = true) (hb : 0 ≤ b) : shiftV op ki a b = some (.int ki (Ar.sh op ki a b)) := by
 rw [Ar.sh_eq]
 cases op <;> simp [isShift] at h <;> simp only [shiftV, shI] <;> rw [if_neg (by omega)]
theorem xbin_sound (hT : TOk P T) {op : BinOp} {t : Nat} {x y : V} {k : V → Prop} (h : xbin (real P nt rd) T op t x y k) : ∃ v, binV P op t x y = some v ∧ k v := by
 unfold xbin at h
 split at h
 ·rename_i ka a kb b
  split at h
  ·rename_i hs
   obtain ⟨hb, h⟩ := h
   have hb : 0 ≤ b := by rw [Ar.cmp_eq] at hb; simpa [cmpI] using hb
   exact ⟨_, by simp only [binV, hs, if_true]; exact shiftV_eq hs hb, h⟩
  ·rename_i hs
   split at h
   ·rename_i hk
    have e : binV P op t (.int ka a) (.int kb b) = intBin op ka a b := by simp [binV, hs, hk]
    split at h
    ·rename_i hc; exact ⟨_, e.trans (intBin_cmp hc), h⟩
    ·split at h
     ·rename_i hc; exact ⟨_, e.trans (intBin_ar hc), h⟩
     ·split at h
      ·rename_i hc
       obtain ⟨hb, h⟩ := h
       have hb : b ≠ 0 := by rw [Ar.cmp_eq] at hb; simpa [cmpI] using hb
       exact ⟨_, e.trans (intBin_div hc hb), h⟩
      ·exact h.elim
   ·exact h.elim
 ·rename_i a b
  split at h
  ·rename_i hc; exact ⟨_, strBin_cmp hc, h⟩
  ·split at h
   ·obtain ⟨hb, h⟩ := h
    have hb : ((a.size + b.size : Nat) : Int) ≤ 9223372036854775807 := by
     rw [Ar.cmp_eq, Ar.slen_eq, Ar.cat_eq] at hb
     have e : (a ++ b).size = a.size + b.size := by simp
     rw [e] at hb
     simpa [cmpI] using hb
    refine ⟨_, ?_, h⟩
    simp only [binV, strBin, Ar.cat_eq]
    rw [if_neg (by omega)]
   ·exact h.elim
 ·rename_i a b
  split at h
  ·exact h.elim
  ·rename_i I hI
   split at h
   ·rename_i hbo
    have hbo' := (tg_ok hT hI).bo hbo
    split at h
    ·exact ⟨_, by simp only [binV, hbo', if_true, Ar.beq_eq], h⟩
    ·exact ⟨_, by simp only [binV, hbo', if_true, Ar.beq_eq, Ar.nt_eq], h⟩
    ·exact h.elim
   ·exact h.elim
 ·rename_i xs ys
  split at h
  ·exact h.elim
  ·rename_i I hI
   have ok := tg_ok hT hI
   split at h
   ·rename_i hc
    obtain ⟨h1, h2, h3⟩ := hc
    have hek : flatEq P 9 t = some (xs.map kd) := by
     have := ok.ek
     rw [h2] at this
     exact this
    have hcond : agO P t = some true ∧ flatEq P 9 t = some (xs.map kd) ∧ ys.map kd = xs.map kd := ⟨by rw [ok.ag, h1], hek, h3⟩
    cases op <;> try exact h.elim
    ·cases hx : xeq xs ys with
     | none => simp only [hx] at h
     | some b =>
      simp only [hx] at h
      rw [xeq_eq] at hx
      exact ⟨_, by simp only [binV]; rw [if_pos hcond]; simp only [hx], h⟩
    ·cases hx : xeq xs ys with
     | none => simp only [hx] at h
     | some b =>
      simp only [hx] at h
      rw [xeq_eq] at hx
      exact ⟨_, by simp only [binV]; rw [if_pos hcond]; simp only [hx, Ar.nt_eq], h⟩
   ·exact h.elim
 ·exact h.elim
theorem xun_sound {op : UnOp} {x : Sl} {k : Sl → Prop} (h : xun op x k) : ∃ s : Sl, unV op x.V = some s.V ∧ k s := by
 unfold xun at h
 split at h
 ·split at h
  ·exact ⟨_, rfl, h⟩
  ·exact ⟨_, by rw [Ar.nt_eq]; rfl, h⟩
  ·exact h.elim
 ·split at h
  ·exact ⟨_, by rw [Ar.neg_eq]; rfl, h⟩
  ·exact h.elim
 ·exact h.elim
theorem xconv_sound (hT : TOk P T) {s d : Nat} {x : V} {H : Heap} {k : V → Prop} (h : xconv (real P nt rd) T s d x H k) : ∃ v, (convV P s d x = some v ∨ convO P H s d x v) ∧ k v := by
 unfold xconv at h
 split at h
 ·rename_i I J hI hJ
  have okI := tg_ok hT hI
  have okJ := tg_ok hT hJ
  split at h
  ·rename_i ki kj n hi hj
   have e1 := okI.ik; rw [hi] at e1
   have e2 := okJ.ik; rw [hj] at e2
   simp only [optOk] at e1 e2
   exact ⟨_, .inl (by simp only [convV, e1, e2, Ar.wr_eq]), h⟩
  ·rename_i b _
   split at h
   ·rename_i h1 h2
    have e1 := strO_some (okI.st.trans h1)
    have e2 := strO_some (okJ.st.trans h2)
    exact ⟨_, .inl (by simp only [convV, e1, e2]), h⟩
   ·exact h.elim
  ·obtain ⟨v, h1, h2⟩ := h; exact ⟨v, .inr h1, h2⟩
  ·obtain ⟨v, h1, h2⟩ := h; exact ⟨v, .inr h1, h2⟩
  ·exact h.elim
 ·exact h.elim
theorem xbuild_sound (hT : TOk P T) {t : Nat} {parts : List (Nat × V)} {k : V → Prop} (h : xbuild T t parts k) : ∃ v, buildV P t parts = some v ∧ k v := by
 unfold xbuild at h
 split at h
 ·exact h.elim
 ·rename_i I hI
  have ok := tg_ok hT hI
  split at h
  ·rename_i cs hz
   have ez := ok.ze; rw [hz] at ez; simp only [optOk] at ez
   split at h
   ·rename_i n e ha
    split at h
    ·exact h.elim
    ·rename_i J hJ
     split at h
     ·rename_i c hc; exact ⟨_, by simp only [buildV, ok.ar, ha, ez, (tg_ok hT hJ).sz, hc]; rfl, h⟩
     ·exact h.elim
   ·rename_i ha
    split at h
    ·rename_i pl hpl
     have ep := ok.pl; rw [hpl] at ep; simp only [optOk] at ep
     split at h
     ·rename_i c hc
      have hc' : fillV (pl[·]?) cs parts = some c := hc
      exact ⟨_, by simp only [buildV, ok.ar, ha, ez, ep, hc']; rfl, h⟩
     ·exact h.elim
    ·exact h.elim
  ·exact h.elim
theorem xbuildSlice_sound (hT : TOk P T) {t n : Nat} {parts : List (Nat × V)} {k : V → Prop} (h : xbuildSlice T t n parts k) : ∃ v, buildSliceV P t n parts = some v ∧ k v := by
 unfold xbuildSlice at h
 split at h
 ·exact h.elim
 ·rename_i I hI
  split at h
  ·exact h.elim
  ·rename_i e he
   split at h
   ·exact h.elim
   ·rename_i J hJ
    split at h
    ·exact h.elim
    ·rename_i z hz
     have ez := (tg_ok hT hJ).ze; rw [hz] at ez; simp only [optOk] at ez
     split at h
     ·rename_i hc
      refine ⟨_, ?_, h⟩
      simp only [buildSliceV, (tg_ok hT hI).sl, he, (tg_ok hT hJ).sz, ez]
      rw [if_pos hc]
     ·exact h.elim
theorem xmakeQ_sound (hT : TOk P T) {t : Nat} {l c : V} {k : V → Prop} (h : xmakeQ T t l c k) : ∃ v, makeV P t l c v ∧ k v := by
 unfold xmakeQ at h
 split at h
 ·split at h
  ·exact h.elim
  ·rename_i I hI
   split at h
   ·exact h.elim
   ·rename_i e he
    split at h
    ·exact h.elim
    ·rename_i J hJ
     split at h
     ·exact h.elim
     ·rename_i z hz
      have ez := (tg_ok hT hJ).ze; rw [hz] at ez; simp only [optOk] at ez
      split at h
      ·rename_i hc
       obtain ⟨h1, h2, h3, h4, rfl, h6, h7⟩ := hc
       exact ⟨_, ⟨_, _, _, e, J.sz, J.by_, z, rfl, rfl, by rw [(tg_ok hT hI).sl, he], (tg_ok hT hJ).sz, h1, (tg_ok hT hJ).by_, h2, ez, h3, h4, h6, h7, rfl⟩, h⟩
      ·exact h.elim
 ·exact h.elim
theorem xslice_sound (hT : TOk P T) {t : Nat} {v : V} {lo hi mx : Option (Option Int)} {k : V → Prop} (h : xslice (real P nt rd) T t v lo hi mx k) :
 ∃ a b c y, lo = some a ∧ hi = some b ∧ mx = some c ∧ sliceV P t v a b c = some y ∧ k y := by
 unfold xslice at h
 split at h
 ·rename_i a b c
  refine ⟨a, b, c, ?_⟩
  split at h
  ·exact h.elim
  ·rename_i I hI
   split at h
   ·rename_i e he
    split at h
    ·exact h.elim
    ·rename_i J hJ
     split at h
     ·obtain ⟨hc, h⟩ := h
      refine ⟨_, rfl, rfl, rfl, ?_, h⟩
      simp only [sliceV, (tg_ok hT hI).sl, he, (tg_ok hT hJ).sz]
      rw [if_pos hc]
     ·exact h.elim
   ·exact h.elim
 ·exact h.elim
theorem xoslice_sound (hT : TOk P T) {t id : Nat} {l0 n : Int} {lo hi mx : Option (Option Int)} {k : V → Prop} (h : xoslice (real P nt rd) T t H id l0 n lo hi mx k) :
 ∃ a b c y, lo = some a ∧ hi = some b ∧ mx = some c ∧ sliceO P H t (.own id l0 n) a b c = some y ∧ k y := by
 unfold xoslice at h
 split at h
 ·rename_i a b c
  refine ⟨a, b, c, ?_⟩
  split at h
  ·exact h.elim
  ·rename_i I hI
   split at h
   ·rename_i e he
    split at h
    ·exact h.elim
    ·rename_i J hJ
     obtain ⟨xs, hk, hc, h⟩ := h
     refine ⟨_, rfl, rfl, rfl, ?_, h⟩
     simp only [sliceO, (tg_ok hT hI).sl, he, (tg_ok hT hJ).sz, arrO, hk]
     rw [if_pos ⟨trivial, hc⟩]
     rfl
   ·exact h.elim
 ·exact h.elim
theorem xbuiltinQ_sound (hT : TOk P T) {b : Builtin} {ts : List TypeId} {vs : List V} {k : V → Prop} (h : xbuiltinQ (real P nt rd) T b ts vs k) : ∃ v, builtinQ P b ts vs v ∧ k v := by
 unfold xbuiltinQ at h
 split at h
 ·rename_i t x
  split at h
  ·exact h.elim
  ·rename_i I hI
   have ok := tg_ok hT hI
   split at h
   ·rename_i e he
    split at h
    ·exact ⟨_, by simp only [builtinQ, lenV, ok.sl, he], h⟩
    ·exact h.elim
   ·rename_i he
    split at h
    ·rename_i n e ha
     exact ⟨_, by simp only [builtinQ, lenV, ok.sl, he, ok.ar, ha, Ar.ofN_eq], h⟩
    ·rename_i ha
     split at h
     ·split at h
      ·rename_i hs
       exact ⟨_, by simp only [builtinQ, lenV, ok.sl, he, ok.ar, ha, ok.st, hs, if_true, Ar.slen_eq], h⟩
      ·exact h.elim
     ·exact h.elim
 ·split at h
  ·rename_i hk; rw [Ar.mx_eq] at h; exact ⟨_, ⟨hk, rfl⟩, h⟩
  ·exact h.elim
 ·split at h
  ·rename_i hk; rw [Ar.mn_eq] at h; exact ⟨_, ⟨hk, rfl⟩, h⟩
  ·exact h.elim
 ·rename_i sT yT xs tl ys tl'
  split at h
  ·rename_i I I2 hI hI2
   split at h
   ·rename_i e e2 he he2
    split at h
    ·rename_i J hJ
     split at h
     ·rename_i z hz
      have ez := (tg_ok hT hJ).ze; rw [hz] at ez; simp only [optOk] at ez
      split at h
      ·rename_i hc
       obtain ⟨c1, c2, c3, c4, c5⟩ := hc
       obtain ⟨xs', ys', l1, l2, k1, k2, k3, k4⟩ := h
       refine ⟨_, ⟨?_, e, J.sz, J.by_, z, xs', ys', (tg_ok hT hI).sl.trans he, by rw [(tg_ok hT hI2).sl, he2]; rfl, (tg_ok hT hJ).sz, c1, (tg_ok hT hJ).by_, c2, ez, c3, c4, l1, l2, k1, k2, k3, rfl⟩, k4⟩
       cases tl <;> first | exact .inl rfl | exact .inr rfl | cases c5
      ·exact h.elim
     ·exact h.elim
    ·exact h.elim
   ·exact h.elim
  ·exact h.elim
 ·exact h.elim
theorem xpick_sound {t : Bool} {x y : Sl} {k : Sl → Prop} (h : xpick (real P nt rd) t x y k) : ∃ s : Sl, (t = true → s.V = x.V) ∧ (t = false → s.V = y.V) ∧ k s := by
 unfold xpick at h
 split at h
 ·exact ⟨_, fun _ => rfl, fun _ => rfl, h⟩
 ·exact ⟨_, fun e => (by simp [Sl.V, e]), fun e => (by simp [Sl.V, e]), h⟩
 ·exact ⟨_, fun e => (by simp [Sl.V, Ar.or_eq, e]), fun e => (by simp [Sl.V, Ar.or_eq, e]), h⟩
 ·exact ⟨_, fun e => (by simp [Sl.V, Ar.nt_eq, e]), fun e => (by simp [Sl.V, Ar.nt_eq, e]), h⟩
 ·exact ⟨_, fun _ => rfl, fun _ => rfl, h⟩
 ·exact ⟨_, fun e => (by simp [Sl.V, Ar.nt_eq, Ar.an_eq, e]), fun e => (by simp [Sl.V, Ar.nt_eq, Ar.an_eq, e]), h⟩
 ·exact ⟨_, fun e => (by simp [Sl.V, Ar.nt_eq, Ar.or_eq, e]), fun e => (by simp [Sl.V, Ar.nt_eq, Ar.or_eq, e]), h⟩
 ·exact ⟨_, fun e => (by simp [Sl.V, Ar.an_eq, e]), fun e => (by simp [Sl.V, Ar.an_eq, e]), h⟩
 ·exact ⟨_, fun e => (by simp [Sl.V, Ar.pk_eq, e]), fun e => (by simp [Sl.V, Ar.pk_eq, e]), h⟩
 ·obtain ⟨h1, h2⟩ := h
  cases t
  ·exact ⟨y, fun e => (by cases e), fun _ => rfl, h2 rfl⟩
  ·exact ⟨x, fun _ => rfl, fun e => (by cases e), h1 rfl⟩
theorem Gok.arm {G : List (Nat × Bool)} (hG : Gok G l) {c : Operand} {w : Bool} (h : ev (frOf ⟨l, df⟩) c = .bool w) : Gok (addG c w G) l := by
 cases c with
 | tmp d =>
  refine hG.add ?_
  have : lkV l d = .bool w := h
  rw [this]; simp [isB]
 | const _ => exact hG
 | global _ => exact hG
 | func _ => exact hG
theorem xolen_sound (hT : TOk P T) {b : Builtin} {ts : List TypeId} {vs : List V} {w : V} {k : V → Prop} (hid : ownLen b vs = some w) (h : xolen (real P nt rd) T b ts H w k) : ∃ v, lenB P H b ts vs v ∧ k v := by
 unfold ownLen at hid
 unfold xolen at h
 split at hid
 ·cases hid
  split at h
  ·split at h
   ·exact h.elim
   ·rename_i I hI
    split at h
    ·rename_i e he
     exact ⟨_, by simp only [lenB, lenO, (tg_ok hT hI).sl, he], h⟩
    ·exact h.elim
  ·exact h.elim
 ·cases hid
  split at h
  ·split at h
   ·exact h.elim
   ·rename_i I hI
    split at h
    ·rename_i e he
     split at h
     ·rename_i e1; cases e1
     ·obtain ⟨sz, xs, hk, h⟩ := h
      exact ⟨_, by simp only [lenB, capO, (tg_ok hT hI).sl, he, arrO, hk]; rfl, h⟩
     ·exact ⟨_, by simp only [lenB, capO, (tg_ok hT hI).sl, he], h⟩
     ·exact ⟨_, by simp only [lenB, capO, (tg_ok hT hI).sl, he], h⟩
     ·exact h.elim
    ·exact h.elim
  ·exact h.elim
 ·cases hid
theorem xq_sound (hT : TOk P T) {G : List (Nat × Bool)} (hG : Gok G l) {o : Oper} {k : Sl → Prop} (h : xq (real P nt rd) T G o l H k) : ∃ s : Sl, opQ P o (ev (frOf ⟨l, df⟩)) H s.V ∧ k s := by
 have E : ∀ x, (evS G l x).V = ev (frOf ⟨l, df⟩) x := fun x => evS_ev hG x
 have Em : ∀ xs : List Operand, (xs.map fun x => (evS G l x).V) = xs.map (ev (frOf ⟨l, df⟩)) := fun xs => List.map_congr_left fun p _ => E p
 have Eo : ∀ x : Option Operand, (x.map fun x => (evS G l x).V) = x.map (ev (frOf ⟨l, df⟩)) := fun x => by cases x <;> simp [E]
 have Ep : ∀ ps : List (Nat × Operand), (ps.map fun p => (p.1, (evS G l p.2).V)) = ps.map fun p => (p.1, ev (frOf ⟨l, df⟩) p.2) := fun ps => List.map_congr_left fun p _ => by rw [E]
 unfold xq at h
 unfold opQ
 split at h <;> rename_i ho <;> simp only [ho]
 ·exact ⟨_, E _, h⟩
 ·exact ⟨_, E _, h⟩
 ·rename_i c x y
  split at h
  ·rename_i hc
   have : ev (frOf ⟨l, df⟩) c = .bool true := by rw [← E, hc]; rfl
   exact ⟨_, by simp only [this, if_true]; exact E _, h⟩
  ·rename_i hc
   have : ev (frOf ⟨l, df⟩) c = .bool false := by rw [← E, hc]; rfl
   exact ⟨_, by simp only [this]; exact E _, h⟩
  ·rename_i b hc
   have hb : ev (frOf ⟨l, df⟩) c = .bool b := by rw [← E, hc]; rfl
   obtain ⟨s, h1, h2, h3⟩ := xpick_sound h
   refine ⟨s, ?_, h3⟩
   simp only [hb]
   cases b
   ·simp only [Bool.false_eq_true, if_false]; rw [h2 rfl]; exact evS_ev (hG.arm hb) _
   ·simp only [if_true]; rw [h1 rfl]; exact evS_ev (hG.arm hb) _
  ·exact h.elim
 ·split at h
  ·rename_i h1; rw [E] at h1; exact ⟨_, ⟨h1, by rw [E]; rfl⟩, h⟩
  ·exact h.elim
 ·obtain ⟨v, h1, h2⟩ := xbuild_sound hT h
  rw [Ep] at h1; exact ⟨.v v, h1, h2⟩
 ·obtain ⟨v, h1, h2⟩ := xbuildSlice_sound hT h
  rw [Ep] at h1; exact ⟨.v v, h1, h2⟩
 ·obtain ⟨v, h1, h2⟩ := xmakeQ_sound hT h
  rw [E, E] at h1; exact ⟨.v v, h1, h2⟩
 ·obtain ⟨v, h1, h2⟩ := xload_sound hT h
  rw [E] at h1; exact ⟨.v v, h1, h2⟩
 ·split at h
  ·rename_i h1; rw [E] at h1; exact ⟨_, ⟨h1, E _⟩, h⟩
  ·exact h.elim
 ·obtain ⟨v, h1, h2⟩ := xbin_sound hT h
  rw [E, E] at h1; exact ⟨.v v, h1, h2⟩
 ·obtain ⟨s, h1, h2⟩ := xun_sound h
  rw [E] at h1; exact ⟨s, h1, h2⟩
 ·obtain ⟨v, h1, h2⟩ := xconv_sound hT h
  rw [E] at h1; exact ⟨.v v, h1, h2⟩
 ·obtain ⟨v, h1, h2⟩ := h
  rw [E, E] at h1; exact ⟨.v v, h1, h2⟩
 ·split at h
  ·rename_i I hI
   split at h
   ·rename_i hn; exact ⟨_, ⟨(tg_ok hT hI).nif hn, by rw [E]; rfl⟩, h⟩
   ·exact h.elim
  ·exact h.elim
 ·exact ⟨_, by rw [Em, Em]; rfl, h⟩
 ·split at h
  ·rename_i id l0 n hx
   obtain ⟨a, b, c, y, h1, h2, h3, h4, h5⟩ := xoslice_sound hT h
   rw [Eo] at h1 h2 h3
   rw [E] at hx
   exact ⟨.v y, by simp only [h1, h2, h3, hx]; exact .inr h4, h5⟩
  ·obtain ⟨a, b, c, y, h1, h2, h3, h4, h5⟩ := xslice_sound hT h
   rw [Eo] at h1 h2 h3
   rw [E] at h4
   exact ⟨.v y, by simp only [h1, h2, h3]; exact .inl h4, h5⟩
 ·obtain ⟨v, h1, h2⟩ := xfieldAddr_sound hT h
  rw [E] at h1; exact ⟨.v v, h1, h2⟩
 ·obtain ⟨v, h1, h2⟩ := xfield_sound hT h
  rw [E] at h1; exact ⟨.v v, h1, h2⟩
 ·split at h
  ·rename_i id lo n hx
   unfold xoidx at h
   split at h
   ·rename_i i hi
    split at h
    ·exact h.elim
    ·rename_i I hI
     split at h
     ·rename_i e he
      split at h
      ·exact h.elim
      ·rename_i J hJ
       obtain ⟨⟨xs, hk⟩, hb, h⟩ := h
       rw [E] at hx hi
       refine ⟨.v _, ?_, h⟩
       simp only [hi, hx]
       refine .inr ?_
       simp only [idxO, (tg_ok hT hI).sl, he, arrO, hk, (tg_ok hT hJ).sz, Ar.ofs_eq]
       rw [if_pos ⟨hb, trivial⟩]; rfl
     ·exact h.elim
   ·exact h.elim
  obtain ⟨ki, j, u, y, h1, h2, h4, h3⟩ := xindexAddr_sound hT h
  rw [E] at h1 h2
  exact ⟨.v y, by simp only [h1]; exact .inl ⟨u, h2, h4⟩, h3⟩
 ·obtain ⟨ki, j, y, h1, h2, h3⟩ := xindex_sound hT h
  rw [E] at h1 h2
  exact ⟨.v y, by simp only [h1]; exact h2, h3⟩
 ·split at h
  ·rename_i cs hc
   rw [E] at hc
   obtain ⟨y, h1, h2⟩ := xsomeK_sound h
   exact ⟨.v y, by simp only [hc]; exact h1, h2⟩
  ·exact h.elim
 ·rename_i c
  split at h
  ·rename_i b hb
   split at h
   ·rename_i w hid
    rw [Em] at hid
    obtain ⟨v, h1, h2⟩ := xolen_sound hT hid h
    exact ⟨.v v, by simp only [hb]; exact .inr h1, h2⟩
   ·obtain ⟨v, h1, h2⟩ := xbuiltinQ_sound hT h
    rw [Em] at h1
    exact ⟨.v v, by simp only [hb]; exact .inl h1, h2⟩
  ·exact h.elim
 ·exact h.elim
end
end Go.Ab

