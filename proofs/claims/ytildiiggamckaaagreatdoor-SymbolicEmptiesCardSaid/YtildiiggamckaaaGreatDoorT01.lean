/- AbA1 AbA2 AbA3 -/
import Derived.RangeFuncLeaves
import Derived.Below
import Derived.Laws.OwnMore
import Derived.Laws.CopyRow
import Derived.Laws.StructEq
set_option linter.all false
namespace Go.Ab
open Go.RowKit
inductive D6 where
 | nil
 | full
 | ro
 | tok (t : Nat)
inductive V where
 | bad
 | bool (b : Bool)
 | int (k : IntKind) (n : Int)
 | str (s : ByteArray)
 | nilp
 | ref (id off : Nat)
 | eref (cs : List V) (off : Nat)
 | sl (xs : List V) (t : D6)
 | own (id : Nat) (lo n : Int)
 | elem (id : Nat) (i : Int) (sz off : Nat)
 | func (fn : Fn) (first cap : List V)
 | nilf
 | iface (t : TypeId) (v : V)
 | nili
 | agg (cs : List V)
 | tup (vs : List V)
 | map (id : Nat)
 | nilmap
 | fmap (ks : List Int) (xs : List V)
 | yield (id : Nat)
instance : Inhabited V := ⟨.bad⟩
def V.cells : V → List V
 | .agg cs => cs
 | v => [v]
def V.one : V → Bool
 | .bad => false
 | .tup _ => false
 | _ => true
structure VL where
 nt : Nat
 s : Nat → V
 st : LoopState
 pe : Option Code
 ps : Array Tmp
 asg : Code
 body : Code
inductive Au where
 | cells (cs : List V)
 | spare
 | obj (o : Obj)
 | loop (L : VL)
 | arr (sz : Nat) (xs : List V)
 | iter (mid since : Nat) (seen : Array Nat) (c0 : Nat)
 | fm (ks : List Int) (xs : List V)
abbrev A0 := Nat → Option Au
def upd (H : A0) (id : Nat) (b : Option Au) : A0 := fun x => if x = id then b else H x
class G5 where
 gl : Nat → V
structure Hd where
 o : Nat
 cap : Nat
 sz : Nat
structure Gh where
 mu : Nat → Option Nat
 ow : Nat → Hd
 tk : Nat → Option (Nat × Nat × Nat)
 fz : Nat → Nat → Prop
 nx : Nat
 base : Nat
def DU (g : Gh) (b o sz n cap : Nat) : D6 → Prop
 | .nil => False
 | .full => cap = n
 | .ro => True
 | .tok t => 0 < n ∧ ∃ lim, g.tk t = some (b, o + n * sz, lim) ∧ o + cap * sz ≤ lim
def D6.plain : D6 → Bool
 | .tok _ => false
 | _ => true
inductive VR (g : Gh) (w : World) : Value → V → Prop
 | bad (v : Value) : VR g w v .bad
 | bool (b : Bool) : VR g w (.bool b) (.bool b)
 | int (k : IntKind) (n : Int) : VR g w (.int k n) (.int k n)
 | str (s : ByteArray) : VR g w (.string s) (.str s)
 | nilp : VR g w (.pointer none) .nilp
 | nilf : VR g w .nilFunc .nilf
 | nili : VR g w .nilIface .nili
 | nilmap : VR g w (.map none) .nilmap
 | map {id b : Nat} (h : g.mu id = some b) : VR g w (.map (some b)) (.map id)
 | ref {id b off : Nat} (h : g.mu id = some b) : VR g w (.pointer (some ⟨b, off, none⟩)) (.ref id off)
 | own {id b : Nat} {lo n : Int} {p : Option Addr} (h : g.mu id = some b) (h0 : 0 ≤ lo) (h1 : 0 ≤ n) (h2 : lo + n ≤ (g.ow id).cap) (hp : lo < (g.ow id).cap → p = some ⟨b, (g.ow id).o + lo.toNat * (g.ow id).sz, none⟩) :
  VR g w (.slice p n.toNat ((g.ow id).cap - lo.toNat)) (.own id lo n)
 | elem {id b sz off : Nat} {i : Int} (h : g.mu id = some b) (hs : (g.ow id).sz = sz) : VR g w (.pointer (some ⟨b, (g.ow id).o + i.toNat * sz + off, none⟩)) (.elem id i sz off)
 | eref {b o off : Nat} {cs : List V} (vs : Nat → Value) (hf : ∀ j, j < cs.length → g.fz b (o + j))
  (hw : ∀ j, j < cs.length → w.cell? ⟨b, o + j, none⟩ = some (vs j)) (h1 : ∀ j, j < cs.length → (vs j).oneCell' = true)
  (hv : ∀ j, j < cs.length → VR g w (vs j) (cs.getD j .bad)) : VR g w (.pointer (some ⟨b, o + off, none⟩)) (.eref cs off)
 | sl0 {t : D6} (ht : t.plain = true) : VR g w (.slice none 0 0) (.sl [] t)
 | sle {a : Addr} {cap : Nat} {t : D6} (ht : t = .ro ∨ (t = .full ∧ cap = 0)) : VR g w (.slice (some a) 0 cap) (.sl [] t)
 | sl {b o sz n cap : Nat} {xs : List V} {t : D6} (vs : Nat → Nat → Value) (hn : xs.length = n) (hc : n ≤ cap)
  (hz : ∀ i, i < n → (xs.getD i .bad).cells.length = sz) (hf : ∀ i j, i < n → j < sz → g.fz b (o + i * sz + j))
  (hw : ∀ i j, i < n → j < sz → w.cell? ⟨b, o + i * sz + j, none⟩ = some (vs i j)) (h1 : ∀ i j, i < n → j < sz → (vs i j).oneCell' = true)
  (hv : ∀ i j, i < n → j < sz → VR g w (vs i j) ((xs.getD i .bad).cells.getD j .bad)) (ht : DU g b o sz n cap t) :
  VR g w (.slice (some ⟨b, o, none⟩) n cap) (.sl xs t)
 | func {fn : Fn} {fs cs : Array Value} {F C : List V} (hl : fs.size = F.length) (hv : ∀ i, i < F.length → VR g w (fs.getD i undef) (F.getD i .bad))
  (hl' : cs.size = C.length) (hv' : ∀ i, i < C.length → VR g w (cs.getD i undef) (C.getD i .bad)) : VR g w (.func fn fs cs) (.func fn F C)
 | fmap {b : Nat} {es : Array MapEntry} {clock : Nat} {ks : List Int} {xs : List V} (hb : b < g.base) (hw : w.heap[b]? = some (.map es clock)) (hk : es.toList.map (·.key) = ks.map (Value.int .i64)) (hn : ks.Nodup) (hl : xs.length = ks.length)
  (hv : ∀ i e, es[i]? = some e → VR g w e.val (xs.getD i .bad)) : VR g w (.map (some b)) (.fmap ks xs)
 | yield {id b : Nat} (h : g.mu id = some b) : VR g w (.func (.yield b) #[] #[]) (.yield id)
 | iface {t : TypeId} {v : Value} {V : V} (h : VR g w v V) : VR g w (.iface t v) (.iface t V)
 | agg {vs : Array Value} {cs : List V} (hl : vs.size = cs.length) (h1 : ∀ i, i < cs.length → (vs.getD i undef).oneCell' = true)
  (hv : ∀ i, i < cs.length → VR g w (vs.getD i undef) (cs.getD i .bad)) : VR g w (.agg vs) (.agg cs)
 | tup {vs : Array Value} {cs : List V} (hl : vs.size = cs.length) (hv : ∀ i, i < cs.length → VR g w (vs.getD i undef) (cs.getD i .bad)) :
  VR g w (.tuple vs) (.tup cs)
theorem VR.und (g : Gh) (w : World) : VR g w undef (.tup []) := .tup rfl fun i hi => by simp at hi
structure M4 (g : Gh) (w : World) (g' : Gh) (w' : World) : Prop where
 mu : ∀ id b, g.mu id = some b → g'.mu id = some b
 tk : ∀ t x, g.tk t = some x → g'.tk t = some x
 fz : ∀ b o, g.fz b o → g'.fz b o
 base : g'.base = g.base
 cell : ∀ b o, g.fz b o → w'.cell? ⟨b, o, none⟩ = w.cell? ⟨b, o, none⟩
 low : Below g.base w w'
 ow : ∀ id b, g.mu id = some b → g'.ow id = g.ow id
theorem M4.refl (g : Gh) (w : World) : M4 g w g w := ⟨fun _ _ h => h, fun _ _ h => h, fun _ _ h => h, rfl, fun _ _ _ => rfl, Below.refl _ _, fun _ _ _ => rfl⟩
theorem M4.trans {g g' g'' : Gh} {w w' w'' : World} (h : M4 g w g' w') (k : M4 g' w' g'' w'') : M4 g w g'' w'' :=
 ⟨fun id b e => k.mu id b (h.mu id b e), fun t x e => k.tk t x (h.tk t x e), fun b o e => k.fz b o (h.fz b o e), k.base.trans h.base,
  fun b o e => (k.cell b o (h.fz b o e)).trans (h.cell b o e), h.low.trans (h.base ▸ k.low), fun id b e => (k.ow id b (h.mu id b e)).trans (h.ow id b e)⟩
theorem DU.mono {g g' : Gh} {b o sz n cap : Nat} {t : D6} (h : DU g b o sz n cap t) (ht : ∀ t x, g.tk t = some x → g'.tk t = some x) :
 DU g' b o sz n cap t := by
 cases t with
 | tok t => obtain ⟨h0, lim, h1, h2⟩ := h; exact ⟨h0, lim, ht _ _ h1, h2⟩
 | nil => exact h
 | full => exact h
 | ro => exact h
theorem VR.mono {g g' : Gh} {w w' : World} (s : M4 g w g' w') {v : Value} {V : V} (h : VR g w v V) : VR g' w' v V := by
 induction h with
 | bad v => exact .bad v
 | bool b => exact .bool b
 | int k n => exact .int k n
 | str s => exact .str s
 | nilp => exact .nilp
 | nilf => exact .nilf
 | nili => exact .nili
 | nilmap => exact .nilmap
 | map h => exact .map (s.mu _ _ h)
 | fmap hb hw hk hn hl hv ih => exact .fmap (by rw [s.base]; exact hb) ((s.low.block _ hb).trans hw) hk hn hl ih
 | ref h => exact .ref (s.mu _ _ h)
 | own h h0 h1 h2 hp =>
  have e := s.ow _ _ h
  rw [← e] at h2 hp ⊢
  exact .own (s.mu _ _ h) h0 h1 h2 hp
 | elem h hs =>
  have e := s.ow _ _ h
  rw [← e] at hs ⊢
  exact .elem (s.mu _ _ h) hs
 | eref vs hf hw h1 hv ih => exact .eref vs (fun j hj => s.fz _ _ (hf j hj)) (fun j hj => (s.cell _ _ (hf j hj)).trans (hw j hj)) h1 ih
 | sl0 ht => exact .sl0 ht
 | sle ht => exact .sle ht
 | sl vs hn hc hz hf hw h1 hv ht ih =>
  exact .sl vs hn hc hz (fun i j hi hj => s.fz _ _ (hf i j hi hj)) (fun i j hi hj => (s.cell _ _ (hf i j hi hj)).trans (hw i j hi hj)) h1 ih (ht.mono s.tk)
 | func hl hv hl' hv' ih ih' => exact .func hl ih hl' ih'
 | yield h => exact .yield (s.mu _ _ h)
 | iface h ih => exact .iface ih
 | agg hl h1 hv ih => exact .agg hl h1 ih
 | tup hl hv ih => exact .tup hl ih
def Gh.at (g : Gh) (H : A0) (id : Nat) : Option Nat :=
 match H id with
 | some .spare => (g.tk id).map (·.1)
 | some (.arr _ xs) => if xs.length = 0 then none else g.mu id
 | some _ => g.mu id
 | none => none
def Obj.isCells : Obj → Bool
 | .cells .. => true
 | _ => false
def Gr (g : Gh) (w : World) (id : Nat) : Au → Prop
 | .cells cs => ∃ b c T, g.mu id = some b ∧ g.base ≤ b ∧ w.heap[b]? = some (.cells c T (0, 0)) ∧ c.size = cs.length ∧
  (∀ j, j < cs.length → (c.getD j undef).oneCell' = true ∧ VR g w (c.getD j undef) (cs.getD j .bad)) ∧ ∀ o, ¬ g.fz b o
 | .spare => ∃ b e lim c T, g.tk id = some (b, e, lim) ∧ g.base ≤ b ∧ w.heap[b]? = some (.cells c T (0, 0)) ∧ e ≤ lim ∧ c.size = lim ∧ ∀ o, e ≤ o → ¬ g.fz b o
 | .arr sz xs => ∃ b, g.mu id = some b ∧ (g.ow id).sz = sz ∧ (g.ow id).cap = xs.length ∧ (∀ i, i < xs.length → (xs.getD i .bad).cells.length = sz) ∧
  (xs.length = 0 ∨ ∃ c T, g.base ≤ b ∧ w.heap[b]? = some (.cells c T (0, 0)) ∧ (g.ow id).o + xs.length * sz ≤ c.size ∧
   (∀ i j, i < xs.length → j < sz → (c.getD ((g.ow id).o + i * sz + j) undef).oneCell' = true ∧ VR g w (c.getD ((g.ow id).o + i * sz + j) undef) ((xs.getD i .bad).cells.getD j .bad)) ∧
   ∀ o, (g.ow id).o ≤ o → ¬ g.fz b o)
 | .obj o => ∃ b, g.mu id = some b ∧ g.base ≤ b ∧ w.heap[b]? = some o ∧ Obj.isCells o = false
 | .fm ks xs => ∃ b es clock, g.mu id = some b ∧ g.base ≤ b ∧ w.heap[b]? = some (.map es clock) ∧ es.toList.map (·.key) = ks.map (Value.int .i64) ∧ ks.Nodup ∧ xs.length = ks.length ∧ ∀ i e, es[i]? = some e → VR g w e.val (xs.getD i .bad)
 | .iter mid since seen c0 => ∃ b bm, g.mu id = some b ∧ g.base ≤ b ∧ g.mu mid = some bm ∧ w.heap[b]? = some (.mapIter (some bm) since seen c0)
 | .loop L => ∃ b r, g.mu id = some b ∧ g.base ≤ b ∧ w.heap[b]? = some (.loop r) ∧ r.state = L.st ∧ r.pending = L.pe ∧ r.params = L.ps ∧ r.assign = L.asg ∧ r.body = L.body ∧ r.tmps.size = L.nt ∧
  ∀ t, VR g w (r.tmps.getD t undef) (L.s t)
structure Rl [G5] (g : Gh) (H : A0) (w : World) : Prop where
 blk : ∀ id b, H id = some b → Gr g w id b
 inj : ∀ id id' b, g.at H id = some b → g.at H id' = some b → id = id'
 frz : ∀ b o, g.fz b o → ∃ v, w.cell? ⟨b, o, none⟩ = some v
 nxt : ∀ id, g.nx ≤ id → g.mu id = none ∧ g.tk id = none ∧ H id = none
 bnd : g.base ≤ w.heap.size
 glb : ∀ n, VR g w (.pointer (some ⟨n, 0, none⟩)) (G5.gl n)
structure Fr where
 s : Nat → V
 df : List Nat
def Fr.put (fr : Fr) (d : Option Tmp) (v : V) : Fr :=
 match d with
 | some d => { fr with s := fun t => if t = d then v else fr.s t }
 | none => fr
structure FR (nt : Nat) (g : Gh) (w : World) (a : Act) (fr : Fr) : Prop where
 size : a.tmps.size = nt
 s : ∀ t, VR g w (a.tmps.getD t undef) (fr.s t)
 df : ∃ bs : List Nat, bs.length = fr.df.length ∧ (∀ i, i < bs.length → g.mu (fr.df.getD i 0) = some (bs.getD i 0)) ∧ a.defers = bs.map fun b => { target := .collected b, args := #[] }
theorem FR.mono {nt : Nat} {g g' : Gh} {w w' : World} {a : Act} {fr : Fr} (h : FR nt g w a fr) (s : M4 g w g' w') : FR nt g' w' a fr := by
 refine ⟨h.size, fun t => (h.s t).mono s, ?_⟩;obtain ⟨bs, h1, h2, h3⟩ := h.df;exact ⟨bs, h1, fun i hi => s.mu _ _ (h2 i hi), h3⟩
theorem FR.put {nt : Nat} {g : Gh} {w : World} {a : Act} {fr : Fr} (h : FR nt g w a fr) {d : Option Tmp} {v : Value} {V : V} (hd : ∀ t, d = some t → t < nt) (hv : VR g w v V) :
 FR nt g w (a.put d v) (fr.put d V) := by
 cases d with
 | none => exact h
 | some d =>
  have hlt := hd d rfl;refine ⟨by simp [Act.put, h.size], fun t => ?_, h.df⟩;have hs := h.s t;simp only [Act.put, Fr.put]
  by_cases e : t = d
  ·subst e
   have : (a.tmps.setIfInBounds t v).getD t undef = v := by
    simp [Array.getD, h.size, hlt]
   rw [this]; simpa using hv
  have : (a.tmps.setIfInBounds d v).getD t undef = a.tmps.getD t undef := by
   simp only [Array.getD_eq_getD_getElem?, Array.getElem?_setIfInBounds];rw [if_neg (by omega)]
  rw [this]; simpa [e] using hs
end Go.Ab
namespace Go.Ab
open Go.RowKit
variable [G5]
theorem A9 (H : A0) (id : Nat) (b : Option Au) : upd H id b id = b := by simp [upd]
theorem A3 (H : A0) {id x : Nat} (b : Option Au) (h : x ≠ id) : upd H id b x = H x := by simp [upd, h]
theorem P6 (H : A0) (id : Nat) (a b : Option Au) : upd (upd H id a) id b = upd H id b := by
 funext x; simp only [upd]; split <;> rfl
theorem SG (H : A0) (id : Nat) (h : H id = none) : upd H id none = H := by
 funext x; simp only [upd]; split
 ·next e => rw [e, h]
 rfl
theorem Nk (H : A0) (id : Nat) (b : Option Au) (h : H id = none) : upd (upd H id b) id none = H := by rw [P6, SG H id h]
theorem SF (H : A0) (id : Nat) (b : Option Au) (h : H id = b) : upd H id b = H := by
 funext x; simp only [upd]; split
 ·next e => rw [e, h]
 rfl
theorem L7 {H : A0} {id x : Nat} {b : Au} (h : H id = none) (hx : H x = some b) : x ≠ id := by
 intro e; rw [e, h] at hx; cases hx
theorem Gr.mono {g g' : Gh} {w w' : World} {H : A0} {id : Nat} {k : Au} (hk : H id = some k) (s : M4 g w g' w') (h : Gr g w id k)
 (hh : ∀ b, g.at H id = some b → w'.heap[b]? = w.heap[b]? ∧ ∀ o, g'.fz b o → g.fz b o) : Gr g' w' id k := by
 cases k with
 | cells cs =>
  obtain ⟨b, c, T, h1, h2, h3, h4, h5, h6⟩ := h;have hb := hh b (by simp [Gh.at, hk, h1]);exact ⟨b, c, T, s.mu _ _ h1, s.base ▸ h2, hb.1.trans h3, h4, fun j hj => ⟨(h5 j hj).1, (h5 j hj).2.mono s⟩, fun o ho => h6 o (hb.2 o ho)⟩
 | spare =>
  obtain ⟨b, e, lim, c, T, h1, h2, h3, h4, h5, h6⟩ := h;have hb := hh b (by simp [Gh.at, hk, h1]);exact ⟨b, e, lim, c, T, s.tk _ _ h1, s.base ▸ h2, hb.1.trans h3, h4, h5, fun o ho hf => h6 o ho (hb.2 o hf)⟩
 | obj o =>
  obtain ⟨b, h1, h2, h3, h4⟩ := h;have hb := hh b (by simp [Gh.at, hk, h1]);exact ⟨b, s.mu _ _ h1, s.base ▸ h2, hb.1.trans h3, h4⟩
 | iter mid since seen c0 =>
  obtain ⟨b, bm, h1, h2, h3, h4⟩ := h;have hb := hh b (by simp [Gh.at, hk, h1]);exact ⟨b, bm, s.mu _ _ h1, s.base ▸ h2, s.mu _ _ h3, hb.1.trans h4⟩
 | fm ks xs =>
  obtain ⟨b, es, clock, h1, h2, h3, h4, h5, h6, h7⟩ := h;have hb := hh b (by simp [Gh.at, hk, h1]);exact ⟨b, es, clock, s.mu _ _ h1, s.base ▸ h2, hb.1.trans h3, h4, h5, h6, fun i e hi => (h7 i e hi).mono s⟩
 | loop L =>
  obtain ⟨b, r, h1, h2, h3, h4, h5, h6, h7, h8, h9, h10⟩ := h;have hb := hh b (by simp [Gh.at, hk, h1]);exact ⟨b, r, s.mu _ _ h1, s.base ▸ h2, hb.1.trans h3, h4, h5, h6, h7, h8, h9, fun t => (h10 t).mono s⟩
 | arr sz xs =>
  obtain ⟨b, h1, hs, h2, h3, h4⟩ := h;have e := s.ow _ _ h1;refine ⟨b, s.mu _ _ h1, by rw [e]; exact hs, by rw [e]; exact h2, h3, ?_⟩;rw [e]
  rcases h4 with h4 | ⟨c, T, k1, k2, k3, k4, k5⟩
  ·exact .inl h4
  by_cases h0 : xs.length = 0
  ·exact .inl h0
  have hb := hh b (by simp only [Gh.at, hk, h0, if_false]; exact h1);exact .inr ⟨c, T, s.base ▸ k1, hb.1.trans k2, k3, fun i j hi hj => ⟨(k4 i j hi hj).1, (k4 i j hi hj).2.mono s⟩, fun o ho hf => k5 o ho (hb.2 o hf)⟩
theorem Gr.lt {g : Gh} {w : World} {H : A0} {id b : Nat} {k : Au} (hk : H id = some k) (h : Gr g w id k) (hb : g.at H id = some b) : b < w.heap.size := by
 have lt_of : ∀ {b : Nat} {o : Obj}, w.heap[b]? = some o → b < w.heap.size := by
  intro b o h
  rcases Nat.lt_or_ge b w.heap.size with h' | h'
  ·exact h'
  simp [Array.getElem?_eq_none h'] at h
 cases k with
 | cells cs =>
  obtain ⟨b', c, T, h1, _, h3, _⟩ := h
  simp [Gh.at, hk, h1] at hb; subst hb; exact lt_of h3
 | spare =>
  obtain ⟨b', e, lim, c, T, h1, _, h3, _⟩ := h
  simp [Gh.at, hk, h1] at hb; subst hb; exact lt_of h3
 | obj o =>
  obtain ⟨b', h1, _, h3, _⟩ := h
  simp [Gh.at, hk, h1] at hb; subst hb; exact lt_of h3
 | fm ks xs =>
  obtain ⟨b', es, clock, h1, _, h3, _⟩ := h
  simp [Gh.at, hk, h1] at hb; subst hb; exact lt_of h3
 | loop L =>
  obtain ⟨b', r, h1, _, h3, _⟩ := h
  simp [Gh.at, hk, h1] at hb; subst hb; exact lt_of h3
 | iter mid since seen c0 =>
  obtain ⟨b', bm, h1, _, _, h3⟩ := h
  simp [Gh.at, hk, h1] at hb; subst hb; exact lt_of h3
 | arr sz xs =>
  obtain ⟨b', h1, hs, h2, h3, h4⟩ := h
  by_cases h0 : xs.length = 0
  ·simp only [Gh.at, hk, h0, if_true] at hb; cases hb
  simp only [Gh.at, hk, h0, if_false, h1, Option.some.injEq] at hb; subst hb
  rcases h4 with h4 | ⟨c, T, k1, k2, _⟩
  ·exact absurd h4 h0
  exact lt_of k2
theorem Rl.lt {g : Gh} {H : A0} {w : World} (h : Rl g H w) {id b : Nat} (hb : g.at H id = some b) : b < w.heap.size := by
 cases hk : H id with
 | none => simp [Gh.at, hk] at hb
 | some k => exact (h.blk id k hk).lt hk hb
theorem Rl.fz_lt {g : Gh} {H : A0} {w : World} (h : Rl g H w) {b o : Nat} (hf : g.fz b o) : b < w.heap.size := by
 obtain ⟨v, hv⟩ := h.frz b o hf;exact World.block_lt_of_cell? w (a := ⟨b, o, none⟩) hv
theorem Rl.less {g : Gh} {H H' : A0} {w : World} (h : Rl g H w) (hl : ∀ id b, H' id = some b → H id = some b) : Rl g H' w := by
 have hat : ∀ id b, g.at H' id = some b → g.at H id = some b := by
  intro id b hb
  cases hk : H' id with
  | none => simp [Gh.at, hk] at hb
  | some k => have := hl _ _ hk; simp only [Gh.at, hk] at hb; simp only [Gh.at, this]; exact hb
 refine ⟨fun id b hb => h.blk id b (hl _ _ hb), fun id id' b h1 h2 => h.inj id id' b (hat _ _ h1) (hat _ _ h2), h.frz, fun id hi => ⟨(h.nxt id hi).1, (h.nxt id hi).2.1, ?_⟩, h.bnd, h.glb⟩
 cases hk : H' id with
 | none => rfl
 | some k => have := hl _ _ hk; rw [(h.nxt id hi).2.2] at this; cases this
theorem Ad {w : World} {o : Obj} {b i : Nat} (h : b < w.heap.size) : (w.alloc o).cell? ⟨b, i, none⟩ = w.cell? ⟨b, i, none⟩ :=
 World.cell?_alloc_lt w (a := ⟨b, i, none⟩) (o := o) h
theorem FK {w : World} {c : Array Value} {T : TypeId} {i : Nat} : (w.alloc (.cells c T)).cell? ⟨w.heap.size, i, none⟩ = c[i]? := by
 have h : (w.alloc (.cells c T)).heap[w.heap.size]? = some (.cells c T) := by
  show (w.heap.push _)[w.heap.size]? = _
  simp
 simp only [World.cell?, h];rfl
def Gh.new (g : Gh) (w : World) (F : Prop) (n : Nat) : Gh :=
 { g with mu := fun x => if x = g.nx then some w.heap.size else g.mu x, nx := g.nx + 1, fz := fun b o => g.fz b o ∨ (F ∧ b = w.heap.size ∧ o < n) }
theorem M4.new {g : Gh} {H : A0} {w : World} (h : Rl g H w) (o : Obj) (F : Prop) (n : Nat) : M4 g w (g.new w F n) (w.alloc o) := by
 refine ⟨fun id b e => ?_, fun t x e => e, fun b o e => .inl e, rfl, fun b i e => Ad (h.fz_lt e), (Below.refl _ _).alloc h.bnd _, fun _ _ _ => rfl⟩;simp only [Gh.new]
 split
 ·next e' => subst e'; rw [(h.nxt _ (Nat.le_refl _)).1] at e; cases e
 exact e
theorem heap_alloc {w : World} {o : Obj} {b : Nat} (h : b < w.heap.size) : (w.alloc o).heap[b]? = w.heap[b]? := Below.heap_alloc w o b h
theorem X2 {w : World} {o : Obj} : (w.alloc o).heap[w.heap.size]? = some o := by
 show (w.heap.push _)[w.heap.size]? = _
 simp
theorem Hz {g g' : Gh} {H H' : A0} {id : Nat} (h : H' id = H id) (hm : g'.mu id = g.mu id) (ht : g'.tk id = g.tk id) (ho : g'.ow id = g.ow id := by rfl) : g'.at H' id = g.at H id := by
 simp only [Gh.at, h, hm, ht, ho]
theorem Rl.newNamed {g : Gh} {H : A0} {w : World} (h : Rl g H w) (o : Obj) (k : Au) (hk : k ≠ .spare)
 (hok : Gr (g.new w False 0) (w.alloc o) g.nx k) (hk2 : ∀ sz xs, k ≠ .arr sz xs := by intro _ _ h; cases h) : Rl (g.new w False 0) (upd H g.nx (some k)) (w.alloc o) := by
 have s := M4.new h o False 0;have hnx := h.nxt g.nx (Nat.le_refl _)
 have hne : ∀ id, id ≠ g.nx → (g.new w False 0).at (upd H g.nx (some k)) id = g.at H id := fun id hi =>
  Hz (A3 _ _ hi) (by simp [Gh.new, hi]) rfl
 have hat : (g.new w False 0).at (upd H g.nx (some k)) g.nx = some w.heap.size := by
  cases k <;> simp_all [Gh.at, A9, Gh.new]
 refine ⟨fun id b hb => ?_, fun id id' b h1 h2 => ?_, fun b o hf => ?_, fun id hi => ?_, ?_, fun n => (h.glb n).mono s⟩
 ·by_cases hi : id = g.nx
  ·subst hi; rw [A9] at hb; cases hb; exact hok
  rw [A3 _ _ hi] at hb
  refine (h.blk id b hb).mono hb s fun b' hb' => ⟨heap_alloc (h.lt hb'), fun o ho => ?_⟩
  rcases ho with ho | ⟨hF, _⟩
  ·exact ho
  exact hF.elim
 ·by_cases hi : id = g.nx <;> by_cases hi' : id' = g.nx
  ·rw [hi, hi']
  ·subst hi; rw [hat] at h1; rw [hne _ hi'] at h2; cases h1; exact absurd (h.lt h2) (Nat.lt_irrefl _)
  ·subst hi'; rw [hat] at h2; rw [hne _ hi] at h1; cases h2; exact absurd (h.lt h1) (Nat.lt_irrefl _)
  rw [hne _ hi] at h1; rw [hne _ hi'] at h2; exact h.inj _ _ _ h1 h2
 ·rcases hf with hf | ⟨hF, _⟩
  ·obtain ⟨v, hv⟩ := h.frz b o hf;exact ⟨v, (Ad (h.fz_lt hf)).trans hv⟩
  exact hF.elim
 ·have hi' : g.nx ≤ id := Nat.le_of_succ_le hi
  have hne' : id ≠ g.nx := fun e => by subst e; exact absurd hi (Nat.not_succ_le_self _)
  obtain ⟨a1, a2, a3⟩ := h.nxt id hi';exact ⟨by simp [Gh.new, hne', a1], a2, by rw [A3 _ _ hne']; exact a3⟩
 have := h.bnd; simp [Gh.new]; omega
theorem Rl.newFrozen {g : Gh} {H : A0} {w : World} (h : Rl g H w) (c : Array Value) (T : TypeId) (n : Nat) (hn : n ≤ c.size) :
 Rl (g.new w True n) H (w.alloc (.cells c T)) := by
 have s := M4.new h (.cells c T) True n
 have hat : ∀ id b, (g.new w True n).at H id = some b → g.at H id = some b := by
  intro id b hb
  cases hk : H id with
  | none => simp [Gh.at, hk] at hb
  | some k =>
   have hne : id ≠ g.nx := fun e => by subst e; rw [(h.nxt _ (Nat.le_refl _)).2.2] at hk; cases hk
   rwa [Hz (g := g) (g' := g.new w True n) (H := H) (H' := H) rfl (by simp [Gh.new, hne]) rfl] at hb
 refine ⟨fun id b hb => ?_, fun id id' b h1 h2 => h.inj _ _ _ (hat _ _ h1) (hat _ _ h2), fun b o hf => ?_, fun id hi => ?_, ?_, fun n => (h.glb n).mono s⟩
 ·refine (h.blk id b hb).mono hb s fun b' hb' => ⟨heap_alloc (h.lt hb'), fun o ho => ?_⟩
  rcases ho with ho | ⟨_, e, _⟩
  ·exact ho
  subst e; exact absurd (h.lt hb') (Nat.lt_irrefl _)
 ·rcases hf with hf | ⟨_, e, ho⟩
  ·obtain ⟨v, hv⟩ := h.frz b o hf;exact ⟨v, (Ad (h.fz_lt hf)).trans hv⟩
  subst e
  have : o < c.size := by omega
  exact ⟨c[o], by rw [FK]; simp [this]⟩
 ·have hi' : g.nx ≤ id := Nat.le_of_succ_le hi
  have hne' : id ≠ g.nx := fun e => by subst e; exact absurd hi (Nat.not_succ_le_self _)
  obtain ⟨a1, a2, a3⟩ := h.nxt id hi';exact ⟨by simp [Gh.new, hne', a1], a2, a3⟩
 have := h.bnd; simp [Gh.new]; omega
theorem JQ {w : World} {b : Nat} {o : Obj} (h : w.heap[b]? = some o) : b < w.heap.size := by
 rcases Nat.lt_or_ge b w.heap.size with h' | h'
 ·exact h'
 simp [Array.getElem?_eq_none h'] at h
theorem I1 (w : World) (g : Nat) (cs : Array Value) (k : Nat) (h : k ≠ g) : (w.setRow g cs).heap[k]? = w.heap[k]? := by
 simp only [World.setRow, Array.getElem?_modify];rw [if_neg (by omega)]
theorem Y1 (w : World) (b : Nat) (cs : Array Value) (k o : Nat) (h : k ≠ b) : (w.setRow b cs).cell? ⟨k, o, none⟩ = w.cell? ⟨k, o, none⟩ :=
 World.cell?_of_block (w := w) (a := ⟨k, o, none⟩) (I1 w b cs k h)
theorem CF {B : Nat} (w : World) (b : Nat) (cs : Array Value) (h : B ≤ b) : Below B w (w.setRow b cs) :=
 ⟨rfl, rfl, rfl, by simp [World.setRow], fun k hk => I1 w b cs k (by omega)⟩
theorem Rl.setNamed {g : Gh} {H : A0} {w : World} (h : Rl g H w) {id b : Nat} {cs cs' : List V} {c c' : Array Value} {T : TypeId} (hk : H id = some (.cells cs)) (hb : g.mu id = some b)
 (hw : w.heap[b]? = some (.cells c T (0, 0))) (hsz : c'.size = c.size) (hl : cs'.length = cs.length)
 (hv : ∀ j, j < cs'.length → (c'.getD j undef).oneCell' = true ∧ VR g w (c'.getD j undef) (cs'.getD j .bad)) :
 M4 g w g (w.setRow b c') ∧ Rl g (upd H id (some (.cells cs'))) (w.setRow b c') := by
 obtain ⟨b', c0, T0, h1, h2, h3, h4, h5, h6⟩ := h.blk id _ hk
 have e : b' = b := by rw [hb] at h1; exact (Option.some.inj h1).symm
 subst e
 rw [hw] at h3
 have e2 : c0 = c := by cases h3; rfl
 subst e2
 have s : M4 g w g (w.setRow b' c') := by
  refine ⟨fun _ _ e => e, fun _ _ e => e, fun _ _ e => e, rfl, fun b o hf => ?_, CF w b' c' h2, fun _ _ _ => rfl⟩
  have hne : b ≠ b' := fun e => by subst e; exact h6 o hf
  exact Y1 w b' c' b o hne
 have hat : ∀ x, g.at (upd H id (some (.cells cs'))) x = g.at H x := by
  intro x
  by_cases hx : x = id
  ·subst hx; simp [Gh.at, A9, hk]
  simp only [Gh.at, A3 _ _ hx]
 have hid : g.at H id = some b' := by simp [Gh.at, hk, hb]
 refine ⟨s, fun x k hx => ?_, fun x x' y h1 h2 => h.inj x x' y (hat x ▸ h1) (hat x' ▸ h2), fun y o hf => ?_, fun x hx => ?_, ?_, fun n => (h.glb n).mono s⟩
 ·by_cases hxe : x = id
  ·subst hxe; rw [A9] at hx; cases hx
   refine ⟨b', c', T, hb, h2, setRow_heap w b' c0 c' T (0, 0) hw, by omega, fun j hj => ⟨(hv j hj).1, (hv j hj).2.mono s⟩, h6⟩
  rw [A3 _ _ hxe] at hx
  refine (h.blk x k hx).mono hx s fun y hy => ⟨I1 w b' c' y fun e => ?_, fun _ ho => ho⟩;subst e; exact hxe (h.inj _ _ _ hy hid)
 ·obtain ⟨v, hv'⟩ := h.frz y o hf;exact ⟨v, (s.cell y o hf).trans hv'⟩
 ·obtain ⟨a1, a2, a3⟩ := h.nxt x hx
  have hne : x ≠ id := fun e => by subst e; rw [hk] at a3; cases a3
  exact ⟨a1, a2, by rw [A3 _ _ hne]; exact a3⟩
 have := h.bnd; simp [World.setRow]; omega
theorem Rl.freeze {g : Gh} {H : A0} {w : World} (h : Rl g H w) {id : Nat} {cs : List V} (hk : H id = some (.cells cs)) :
 ∃ g', M4 g w g' w ∧ Rl g' (upd H id none) w ∧ ∀ v off, VR g w v (.ref id off) → VR g' w v (.eref cs off) := by
 obtain ⟨b, c, T, h1, h2, h3, h4, h5, h6⟩ := h.blk id _ hk
 let g' : Gh := { g with fz := fun x o => g.fz x o ∨ (x = b ∧ o < c.size) }
 have s : M4 g w g' w := ⟨fun _ _ e => e, fun _ _ e => e, fun _ _ e => .inl e, rfl, fun _ _ _ => rfl, Below.refl _ _, fun _ _ _ => rfl⟩
 have hid : g.at H id = some b := by simp [Gh.at, hk, h1]
 have hcell : ∀ o, w.cell? ⟨b, o, none⟩ = c[o]? := fun o => by simp [World.cell?, h3]
 have hat : ∀ x y, g'.at (upd H id none) x = some y → x ≠ id ∧ g.at H x = some y := by
  intro x y hy
  by_cases hx : x = id
  ·subst hx; simp [Gh.at, A9] at hy
  exact ⟨hx, by simpa only [Gh.at, A3 _ _ hx] using hy⟩
 refine ⟨g', s, ⟨fun x k hx => ?_, fun x x' y h1 h2 => h.inj _ _ _ (hat _ _ h1).2 (hat _ _ h2).2, fun y o hf => ?_, fun x hx => ?_, h.bnd, fun n => (h.glb n).mono s⟩, fun v off hv => ?_⟩
 ·have hxe : x ≠ id := fun e => by subst e; rw [A9] at hx; cases hx
  rw [A3 _ _ hxe] at hx
  refine (h.blk x k hx).mono hx s fun y hy => ⟨rfl, fun o ho => ?_⟩
  rcases ho with ho | ⟨e, _⟩
  ·exact ho
  subst e; exact absurd (h.inj _ _ _ hy hid) hxe
 ·rcases hf with hf | ⟨e, ho⟩
  ·exact h.frz y o hf
  subst e; exact ⟨c[o], by rw [hcell]; simp [ho]⟩
 ·obtain ⟨a1, a2, a3⟩ := h.nxt x hx
  have hne : x ≠ id := fun e => by subst e; rw [hk] at a3; cases a3
  exact ⟨a1, a2, by rw [A3 _ _ hne]; exact a3⟩
 cases hv with
 | ref hm =>
  rw [h1] at hm; cases hm
  have := VR.eref (g := g') (w := w) (b := b) (o := 0) (off := off) (cs := cs) (fun j => c.getD j undef) (fun j hj => .inr ⟨rfl, by omega⟩)
   (fun j hj => by rw [hcell]; simp only [Nat.zero_add]; simp [Array.getD, show j < c.size by omega]) (fun j hj => (h5 j hj).1) (fun j hj => (h5 j hj).2.mono s)
  simpa using this
end Go.Ab
namespace Go.Ab
open Go.RowKit
variable [G5]
def Uk : TypeDesc → Bool
 | .struct _ => true
 | .array _ _ => true
 | _ => false
def Bw (P : Program) (t : TypeId) : Option Nat := (P.info? t).map (·.size)
def Jc (P : Program) (t : TypeId) : Option Nat := (P.info? t).map (·.bytes)
def MX (P : Program) (t : TypeId) : Option Bool := (P.underlying t).map Uk
def BT (P : Program) (t : TypeId) : Option TypeId :=
 match P.underlying t with
 | some (.slice e) => some e
 | _ => none
def Wf (P : Program) (t : TypeId) : Option (Nat × TypeId) :=
 match P.underlying t with
 | some (.array n e) => some (n, e)
 | _ => none
def LZ (P : Program) (t : TypeId) : Bool :=
 match P.underlying t with
 | some .string => true
 | _ => false
def Xv (P : Program) (t : TypeId) : Bool :=
 match P.underlying t with
 | some (.interface _) => true
 | none => true
 | _ => false
def WI (P : Program) (t : TypeId) (f : Nat) : Option (Nat × TypeId) :=
 match P.underlying t with
 | some (.struct fs) =>
  match fs[f]? with
  | some x => if (Bw P x.type).getD 0 = 0 then none else some (x.offset, x.type)
  | none => none
 | _ => none
def Xe : Value → V
 | .bool b => .bool b
 | .int k n => .int k n
 | .string s => .str s
 | .pointer none => .nilp
 | .slice none 0 0 => .sl [] .nil
 | .map none => .nilmap
 | .nilFunc => .nilf
 | .nilIface => .nili
 | _ => .bad
def cv : Value → V
 | .agg cs => if cs.all Value.oneCell' then .agg (cs.toList.map Xe) else .bad
 | .func (.func f) fs cs => if fs.size = 0 ∧ cs.size = 0 then .func (.func f) [] [] else .bad
 | v => Xe v
def Er (P : Program) (t : TypeId) : Option V := ((P.info? t).bind (·.zero)).map cv
theorem QU (g : Gh) (w : World) (v : Value) : VR g w v (Xe v) := by
 unfold Xe
 split <;> first | exact .sl0 rfl | constructor
theorem Bq (g : Gh) (w : World) (v : Value) : VR g w v (cv v) := by
 unfold cv
 split
 ·next cs =>
  split
  ·next h =>
   have h' : ∀ i, i < cs.size → (cs.getD i undef).oneCell' = true := fun i hi => by
    have := (Array.all_eq_true.1 h) i hi
    simpa [Array.getD, hi] using this
   refine .agg (by simp) (fun i hi => h' i (by simpa using hi)) fun i hi => ?_
   have hi' : i < cs.size := by simpa using hi
   have : (cs.toList.map Xe).getD i .bad = Xe (cs.getD i undef) := by
    simp [List.getD, Array.getD, hi']
   rw [this]; exact QU g w _
  exact .bad _
 ·split
  ·next f fs cs h => exact .func (by simpa using h.1) (fun i hi => by simp at hi) (by simpa using h.2) (fun i hi => by simp at hi)
  exact .bad _
 exact QU g w v
def ev (fr : Fr) : Operand → V
 | .tmp t => fr.s t
 | .const v => cv v
 | .global n => G5.gl n
 | .func f => .func (.func f) [] []
def ER (g : Gh) (w : World) (a : Act) (fr : Fr) : Prop := ∀ t, VR g w (a.tmps.getD t undef) (fr.s t)
theorem C4 {g : Gh} {w : World} {H : A0} {a : Act} {fr : Fr} (hR : Rl g H w) (h : ER g w a fr) (x : Operand) : VR g w (a.eval x) (ev fr x) := by
 cases x with
 | tmp t => exact h t
 | const v => exact Bq g w v
 | global n => exact hR.glb n
 | func f => exact .func rfl (fun i hi => by simp at hi) rfl (fun i hi => by simp at hi)
theorem ER.mono {g g' : Gh} {w w' : World} {a : Act} {fr : Fr} (h : ER g w a fr) (s : M4 g w g' w') : ER g' w' a fr := fun t => (h t).mono s
def D7 (P : Program) (K : Value → World → Prop) : Result Next → Prop
 | .ok (.value v) w => K v w
 | .ok .skip w => K undef w
 | .ok (.enter f args) w => CallsIn Fence.wide 0 P f args w fun e w' => ∃ v, e = .returned v ∧ K v w'
 | .ok (.round l f tmps assign body) w => RoundIn Fence.wide 0 P l f tmps assign body w fun e w' => ∃ v, e = .returned v ∧ K v w'
 | _ => False
def G8 (g : Gh) (w : World) (K : V → A0 → Prop) (v : Value) (w' : World) : Prop :=
 ∃ g' x H', M4 g w g' w' ∧ Rl g' H' w' ∧ VR g' w' v x ∧ K x H'
def E4 (P : Program) (o : Oper) (fr : Fr) (H : A0) (K : V → A0 → Prop) : Prop :=
 ∀ g w a, Rl g H w → ER g w a fr → D7 P (G8 g w K) ((execOp a.eval o).run P w)
theorem G8.here {g : Gh} {H : A0} {w : World} {K : V → A0 → Prop} {v : Value} {x : V} (hR : Rl g H w) (hv : VR g w v x) (h : K x H) : G8 g w K v w :=
 ⟨g, x, H, M4.refl _ _, hR, hv, h⟩
section
variable {P : Program} {o : Oper} {fr : Fr} {H : A0} {K : V → A0 → Prop}
theorem Nq {x : Operand} (ho : o.op = .move x) (h : K (ev fr x) H) : E4 P o fr H K := by
 intro g w a hR hE;unfold execOp; rw [ho];exact G8.here hR (C4 hR hE x) h
theorem Jp {x : Operand} (ho : o.op = .assign x) (h : K (ev fr x) H) : E4 P o fr H K := by
 intro g w a hR hE;unfold execOp; rw [ho];exact G8.here hR (C4 hR hE x) h
theorem SM {c x y : Operand} {t : Bool} (ho : o.op = .pick c x y) (hc : ev fr c = .bool t) (h : K (if t then ev fr x else ev fr y) H) : E4 P o fr H K := by
 intro g w a hR hE;have hb := C4 hR hE c
 rw [hc] at hb
 have e : a.eval c = .bool t := by generalize a.eval c = v at hb; cases hb; rfl
 unfold execOp; rw [ho];simp only [e, asBool, Sem.run_bind, Sem.run_pure, Result.andThen_ok, D7];cases t
 ·exact G8.here hR (C4 hR hE y) h
 exact G8.here hR (C4 hR hE x) h
theorem VR.int_inv {g : Gh} {w : World} {v : Value} {k : IntKind} {n : Int} (h : VR g w v (.int k n)) : v = .int k n := by cases h; rfl
theorem VR.bool_inv {g : Gh} {w : World} {v : Value} {b : Bool} (h : VR g w v (.bool b)) : v = .bool b := by cases h; rfl
theorem VR.str_inv {g : Gh} {w : World} {v : Value} {s : ByteArray} (h : VR g w v (.str s)) : v = .string s := by cases h; rfl
theorem VR.cells {g : Gh} {w : World} {v : Value} {x : V} (h : VR g w v x) (h1 : x.one = true) :
 v.cells.size = x.cells.length ∧ ∀ j, j < x.cells.length → (v.cells.getD j undef).oneCell' = true ∧ VR g w (v.cells.getD j undef) (x.cells.getD j .bad) := by
 cases h with
 | agg hl h1' hv => exact ⟨hl, fun j hj => ⟨h1' j hj, hv j hj⟩⟩
 | bad v => simp [V.one] at h1
 | tup hl hv => simp [V.one] at h1
 | _ =>
  refine ⟨rfl, fun j hj => ?_⟩
  have : j = 0 := by simpa [V.cells] using hj
  subst this;refine ⟨rfl, ?_⟩;simp only [V.cells, Value.cells, List.getD_cons_zero]
  first
   | exact .bool _ | exact .int _ _ | exact .str _ | exact .nilp | exact .nilf | exact .nili | exact .nilmap
   | (constructor <;> assumption)
   | (exact .sl0 (by assumption))
   | (exact .sl _ (by assumption) (by assumption) (by assumption) (by assumption) (by assumption) (by assumption) (by assumption) (by assumption))
   | (exact .func (by assumption) (by assumption) (by assumption) (by assumption))
   | (exact .eref _ (by assumption) (by assumption) (by assumption) (by assumption))
end
end Go.Ab
