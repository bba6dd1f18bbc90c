/- AbB8 AbB9 AbB10 AbT1 AbC1 AbC2 AbC3 AbC4 -/
import Derived.Test.YtbjdkpckplopdaaGreatT25
import Derived.Test.YtbjdkpckplopdaaGreatT23
import Derived.Laws.Externs
import Derived.Sort.Grow
import Derived.Shelf.Sort.Plain
import Derived.Shelf.Slices.In.SortNone
import Derived.Shelf.Slices.CompactI
set_option linter.all false

namespace Go.Ab
open Go.RowKit
end Go.Ab

namespace Go.Ab
open Go.RowKit
variable [Glob]
end Go.Ab

namespace Go.Ab
open Go.RowKit
end Go.Ab

namespace Go.Ab
open Go.RowKit
variable [Glob] [Ar]
theorem set_look {L : List En} {i j : Nat} {e' e : En} (hj : (L.set i e')[j]? = some e) : (j = i ∧ e = e') ∨ (j ≠ i ∧ L[j]? = some e) := by
 rw [List.getElem?_set] at hj
 split at hj
 ·rename_i hij
  subst hij
  split at hj
  ·exact .inl ⟨rfl, (Option.some.inj hj).symm⟩
  ·cases hj
 ·rename_i hij
  exact .inr ⟨fun e => hij e.symm, hj⟩
theorem set_other {L : List En} {i j : Nat} {e' : En} (h : j ≠ i) : (L.set i e')[j]? = L[j]? := by
 rw [List.getElem?_set, if_neg (fun e => h e.symm)]
theorem Own0.setNone {H0 H : Heap} {L : List En} (h : Own0 H0 L H) (i : Nat) {e e' : En} (hi : L[i]? = some e) (he : e.id = none) (he' : e'.id = none) : Own0 H0 (L.set i e') H := by
 refine ⟨h.ext, fun j x id b hj hx => ?_, fun j k x x' id b b' hj hk hx hx' => ?_, fun x b hx => ?_⟩
 ·rcases set_look hj with ⟨_, rfl⟩ | ⟨_, hj⟩
  ·rw [he'] at hx; cases hx
  ·exact h.has j x id b hj hx
 ·rcases set_look hj with ⟨_, rfl⟩ | ⟨_, hj⟩
  ·rw [he'] at hx; cases hx
  ·rcases set_look hk with ⟨_, rfl⟩ | ⟨_, hk⟩
   ·rw [he'] at hx'; cases hx'
   ·exact h.inj j k x x' id b b' hj hk hx hx'
 ·refine (h.only x b hx).imp (fun h => h) fun ⟨j, y, h1, h2⟩ => ⟨j, y, ?_, h2⟩
  rw [set_other fun e => by subst e; rw [hi] at h1; cases h1; rw [he] at h2; cases h2]
  exact h1
theorem Own0.drop {H0 H : Heap} {L : List En} (h : Own0 H0 L H) (i : Nat) {e e' : En} {id : Nat} {b0 : Blk} (hi : L[i]? = some e) (he : e.id = some (id, b0)) (he' : e'.id = none) : Own0 H0 (L.set i e') (upd H id none) := by
 have hid := h.has i e id b0 hi he
 refine ⟨fun x b hx => ?_, fun j x y b hj hx => ?_, fun j k x x' y b b' hj hk hx hx' => ?_, fun x b hx => ?_⟩
 ·rw [upd_other _ _ (ne_of_none hid.1 hx)]; exact h.ext x b hx
 ·rcases set_look hj with ⟨_, rfl⟩ | ⟨hne, hj⟩
  ·rw [he'] at hx; cases hx
  ·have := h.has j x y b hj hx
   refine ⟨this.1, ?_⟩
   rw [upd_other _ _ (fun eq => by subst eq; exact hne (h.inj j i x e y b b0 hj hi hx he))]
   exact this.2
 ·rcases set_look hj with ⟨_, rfl⟩ | ⟨_, hj⟩
  ·rw [he'] at hx; cases hx
  ·rcases set_look hk with ⟨_, rfl⟩ | ⟨_, hk⟩
   ·rw [he'] at hx'; cases hx'
   ·exact h.inj j k x x' y b b' hj hk hx hx'
 ·by_cases hxi : x = id
  ·subst hxi; rw [upd_same] at hx; cases hx
  ·rw [upd_other _ _ hxi] at hx
   refine (h.only x b hx).imp (fun h => h) fun ⟨j, y, h1, h2⟩ => ⟨j, y, ?_, h2⟩
   rw [set_other fun ej => by subst ej; rw [hi] at h1; cases h1; rw [he] at h2; cases h2; exact hxi rfl]
   exact h1
theorem Own.untok {Φ : Heap → Heap → Prop} {F H : Heap} {L : List En} (h : Own Φ F L H) (i : Nat) {tl tl' : Tail} (hi : L[i]? = some (.tl tl)) (ht : (En.tl tl').id = none) : Own Φ F (L.set i (.tl tl')) (dropTok H tl) := by
 obtain ⟨hs, F', H1, h0, h1, h2⟩ := h
 cases tl with
 | tok t =>
  have e := (h0.has i _ t _ hi rfl).2
  exact ⟨hs, _, _, h0.drop i hi rfl ht, hs.chg t none h1 (by rw [e, hs.le h1 _ _ e]), h2.upd t none⟩
 | nil => exact ⟨hs, _, _, h0.setNone i hi rfl ht, h1, h2⟩
 | full => exact ⟨hs, _, _, h0.setNone i hi rfl ht, h1, h2⟩
 | ro => exact ⟨hs, _, _, h0.setNone i hi rfl ht, h1, h2⟩
section
variable {P : Program} {T : Tbl} {f : FuncId} {fn : Func} {c : Code} {n : Nat} {rs : List ResultVar} {args : List V}
end
section
variable {P : Program} {nt : Nat} {rd : Option Nat} {T : Tbl} {E : Env}
variable (hE : E = real P nt rd)
include hE
variable {α R : Type} {f : α → V} {Φ : Heap → Heap → Prop} {H0 H : Heap} {L : List En} {r : R} {m : Option (List α)} {F : List α → Option R} {fid : FuncId} {args args' : List V} {k : V → Heap → Prop}
end
end Go.Ab

namespace Go.Ab
open Go.RowKit Go.Sort
variable [Glob]
theorem Rl.more {g : Gh} {H : Heap} {w w' : World} (h : Rl g H w) (hb : Below g.base w w') (hs : ∀ b, b < w.heap.size → w'.heap[b]? = w.heap[b]?) : Stp g w g w' ∧ Rl g H w' := by
 have s : Stp g w g w' := ⟨fun _ _ e => e, fun _ _ e => e, fun _ _ e => e, rfl, fun b o hf => by simp only [World.cell?, hs b (h.fz_lt hf)], hb, fun _ _ _ => rfl⟩
 exact ⟨s, fun x k hx => (h.blk x k hx).mono hx s fun y hy => ⟨hs y (h.lt hy), fun _ ho => ho⟩, h.inj, fun b o hf => by obtain ⟨v, hv⟩ := h.frz b o hf; exact ⟨v, (s.cell b o hf).trans hv⟩, h.nxt, Nat.le_trans h.bnd hb.size, fun n => (h.glb n).mono s⟩
def rowI (q : OG) (zs : List Int) : List V := q.pre ++ zs.map (V.int .i64) ++ q.rest
def CallI (P : Program) (f : FuncId) (zs ds : List Int) (r : OG → V) : Prop :=
 ∀ H (q : OG), Okn q (zs.length : Nat) → H q.id = some (.arr 1 (rowI q zs)) → CallA P f [.own q.id q.lo q.n] H fun x H' => x = r q ∧ H' = upd H q.id (some (.arr 1 (rowI q ds)))
end Go.Ab

namespace Go.Ab
open Go.RowKit
variable [Glob]
def CallS (P : Program) (f : FuncId) (zs ds : List Int) : Prop := CallI P f zs ds (fun _ => .tup []) ∧ ds.length = zs.length
theorem rowI_lst [Ar] (q : OG) (zs : List Int) : q.pre ++ Ar.lst (V.int .i64) zs ++ q.rest = rowI q zs := by rw [Ar.lst_eq]; rfl
section
variable [Ar] {P : Program} {nt : Nat} {rd : Option Nat} {E : Env} (hE : E = real P nt rd)
include hE
theorem n_callS {Φ : Heap → Heap → Prop} {H0 H : Heap} {L : List En} {fid : FuncId} {q : OG} {k : V → Heap → Prop} {R : Type} {m : Option (List Int)} {F : List Int → Option R} {r : R}
 {l : List Int} (hO : Own Φ H0 L H) (hq : Okn q (Ar.len l)) (i : Nat) (hi : L[i]? = some (.blk q.id (.arr 1 (q.pre ++ Ar.lst (V.int .i64) l ++ q.rest)))) (h : m.bind F = some r) (hc : ∀ x, m = some x → CallS P fid l x)
 (hk : ∀ x H', Okn q (Ar.len x) → Own Φ H0 (L.set i (.blk q.id (.arr 1 (q.pre ++ Ar.lst (V.int .i64) x ++ q.rest)))) H' → F x = some r → k (.tup []) H') :
 E.call (.func (.func fid) [] []) [.own q.id q.lo q.n] H k := by
 subst hE
 obtain ⟨x, h1, h2⟩ := bind_some h
 obtain ⟨c1, c2⟩ := hc x h1
 refine CallA.value (F := []) (C := []) ?_
 simp only [List.nil_append, List.append_nil]
 rw [rowI_lst] at hi
 refine (c1 H q (by rw [← Ar.len_eq]; exact hq) (hO.get i hi)).mono fun v H' ⟨e1, e2⟩ => ?_
 subst e1; subst e2
 refine hk x _ ?_ ?_ h2
 ·rw [Ar.len_eq] at hq ⊢; rw [c2]; exact hq
 ·rw [rowI_lst]; exact hO.set i hi
end
end Go.Ab

namespace Go.Ab
open Go.RowKit Go.Shelf Go.Sort
variable [Glob]
end Go.Ab

namespace Go.Ab
open Go.RowKit
variable [Glob]
section
variable [Ar] {P : Program} {T : Tbl}
end
end Go.Ab

