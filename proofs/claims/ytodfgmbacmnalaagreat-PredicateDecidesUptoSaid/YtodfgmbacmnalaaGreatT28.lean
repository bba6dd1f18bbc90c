/- AbH1 -/
import Derived.Test.YtodfgmbacmnalaaGreatT27
import Derived.Test.YtodfgmbacmnalaaGreatT26
set_option linter.all false

namespace Go.Ab
open Go.RowKit
variable [Glob] [Ar]
def CallFM (P : Program) (f : FuncId) (args : List V) (ks : List Int) (xs : List V) : Prop := ∀ H, CallA P f args H fun v H' => ∃ id, H id = none ∧ v = .map id ∧ H' = upd H id (some (.fm ks xs))
def FG (E : Env) (n : Int) (K : V → Prop) (z : V) : List Int → List V → Prop
 | k :: ks, x :: xs => E.br (Ar.cmp .eql n k) (fun _ => K x) (fun _ => FG E n K z ks xs)
 | _, _ => K z
def AG (E : Env) (i : Int) (K : Nat → Prop) : List Int → Prop
 | m :: ms => E.br (Ar.cmp .eql i m) (fun _ => K m.toNat) (fun _ => AG E i K ms)
 | [] => False
section
variable {P : Program} {nt : Nat} {rd : Option Nat} {T : Tbl} {E : Env}
variable (hE : E = real P nt rd)
include hE
variable {Φ : Heap → Heap → Prop} {H0 H : Heap} {L : List En} {t kt et id : Nat} {ks : List Int} {xs : List V}
theorem n_fmk (hO : Own Φ H0 L H) {k : V → Heap → Prop} (hk : ∀ id H', Own Φ H0 (.blk id (.fm [] []) :: L) H' → k (.map id) H') : E.mmk H k := by
 subst hE
 exact .inr fun id hid => hk id _ (hO.push hid rfl)
theorem n_fset (hm : P.underlying t = some (.map kt et)) (hd : P.underlying kt = some (.int .i64)) (hO : Own Φ H0 L H) (i : Nat) (hi : L[i]? = some (.blk id (.fm ks xs))) {n : Int} {v : V} (hn : ks.all (fun k => !(k == n)) = true)
 {k : Heap → Prop} (hk : ∀ H', Own Φ H0 (L.set i (.blk id (.fm (ks ++ [n]) (xs ++ [v])))) H' → k H') : E.mset t H (.map id) (.int .i64 n) v k := by
 subst hE
 exact .inr ⟨kt, et, ks, xs, n, id, hm, hd, rfl, hO.get i hi, rfl, (fun x hx => by have := List.all_eq_true.1 hn x hx; simpa using this), hk _ (hO.set i hi)⟩
theorem fg_case {n : Int} {K : V → Prop} {z : V} : ∀ (ks : List Int) (xs : List V), xs.length = ks.length → FG E n K z ks xs → ∃ v, ((∃ i : Nat, ks[i]? = some n ∧ v = xs.getD i .bad) ∨ ((∀ k ∈ ks, k ≠ n) ∧ z = v)) ∧ K v
 | [], [], _, h => ⟨z, .inr ⟨(fun _ h => by cases h), rfl⟩, h⟩
 | [], _ :: _, hl, _ => by simp at hl
 | _ :: _, [], hl, _ => by simp at hl
 | k :: ks, x :: xs, hl, h => by
  have ih := fg_case (n := n) (K := K) (z := z) ks xs (by simpa using hl)
  unfold FG at h
  subst hE
  obtain ⟨h1, h2⟩ := h
  rw [Ar.cmp_eq] at h1 h2
  cases hb : cmpI .eql n k with
  | true =>
   have e : n = k := by simpa [cmpI] using hb
   exact ⟨x, .inl ⟨0, by simp [e], by simp⟩, h1 hb⟩
  | false =>
   have e : n ≠ k := by simpa [cmpI] using hb
   obtain ⟨v, hv, hk⟩ := ih (h2 hb)
   refine ⟨v, ?_, hk⟩
   rcases hv with ⟨i, q1, q2⟩ | ⟨q1, q2⟩
   ·exact .inl ⟨i + 1, by simpa using q1, by simpa using q2⟩
   ·refine .inr ⟨fun y hy => ?_, q2⟩
    rcases List.mem_cons.1 hy with rfl | hy
    ·exact fun e' => e e'.symm
    ·exact q1 y hy
theorem ag_case {i : Int} {K : Nat → Prop} : ∀ ms : List Int, AG E i K ms → ∃ m ∈ ms, i = m ∧ K i.toNat
 | [], h => h.elim
 | m :: ms, h => by
  have ih := ag_case (i := i) (K := K) ms
  unfold AG at h
  subst hE
  obtain ⟨h1, h2⟩ := h
  rw [Ar.cmp_eq] at h1 h2
  cases hb : cmpI .eql i m with
  | true =>
   have e : i = m := by simpa [cmpI] using hb
   exact ⟨m, by simp, e, by rw [e]; exact h1 hb⟩
  | false =>
   obtain ⟨m', q1, q2, q3⟩ := ih (h2 hb)
   exact ⟨m', by simp [q1], q2, q3⟩
theorem n_fget (hm : P.underlying t = some (.map kt et)) (hd : P.underlying kt = some (.int .i64)) {z : V} (hz : zeO P et = some z) (hl : xs.length = ks.length) {n : Int} {k : V → Prop} (h : FG E n k z ks xs) : E.mget t H (.fmap ks xs) (.int .i64 n) false k := by
 obtain ⟨v, hv, hk⟩ := fg_case hE ks xs hl h
 subst hE
 exact ⟨v, .inr ⟨kt, et, ks, xs, n, hm, hd, rfl, rfl, rfl, hv.imp (fun h => h) fun ⟨h1, h2⟩ => ⟨h1, h2 ▸ hz⟩⟩, hk⟩
theorem n_aidxB {n : Nat} {i : Int} {K : Nat → Prop} (ms : List Int) (hm : (ms.map Int.toNat == List.range n && ms.all (fun m => decide (0 ≤ m))) = true) (h : AG E i K ms) : E.aidx i n K := by
 obtain ⟨m, h1, h2, h3⟩ := ag_case hE ms h
 subst hE; subst h2
 simp only [Bool.and_eq_true, beq_iff_eq, List.all_eq_true, decide_eq_true_eq] at hm
 have hmem : i.toNat ∈ List.range n := by rw [← hm.1]; exact List.mem_map.2 ⟨_, h1, rfl⟩
 have h0 := hm.2 _ h1
 rw [List.mem_range] at hmem
 exact ⟨⟨h0, by omega⟩, h3⟩
theorem n_callFM {fid : FuncId} {args args' : List V} (hc : CallFM P fid args' ks xs) (hl : LeVs args args') (hO : Own Φ H0 L H) {k : V → Heap → Prop} (hk : ∀ id H', Own Φ H0 (.blk id (.fm ks xs) :: L) H' → k (.map id) H') : E.call (.func (.func fid) [] []) args H k := by
 subst hE
 refine CallA.value (F := []) (C := []) ?_
 simp only [List.nil_append, List.append_nil]
 exact ((hc H).args hl).mono fun v H' ⟨id, e1, e2, e3⟩ => by subst e2; subst e3; exact hk id _ (hO.push e1 rfl)
end
theorem callFM_run {P : Program} {T : Tbl} {f : FuncId} {fn : Func} {c : Code} {n : Nat} {rs : List ResultVar} {args : List V} {ks : List Int} {xs : List V} (cf : Cf) (hP : POk P T) (hf : P.funcs[f]? = some fn) (hb : fn.body = some c) (hd : drawsOk cf c = true)
 (hcall : ∀ vals w, (callFunc f vals).run P w = .ok (.enter f vals) w) (hnt : fn.ntmps = n) (hrs : fn.results.toList = rs) (hn : Nat.ble args.length n = true)
 (h : ∀ (E : Env) (H : Heap) (k : V → Heap → Prop), E = real P n none → (∀ id (L : List En) (i : Nat) H', L[i]? = some (.blk id (.fm ks xs)) → Own Eq H L H' → k (.map id) H') → run E T n cf c ⟨entryL args 0, []⟩ H (finX E T rs k)) : CallFM P f args ks xs := fun H => by
 refine CallA.le (callA_of_run (K := fun x H' => ∃ y H2, LeV x y ∧ HLe H2 H' ∧ ∃ id, H id = none ∧ y = .map id ∧ H2 = upd H id (some (.fm ks xs))) cf hP.1 hP.2 hf hb hd hcall hnt hrs hn fun E hE => ?_)
 refine h E H _ hE fun id L i H' hi hO => ?_
 obtain ⟨h1, h2⟩ := (hO.only i hi).last
 exact ⟨_, _, .refl _, h2, id, h1, rfl, rfl⟩
end Go.Ab

