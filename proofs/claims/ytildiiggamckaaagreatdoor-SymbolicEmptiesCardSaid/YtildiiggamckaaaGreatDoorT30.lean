/- AbB19 -/
import Derived.Test.YtildiiggamckaaaGreatDoorT26
set_option linter.all false
namespace Go.Ab
open Go.RowKit
variable [G5] [Ar]
theorem Kv {P : Program} {T : Dm} {f : FuncId} {fn : Func} {c : Code} {n : Nat} {rs : List ResultVar} {args : List V} {F H : A0} {sz : Nat} {xs : List V} {mk : V → V} (hmk : DV mk) (cf : Cf) (hP : KE P T) (hf : P.funcs[f]? = some fn) (hb : fn.body = some c) (hd : E9 cf c = true)
 (hcall : ∀ vals w, (callFunc f vals).run P w = .ok (.enter f vals) w) (hnt : fn.ntmps = n) (hrs : fn.results.toList = rs) (hn : Nat.ble args.length n = true)
 (h : ∀ (E : CM) (K : V → A0 → Prop), E = E6 P n none → (∀ (q : OG) (L : List En) (i : Nat) H' x, T6 q (xs.length : Nat) → L[i]? = some (.blk q.id (.arr sz (q.pre ++ xs ++ q.rest))) → B4 Eq F L H' → Y4 x (mk (.own q.id q.lo q.n)) → K x H') → (xs = [] → ∀ L H' x, B4 Eq F L H' → Y4 x (mk (.sl [] .nil)) → K x H') → run E T n cf c ⟨Z7 args 0, []⟩ H (Ib E T rs K)) :
 E7 P f args H (VK F sz xs mk) := by
 refine E7.adoptG (sz := sz) hmk (E7.le (N8 (K := fun x H' => ∃ y H2, Y4 x y ∧ Dj H2 H' ∧ (VK F sz xs mk y H2 ∨ (y = mk (.sl [] .nil) ∧ ∀ t, H2 t = none → VK F sz xs mk (mk (.own t 0 0)) (upd H2 t (some (.arr sz [])))))) cf hP.1 hP.2 hf hb hd hcall hnt hrs hn fun E hE => ?_));refine h E _ hE (fun q L i H' x hq hi hO hx => ?_) fun hx L H' x hO hl => ?_
 ·obtain ⟨h1, h2⟩ := (hO.only i hi).last;exact ⟨_, _, hx, h2, .inl ⟨q, rfl, hq, h1, rfl⟩⟩
 exact ⟨_, F, hl, hO.ext, .inr ⟨rfl, fun t ht => ⟨⟨t, 0, 0, [], []⟩, rfl, ⟨rfl, by rw [hx]; rfl⟩, ht, by rw [hx]; rfl⟩⟩⟩
end Go.Ab
