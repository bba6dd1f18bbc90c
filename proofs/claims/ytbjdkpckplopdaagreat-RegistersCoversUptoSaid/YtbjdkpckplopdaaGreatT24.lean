/- AbB3 AbB4 -/
import Derived.Test.YtbjdkpckplopdaaGreatT23
set_option linter.all false

namespace Go.Ab
open Go.RowKit
variable [Glob] [Ar]
section
variable {P : Program} {nt : Nat} {rd : Option Nat} {T : Tbl} {E : Env}
def CallQ (P : Program) (f : FuncId) (args : List V) (Q : V → Prop) : Prop := ∀ H, CallA P f args H fun x H' => Q x ∧ H' = H
theorem CallQ.args {f : FuncId} {xs ys : List V} {Q : V → Prop} (h : CallQ P f ys Q) (k : LeVs xs ys) : CallQ P f xs Q := fun H => (h H).args k
theorem CallP.q {f : FuncId} {args : List V} {r : V} {Q : V → Prop} (h : CallP P f args r) (hq : Q r) : CallQ P f args Q := fun H => (h H).mono fun x H' ⟨e1, e2⟩ => ⟨e1 ▸ hq, e2⟩
variable {α σ R ι : Type}
section
variable {enc : α → List V} {step : σ → α → Option (σ ⊕ R)} {g : Operand} {ps : Array Tmp} {asg body : Code} {st : St} {H : Heap} {K : Exit → St → Heap → Prop}
 {xs : List α} {s0 : σ} {o : σ ⊕ R}
end
end
end Go.Ab

namespace Go.Ab
open Go.RowKit
variable [Glob] [Ar]
section
variable {P : Program} {nt : Nat} {rd : Option Nat} {T : Tbl} {E : Env} {I : List (List V) → Heap → Heap → Prop} {D : Heap → Heap → Prop}
theorem CallV.heap {fv : V} {args : List V} {H H1 : Heap} {K : V → Heap → Prop} (h : CallV P fv args H1 K) (hl : HLe H1 H) : CallV P fv args H K :=
 fun g w v vals hR hv hA => h g w v vals (hR.less hl) hv hA
theorem CallA.heap {f : FuncId} {args : List V} {H H1 : Heap} {K : V → Heap → Prop} (h : CallA P f args H1 K) (hl : HLe H1 H) : CallA P f args H K :=
 fun g w vals hR hA => h g w vals (hR.less hl) hA
theorem Own.cast {Φ : Heap → Heap → Prop} {H0 H : Heap} {L L' : List En} (h : Own Φ H0 L H) (e : L = L') : Own Φ H0 L' H := e ▸ h
end
section
variable {P : Program} {nt : Nat} {T : Tbl} {E : Env} {α β σ R ι : Type}
theorem Stable.or {I J : Heap → Heap → Prop} (h : Stable I) (k : Stable J) : Stable fun F H => I F H ∨ J F H :=
 ⟨fun hh => hh.elim (fun x => h.le x) fun x => k.le x, fun id b hh e => hh.imp (fun x => h.chg id b x e) fun x => k.chg id b x e⟩
variable {enc : α → List V} {step : σ → α → Option (List β × (σ ⊕ R))} {g : Operand} {ps : Array Tmp} {asg body : Code} {st : St} {H : Heap} {K : Exit → St → Heap → Prop}
 {xs : List α} {s0 : σ} {o : σ ⊕ R} {w w' : List β}
end
end Go.Ab

