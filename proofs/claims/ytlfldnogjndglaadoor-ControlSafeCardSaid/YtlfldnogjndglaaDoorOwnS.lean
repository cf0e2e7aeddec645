/-
  append onto an own slice as a step of a region that draws its order.
-/
import Derived.Test.YtlfldnogjndglaaDoorOwnL
import Derived.Deep.RegionHeld3
namespace Go.Proofs.YtlfldnogjndglaaDoor
open Go.RowKit
set_option linter.unusedVariables false

theorem step_appL {α : Type} (L : Lay α) {ops : Array Oper} {o : Oper} {a : Act} {K : Act → World → Prop} {Q : Exit → Act → World → Prop} {E : Prop} {w : World} (w0 : World) (hw : Region.wanted o (yielded ops a.tmps) = true) (s x : Operand) (t1 t2 : TypeId)
    (ho : o.op = .call { callee := .builtin .append, args := #[s, x], argTypes := #[t1, t2] }) (ht1 : t1 = L.t) (ht2 : t2 = L.t)
    (B : Nat) (v : Value) (l : List α) (hs : a.eval s = v) (hown : OwnL L B w v l) (hb0 : Below B w0 w) (hB : B ≤ w.heap.size)
    (u : Value) (ns : List α) (C : Nat) (hx : a.eval x = u) (hu : RdL L w C u ns)
    (hL : L.bytes ≤ 1024) (h63 : l.length + ns.length ≤ 1000000000)
    (h : ∀ v' w', OwnL L B w' v' (l ++ ns) → Below B w0 w' → K (a.put o.dst v') w') :
    if Region.wanted o (yielded ops a.tmps) = true then Oper.wp Tryd.prog o a w K Q else E := by
  rw [if_pos hw]
  subst ht1 ht2
  obtain ⟨v', w', hrun, h1, h2, h5⟩ := run_appL o.type B v l hown hB u ns C hu hL h63
  unfold Oper.wp execOp
  simp only [ho, resolve, invoke, builtin, Sem.run_bind, Sem.run_pure, Result.andThen_ok, List.map_toArray, List.map_cons, List.map_nil, hs, hx, hrun]
  have hr : ∀ k, v.ownBlock = some k → B ≤ k := fun k hk => (hown.lt k hk).1
  exact h v' w' h1 (hb0.grown h2 hB hr)
end Go.Proofs.YtlfldnogjndglaaDoor
