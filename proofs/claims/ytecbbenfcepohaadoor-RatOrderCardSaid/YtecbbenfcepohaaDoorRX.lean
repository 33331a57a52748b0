/- More words for walks: a literal of structs; the return of a function that is walked in place. No condition. -/
import Derived.Test.YtecbbenfcepohaaDoorRW
namespace Go.Proofs.YtecbbenfcepohaaDoor.RW
open Go.RowKit Go.Proofs.YtecbbenfcepohaaDoorW.PrintWords Go.Proofs.YtecbbenfcepohaaDoorW.PrintLast Go.Proofs.YtecbbenfcepohaaDoorW.PrintMore
set_option linter.unusedVariables false
section
variable {P : Program} {ops : Array Oper} {rest : List Oper} {o : Oper} {a : Act} {Q : Exit → Act → World → Prop} {w0 w W : World} {R : List (Option Addr × Nat × List Int)} {B : List (Nat × Array Value × TypeId)}
theorem ev_boxs (N : Tmp) (hd : o.dst = some N) (S : St w0 W R B) (hgd : o.guard = none) (cs : Array Value) (t : TypeId) (n : Nat)
    (hrun : (execOp a.eval o).run P W = .ok (.value (.slice (some ⟨W.heap.size, 0, none⟩) n n)) (W.alloc (.cells cs t (0, 0)))) (hn : cs.toList.all no32 = true)
    (h : ∀ g w1, St w0 w1 R ((g, cs, t) :: B) → wpList P ops Q rest (a.put o.dst (.slice (some ⟨g, 0, none⟩) n n)) w1) : wpList P ops Q (o :: rest) a W :=
  Kd.event_run hgd hrun (h _ _ (S.new hn rfl (blk_new W _) (below_alloc (Below.refl _ _) _)))
theorem gate_b {fn : Func} {p : Prop} {R' : Ending → World → Prop} {e : Exit} (_ : p) (h : bodyPost P fn R' e a W) : bodyPost P fn R' e a W := h
end
end Go.Proofs.YtecbbenfcepohaaDoor.RW
