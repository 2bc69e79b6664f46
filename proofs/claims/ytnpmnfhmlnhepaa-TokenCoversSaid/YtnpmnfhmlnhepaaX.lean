/- A call of a function that stands in a slot, in a region that draws its order. -/
import Derived.Test.YtnpmnfhmlnhepaaWLast
import Derived.ChangeKeysEq
namespace Go.Proofs.YtnpmnfhmlnhepaaW.PrintLast
open Go.RowKit
section
variable {P : Program} {ops : Array Oper} {Q : Exit → Act → World → Prop}
theorem goesT_ {oi : Oper} {N : Option Tmp} {a : Act} {w : World} {K : Act → World → Prop} {f : FuncId} {fn : Func} {as : Array Operand} {ts : Array TypeId} {s : Tmp} (hf : P.funcs[f]? = some fn) (hname : (fn.name == "runtime.NumGoroutine") = false) (hb : fn.body.isSome = true) (args : Array Value)
    (hw : Region.wanted oi (yielded ops a.tmps) = true) (hN : oi.dst = N) (hop : oi.op = .call { callee := .value (.tmp s), args := as, argTypes := ts }) (hv : a.eval (.tmp s) = .func (.func f) #[] #[]) (hargs : as.map a.eval = args)
    (h : Calls P f args w fun e w' => ∃ v, e = .returned v ∧ K (a.put N v) w') : if Region.wanted oi (yielded ops a.tmps) = true then Oper.wp P oi a w K Q else K (a.put N undef) w := by
  refine call_ f args hw hN ?_ h
  have he := enters_ hf hname hb args w
  unfold execOp
  simp [hop, resolve, Deferred.ofValue, invoke, hv, hargs, he]
end
end Go.Proofs.YtnpmnfhmlnhepaaW.PrintLast
/- '==' of small arrays. -/
namespace Go.Proofs.YtnpmnfhmlnhepaaW.PrintWords
open Go.RowKit
section
variable {P : Program} {d : Nat} {xs ys : Array Value} {e : TypeId} {c i q : Nat} {is : List Nat} {a b : Value} {r s : Bool} {w : World}
theorem eqi_cons (hq : i * c = q) (ha : (part e xs q).run P w = .ok a w) (hb : (part e ys q).run P w = .ok b w) (he : (Op.equalIn d e a b).run P w = .ok r w) (hr : (Op.eqItems d e c xs ys is).run P w = .ok s w) : (Op.eqItems d e c xs ys (i :: is)).run P w = .ok (r && s) w := by
  subst hq
  rw [Op.eqItems]
  simp only [Sem.run_bind, ha, hb, he, Result.andThen_ok]
  cases r
  · simp
  · simpa using hr
theorem eqi_last (hq : i * c = q) (ha : (part e xs q).run P w = .ok a w) (hb : (part e ys q).run P w = .ok b w) (he : (Op.equalIn d e a b).run P w = .ok r w) : (Op.eqItems d e c xs ys [i]).run P w = .ok r w := by
  have h := eqi_cons (is := []) hq ha hb he (s := true) (by simp [Op.eqItems])
  rwa [Bool.and_true] at h
theorem eqR_of {t : TypeId} {n : Nat} {f : TypeInfo} {l : List Nat} (hu : P.underlying t = some (.array n e)) (hi : P.info? e = some f) (hc : P.cellsOf e = c) (hl : List.range n = l) (h : (Op.eqItems d e c xs ys l).run P w = .ok r w) : (Op.equalIn (d + 1) t (.agg xs) (.agg ys)).run P w = .ok r w := by
  rw [run_equalIn_array (P := P) (w := w) d xs ys hu hi, hc, hl]
  exact h
end
end Go.Proofs.YtnpmnfhmlnhepaaW.PrintWords
