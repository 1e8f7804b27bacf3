/- A tree of orders: an operation that is passed over, its frame written out anew. -/
import Derived.Test.YtlnikmcimmnbmaaTree
namespace Go.Proofs.Ytlnikmcimmnbmaa
set_option linter.unusedSimpArgs false
set_option linter.unusedVariables false
open Go.RowKit
theorem tr_skipK {P : Program} {C : World → Prop} {l : List Oper} {T : Nat} {Q : Act → World → Prop} {k : Nat} {b : Bool} {o : Oper} {t : Tr} {a : Act} {w : World} (ho : l[k]? = some o) (hw : Region.wanted o (yielded l.toArray a.tmps) = false) (hC : C w)
    (h : ∀ K : Act → Prop, (∀ a, wpTr P l.toArray T C Q t a w → K a) → K (a.put o.dst undef)) : wpTr P l.toArray T C Q (.op k b t) a w :=
  tr_skip ho hw hC (h _ fun _ h => h)
end Go.Proofs.Ytlnikmcimmnbmaa
