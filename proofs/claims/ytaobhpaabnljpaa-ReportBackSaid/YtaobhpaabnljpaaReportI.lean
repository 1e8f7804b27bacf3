/- The law ReportBack, walked. -/
import Derived.Test.YtaobhpaabnljpaaReportH
namespace Go.Proofs.Ytaobhpaabnljpaa
open Go.RowKit
set_option maxRecDepth 100000

/-- The boxes of the arguments. -/
structure Box3 (w x : World) (or os oc : Obj) : Prop where
  r : x.heap[w.heap.size]? = some or
  s : x.heap[w.heap.size + 1]? = some os
  c : x.heap[w.heap.size + 2]? = some oc
  more : More w x
theorem Box3.new (w : World) (cr cs cc : Array Value) (tr ts tc : Nat) : Box3 w (((w.alloc (.cells cr tr)).alloc (.cells cs ts)).alloc (.cells cc tc)) (.cells cr tr) (.cells cs ts) (.cells cc tc) :=
  ⟨blk_alloc (blk_alloc (blk_new w _) _) _, blk_alloc (blk_new2 (by simp)) _, blk_new2 (by simp), ((More.alloc _ _).al _).al _⟩
theorem Box3.on {w x y : World} {a b c : Obj} (h : Box3 w x a b c) (m : More x y) : Box3 w y a b c := ⟨blk_more m h.r, blk_more m h.s, blk_more m h.c, h.more.trans m⟩
end Go.Proofs.Ytaobhpaabnljpaa
