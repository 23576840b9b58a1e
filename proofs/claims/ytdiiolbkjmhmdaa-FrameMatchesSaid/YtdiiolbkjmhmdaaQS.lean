/- A region that draws its order, whose operations only read and whose callees only add blocks: walked once, in the order of the text, over the worlds that meet a condition S. -/
import Derived.Test.YtdiiolbkjmhmdaaHdA
import Derived.Deep.QuietTactic
import Derived.BigQuiet
namespace Go.Proofs.Ytdiiolbkjmhmdaa
open Go.RowKit

structure Wld (S : World → Prop) where
  w : World
  ok : S w

theorem wp_region_sub (S : World → Prop) {P : Program} {id : Nat} {Q : Exit → Act → World → Prop} {a : Act} {w : World} {l : List Oper} (hm : P.follows .mixedOrders = true) (hB : Region.lexB .any l.toArray = true) (hS : S w.drew)
    (h : wpQuiet P l.toArray (fun w' => ∃ p : Wld S, w' = p.w) (fun a' => ∀ w', (∃ p : Wld S, w' = p.w) → Q .normal a' w') l a) : (Code.region id l.toArray true).wp P Q a w :=
  wp_region_quiet (C := fun w' => ∃ p : Wld S, w' = p.w) hm hB ⟨⟨_, hS⟩, rfl⟩ (by simpa using h)

theorem calls_sub {S : World → Prop} (hS : ∀ w1 w2, S w1 → Below w1.heap.size w1 w2 → S w2) {P : Program} {f : FuncId} {args : Array Value} {v : Value} {p : Wld S}
    (h : Calls P f args p.w (RV v p.w)) : Calls P f args p.w fun e w'' => e = .returned v ∧ ∃ q : Wld S, w'' = q.w := by
  refine h.mono ?_
  rintro r w' ⟨h1, h2⟩
  exact ⟨h1, ⟨w', hS _ _ p.ok h2⟩, rfl⟩

end Go.Proofs.Ytdiiolbkjmhmdaa
