/- A row of the call's own stays one when its capacity is cut down. No condition: plain lemmas. -/
import Derived.Test.YtdmmgijfaligpaaWWords
import Derived.Test.YtdmmgijfaligpaaWApart
import Derived.Test.YtdmmgijfaligpaaWN
import Derived.Test.YtdmmgijfaligpaaWMore
namespace Go.Proofs.YtdmmgijfaligpaaW.PrintWords
open Go.RowKit
namespace Kd
section
variable {α : Type} {d : Kd α} {e : Nat} {w : World} {base : Nat} {ok : Nat → Prop} {A : Option Addr} {c : Nat} {xs : List α} {n m : Nat}
theorem R_clip (h : d.R e w base ok (.slice A n c) xs) (h1 : n ≤ m) (h2 : m ≤ c) : d.R e w base ok (.slice A n m) xs := by
  have hn : n = xs.length := (R_reads' h).1
  obtain ⟨h0, inner, ho, hr⟩ := h
  subst hn
  have hb : (Value.slice A xs.length m).ownBlock = (Value.slice A xs.length c).ownBlock := by cases A <;> rfl
  refine ⟨fun k hk => h0 k (by rw [← hb]; exact hk), inner, ho.clip h1 h2, ?_⟩
  rw [hb]; exact hr
theorem S_clip (h : S d e w base ok (.slice A n c) xs) (h1 : n ≤ m) (h2 : m ≤ c) : S d e w base ok (.slice A n m) xs := by
  obtain ⟨f, hf⟩ := h
  exact ⟨f, R_clip hf h1 h2⟩
end
end Kd
end Go.Proofs.YtdmmgijfaligpaaW.PrintWords
