/-
  Trees: what holds of all ways.
-/
import Derived.Test.YtbopeaebdlmapaaSxD
namespace Go.Sx
open Go.RowKit

theorem holds_mono {α : Type} {Q Q' : α → Prop} (h : ∀ a, Q a → Q' a) : ∀ {t : Tree α}, t.holds Q → t.holds Q'
  | .ret a, ht => h a ht
  | .br _ _ _, ht => ⟨fun hb => holds_mono h (ht.1 hb), fun hb => holds_mono h (ht.2 hb)⟩
  | .need _ _, ht => ⟨ht.1, holds_mono h ht.2⟩
  | .bad, ht => ht
theorem holds_bind {α β : Type} {f : α → Tree β} {Q : β → Prop} : ∀ {t : Tree α}, (t.bind f).holds Q → t.holds fun a => (f a).holds Q
  | .ret _, ht => ht
  | .br _ _ _, ht => ⟨fun hb => holds_bind (ht.1 hb), fun hb => holds_bind (ht.2 hb)⟩
  | .need _ _, ht => ⟨ht.1, holds_bind ht.2⟩
  | .bad, ht => ht

/-- Of all results, reachable or not. -/
def Tree.all {α : Type} : Tree α → (α → Prop) → Prop
  | .ret a, Q => Q a
  | .br _ t e, Q => t.all Q ∧ e.all Q
  | .need _ t, Q => t.all Q
  | .bad, _ => True
theorem all_bind {α β : Type} {f : α → Tree β} {Q : β → Prop} : ∀ {t : Tree α}, (t.all fun a => (f a).all Q) → (t.bind f).all Q
  | .ret _, ht => ht
  | .br _ _ _, ht => ⟨all_bind ht.1, all_bind ht.2⟩
  | .need _ t, ht => all_bind (t := t) ht
  | .bad, ht => ht
theorem all_mono {α : Type} {Q Q' : α → Prop} (h : ∀ a, Q a → Q' a) : ∀ {t : Tree α}, t.all Q → t.all Q'
  | .ret a, ht => h a ht
  | .br _ _ _, ht => ⟨all_mono h ht.1, all_mono h ht.2⟩
  | .need _ t, ht => all_mono h (t := t) ht
  | .bad, ht => ht
theorem holds_all {α : Type} {Q Q' : α → Prop} : ∀ {t : Tree α}, t.holds Q → t.all Q' → t.holds fun a => Q a ∧ Q' a
  | .ret _, h, h' => ⟨h, h'⟩
  | .br _ _ _, h, h' => ⟨fun hb => holds_all (h.1 hb) h'.1, fun hb => holds_all (h.2 hb) h'.2⟩
  | .need _ t, h, h' => ⟨h.1, holds_all (t := t) h.2 h'⟩
  | .bad, h, _ => h

theorem all_true {α : Type} {Q : α → Prop} (h : ∀ a, Q a) : ∀ (t : Tree α), t.all Q
  | .ret a => h a
  | .br _ t e => ⟨all_true h t, all_true h e⟩
  | .need _ t => all_true h t
  | .bad => trivial
end Go.Sx
