/- A law of the walk: a scope with labels and gotos, each label told by itself: what stands behind a label is shown once, and every goto to it leans on that. No condition. -/
import Derived.ScopeJumps
namespace Go.Proofs.Ytammbclaejgkpaa.Gotos
open Go
section
variable {P : Program} {a : Act} {w : World} {Q : Exit → Act → World → Prop} {c : Code}

/-- From label l of the scope c on, the scope is left as Q says. -/
def From (P : Program) (c : Code) (Q : Exit → Act → World → Prop) (l : Nat) (a : Act) (w : World) : Prop :=
  ∀ b k cs, ∃ rest e a' w', findLabel c l = some rest ∧ Q e a' w' ∧ Arrives P (lone (b.at a (.code rest :: .inScope c :: k)) cs w) b k cs e a' w'

/-- As Q; by a goto to a label of this scope: what that label comes to. -/
def Free (P : Program) (c : Code) (Q : Exit → Act → World → Prop) : Exit → Act → World → Prop
  | .goto l, a, w => From P c Q l a w
  | e, a, w => Q e a w

theorem arrive {r : Code} (h : r.wp P (Free P c Q) a w) (b : Frame) (k : List Item) (cs : List Frame) :
    ∃ e a' w', Q e a' w' ∧ Arrives P (lone (b.at a (.code r :: .inScope c :: k)) cs w) b k cs e a' w' := by
  obtain ⟨e, a₁, w₁, hq, harr⟩ := h b (.inScope c :: k) cs
  cases e with
  | normal => exact ⟨.normal, a₁, w₁, hq, Steps.trans harr (.one step_inScope)⟩
  | exit id => exact ⟨.exit id, a₁, w₁, hq, fun k' hk => harr k' (by simp [exitTo, hk])⟩
  | goto l' =>
    obtain ⟨rest, e₂, a₂, w₂, hf, hq₂, harr₂⟩ := hq b k cs
    have hg : gotoIn l' (.inScope c :: k) = some (.code rest :: .inScope c :: k) := by simp [gotoIn, hf]
    exact ⟨e₂, a₂, w₂, hq₂, .of_steps (harr _ hg) harr₂⟩
  | ret => exact ⟨_, a₁, w₁, hq, harr⟩
  | panic ch => exact ⟨_, a₁, w₁, hq, harr⟩
  | outgrown => exact ⟨_, a₁, w₁, hq, harr⟩

/-- A scope: X is any word that says what Q says, and takes a goto where the label's own code is shown. -/
theorem wp_scope_free (h : ∀ X : Exit → Act → World → Prop, (∀ a w, Q .ret a w → X .ret a w) → (∀ a w, Q .normal a w → X .normal a w) →
      (∀ l r a w, findLabel c l = some r → r.wp P X a w → X (.goto l) a w) → c.wp P X a w) : (Code.scope c).wp P Q a w := by
  have h' := h (Free P c Q) (fun _ _ q => q) (fun _ _ q => q) (fun l r a w hf hr => by
    intro b k cs
    obtain ⟨e, a', w', hq, harr⟩ := arrive hr b k cs
    exact ⟨r, e, a', w', hf, hq, harr⟩)
  intro b k cs
  obtain ⟨e, a', w', hq, harr⟩ := arrive h' b k cs
  exact ⟨e, a', w', hq, .of_steps (.one step_scope) harr⟩

/-- What stands behind one label, told once: for who falls into it and for who jumps to it. J's number goes down from round to round. -/
theorem label_by {X : Exit → Act → World → Prop} {T : Prop} (hX : ∀ l r a w, findLabel c l = some r → r.wp P X a w → X (.goto l) a w) (l : Nat) {r : Code} (hf : findLabel c l = some r)
    (J : Nat → Act → World → Prop)
    (round : ∀ n a w, J n a w → (∀ m a' w', J m a' w' → m < n → X (.goto l) a' w') → r.wp P X a w)
    (go : (∀ n a w, J n a w → r.wp P X a w) → (∀ n a w, J n a w → X (.goto l) a w) → T) : T := by
  have key : ∀ n a w, J n a w → r.wp P X a w := by
    intro n
    induction n using Nat.strongRecOn with
    | _ n ih => exact fun a w hJ => round n a w hJ (fun m a' w' hJ' hlt => hX l r a' w' hf (ih m hlt a' w' hJ'))
  exact go key (fun n a w hJ => hX l r a w hf (key n a w hJ))

/-- The same for a label at the head of a statement 'b', 'c' behind it: b is shown with its way on behind a name, as the walk has it. -/
theorem label_by2 {X : Exit → Act → World → Prop} {T : Prop} (hX : ∀ l r a w, findLabel c l = some r → r.wp P X a w → X (.goto l) a w) (l : Nat) {x y : Code} (hf : findLabel c l = some ((Code.skip.seq x).seq y))
    (J : Nat → Act → World → Prop)
    (round : ∀ K : Act → World → Prop, (∀ a w, y.wp P X a w → K a w) → ∀ n a w, J n a w → (∀ m a' w', J m a' w' → m < n → X (.goto l) a' w') → x.wp P (Exit.then K X) a w)
    (go : (∀ K : Act → World → Prop, (∀ a w, y.wp P X a w → K a w) → ∀ n a w, J n a w → x.wp P (Exit.then K X) a w) → (∀ n a w, J n a w → X (.goto l) a w) → T) : T := by
  have up : ∀ a w, (∀ K : Act → World → Prop, (∀ a w, y.wp P X a w → K a w) → x.wp P (Exit.then K X) a w) → X (.goto l) a w :=
    fun a w h => hX l _ a w hf (wp_seq_k fun K hK => wp_seq (wp_skip (h K hK)))
  have key : ∀ n a w, J n a w → ∀ K : Act → World → Prop, (∀ a w, y.wp P X a w → K a w) → x.wp P (Exit.then K X) a w := by
    intro n
    induction n using Nat.strongRecOn with
    | _ n ih => exact fun a w hJ K hK => round K hK n a w hJ (fun m a' w' hJ' hlt => up a' w' (ih m hlt a' w' hJ'))
  exact go (fun K hK n a w hJ => key n a w hJ K hK) (fun n a w hJ => up a w (key n a w hJ))

/-- The same where all that stands behind the label is one piece 'x'. -/
theorem label_by1 {X : Exit → Act → World → Prop} {T : Prop} (hX : ∀ l r a w, findLabel c l = some r → r.wp P X a w → X (.goto l) a w) (l : Nat) {x : Code} (hf : findLabel c l = some (Code.skip.seq x))
    (J : Nat → Act → World → Prop)
    (round : ∀ n a w, J n a w → (∀ m a' w', J m a' w' → m < n → X (.goto l) a' w') → x.wp P X a w)
    (go : (∀ n a w, J n a w → x.wp P X a w) → (∀ n a w, J n a w → X (.goto l) a w) → T) : T := by
  have up : ∀ a w, x.wp P X a w → X (.goto l) a w := fun a w h => hX l _ a w hf (wp_seq (wp_skip h))
  have key : ∀ n a w, J n a w → x.wp P X a w := by
    intro n
    induction n using Nat.strongRecOn with
    | _ n ih => exact fun a w hJ => round n a w hJ (fun m a' w' hJ' hlt => up a' w' (ih m hlt a' w' hJ'))
  exact go (fun n a w hJ => key n a w hJ) (fun n a w hJ => up a w (key n a w hJ))
end
end Go.Proofs.Ytammbclaejgkpaa.Gotos
