/- A scope through which the run jumps, to several labels, in the fenced walk. -/
import Derived.ControlIn
set_option linter.unusedSimpArgs false
set_option linter.unusedVariables false
namespace Go.Proofs.Ytlpoopmjgobnnaa

section
variable {P : Program} {b : Frame} {a : Act} {k : List Item} {cs : List Frame} {w : World}
theorem stepR_scope {c : Code} : step P (lone (b.atR a (.code (.scope c) :: k)) cs w) = .next (lone (b.atR a (.code c :: .inScope c :: k)) cs w) :=
  step_lone_go (by simp [stepG, stepG.exec, Frame.atR])
theorem stepR_inScope {c : Code} : step P (lone (b.atR a (.inScope c :: k)) cs w) = .next (lone (b.atR a k) cs w) :=
  step_lone_go (by simp [stepG, stepG.exec, Frame.atR])
end
/-- as Q; by a goto to label l: G l; -/
def ExJumps (G : Nat → Act → World → Prop) (Q : Exit → Act → World → Prop) : Exit → Act → World → Prop
  | .goto l, a, w => G l a w
  | e, a, w => Q e a w
section
variable {F : Fence} {n : Nat} {P : Program} {Q : Exit → Act → World → Prop} {a : Act} {w : World}
/-- a scope through which the run jumps, to several labels -/
theorem wpIn_scope_labels {c : Code} (G : Nat → Nat → Act → World → Prop) (R : Nat → Code) (hf : ∀ l j a w, G l j a w → findLabel c l = some (R l))
    (first : c.wpIn F n P (ExJumps (fun l a w => ∃ j, G l j a w) Q) a w)
    (pass : ∀ l j a w, G l j a w → (R l).wpIn F n P (ExJumps (fun l' a' w' => ∃ j', j' < j ∧ G l' j' a' w') Q) a w) : (Code.scope c).wpIn F n P Q a w := by
  intro b k cs hro hb hr
  have h0 : (lone (b.atR a (.code (.scope c) :: k)) cs w).fenced P F := fenced_calm hb hr rfl
  have hg : ∀ l j a w, G l j a w → gotoIn l (.inScope c :: k) = some (.code (R l) :: .inScope c :: k) := fun l j a w h => by simp [gotoIn, hf l j a w h]
  have key : ∀ j l a w, G l j a w →
      ∃ e a' w', Q e a' w' ∧ ArrivesIn (Machine.fenced P F) P (lone (b.atR a (.code (R l) :: .inScope c :: k)) cs w) b k cs e a' w' := by
    intro j
    induction j using Nat.strongRecOn with
    | _ j ih =>
      intro l a w hI
      obtain ⟨e, a₁, w₁, hq, harr⟩ := pass l j a w hI b (.inScope c :: k) cs hro hb hr
      cases e with
      | normal => exact ⟨.normal, a₁, w₁, hq, StepsIn.trans harr (.one (fenced_calm hb hr rfl) stepR_inScope)⟩
      | exit id => exact ⟨_, a₁, w₁, hq, fun k' hk => harr.1 k' (by simpa [exitTo] using hk), fun hr' hk => harr.2 hr' (by simpa [exitTo] using hk)⟩
      | goto l' =>
        obtain ⟨j', hlt, hI₁⟩ := hq
        obtain ⟨e₂, a₂, w₂, hq₂, harr₂⟩ := ih j' hlt l' a₁ w₁ hI₁
        exact ⟨e₂, a₂, w₂, hq₂, .of_steps (harr.1 _ (hg l' j' a₁ w₁ hI₁)) harr₂⟩
      | ret => exact ⟨_, a₁, w₁, hq, harr⟩
      | panic ch => exact ⟨_, a₁, w₁, hq, harr⟩
      | outgrown => exact ⟨_, a₁, w₁, hq, harr⟩
  obtain ⟨e, a₁, w₁, hq, harr⟩ := first b (.inScope c :: k) cs hro hb hr
  have s0 : StepsIn (Machine.fenced P F) P (lone (b.atR a (.code (.scope c) :: k)) cs w) (lone (b.atR a (.code c :: .inScope c :: k)) cs w) := .one h0 stepR_scope
  cases e with
  | normal => exact ⟨.normal, a₁, w₁, hq, s0.trans (StepsIn.trans harr (.one (fenced_calm hb hr rfl) stepR_inScope))⟩
  | exit id => exact ⟨.exit id, a₁, w₁, hq, .of_steps s0 (show ArrivesIn _ P _ b k cs (.exit id) a₁ w₁ from ⟨fun k' hk => harr.1 k' (by simpa [exitTo] using hk), fun hr' hk => harr.2 hr' (by simpa [exitTo] using hk)⟩)⟩
  | goto l' =>
    obtain ⟨j, hq⟩ := hq
    obtain ⟨e₂, a₂, w₂, hq₂, harr₂⟩ := key j l' a₁ w₁ hq
    exact ⟨e₂, a₂, w₂, hq₂, .of_steps (s0.trans (harr.1 _ (hg l' j a₁ w₁ hq))) harr₂⟩
  | ret => exact ⟨_, a₁, w₁, hq, .of_steps s0 harr⟩
  | panic ch => exact ⟨_, a₁, w₁, hq, .of_steps s0 harr⟩
  | outgrown => exact ⟨_, a₁, w₁, hq, .of_steps s0 harr⟩
theorem jumps_mono {G G' : Nat → Act → World → Prop} (h : ∀ l a w, G l a w → G' l a w) : ∀ (e : Exit) (a : Act) (w : World), ExJumps G Q e a w → ExJumps G' Q e a w := fun e a w hh => by
  cases e with
  | goto l => exact h l a w hh
  | _ => exact hh
theorem seq_then {x y : Code} {K : Act → World → Prop} (h : x.wpIn F n P (Exit.then K Q) a w) (hK : ∀ a w, K a w → y.wpIn F n P Q a w) : (x.seq y).wpIn F n P Q a w :=
  wpIn_seq (wpIn_mono h fun e a w hh => by
    cases e with
    | normal => exact hK a w hh
    | _ => exact hh)
/-- a scope with two labels, the first ahead of a piece that goes on to the second -/
theorem wpIn_two_labels {A B C0 Y Z X : Code} (hA : ∀ l, findLabel A l = none) (hB : ∀ l, findLabel B l = none) (hC : ∀ l, findLabel C0 l = none) (hY : ∀ l, findLabel Y l = none) (hZ : ∀ l, findLabel Z l = none)
    (G : Nat → Nat → Act → World → Prop) (hG : ∀ l j a w, G l j a w → l = 0 ∨ l = 1)
    (first : A.wpIn F n P (Exit.then (B.wpIn F n P (Exit.then (C0.wpIn F n P (Exit.then (fun a w => ∃ j, G 0 j a w) (ExJumps (fun l a w => ∃ j, G l j a w) Q))) (ExJumps (fun l a w => ∃ j, G l j a w) Q))) (ExJumps (fun l a w => ∃ j, G l j a w) Q)) a w)
    (pass0 : ∀ j a w, G 0 j a w → Y.wpIn F n P (Exit.then (Z.wpIn F n P (Exit.then (fun a w => ∃ j', j' < j ∧ G 1 j' a w) (ExJumps (fun l a' w' => ∃ j', j' < j ∧ G l j' a' w') Q))) (ExJumps (fun l a' w' => ∃ j', j' < j ∧ G l j' a' w') Q)) a w)
    (pass1 : ∀ j a w, G 1 j a w → X.wpIn F n P (ExJumps (fun l a' w' => ∃ j', j' < j ∧ G l j' a' w') Q) a w) :
    (Code.scope (A.seq (B.seq (C0.seq ((Code.label 0).seq (Y.seq (Z.seq ((Code.label 1).seq X)))))))).wpIn F n P Q a w := by
  have p0 : ∀ j a w, G 0 j a w → (Y.seq (Z.seq ((Code.label 1).seq X))).wpIn F n P (ExJumps (fun l a' w' => ∃ j', j' < j ∧ G l j' a' w') Q) a w := fun j a w h =>
    seq_then (pass0 j a w h) fun a w hz => seq_then hz fun a w ⟨j', hj, hg⟩ => wpIn_seq (wpIn_label (wpIn_mono (pass1 j' a w hg) (jumps_mono fun l a w ⟨k, hk, hh⟩ => ⟨k, Nat.lt_trans hk hj, hh⟩)))
  refine wpIn_scope_labels G (fun l => if l = 0 then Code.skip.seq (Y.seq (Z.seq ((Code.label 1).seq X))) else Code.skip.seq X) ?_ ?_ ?_
  · intro l j a w h
    rcases hG l j a w h with rfl | rfl
    · simp [findLabel, hA, hB, hC]
    · simp [findLabel, hA, hB, hC, hY, hZ]
  · exact seq_then first fun a w hb => seq_then hb fun a w hc => seq_then hc fun a w ⟨j, hg⟩ => wpIn_seq (wpIn_label (wpIn_mono (p0 j a w hg) (jumps_mono fun l a w ⟨k, _, hh⟩ => ⟨k, hh⟩)))
  · intro l j a w h
    rcases hG l j a w h with rfl | rfl
    · rw [if_pos rfl]
      exact wpIn_seq (wpIn_skip (p0 j a w h))
    · rw [if_neg (by decide)]
      exact wpIn_seq (wpIn_skip (pass1 j a w h))
end
end Go.Proofs.Ytlpoopmjgobnnaa
