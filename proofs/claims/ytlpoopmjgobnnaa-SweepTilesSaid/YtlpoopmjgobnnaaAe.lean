/- A range over a function whose iterator keeps its state in blocks of its own. -/
import Derived.RangeFuncOwn
import Derived.RangeFuncKeeps
import Derived.RangeFuncCalls
set_option linter.unusedSimpArgs false
set_option linter.unusedVariables false
namespace Go.Proofs.Ytlpoopmjgobnnaa
open Go.RowKit

/-- what an iterator promises that keeps its state in blocks of its own -/
def SeqB {α : Type} (F : Fence) (n : Nat) (P : Program) (g : Nat) (lb : Array Value) (encs : α → Array Value) (Kp : World → World → Prop) (S Sp : List α → Prop) (N : Nat) (w : World) : Prop :=
  ∀ (l : Nat) (J Jx : List α → World → Prop) (W : World), Below w.heap.size w W → (∀ s A B, J s A → Below W.heap.size A B → J s B) → (∀ s A B, Jx s A → Below W.heap.size A B → Jx s B) →
    (∀ pre x W1, J pre W1 → Sp (pre ++ [x]) → YieldAt F (n - 1) P l (encs x) W1 fun e W' =>
      (e = .returned (.bool true) ∧ J (pre ++ [x]) W' ∧ Kp W1 W') ∨ (e = .returned (.bool false) ∧ Jx (pre ++ [x]) W')) →
    J [] W →
    CallsIn F n P g (#[.func (.yield l) #[] #[]] ++ lb) W fun e W' => (∃ v, e = .returned v) ∧ ((∃ xs, S xs ∧ J xs W') ∨ (∃ pre, Sp pre ∧ Jx pre W'))
theorem below_putObj {B : Nat} (W : World) (l : Nat) (o : Obj) (hl : B ≤ l) (hB : B ≤ W.heap.size) : Below B W (W.putObj l o) :=
  (Below.refl B W).grown (grownBy_putObj' W l o) hB (fun k e => by cases e; exact hl)
variable {F : Fence} {n : Nat} {P : Program}
theorem wpIn_rangeB {α : Type} {g : Operand} {ps : Array Tmp} {assign body : Code} {Q : Exit → Act → World → Prop} {a : Act} {w : World}
    (hro : F.round = none) (h1 : 1 ≤ n) {gf : Nat} {lb : Array Value} (hg : a.eval g = .func (.func gf) #[] lb) (hFg : F.fn gf) (eg : ∀ args w, (callFunc gf args).run P w = .ok (.enter gf args) w)
    {encs : α → Array Value} {Kp : World → World → Prop} {S Sp : List α → Prop} {N : Nat} {w0 : World} (hseq : SeqB F (n - 1) P gf lb encs Kp S Sp N w0)
    (hKt : ∀ {A B C : World}, Kp A B → Kp B C → Kp A C) (hKb : ∀ (W : World) (l : Nat) (o o' : Obj), w.heap.size ≤ l → W.heap[l]? = some o → o.isCells = false → Kp W (W.putObj l o')) (hb0 : Below w0.heap.size w0 w) (hps : ∀ x, (encs x).size = ps.size)
    (I : List α → World → Prop) (Ix : Code → List α → World → Prop) (hI : ∀ s A B, I s A → Below w.heap.size A B → I s B) (hIx : ∀ c s A B, Ix c s A → Below w.heap.size A B → Ix c s B) (h0 : I [] w) (a₁ : α → Act)
    (hassign : ∀ (l : Nat) (x : α) (W : World) (K : Act → World → Prop), K (a₁ x) W →
      assign.wpIn (F.inRound l) (n - 1 - 1) P (Exit.then K (fun _ _ _ => False)) { tmps := (ps.zip (encs x)).foldl (fun t (p, v) => t.setIfInBounds p v) a.tmps, defers := [] } W)
    (hbody : ∀ (l : Nat) (pre : List α) (x : α) (W : World), I pre W → Sp (pre ++ [x]) → body.wpIn (F.inRound l) (n - 1 - 1) P (ownPostK Kp I Ix (pre ++ [x]) W) (a₁ x) W)
    (hdone : ∀ (D : Nat) (xs : List α) (W : World), w.heap.size ≤ D → S xs → I xs W → W.heap[D]? = some (.deferred (some [])) → Q .normal { a with defers := { target := .collected D, args := #[] } :: a.defers } W)
    (hstop : ∀ (D : Nat) (c : Code) (pre : List α) (W : World), w.heap.size ≤ D → Sp pre → Ix c pre W → W.heap[D]? = some (.deferred (some [])) → c.wpIn F n P Q { a with defers := { target := .collected D, args := #[] } :: a.defers } W) :
    (Code.rangeFunc g ps assign body).wpIn F n P Q a w := by
  refine wpIn_rangeFunc fun fn hfn => ?_
  rw [hro]
  obtain ⟨B0, hB0⟩ : ∃ B, B = w.heap.size := ⟨_, rfl⟩
  obtain ⟨rc, hrc⟩ : ∃ rc : LoopState → Option Code → Loop, rc = fun st pe => { state := st, pending := pe, fn, tmps := a.tmps, params := ps, assign, body, defers := B0 } := ⟨_, rfl⟩
  obtain ⟨W1, hW1⟩ : ∃ W, W = (w.alloc (.deferred (some []))).alloc (.loop (rc .ready none)) := ⟨_, rfl⟩
  have sW : W1.heap.size = B0 + 2 := by rw [hW1, World.size_alloc, World.size_alloc, ← hB0]
  have bW : Below B0 w W1 := by rw [hW1, hB0]; exact ((Below.refl _ w).alloc (Nat.le_refl _) _).alloc (by simp) _
  have lW : W1.heap[B0 + 1]? = some (.loop (rc .ready none)) := by
    have h := World.alloc_heap_new (w.alloc (.deferred (some []))) (.loop (rc .ready none))
    rw [World.size_alloc, ← hB0] at h
    rw [hW1]; exact h
  have dW : W1.heap[B0]? = some (.deferred (some [])) := by
    have h := World.alloc_heap_new w (.deferred (some []))
    rw [← hB0] at h
    rw [hW1]; exact (Below.heap_alloc _ _ _ (by rw [World.size_alloc, ← hB0]; exact Nat.lt_succ_self _)).trans h
  rw [← hB0] at hI hIx hdone hstop hKb
  refine ⟨B0 + 1, [{ target := .collected B0, args := #[] }], W1, { target := .fn (.func gf) lb, args := #[.func (.yield (B0 + 1)) #[] #[]] }, W1, gf, #[.func (.yield (B0 + 1)) #[] #[]] ++ lb, W1, ?_, ?_, ?_, ?_, fun _ => h1, ?_⟩
  · rw [hW1, hrc, hB0]
    exact run_enterLoop_outer _ _ _ _ _
  · simp only [resolve, hg]
    simp [go_sem]
  · intro f' hf'
    simp [Target.leads] at hf'
    subst hf'
    exact hFg
  · simp [invoke, go_sem, eg]
  · refine (hseq (B0 + 1) (fun pre W => I pre W ∧ W.heap[B0 + 1]? = some (.loop (rc .ready none)) ∧ W.heap[B0]? = some (.deferred (some []))) (fun pre W => ∃ c, Ix c pre W ∧ W.heap[B0 + 1]? = some (.loop (rc .done (some c))) ∧ W.heap[B0]? = some (.deferred (some []))) W1 ?_ ?_ ?_ ?_ ⟨hI _ _ _ h0 bW, lW, dW⟩).mono ?_
    · exact hb0.trans (bW.mono (by rw [hB0]; exact hb0.size))
    · rintro s A B ⟨h2, h3, h4⟩ hb
      rw [sW] at hb
      exact ⟨hI s A B h2 (hb.mono (by omega)), (hb.block _ (by omega)).trans h3, (hb.block _ (by omega)).trans h4⟩
    · rintro s A B ⟨c, h2, h3, h4⟩ hb
      rw [sW] at hb
      exact ⟨c, hIx c s A B h2 (hb.mono (by omega)), (hb.block _ (by omega)).trans h3, (hb.block _ (by omega)).trans h4⟩
    · rintro pre x W ⟨hi, hl, hd⟩ hlen
      have hlt : B0 + 1 < W.heap.size := (Array.getElem?_eq_some_iff.1 hl).1
      have hy := run_yield (P := P) (args := encs x) hl (by rw [hrc]; exact hps x)
      rw [hrc] at hy
      obtain ⟨W2, hW2⟩ : ∃ V, V = W.putObj (B0 + 1) (.loop { rc .ready none with state := .busy }) := ⟨_, rfl⟩
      have b2 : Below B0 W W2 := by rw [hW2]; exact below_putObj W _ _ (by omega) (by omega)
      have l2 : W2.heap[B0 + 1]? = some (.loop { rc .ready none with state := .busy }) := by rw [hW2]; exact World.putObj_heap_same hlt
      have d2 : W2.heap[B0]? = some (.deferred (some [])) := by rw [hW2]; exact (World.putObj_heap_other (by omega)).trans hd
      have k2 : Kp W W2 := by rw [hW2]; exact hKb _ _ _ _ (by omega) hl rfl
      refine ⟨fn, _, assign, body, hy, roundIn_of_wpIn hfn (hassign _ x W _ ⟨W2, ?_, ?_⟩)⟩
      · rw [hW2]
        exact run_beginRound hl (by rw [hrc])
      · have fin : ∀ (jump : Option Code) (W3 : World), KeepsOthers W2 W3 → ∃ W4, (Instr.endRound (B0 + 1) jump).run P W3 = .ok (.bool jump.isNone) W4 ∧ Below B0 W3 W4 ∧ W4.heap[B0 + 1]? = some (.loop (rc (if jump.isNone then .ready else .done) jump)) ∧ W4.heap[B0]? = some (.deferred (some [])) ∧ Kp W3 W4 := fun jump W3 hk3 => by
          have hl3 := hk3.same _ _ l2 rfl
          have hd3 := hk3.same _ _ d2 rfl
          have hlt3 := (Array.getElem?_eq_some_iff.1 hl3).1
          have hr := run_endRound (P := P) jump hl3
          rw [hrc] at hr hl3 ⊢
          exact ⟨_, hr, below_putObj W3 _ _ (by omega) (by omega), World.putObj_heap_same hlt3, (World.putObj_heap_other (by omega)).trans hd3, hKb _ _ _ _ (by omega) hl3 rfl⟩
        refine wpIn_mono (hbody _ pre x W2 (hI _ _ _ hi b2) hlen) ?_
        rintro e a3 W3 hp
        cases e with
        | normal =>
          obtain ⟨q1, q2, q3⟩ := hp
          obtain ⟨W4, r1, r2, r3, r4, r5⟩ := fin none W3 q1
          exact ⟨_, W4, r1, .inl ⟨rfl, ⟨hI _ _ _ q3 r2, r3, r4⟩, hKt (hKt k2 q2) r5⟩⟩
        | ret =>
          obtain ⟨q1, q3⟩ := hp
          obtain ⟨W4, r1, r2, r3, r4, r5⟩ := fin (some .ret) W3 q1
          exact ⟨_, W4, r1, .inr ⟨rfl, .ret, hIx _ _ _ _ q3 r2, r3, r4⟩⟩
        | exit id =>
          obtain ⟨q1, q3⟩ := hp
          obtain ⟨W4, r1, r2, r3, r4, r5⟩ := fin (some (.exit id)) W3 q1
          exact ⟨_, W4, r1, .inr ⟨rfl, .exit id, hIx _ _ _ _ q3 r2, r3, r4⟩⟩
        | goto t =>
          obtain ⟨q1, q3⟩ := hp
          obtain ⟨W4, r1, r2, r3, r4, r5⟩ := fin (some (.goto t)) W3 q1
          exact ⟨_, W4, r1, .inr ⟨rfl, .goto t, hIx _ _ _ _ q3 r2, r3, r4⟩⟩
        | panic ch => exact hp.elim
        | outgrown => exact hp.elim
    · rintro e W2 ⟨⟨v, rfl⟩, (⟨xs, hS, hi, hl, hd⟩ | ⟨pre, hSp, c, hi, hl, hd⟩)⟩
      · have hlt := (Array.getElem?_eq_some_iff.1 hl).1
        have he := run_endLoop (P := P) hl (by rw [hrc]; simp)
        rw [hrc] at he
        exact ⟨none, _, he, hdone B0 xs _ (Nat.le_refl _) hS (hI _ _ _ hi (below_putObj W2 _ _ (by omega) (by omega))) ((World.putObj_heap_other (by omega)).trans hd)⟩
      · have hlt := (Array.getElem?_eq_some_iff.1 hl).1
        have he := run_endLoop (P := P) hl (by rw [hrc]; simp)
        rw [hrc] at he
        exact ⟨some c, _, he, hstop B0 c pre _ (Nat.le_refl _) hSp (hIx _ _ _ _ hi (below_putObj W2 _ _ (by omega) (by omega))) ((World.putObj_heap_other (by omega)).trans hd)⟩
end Go.Proofs.Ytlpoopmjgobnnaa
