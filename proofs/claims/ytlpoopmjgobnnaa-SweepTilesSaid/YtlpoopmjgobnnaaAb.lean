/- Boxes: the cells of a box, the cell behind a cell, places, growth, the cover: plain. -/
import Derived.Lib.Hide
set_option linter.unusedSimpArgs false
set_option linter.unusedVariables false
namespace Go.Proofs.Ytlpoopmjgobnnaa
/-- the cells of a box, the last number running fastest -/
def cellsL : List Nat → List Nat → List (List Nat)
  | l :: lo, h :: hi => (List.range' l (h - l)).flatMap fun a => (cellsL lo hi).map (a :: ·)
  | _, _ => [[]]
/-- the cell behind a cell -/
def nxt : List Nat → List Nat → List Nat → Option (List Nat)
  | l :: lo, h :: hi, a :: c => match nxt lo hi c with
    | some d => some (a :: d)
    | none => if a + 1 < h then some ((a + 1) :: lo) else none
  | _, _, _ => none
/-- number by number less -/
def Lts : List Nat → List Nat → Prop
  | a :: x, b :: y => a < b ∧ Lts x y
  | [], [] => True
  | _, _ => False
def Les : List Nat → List Nat → Prop
  | a :: x, b :: y => a ≤ b ∧ Les x y
  | [], [] => True
  | _, _ => False
theorem Lts.len : ∀ {x y : List Nat}, Lts x y → x.length = y.length
  | [], [], _ => rfl
  | a :: x, b :: y, h => by rw [List.length_cons, List.length_cons, Lts.len h.2]
  | [], _ :: _, h => h.elim
  | _ :: _, [], h => h.elim
theorem Les.len : ∀ {x y : List Nat}, Les x y → x.length = y.length
  | [], [], _ => rfl
  | a :: x, b :: y, h => by rw [List.length_cons, List.length_cons, Les.len h.2]
  | [], _ :: _, h => h.elim
  | _ :: _, [], h => h.elim
theorem lts_iff : ∀ {x y : List Nat}, Lts x y ↔ (x.length = y.length ∧ ∀ k, k < x.length → x.getD k 0 < y.getD k 0)
  | [], [] => ⟨fun _ => ⟨rfl, fun k hk => absurd hk (Nat.not_lt_zero _)⟩, fun _ => trivial⟩
  | a :: x, b :: y => by
    constructor
    · intro h
      refine ⟨h.len, fun k hk => ?_⟩
      cases k with
      | zero => exact h.1
      | succ k => exact (lts_iff.1 h.2).2 k (by simpa using hk)
    · rintro ⟨h1, h2⟩
      exact ⟨h2 0 (Nat.succ_pos _), lts_iff.2 ⟨by simpa using h1, fun k hk => h2 (k + 1) (by simpa using hk)⟩⟩
  | [], _ :: _ => ⟨fun h => h.elim, fun h => by cases h.1⟩
  | _ :: _, [] => ⟨fun h => h.elim, fun h => by cases h.1⟩
theorem les_iff : ∀ {x y : List Nat}, Les x y ↔ (x.length = y.length ∧ ∀ k, k < x.length → x.getD k 0 ≤ y.getD k 0)
  | [], [] => ⟨fun _ => ⟨rfl, fun k hk => absurd hk (Nat.not_lt_zero _)⟩, fun _ => trivial⟩
  | a :: x, b :: y => by
    constructor
    · intro h
      refine ⟨h.len, fun k hk => ?_⟩
      cases k with
      | zero => exact h.1
      | succ k => exact (les_iff.1 h.2).2 k (by simpa using hk)
    · rintro ⟨h1, h2⟩
      exact ⟨h2 0 (Nat.succ_pos _), les_iff.2 ⟨by simpa using h1, fun k hk => h2 (k + 1) (by simpa using hk)⟩⟩
  | [], _ :: _ => ⟨fun h => h.elim, fun h => by cases h.1⟩
  | _ :: _, [] => ⟨fun h => h.elim, fun h => by cases h.1⟩
theorem fm_len {α : Type} (f : Nat → List α) (m : Nat) (hf : ∀ a, (f a).length = m) : ∀ (n l : Nat), ((List.range' l n).flatMap f).length = n * m
  | 0, l => by simp
  | n + 1, l => by
    rw [List.range'_succ, List.flatMap_cons, List.length_append, hf, fm_len f m hf n (l + 1), Nat.succ_mul, Nat.add_comm]
theorem fm_get {α : Type} (f : Nat → List α) (m : Nat) (hf : ∀ a, (f a).length = m) : ∀ (n l q r : Nat), r < m → q < n → ((List.range' l n).flatMap f)[q * m + r]? = (f (l + q))[r]?
  | 0, l, q, r, _, hq => absurd hq (Nat.not_lt_zero _)
  | n + 1, l, 0, r, hr, _ => by
    rw [List.range'_succ, List.flatMap_cons, Nat.zero_mul, Nat.zero_add, List.getElem?_append_left (by rw [hf]; exact hr)]
    rfl
  | n + 1, l, q + 1, r, hr, hq => by
    have e : (q + 1) * m + r = m + (q * m + r) := by rw [Nat.succ_mul]; omega
    rw [List.range'_succ, List.flatMap_cons, e, List.getElem?_append_right (by rw [hf]; omega), hf, Nat.add_sub_cancel_left, fm_get f m hf n (l + 1) q r hr (by omega)]
    congr 2
    omega
theorem cells_len (l h : Nat) (lo hi : List Nat) : (cellsL (l :: lo) (h :: hi)).length = (h - l) * (cellsL lo hi).length :=
  fm_len _ _ (fun a => List.length_map _) _ _
theorem cells_pos : ∀ {lo hi : List Nat}, Lts lo hi → 0 < (cellsL lo hi).length
  | [], [], _ => by decide
  | l :: lo, h :: hi, hh => by
    rw [cells_len]
    exact Nat.mul_pos (by have := hh.1; omega) (cells_pos hh.2)
  | [], _ :: _, h => h.elim
  | _ :: _, [], h => h.elim
theorem cells_get (l h : Nat) (lo hi : List Nat) {q s : Nat} (hq : q < h - l) (hs : s < (cellsL lo hi).length) : (cellsL (l :: lo) (h :: hi))[q * (cellsL lo hi).length + s]? = ((cellsL lo hi)[s]?).map ((l + q) :: ·) := by
  show ((List.range' l (h - l)).flatMap fun a => (cellsL lo hi).map (a :: ·))[_]? = _
  rw [fm_get _ _ (fun a => List.length_map _) _ _ _ _ hs hq, List.getElem?_map]
theorem cells_first : ∀ {lo hi : List Nat}, Lts lo hi → (cellsL lo hi)[0]? = some lo
  | [], [], _ => rfl
  | l :: lo, h :: hi, hh => by
    have := cells_get l h lo hi (q := 0) (s := 0) (by have := hh.1; omega) (cells_pos hh.2)
    rw [Nat.zero_mul, Nat.zero_add] at this
    rw [this, cells_first hh.2]
    rfl
  | [], _ :: _, h => h.elim
  | _ :: _, [], h => h.elim
theorem cells_next : ∀ {lo hi : List Nat}, Lts lo hi → ∀ (r : Nat) (c : List Nat), (cellsL lo hi)[r]? = some c → nxt lo hi c = (cellsL lo hi)[r + 1]?
  | [], [], _, r, c, hc => by
    cases r with
    | zero => rfl
    | succ r => simp [cellsL] at hc
  | l :: lo, h :: hi, hh, r, c, hc => by
    have hm := cells_pos hh.2
    have hlen := cells_len l h lo hi
    have hr := (List.getElem?_eq_some_iff.1 hc).1
    obtain ⟨m, hmm⟩ : ∃ m, m = (cellsL lo hi).length := ⟨_, rfl⟩
    have hg : ∀ q s, q < h - l → s < m → (cellsL (l :: lo) (h :: hi))[q * m + s]? = ((cellsL lo hi)[s]?).map ((l + q) :: ·) := fun q s h1 h2 => by rw [hmm]; exact cells_get l h lo hi h1 (by rw [← hmm]; exact h2)
    rw [← hmm] at hm hlen
    rw [hlen] at hr
    have hs : r % m < m := Nat.mod_lt _ hm
    have hq : r / m < h - l := Nat.div_lt_of_lt_mul (by rw [Nat.mul_comm]; exact hr)
    have he : r / m * m + r % m = r := by rw [Nat.mul_comm]; exact Nat.div_add_mod r m
    obtain ⟨q, hqq⟩ : ∃ q, q = r / m := ⟨_, rfl⟩
    obtain ⟨s, hss⟩ : ∃ s, s = r % m := ⟨_, rfl⟩
    rw [← hqq, ← hss] at he
    rw [← hss] at hs
    rw [← hqq] at hq
    subst he
    rw [hg q s hq hs] at hc
    obtain ⟨d, hd, rfl⟩ := Option.map_eq_some_iff.1 hc
    have ih := cells_next hh.2 s d hd
    show (match nxt lo hi d with | some d => some ((l + q) :: d) | none => if l + q + 1 < h then some ((l + q + 1) :: lo) else none) = _
    by_cases h1 : s + 1 < m
    · have e9 : q * m + s + 1 = q * m + (s + 1) := Nat.add_assoc _ _ _
      rw [e9, hg q (s + 1) hq h1, ih, List.getElem?_eq_getElem (by rw [← hmm]; exact h1)]
      rfl
    · have e : s + 1 = m := by omega
      rw [ih, List.getElem?_eq_none (by rw [← hmm]; omega)]
      dsimp only
      have e2 : q * m + s + 1 = (q + 1) * m + 0 := by rw [Nat.succ_mul]; omega
      rw [e2]
      by_cases h2 : q + 1 < h - l
      · rw [hg (q + 1) 0 h2 hm, cells_first hh.2, if_pos (by omega)]
        rfl
      · have e3 : q + 1 = h - l := by omega
        rw [if_neg (by omega), List.getElem?_eq_none (by rw [hlen, e3]; exact Nat.le_refl _)]
  | [], _ :: _, h, _, _, _ => h.elim
  | _ :: _, [], h, _, _, _ => h.elim
theorem cells_mem : ∀ {lo hi c : List Nat}, lo.length = hi.length → (c ∈ cellsL lo hi ↔ (Les lo c ∧ Lts c hi))
  | [], [], c, _ => by
    cases c with
    | nil => simp [cellsL, Les, Lts]
    | cons a c => simp [cellsL, Les, Lts]
  | l :: lo, h :: hi, c, hl => by
    have ih := fun c => cells_mem (lo := lo) (hi := hi) (c := c) (by simpa using hl)
    cases c with
    | nil => simp [cellsL, Les, Lts]
    | cons a c =>
      show (a :: c) ∈ (List.range' l (h - l)).flatMap _ ↔ (l ≤ a ∧ Les lo c) ∧ (a < h ∧ Lts c hi)
      rw [List.mem_flatMap]
      constructor
      · rintro ⟨x, hx, hc⟩
        obtain ⟨d, hd, e⟩ := List.mem_map.1 hc
        injection e with e1 e2
        subst e1 e2
        have := (ih d).1 hd
        rw [List.mem_range'_1] at hx
        exact ⟨⟨hx.1, this.1⟩, by omega, this.2⟩
      · rintro ⟨⟨h1, h2⟩, h3, h4⟩
        exact ⟨a, by rw [List.mem_range'_1]; omega, List.mem_map.2 ⟨c, (ih c).2 ⟨h2, h4⟩, rfl⟩⟩
  | [], _ :: _, _, h => by cases h
  | _ :: _, [], _, h => by cases h
/-- the place of a cell -/
def plN : List Nat → List Nat → Nat → Nat
  | n :: ns, c :: cs, a => plN ns cs (a * n + c)
  | _, _, a => a
/-- the document's places of a box -/
def witL : List Nat → List Nat → List Nat → List Nat → List Nat
  | n :: ns, l :: lo, h :: hi, out => witL ns lo hi (out.flatMap fun p => (List.range' l (h - l)).map fun a => p * n + a)
  | _, _, _, out => out
theorem wit_cells : ∀ {ns lo hi : List Nat} (out : List Nat), ns.length = lo.length → lo.length = hi.length → witL ns lo hi out = out.flatMap fun p => (cellsL lo hi).map fun c => plN ns c p
  | [], [], [], out, _, _ => by
    show out = out.flatMap fun p => [[]].map fun c => plN [] c p
    simp [plN]
  | n :: ns, l :: lo, h :: hi, out, h1, h2 => by
    show witL ns lo hi (out.flatMap fun p => (List.range' l (h - l)).map fun a => p * n + a) = _
    rw [wit_cells _ (by simpa using h1) (by simpa using h2), List.flatMap_assoc]
    congr 1
    funext p
    show _ = ((List.range' l (h - l)).flatMap fun a => (cellsL lo hi).map (a :: ·)).map fun c => plN (n :: ns) c p
    rw [List.flatMap_map, List.map_flatMap]
    congr 1
    funext a
    rw [List.map_map]
    rfl
  | [], _ :: _, _, _, h1, _ => by cases h1
  | _ :: _, [], _, _, h1, _ => by cases h1
  | [], [], _ :: _, _, _, h2 => by cases h2
  | _ :: _, _ :: _, [], _, _, h2 => by cases h2
theorem wit_zero {ns lo hi : List Nat} (h1 : ns.length = lo.length) (h2 : lo.length = hi.length) : witL ns lo hi [0] = (cellsL lo hi).map fun c => plN ns c 0 := by
  rw [wit_cells _ h1 h2]
  simp
def prodL : List Nat → Nat
  | [] => 1
  | n :: ns => n * prodL ns
theorem plN_lt : ∀ {ns c : List Nat} (a : Nat), Lts c ns → plN ns c a < (a + 1) * prodL ns ∧ a * prodL ns ≤ plN ns c a
  | [], [], a, _ => by
    show a < (a + 1) * 1 ∧ a * 1 ≤ a
    omega
  | n :: ns, c :: cs, a, h => by
    have ih := plN_lt (a * n + c) h.2
    show plN ns cs (a * n + c) < (a + 1) * (n * prodL ns) ∧ a * (n * prodL ns) ≤ plN ns cs (a * n + c)
    have h1 := h.1
    rw [← Nat.mul_assoc, ← Nat.mul_assoc]
    have e1 : (a * n + c + 1) * prodL ns ≤ (a + 1) * n * prodL ns := Nat.mul_le_mul_right _ (by rw [Nat.succ_mul]; omega)
    have e2 : a * n * prodL ns ≤ (a * n + c) * prodL ns := Nat.mul_le_mul_right _ (by omega)
    omega
  | [], _ :: _, _, h => h.elim
  | _ :: _, [], _, h => h.elim
/-- the cell at a place -/
def dgL : List Nat → Nat → List Nat
  | [], _ => []
  | n :: ns, i => (i / prodL ns) % n :: dgL ns i
theorem dg_len : ∀ (ns : List Nat) (i : Nat), (dgL ns i).length = ns.length
  | [], _ => rfl
  | n :: ns, i => by rw [dgL, List.length_cons, List.length_cons, dg_len ns i]
theorem prod_pos : ∀ {ns : List Nat}, (∀ n ∈ ns, 0 < n) → 0 < prodL ns
  | [], _ => by decide
  | n :: ns, h => Nat.mul_pos (h n (List.mem_cons_self ..)) (prod_pos fun m hm => h m (List.mem_cons_of_mem _ hm))
theorem dg_lt : ∀ {ns : List Nat} (i : Nat), (∀ n ∈ ns, 0 < n) → Lts (dgL ns i) ns
  | [], _, _ => trivial
  | n :: ns, i, h => ⟨Nat.mod_lt _ (h n (List.mem_cons_self ..)), dg_lt i fun m hm => h m (List.mem_cons_of_mem _ hm)⟩
theorem pl_dg : ∀ {ns : List Nat} (i a : Nat), (∀ n ∈ ns, 0 < n) → plN ns (dgL ns i) a = a * prodL ns + i % prodL ns
  | [], i, a, _ => by
    show a = a * 1 + i % 1
    omega
  | n :: ns, i, a, h => by
    show plN ns (dgL ns i) (a * n + (i / prodL ns) % n) = a * (n * prodL ns) + i % (n * prodL ns)
    rw [pl_dg i _ fun m hm => h m (List.mem_cons_of_mem _ hm), Nat.mul_comm n (prodL ns), Nat.mod_mul, Nat.add_mul, ← Nat.mul_assoc, Nat.mul_comm (i / prodL ns % n), Nat.mul_assoc a (prodL ns) n, Nat.mul_comm (prodL ns) n, Nat.mul_assoc]
    omega
theorem prod_zero : ∀ {ns : List Nat}, 0 ∈ ns → prodL ns = 0
  | [], h => by cases h
  | n :: ns, h => by
    rcases List.mem_cons.1 h with h | h
    · subst h; exact Nat.zero_mul _
    · show n * prodL ns = 0
      rw [prod_zero h, Nat.mul_zero]
theorem prod_pos_iff {ns : List Nat} : 0 < prodL ns ↔ ∀ n ∈ ns, 0 < n := by
  constructor
  · intro h n hn
    rcases Nat.eq_zero_or_pos n with e | e
    · subst e; rw [prod_zero hn] at h; omega
    · exact e
  · exact prod_pos
theorem prod_ge : ∀ {ns : List Nat} {n : Nat}, n ∈ ns → 0 < prodL ns → n ≤ prodL ns
  | m :: ns, n, h, hp => by
    have hp' : 0 < m * prodL ns := hp
    have h1 : 0 < prodL ns := Nat.pos_of_mul_pos_left hp'
    have h2 : 0 < m := Nat.pos_of_mul_pos_right hp'
    show n ≤ m * prodL ns
    rcases List.mem_cons.1 h with h | h
    · subst h; exact Nat.le_mul_of_pos_right _ h1
    · exact Nat.le_trans (prod_ge h h1) (Nat.le_mul_of_pos_left _ h2)
theorem getD_set {α : Type} (l : List α) (k j : Nat) (x d : α) : (l.set k x).getD j d = if j = k ∧ k < l.length then x else l.getD j d := by
  rw [List.getD_eq_getElem?_getD, List.getD_eq_getElem?_getD]
  by_cases e : j = k
  · subst e
    by_cases h : j < l.length
    · rw [List.getElem?_set_self h, if_pos ⟨rfl, h⟩]; rfl
    · rw [if_neg (by omega), List.getElem?_eq_none (by rw [List.length_set]; omega), List.getElem?_eq_none (by omega)]
  · rw [if_neg (fun h => e h.1), List.getElem?_set_ne (fun h => e h.symm)]
theorem dg_get : ∀ (ns : List Nat) (i k : Nat), k < ns.length → (dgL ns i).getD k 0 = i / prodL (ns.drop (k + 1)) % ns.getD k 0
  | [], _, _, h => absurd h (Nat.not_lt_zero _)
  | _ :: _, _, 0, _ => rfl
  | n :: ns, i, k + 1, h => dg_get ns i k (by simpa using h)
theorem prod_cut : ∀ (ns : List Nat) (k : Nat), prodL ns = prodL (ns.take k) * prodL (ns.drop k)
  | [], k => by cases k <;> rfl
  | n :: ns, 0 => (Nat.one_mul _).symm
  | n :: ns, k + 1 => by
    show n * prodL ns = n * prodL (ns.take k) * prodL (ns.drop k)
    rw [prod_cut ns k, Nat.mul_assoc]
theorem prod_drop {ns : List Nat} {k : Nat} (h : k < ns.length) : prodL (ns.drop k) = ns.getD k 0 * prodL (ns.drop (k + 1)) := by
  rw [List.drop_eq_getElem_cons h]
  show _ * _ = _
  rw [List.getD_eq_getElem?_getD, List.getElem?_eq_getElem h]
  rfl
theorem prod_snoc : ∀ {ns : List Nat} {k : Nat}, k < ns.length → prodL (ns.take (k + 1)) = prodL (ns.take k) * ns.getD k 0
  | [], _, h => absurd h (Nat.not_lt_zero _)
  | n :: ns, 0, _ => by
    show n * prodL [] = 1 * n
    rw [prodL, Nat.mul_one, Nat.one_mul]
  | n :: ns, k + 1, h => by
    show n * prodL (ns.take (k + 1)) = n * prodL (ns.take k) * ns.getD k 0
    rw [prod_snoc (by simpa using h), Nat.mul_assoc]
/-- are all cells of a box in a set? -/
def frB (F : List Bool) (ns lo hi : List Nat) : Bool := (witL ns lo hi [0]).all fun p => F.getD p false
/-- a box grows along one axis -/
def grK (F : List Bool) (ns lo : List Nat) (k : Nat) : Nat → List Nat → List Nat
  | 0, hi => hi
  | f + 1, hi => if frB F ns (lo.set k (hi.getD k 0)) (hi.set k (hi.getD k 0 + 1)) = true then grK F ns lo k f (hi.set k (hi.getD k 0 + 1)) else hi
/-- and along all, the last one first -/
def grA (F : List Bool) (ns lo : List Nat) : Nat → List Nat → List Nat
  | 0, hi => hi
  | k + 1, hi => grA F ns lo k (grK F ns lo k (ns.getD k 0 - hi.getD k 0) hi)
def boxL (F : List Bool) (ns : List Nat) (i : Nat) : List Nat × List Nat := (dgL ns i, grA F ns (dgL ns i) ns.length ((dgL ns i).map (· + 1)))
/-- a box of a grid -/
def Bx (ns lo hi : List Nat) : Prop := Lts lo hi ∧ Les hi ns
theorem Bx.up {ns lo hi : List Nat} (h : Bx ns lo hi) {k : Nat} (hk : hi.getD k 0 < ns.getD k 0) : Bx ns lo (hi.set k (hi.getD k 0 + 1)) := by
  obtain ⟨h1, h2⟩ := h
  rw [lts_iff] at h1
  rw [les_iff] at h2
  refine ⟨lts_iff.2 ⟨by rw [List.length_set]; exact h1.1, fun j hj => ?_⟩, les_iff.2 ⟨by rw [List.length_set]; exact h2.1, fun j hj => ?_⟩⟩
  · have := h1.2 j hj
    rw [getD_set]
    split
    · rename_i e; rw [e.1] at this ⊢; omega
    · exact this
  · rw [List.length_set] at hj
    have := h2.2 j hj
    rw [getD_set]
    split
    · rename_i e; rw [e.1]; omega
    · exact this
theorem Bx.gr {F : List Bool} {ns lo : List Nat} {k : Nat} : ∀ (f : Nat) {hi : List Nat}, Bx ns lo hi → f = ns.getD k 0 - hi.getD k 0 → Bx ns lo (grK F ns lo k f hi)
  | 0, hi, h, _ => h
  | f + 1, hi, h, hf => by
    rw [grK]
    split
    · have hk : k < hi.length := by
        rcases Nat.lt_or_ge k hi.length with h' | h'
        · exact h'
        · have e : ns.getD k 0 = 0 := by rw [List.getD_eq_getElem?_getD, List.getElem?_eq_none (by rw [← h.2.len]; exact h')]; rfl
          omega
      refine Bx.gr f (h.up (by omega)) ?_
      rw [getD_set, if_pos ⟨rfl, hk⟩]
      omega
    · exact h
theorem Bx.grow {F : List Bool} {ns lo : List Nat} : ∀ (k : Nat) {hi : List Nat}, Bx ns lo hi → Bx ns lo (grA F ns lo k hi)
  | 0, _, h => h
  | k + 1, _, h => Bx.grow k (h.gr _ rfl)
theorem lts_succ : ∀ {x y : List Nat}, Lts x y → Bx y x (x.map (· + 1))
  | [], [], _ => ⟨trivial, trivial⟩
  | a :: x, b :: y, h => by
    have ih := lts_succ h.2
    exact ⟨⟨Nat.lt_succ_self a, ih.1⟩, ⟨h.1, ih.2⟩⟩
  | [], _ :: _, h => h.elim
  | _ :: _, [], h => h.elim
theorem boxL_bx {F : List Bool} {ns : List Nat} (hp : 0 < prodL ns) (i : Nat) : Bx ns (boxL F ns i).1 (boxL F ns i).2 :=
  (lts_succ (dg_lt i (prod_pos_iff.1 hp))).grow _
theorem Bx.lens {ns lo hi : List Nat} (h : Bx ns lo hi) : lo.length = hi.length ∧ hi.length = ns.length := ⟨h.1.len, h.2.len⟩
theorem lts_les : ∀ {x y z : List Nat}, Lts x y → Les y z → Lts x z
  | [], [], [], _, _ => trivial
  | a :: x, b :: y, c :: z, h, k => ⟨Nat.lt_of_lt_of_le h.1 k.1, lts_les h.2 k.2⟩
  | [], _ :: _, _, h, _ => h.elim
  | _ :: _, [], _, h, _ => h.elim
  | [], [], _ :: _, _, k => k.elim
  | _ :: _, _ :: _, [], _, k => k.elim
theorem les_refl : ∀ x : List Nat, Les x x
  | [] => trivial
  | _ :: x => ⟨Nat.le_refl _, les_refl x⟩
theorem Bx.wit {ns lo hi : List Nat} (h : Bx ns lo hi) : witL ns lo hi [0] = (cellsL lo hi).map fun c => plN ns c 0 :=
  wit_zero (by have := h.lens; omega) h.lens.1
theorem Bx.cell {ns lo hi c : List Nat} (h : Bx ns lo hi) (hc : c ∈ cellsL lo hi) : Lts c ns := lts_les ((cells_mem h.lens.1).1 hc).2 h.2
theorem Bx.lt {ns lo hi : List Nat} (h : Bx ns lo hi) {p : Nat} (hp : p ∈ witL ns lo hi [0]) : p < prodL ns := by
  rw [h.wit] at hp
  obtain ⟨c, hc, rfl⟩ := List.mem_map.1 hp
  have := (plN_lt 0 (h.cell hc)).1
  omega
theorem box_self {F : List Bool} {ns : List Nat} {i : Nat} (hi : i < prodL ns) : i ∈ witL ns (boxL F ns i).1 (boxL F ns i).2 [0] := by
  have hb := boxL_bx (F := F) (ns := ns) (by omega) i
  rw [hb.wit]
  refine List.mem_map.2 ⟨(boxL F ns i).1, (cells_mem hb.lens.1).2 ⟨les_refl _, hb.1⟩, ?_⟩
  show plN ns (dgL ns i) 0 = i
  rw [pl_dg i 0 (prod_pos_iff.1 (by omega)), Nat.zero_mul, Nat.zero_add, Nat.mod_eq_of_lt hi]
/-- places are taken out of a set -/
def clr (F : List Bool) (l : List Nat) : List Bool := l.foldl (fun F p => F.set p false) F
theorem clr_len : ∀ (l : List Nat) (F : List Bool), (clr F l).length = F.length
  | [], _ => rfl
  | p :: l, F => by
    show (clr (F.set p false) l).length = _
    rw [clr_len l, List.length_set]
theorem clr_get : ∀ (l : List Nat) (F : List Bool) (p : Nat), (clr F l).getD p false = if p ∈ l then false else F.getD p false
  | [], F, p => by rw [if_neg (by simp)]; rfl
  | q :: l, F, p => by
    show (clr (F.set q false) l).getD p false = _
    rw [clr_get l, getD_set]
    by_cases h1 : p ∈ l
    · rw [if_pos h1, if_pos (List.mem_cons_of_mem _ h1)]
    · rw [if_neg h1]
      by_cases h2 : p = q
      · subst h2
        rw [if_pos (List.mem_cons_self ..)]
        split
        · rfl
        · rename_i h3
          rw [List.getD_eq_getElem?_getD, List.getElem?_eq_none (by omega)]; rfl
      · rw [if_neg (fun h => h2 h.1), if_neg (fun h => by rcases List.mem_cons.1 h with h | h; exact h2 h; exact h1 h)]
theorem clr_snoc (F : List Bool) (l : List Nat) (p : Nat) : clr F (l ++ [p]) = (clr F l).set p false := by
  unfold clr
  rw [List.foldl_append]
  rfl
/-- the boxes of a set, from a place on -/
def covL (ns : List Nat) : Nat → Nat → List Bool → List (List Nat × List Nat)
  | 0, _, _ => []
  | n + 1, i, F => if F.getD i false = true then boxL F ns i :: covL ns n (i + 1) (clr F (witL ns (boxL F ns i).1 (boxL F ns i).2 [0])) else covL ns n (i + 1) F
theorem cov_skip (ns : List Nat) (F : List Bool) : ∀ (m n i : Nat), (∀ j, i ≤ j → j < i + m → F.getD j false = false) → covL ns (m + n) i F = covL ns n (i + m) F
  | 0, n, i, _ => by rw [Nat.zero_add, Nat.add_zero]
  | m + 1, n, i, h => by
    have e : m + 1 + n = (m + n) + 1 := by omega
    rw [e, covL, if_neg (by rw [h i (Nat.le_refl _) (by omega)]; exact Bool.noConfusion), cov_skip ns F m n (i + 1) fun j h1 h2 => h j (by omega) (by omega)]
    congr 1
    omega
theorem cov_none (ns : List Nat) (F : List Bool) (n i : Nat) (h : ∀ j, i ≤ j → j < i + n → F.getD j false = false) : covL ns n i F = [] := by
  have := cov_skip ns F n 0 i h
  rw [Nat.add_zero] at this
  rw [this]
  rfl
theorem cov_at (ns : List Nat) (F : List Bool) (n i : Nat) (h : F.getD i false = true) : covL ns (n + 1) i F = boxL F ns i :: covL ns n (i + 1) (clr F (witL ns (boxL F ns i).1 (boxL F ns i).2 [0])) := by
  rw [covL, if_pos h]
theorem cov_not (ns : List Nat) (F : List Bool) (n i : Nat) (h : F.getD i false = false) : covL ns (n + 1) i F = covL ns n (i + 1) F := by
  rw [covL, if_neg (by rw [h]; exact Bool.noConfusion)]
theorem clr_low {F : List Bool} {ns : List Nat} {i : Nat} (hi : i < prodL ns) (h : ∀ j, j < i → F.getD j false = false) : ∀ j, j < i + 1 → (clr F (witL ns (boxL F ns i).1 (boxL F ns i).2 [0])).getD j false = false := fun j hj => by
  rw [clr_get]
  by_cases e : j = i
  · subst e
    rw [if_pos (box_self hi)]
  · split
    · rfl
    · exact h j (by omega)
/-- the place of what came in -/
def plI : List Nat → List Int → Nat → Option Nat
  | [], [], a => some a
  | n :: ns, c :: cs, a => if 0 ≤ c ∧ c < (n : Int) then plI ns cs (a * n + c.toNat) else none
  | _, _, _ => none
def plZ (ns : List Nat) (c : List Int) : Int := match plI ns c 0 with
  | some p => (p : Int)
  | none => -1
theorem plI_len : ∀ {ns : List Nat} {c : List Int} {a p : Nat}, plI ns c a = some p → c.length = ns.length
  | [], [], _, _, _ => rfl
  | n :: ns, c :: cs, a, p, h => by
    rw [plI] at h
    split at h
    · rw [List.length_cons, List.length_cons, plI_len h]
    · cases h
  | [], _ :: _, _, _, h => by cases h
  | _ :: _, [], _, _, h => by cases h
theorem plI_cast : ∀ {ns c : List Nat} (a : Nat), Lts c ns → plI ns (c.map fun (x : Nat) => (x : Int)) a = some (plN ns c a)
  | [], [], _, _ => rfl
  | n :: ns, c :: cs, a, h => by
    show (if 0 ≤ (c : Int) ∧ (c : Int) < (n : Int) then plI ns (cs.map fun (x : Nat) => (x : Int)) (a * n + (c : Int).toNat) else none) = some (plN ns cs (a * n + c))
    rw [if_pos ⟨Int.natCast_nonneg _, by have := h.1; omega⟩, Int.toNat_natCast, plI_cast _ h.2]
  | [], _ :: _, _, h => h.elim
  | _ :: _, [], _, h => h.elim
theorem plI_lt : ∀ {ns : List Nat} {c : List Int} {a p : Nat}, plI ns c a = some p → p < (a + 1) * prodL ns
  | [], [], a, p, h => by
    injection h with h
    subst h
    show a < (a + 1) * 1
    omega
  | n :: ns, c :: cs, a, p, h => by
    rw [plI] at h
    split at h
    · rename_i hc
      have := plI_lt h
      have e1 : (a * n + c.toNat + 1) * prodL ns ≤ (a + 1) * n * prodL ns := Nat.mul_le_mul_right _ (by rw [Nat.succ_mul]; omega)
      show p < (a + 1) * (n * prodL ns)
      rw [← Nat.mul_assoc]
      omega
    · cases h
  | [], _ :: _, _, _, h => by cases h
  | _ :: _, [], _, _, h => by cases h
/-- the set of the cells that came in -/
def markL (ns : List Nat) : List (List Int) → List Bool → Option (List Bool)
  | [], F => some F
  | c :: cs, F => match plI ns c 0 with
    | some p => markL ns cs (F.set p true)
    | none => none
theorem mark_len {ns : List Nat} : ∀ {cs : List (List Int)} {F G : List Bool}, markL ns cs F = some G → G.length = F.length
  | [], F, G, h => by injection h with h; rw [h]
  | c :: cs, F, G, h => by
    rw [markL] at h
    cases e : plI ns c 0 with
    | none => rw [e] at h; cases h
    | some p =>
      rw [e] at h
      rw [mark_len h, List.length_set]
/-- what Cover answers -/
def coverD (ds : List Int) (cs : List (List Int)) : List (List Nat × List Nat) × Int :=
  if (∃ d ∈ ds, d < 0) then ([], 1)
  else if 8 < ds.length ∨ 4000 < prodL (ds.map Int.toNat) ∨ 4000 < cs.length then ([], 6)
  else match markL (ds.map Int.toNat) cs (List.replicate (prodL (ds.map Int.toNat)) false) with
    | none => ([], 2)
    | some F => (covL (ds.map Int.toNat) (prodL (ds.map Int.toNat)) 0 F, 0)
end Go.Proofs.Ytlpoopmjgobnnaa
