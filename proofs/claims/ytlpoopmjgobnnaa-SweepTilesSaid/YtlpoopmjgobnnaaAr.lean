/- Sweep, the program's: a box gone through: the contract. -/
import Derived.Test.YtlpoopmjgobnnaaAq
import Derived.Test.YtlpoopmjgobnnaaAe
set_option linter.unusedSimpArgs false
set_option linter.unusedVariables false
namespace Go.Proofs.Ytlpoopmjgobnnaa
open Go.RowKit
attribute [local go_sem] Oper.semAt_some

theorem piece_k {P : Program} {n : Nat} {A : Code} {K I : Act → World → Prop} {R : Exit → Act → World → Prop} {a : Act} {w : World} (h : A.wp P (Exit.then I (fun _ _ _ => False)) a w) (hK : ∀ a w, I a w → K a w) : A.wpIn Fence.wide n P (Exit.then K R) a w :=
  wpIn_mono (wpIn_wide.2 h) fun e a w hh => by
    cases e with
    | normal => exact hK a w hh
    | _ => exact hh.elim
/-- as I where it goes on, as R where it goes back -/
def NR (I R : Act → World → Prop) : Exit → Act → World → Prop
  | .normal => I
  | .ret => R
  | _ => fun _ _ => False
/-- as I, K at the two labels, as R where it goes back -/
def JR (I K R : Act → World → Prop) : Exit → Act → World → Prop
  | .goto 0 => I
  | .goto 1 => K
  | .ret => R
  | _ => fun _ _ => False
theorem piece_j {P : Program} {n : Nat} {X : Code} {G : Nat → Act → World → Prop} {Q : Exit → Act → World → Prop} {I K R : Act → World → Prop} {a : Act} {w : World} (h : X.wp P (JR I K R) a w) (hI : ∀ a w, I a w → G 0 a w) (hK : ∀ a w, K a w → G 1 a w) (hR : ∀ a w, R a w → Q .ret a w) : X.wpIn Fence.wide n P (ExJumps G Q) a w :=
  wpIn_mono (wpIn_wide.2 h) fun e a w hh => by
    cases e with
    | ret => exact hR a w hh
    | goto k =>
      rcases k with _ | _ | k
      · exact hI a w hh
      · exact hK a w hh
      · exact hh.elim
    | _ => exact hh.elim
theorem then_ret {K : Act → World → Prop} {Q : Exit → Act → World → Prop} {a : Act} {w : World} (h : Q .ret a w) : Exit.then K Q .ret a w := h
theorem jumps_ret {G : Nat → Act → World → Prop} {Q : Exit → Act → World → Prop} {a : Act} {w : World} (h : Q .ret a w) : ExJumps G Q .ret a w := h
theorem KpS.set_ {s l : Nat} {w w' : World} (h : KpS s w w') (hs : l ≠ s) (hl : w.heap.size ≤ l) {i : Nat} (v : Value) : KpS s w (w'.setCell ⟨l, i, none⟩ v) := by
  refine ⟨by rw [World.size_setCell]; exact h.1, fun k o hk ho hc => ?_⟩
  have hlt : k < w.heap.size := (Array.getElem?_eq_some_iff.1 ho).1
  exact (Below.heap_setCell w' ⟨l, i, none⟩ v k (show k ≠ l by omega)).trans (h.2 k o hk ho hc)
theorem conv_fl (x : Nat) (h : x < 2 ^ 53) (w : World) : (convert 53 3 (.float .f64 (fl x))).run Try.prog w = .ok (.int .i64 x) w :=
  run_convert_float_int w _ _ .f64 .i64 (fl x) x (by rw [Try.underlying53]; rfl) Try.underlying3 (fl_int x h)
/-- the lows, the first t laid -/
def lowB (lo : List Nat) (t : Nat) : List Nat := lo.take t ++ List.replicate (lo.length - t) 0
theorem lowB_len (lo : List Nat) (t : Nat) (h : t ≤ lo.length) : (lowB lo t).length = lo.length := by
  unfold lowB
  rw [List.length_append, List.length_take, List.length_replicate]
  omega
theorem lowB_set {lo : List Nat} {t : Nat} (h : t < lo.length) : (lowB lo t).set t (lo.getD t 0) = lowB lo (t + 1) := by
  unfold lowB
  have e : lo.length - t = (lo.length - (t + 1)) + 1 := by omega
  rw [e, List.replicate_succ, List.set_append_right _ _ (by rw [List.length_take]; omega), List.length_take, Nat.min_eq_left (by omega), Nat.sub_self, List.set_cons_zero, take_getB h 0, List.append_assoc]
  rfl
theorem lowB_all (lo : List Nat) : lowB lo lo.length = lo := by
  unfold lowB
  rw [List.take_length, Nat.sub_self, List.replicate_zero, List.append_nil]
def eachT (l bB gB aB d : Nat) (u : Nat → Value) : Array Value := #[.func (.yield l) #[] #[], .pointer (some ⟨bB, 0, none⟩), .pointer (some ⟨gB, 0, none⟩), u 3, .slice (some ⟨aB, 0, none⟩) d d, u 5, u 6, u 7, u 8, u 9, u 10, u 11, u 12, u 13, u 14, u 15, u 16, u 17, u 18, u 19, u 20, u 21, u 22, u 23, u 24, u 25, u 26, u 27, u 28, u 29, u 30, u 31, u 32, u 33, u 34, u 35, u 36, u 37, u 38, u 39, u 40, u 41, u 42, u 43, u 44, u 45, u 46, u 47, u 48, u 49, u 50, u 51, u 52, u 53, u 54, u 55, u 56, u 57, u 58, u 59, u 60, u 61, u 62, u 63]
def EachK (l bB gB aB d : Nat) (W : World) (cur : List Nat) (a : Act) (w' : World) : Prop := ∃ u : Nat → Value, a = { tmps := eachT l bB gB aB d u, defers := [] } ∧ Bk w' aB 3 (ints cur) ∧ Below aB W w'
def EachG (l bB gB aB d s : Nat) (w : World) (cur : List Nat) (Jp : World → Prop) (F7 : Value → Prop) (a : Act) (w' : World) : Prop := ∃ u : Nat → Value, a = { tmps := eachT l bB gB aB d u, defers := [] } ∧ KpS s w w' ∧ Bk w' aB 3 (ints cur) ∧ Jp w' ∧ F7 (u 7)
theorem EachK.of {l bB gB aB d : Nat} {W w' : World} {cur : List Nat} (T : Array Value) (h : T.size = 64) (h0 : T.getD 0 undef = .func (.yield l) #[] #[]) (h1 : T.getD 1 undef = .pointer (some ⟨bB, 0, none⟩)) (h2 : T.getD 2 undef = .pointer (some ⟨gB, 0, none⟩)) (h4 : T.getD 4 undef = .slice (some ⟨aB, 0, none⟩) d d) (hk : Bk w' aB 3 (ints cur)) (hb : Below aB W w') : EachK l bB gB aB d W cur { tmps := T, defers := [] } w' := by
  obtain ⟨u, rfl⟩ := frame64 T h
  have h0' : u 0 = _ := h0
  have h1' : u 1 = _ := h1
  have h2' : u 2 = _ := h2
  have h4' : u 4 = _ := h4
  refine ⟨u, ?_, hk, hb⟩
  rw [h0', h1', h2', h4']
  rfl
theorem eachT_of {l bB gB aB d : Nat} (T : Array Value) (h : T.size = 64) (h0 : T.getD 0 undef = .func (.yield l) #[] #[]) (h1 : T.getD 1 undef = .pointer (some ⟨bB, 0, none⟩)) (h2 : T.getD 2 undef = .pointer (some ⟨gB, 0, none⟩)) (h4 : T.getD 4 undef = .slice (some ⟨aB, 0, none⟩) d d) : ∃ u, ({ tmps := T, defers := [] } : Act) = { tmps := eachT l bB gB aB d u, defers := [] } ∧ u 7 = T.getD 7 undef := by
  obtain ⟨u, rfl⟩ := frame64 T h
  have h0' : u 0 = _ := h0
  have h1' : u 1 = _ := h1
  have h2' : u 2 = _ := h2
  have h4' : u 4 = _ := h4
  refine ⟨u, ?_, rfl⟩
  rw [h0', h1', h2', h4']
  rfl
theorem EachG.of {l bB gB aB d s : Nat} {w w' : World} {cur : List Nat} {Jp : World → Prop} {F7 : Value → Prop} (T : Array Value) (h : T.size = 64) (h0 : T.getD 0 undef = .func (.yield l) #[] #[]) (h1 : T.getD 1 undef = .pointer (some ⟨bB, 0, none⟩)) (h2 : T.getD 2 undef = .pointer (some ⟨gB, 0, none⟩)) (h4 : T.getD 4 undef = .slice (some ⟨aB, 0, none⟩) d d) (hk : KpS s w w') (hb : Bk w' aB 3 (ints cur)) (hj : Jp w') (h7 : F7 (T.getD 7 undef)) : EachG l bB gB aB d s w cur Jp F7 { tmps := T, defers := [] } w' := by
  obtain ⟨u, h5, h6⟩ := eachT_of (l := l) T h h0 h1 h2 h4
  exact ⟨u, h5, hk, hb, hj, by rw [h6]; exact h7⟩
set_option maxRecDepth 100000 in
set_option maxHeartbeats 3000000 in
theorem each1_any (n s gB bB : Nat) (ns lo hi : List Nat) (v bv : Value) (n0 : Int) (w : World) (hn : 1 ≤ n) (hs : s < w.heap.size) (hgs : gB ≠ s) (hbs : bB ≠ s) (hb : Bx ns lo hi) (hp : 0 < prodL ns) (h4 : prodL ns ≤ 4000) (hnl : ns.length ≤ 1000) (hG : Bk w gB 46 [v, .int .i64 n0]) (hB : Bk w bB 33 [bv]) (h : LstS s w v (zs ns)) (h2 : CxsS s w bv lo hi) :
    SeqB Fence.wide n Try.prog 37 #[.pointer (some ⟨bB, 0, none⟩), .pointer (some ⟨gB, 0, none⟩)] (fun p : Nat => #[.int .i64 p]) (KpS s) (· = witL ns lo hi [0]) (· <+: witL ns lo hi [0]) (witL ns lo hi [0]).length w := by
  intro l J Jx W hW hJ hJx hY h0
  refine callsIn_of_wp Try.func37 rfl trivial ?_ rfl
  simp only [Try.ntmps37, List.size_toArray, List.length_cons, List.length_nil, Nat.reduceAdd, Nat.reduceSub, Array.replicate_succ, Array.replicate_zero, List.push_toArray, List.append_toArray, List.nil_append, List.cons_append]
  obtain ⟨e1, e2⟩ := hb.lens
  have hwl : (witL ns lo hi [0]).length = (cellsL lo hi).length := by rw [hb.wit, List.length_map]
  obtain ⟨N, hN⟩ : ∃ N, N = (cellsL lo hi).length := ⟨_, rfl⟩
  obtain ⟨d, hd⟩ : ∃ d, d = ns.length := ⟨_, rfl⟩
  obtain ⟨aB, haB⟩ : ∃ a, a = W.heap.size := ⟨_, rfl⟩
  have hlo : lo.length = d := by omega
  have hhi : hi.length = d := by omega
  have hk0 : KpS s w W := KpS.below hW
  have hsa : aB ≠ s := by have := hW.size; omega
  have HCX := Lib.hid h2
  have HSM := Lib.hid h
  obtain ⟨⟨A2, C2, rfl, hm2, -⟩, -⟩ := h2
  rw [hlo] at HCX hB
  refine wpIn_two_labels (fun _ => rfl) (fun _ => rfl) (fun _ => rfl) (fun _ => rfl) (fun _ => rfl)
    (fun lb j a wr => ∃ u : Nat → Value, a = { tmps := eachT l bB gB aB d u, defers := [] } ∧ KpS s w wr ∧
      ((lb = 0 ∧ ∃ r c, (cellsL lo hi)[r]? = some c ∧ j = (N - r) * (d + 2) ∧ Bk wr aB 3 (ints c) ∧ J ((witL ns lo hi [0]).take r) wr) ∨
       (lb = 1 ∧ ∃ r c m, (cellsL lo hi)[r]? = some c ∧ m ≤ d ∧ j = (N - (r + 1)) * (d + 2) + m + 1 ∧ u 7 = .int .i64 ((m : Int) - 1) ∧ Bk wr aB 3 (ints (atL c lo m)) ∧ nxt (lo.drop m) (hi.drop m) (c.drop m) = none ∧ J ((witL ns lo hi [0]).take (r + 1)) wr)))
    ?hG ?first ?pass0 ?pass1
  case hG =>
    rintro lb j a wr ⟨u, _, _, (⟨rfl, _⟩ | ⟨rfl, _⟩)⟩
    · exact .inl rfl
    · exact .inr rfl
  case first =>
    have HLO := Lib.hid hlo
    have HNE := Lib.hid (And.intro hsa hbs)
    have HBX := Lib.hid (And.intro hb (And.intro hp h4))
    have HCC := Lib.hid (HCX.out.kp hk0)
    have hcB : W.cell? ⟨bB, 0, none⟩ = some (.slice A2 d C2) := (hk0.bk hbs hB).cell 0 rfl
    clear HCX HSM
    have hm2 : d ≤ 1000 := by omega
    refine piece_k (I := EachK l bB gB aB d W (lowB lo 0)) ?_ fun a1 w1 hh1 => ?_
    · clear hY hJ hJx h0 hb hp h4 hG hB h hgs hbs hn hk0 hW hs hsa hd hN hwl e1 e2 hhi
      go_upto_region 1 with (at_make; refine wpList_makeM rfl _ _ 22 3 rfl (.int .i64 0) rfl 8 Try.underlying22 info_int1 (ob W.heap.size) 1 d rfl rfl (by omega) (by unfold maxLen; omega) ?_; intro w2 lw t2)
      rw [ob_re (Nat.le_refl _)] at lw t2
      have hB2 : Below W.heap.size W w2 := ob_below (w0 := W) (t2.mono (fun l hl => hl.elim)) (Below.refl _ _)
      have HK2 : Hid (Bk w2 aB 3 (ints (lowB lo 0))) := Lib.hid (by
        have e : ints (lowB lo 0) = List.replicate d (.int .i64 0) := by
          unfold lowB ints
          rw [List.take_zero, List.nil_append, List.map_replicate, Nat.sub_zero, hlo]
          rfl
        rw [e, haB]; exact lw.1)
      have HB2 : Hid (Below aB W w2) := Lib.hid (by rw [haB]; exact hB2)
      rw [← haB]
      go_wp2_with fail
      exact EachK.of _ rfl rfl rfl rfl rfl HK2.out HB2.out
    obtain ⟨u, rfl, hk1, hb1⟩ := hh1
    have HK2 := Lib.hid hk1
    have HB2 := Lib.hid hb1
    have hcB2 : w1.cell? ⟨bB, 0, none⟩ = some (.slice A2 d C2) := (hb1.cell (p := ⟨bB, 0, none⟩) (by rw [haB]; exact cell_lt hcB)).trans hcB
    have HAB := Lib.hid haB
    refine piece_k (I := EachK l bB gB aB d W lo) ?_ fun a2 w2 hh2 => ?_
    · clear hY hJ hJx h0 hb hp h4 hG hB h hgs hbs hn hk0 hW hs hsa hd hN hwl e1 e2 hhi hcB hk1 hb1 haB
      unfold eachT
      go_wp2_with fail
      go_loopg [13] d (fun k i wr => ∃ t : Nat, k + t = d ∧ i = .int .i64 t ∧ Hid (Bk wr aB 3 (ints (lowB lo t))) ∧ Hid (Below aB W wr))
      case atStart => exact ⟨0, by omega, rfl, HK2, HB2⟩
      case round =>
        obtain ⟨m, hk, rfl, HKm, HBm⟩ := hrel
        have HKK := Lib.hid hk
        have hmn : m ≤ d := by omega
        clear hk HK2 HB2
        by_cases hlt : m < d
        · have hml : m < lo.length := by rw [HLO.out]; exact hlt
          obtain ⟨b2, p2, rfl, a2⟩ := (HCC.out.1.below (by rw [← HAB.out]; exact HBm.out)).at hml
          have fz := HKm.out.frozen m
          have cz := HKm.out.cell m (ints_get (by rw [lowB_len lo m (by omega)]; exact hml))
          have HUS := Lib.hid (lowB_set hml)
          have hbd : lo.getD m 0 ≤ 4000 := by
            have h5 := HBX.out.1.lens
            have h6 := (lts_iff.1 HBX.out.1.1).2 m hml
            have h7 := (les_iff.1 HBX.out.1.2).2 m (by omega)
            have h8 := prod_ge (getD_mem (ns := ns) (t := m) (by omega)) HBX.out.2.1
            have := HBX.out.2.2
            omega
          obtain ⟨x, hx⟩ : ∃ x, x = lo.getD m 0 := ⟨_, rfl⟩
          rw [← hx] at a2 HUS hbd
          have hfi := conv_fl x (by omega)
          have hnew : Bk (wr.setCell ⟨aB, m, none⟩ (.int .i64 (x : Int))) aB 3 (ints (lowB lo (m + 1))) := by
            have h1 := HKm.out.set_ m (.int .i64 (x : Int))
            rw [ints_set, HUS.out] at h1
            exact h1
          have HNEW := Lib.hid hnew
          unfold cx at a2
          clear hx hnew
          go_wp2_with (simp only [hfi])
          go_roundg (gk - 1)
          case measure => have := HKK.out; omega
          case rel => exact ⟨m + 1, by have := HKK.out; omega, by go_num, HNEW, Lib.hid (HBm.out.setCell (p := ⟨aB, m, none⟩) (Nat.le_refl aB) _)⟩
        · have hte : m = d := by omega
          subst hte
          have hfin : Bk wr aB 3 (ints lo) := by
            have e := HKm.out
            rwa [← HLO.out, lowB_all] at e
          have HFIN := Lib.hid hfin
          clear hfin HKm
          go_wp2_with fail
          exact EachK.of _ rfl rfl rfl rfl rfl HFIN.out HBm.out
    obtain ⟨u, rfl, hk2, hb2⟩ := hh2
    refine piece_k (I := EachK l bB gB aB d W lo) ?_ fun a3 w3 hh3 => ?_
    · clear hY hJ hJx h0 hb hp h4 hG hB h hgs hbs hn hk0 hW hs hsa hd hN hwl e1 e2 hhi hcB hk1 hb1 haB hcB2
      have HK3 := Lib.hid hk2
      have HB3 := Lib.hid hb2
      clear hk2 hb2
      unfold eachT
      go_wp2_with fail
      exact EachK.of _ rfl rfl rfl rfl rfl HK3.out HB3.out
    · obtain ⟨u, rfl, hk3, hb3⟩ := hh3
      refine ⟨_, u, rfl, hk0.trans (KpS.below (by rw [← haB]; exact hb3)), .inl ⟨rfl, 0, lo, cells_first hb.1, rfl, hk3, ?_⟩⟩
      rw [List.take_zero]
      exact hJ _ _ _ h0 (by rw [← haB]; exact hb3)
  case pass0 =>
    rintro j a wr ⟨u, rfl, hk, (⟨-, r, c, hc, rfl, hat, hJr⟩ | ⟨hx, -⟩)⟩
    · have hrN : r < N := by rw [hN]; exact (List.getElem?_eq_some_iff.1 hc).1
      have hcm : c ∈ cellsL lo hi := List.mem_of_getElem? hc
      have hcl : Lts c ns := hb.cell hcm
      have hcd : c.length = d := by rw [hcl.len, hd]
      have hw : (witL ns lo hi [0])[r]? = some (plN ns c 0) := by rw [hb.wit, List.getElem?_map, hc]; rfl
      have htk : (witL ns lo hi [0]).take (r + 1) = (witL ns lo hi [0]).take r ++ [plN ns c 0] := by rw [List.take_add_one, hw]; rfl
      have hlt : aB < wr.heap.size := hat.lt
      have hpz : plZ ns (zs c) = ((plN ns c 0 : Nat) : Int) := by
        unfold plZ
        rw [show zs c = c.map fun (x : Nat) => (x : Int) from rfl, plI_cast 0 hcl]
      have hpl := place_any ns (zs c) v (.slice (some ⟨aB, 0, none⟩) d d) n0 wr h4 (h.kp hk).1 (bk_take hat (List.take_of_length_le (by rw [ints_len]; omega)) hcd (by unfold maxLen; omega))
      rw [hpz] at hpl
      have hgk := hk.bk hgs hG
      have c0 := hgk.cell 0 rfl
      have c1 := hgk.cell 1 rfl
      have hbk := hk.bk hbs hB
      obtain ⟨p, hpe⟩ : ∃ p, p = plN ns c 0 := ⟨_, rfl⟩
      rw [← hpe] at hpl htk
      have hplen : (witL ns lo hi [0]).take r ++ [p] <+: witL ns lo hi [0] := by rw [← htk]; exact List.take_prefix _ _
      refine wpIn_mono (Q := NR (EachG l bB gB aB d s w c (J ((witL ns lo hi [0]).take (r + 1))) (fun _ => True)) (fun a' w' => a'.defers = [] ∧ Jx ((witL ns lo hi [0]).take (r + 1)) w')) ?_ ?_
      · have HAB := Lib.hid haB
        clear haB hd hb hpe hwl e1 e2 hlo hhi hcd hN
        unfold eachT
        have HPL := Lib.hid (callsIn_wide (n := n - 1).2 hpl)
        clear hpl
        gi_wp2
        refine ⟨trivial, HPL.out.mono ?_⟩
        rintro _ w2 ⟨rfl, hb2⟩
        have hk2 : KpS s w w2 := hk.trans (KpS.below hb2)
        have hat2 : Bk w2 aB 3 (ints c) := hat.below hb2 hlt
        obtain ⟨fn, tmps, assign, body, hy, hR⟩ := hY _ p w2 (hJ _ _ _ hJr (hb2.mono (by rw [← HAB.out]; exact Nat.le_of_lt hlt))) hplen
        gi_wp2
        refine hR.mono ?_
        rintro e w3 (⟨rfl, hJ3, hk3⟩ | ⟨rfl, hJx3⟩)
        · rw [← htk] at hJ3
          have hk4 := hk2.trans hk3
          have hat3 := hk3.bk hsa hat2
          gi_wp2
          exact EachG.of (F7 := fun _ => True) _ rfl rfl rfl rfl rfl hk4 hat3 hJ3 trivial
        · rw [← htk] at hJx3
          gi_wp2
          exact ⟨rfl, hJx3⟩
      · intro e a4 w4 hh
        cases e with
        | normal =>
          obtain ⟨u, rfl, hk4, hat4, hJ4, -⟩ := hh
          refine piece_k (I := EachG l bB gB aB d s w c (J ((witL ns lo hi [0]).take (r + 1))) (fun v => v = .int .i64 ((d : Int) - 1))) ?_ fun a5 w5 hh5 => ?_
          · have hbk4 := (hk4.bk hbs hB).cell 0 rfl
            have hd1 : d ≤ 1000 := by omega
            clear hY hJ hJx haB hd hb hpe hwl e1 e2 hlo hhi hcd hN
            unfold eachT
            go_wp2_with fail
            exact EachG.of (F7 := fun v => v = .int .i64 ((d : Int) - 1)) _ rfl rfl rfl rfl rfl hk4 hat4 hJ4 rfl
          · obtain ⟨u, rfl, hk5, hat5, hJ5, h75⟩ := hh5
            refine ⟨_, ?_, u, rfl, hk5, .inr ⟨rfl, r, c, d, hc, Nat.le_refl _, rfl, h75, ?_, ?_, hJ5⟩⟩
            · have e : N - r = (N - (r + 1)) + 1 := by omega
              rw [e, Nat.succ_mul]
              omega
            · rw [show atL c lo d = c by unfold atL; rw [← hcd, List.take_length, List.drop_eq_nil_of_le (by omega), List.append_nil]]
              exact hat5
            · rw [List.drop_eq_nil_of_le (by omega)]
              rfl
        | ret =>
          refine then_ret (jumps_ret (bodyPost_ret (results_none rfl _ _ _) hh.1 ?_))
          exact ⟨⟨_, rfl⟩, .inr ⟨_, List.take_prefix _ _, hh.2⟩⟩
        | _ => exact hh.elim
    · cases hx
  case pass1 =>
    rintro j a wr ⟨u, rfl, hk, (⟨hx, -⟩ | ⟨-, r, c, m, hc, hm, rfl, h7, hat, hnx, hJr⟩)⟩
    · cases hx
    · have hrN : r < N := by rw [hN]; exact (List.getElem?_eq_some_iff.1 hc).1
      have hcm : c ∈ cellsL lo hi := List.mem_of_getElem? hc
      have hcl : Lts c ns := hb.cell hcm
      have hcd : c.length = d := by rw [hcl.len, hd]
      have hd1 : d ≤ 1000 := by omega
      have hbk := (hk.bk hbs hB).cell 0 rfl
      have hlt : aB < wr.heap.size := hat.lt
      have HK0 := Lib.hid hk
      have HJ0 := Lib.hid hJr
      cases m with
      | zero =>
        have hnn : (cellsL lo hi)[r + 1]? = none := by rw [← cells_next hb.1 r c hc]; exact hnx
        have hrr : (witL ns lo hi [0]).take (r + 1) = witL ns lo hi [0] := List.take_of_length_le (by rw [hwl]; exact List.getElem?_eq_none_iff.1 hnn)
        rw [hrr] at hJr
        refine wpIn_mono (Q := JR (fun _ _ => False) (fun _ _ => False) (fun a' w' => a'.defers = [] ∧ w' = wr)) ?_ ?_
        · clear hY hJ hJx haB hd hb hwl e1 e2 hlo hhi hcd hN hJr hnn hrr HK0 HJ0
          unfold eachT
          rw [h7]
          gi_wp2
          exact ⟨rfl, rfl⟩
        · intro e a4 w4 hh
          cases e with
          | ret =>
            obtain ⟨h8, rfl⟩ := hh
            exact jumps_ret (bodyPost_ret (results_none rfl _ _ _) h8 ⟨⟨_, rfl⟩, .inl ⟨_, rfl, hJr⟩⟩)
          | goto k => rcases k with _ | _ | k <;> exact hh.elim
          | _ => exact hh.elim
      | succ m =>
        have hmd : m < d := hm
        have h7' : u 7 = .int .i64 (m : Int) := by rw [h7]; congr 1; omega
        have hml : m < lo.length := by omega
        have hmc : m < c.length := by omega
        have hal : (atL c lo (m + 1)).length = d := by rw [atL_len (by omega) (by omega), hcd]
        have hdn : nxt (lo.drop m) (hi.drop m) (c.drop m) = if c.getD m 0 + 1 < hi.getD m 0 then some ((c.getD m 0 + 1) :: lo.drop (m + 1)) else none := by
          rw [drop_at hml 0, drop_at (show m < hi.length by omega) 0, drop_at hmc 0, nxt, hnx]
        have hset := atL_set (c := c) (lo := lo) hmc
        have hlow := atL_low (c := c) hml
        have hat0 : wr.cell? ⟨aB, m, none⟩ = some (.int .i64 (c.getD m 0 : Nat)) := by
          have e := hat.cell m (ints_get (l := atL c lo (m + 1)) (by omega))
          rw [atL_get hmc] at e
          exact e
        obtain ⟨b2, p2, rfl, a2⟩ := (HCX.out.kp hk).1.at hml
        have hbx2 : b2 < aB := by
          obtain ⟨b3, p3, e3, a3⟩ := HCX.out.1.at hml
          cases e3
          have := cell_lt a3
          have := hW.size
          omega
        have hne2 : b2 ≠ s := HCX.out.2 _ _ _ b2 p2 rfl (by omega) rfl
        have hb1 : lo.getD m 0 ≤ 4000 ∧ hi.getD m 0 ≤ 4000 ∧ c.getD m 0 ≤ 4000 := by
          have h6 := (lts_iff.1 hb.1).2 m hml
          have h7 := (les_iff.1 hb.2).2 m (by omega)
          have h8 := prod_ge (getD_mem (ns := ns) (t := m) (by omega)) hp
          have h9 := (lts_iff.1 hcl).2 m hmc
          omega
        have hse : ∀ y : Nat, ((c.take m ++ y :: lo.drop (m + 1)).set m (lo.getD m 0)) = atL c lo m := fun y => by
          rw [← hlow, List.set_append_right _ _ (by rw [List.length_take]; omega), List.length_take, Nat.min_eq_left (by omega), Nat.sub_self]
          rfl
        have hup := nxt_pre m (lo := lo) (hi := hi) (c := c) (e := (c.getD m 0 + 1) :: lo.drop (m + 1)) (by omega) (by omega) (by omega)
        have fz := hat.frozen m
        obtain ⟨x, hx⟩ : ∃ x, x = c.getD m 0 := ⟨_, rfl⟩
        obtain ⟨y, hy⟩ : ∃ y, y = hi.getD m 0 := ⟨_, rfl⟩
        obtain ⟨z, hz⟩ : ∃ z, z = lo.getD m 0 := ⟨_, rfl⟩
        rw [← hx] at hat0 hdn hup
        rw [← hy] at hdn a2
        rw [← hx, ← hy, ← hz] at hb1
        rw [← hz] at hse a2
        have hfy := conv_fl y (by omega)
        have hfz := conv_fl z (by omega)
        have hset1 := hset (x + 1)
        have hbA : Bk (wr.setCell ⟨aB, m, none⟩ (.int .i64 ((x : Int) + 1))) aB 3 (ints (c.take m ++ (x + 1) :: lo.drop (m + 1))) := by
          have h1 := hat.set_ m (.int .i64 ((x : Int) + 1))
          rw [show (x : Int) + 1 = ((x + 1 : Nat) : Int) by omega, ints_set, hset1] at h1
          rw [show (x : Int) + 1 = ((x + 1 : Nat) : Int) by omega]
          exact h1
        have hbB : Below aB wr (wr.setCell ⟨aB, m, none⟩ (.int .i64 ((x : Int) + 1))) := (Below.refl _ _).setCell (p := ⟨aB, m, none⟩) (Nat.le_refl aB) _
        obtain ⟨wA, hwA⟩ : ∃ W', W' = wr.setCell ⟨aB, m, none⟩ (.int .i64 ((x : Int) + 1)) := ⟨_, rfl⟩
        rw [← hwA] at hbA hbB
        have haW : w.heap.size ≤ aB := by rw [haB]; exact hW.size
        have hkA : KpS s w wA := by rw [hwA]; exact hk.set_ hsa haW _
        have hcA : wA.cell? ⟨aB, m, none⟩ = some (.int .i64 ((x : Int) + 1)) := by
          have e := hbA.cell m (ints_get (l := c.take m ++ (x + 1) :: lo.drop (m + 1)) (by rw [← hset1, List.length_set]; omega))
          rw [← hset1, getD_set, if_pos ⟨rfl, by omega⟩] at e
          exact e
        have hbkA := (hkA.bk hbs hB).cell 0 rfl
        have haA : wA.cell? ⟨b2, p2 + m, none⟩ = some (.complex .f64 (fl z) (fl y)) := (hbB.cell (p := ⟨b2, p2 + m, none⟩) hbx2).trans a2
        have fA := hbA.frozen m
        have hJA : J ((witL ns lo hi [0]).take (r + 1)) wA := hJ _ _ _ hJr (by rw [← haB]; exact hbB)
        unfold cx at a2
        have hkC := hkA.set_ hsa haW (i := m) (.int .i64 (z : Int))
        have hbC : Bk (wA.setCell ⟨aB, m, none⟩ (.int .i64 (z : Int))) aB 3 (ints (atL c lo m)) := by
          have h1 := hbA.set_ m (.int .i64 (z : Int))
          rw [ints_set, hse] at h1
          exact h1
        have hBC : Below aB wr (wA.setCell ⟨aB, m, none⟩ (.int .i64 (z : Int))) := hbB.setCell (p := ⟨aB, m, none⟩) (Nat.le_refl aB) _
        have hdr : ∀ X : World, KpS s w X → KpS s w X.drew := fun X h => h
        have hdb : ∀ (X : World) (l : List Nat), Bk X aB 3 (ints l) → Bk X.drew aB 3 (ints l) := fun X l h => h.drew
        have hJD := hJ _ _ _ hJr (show Below W.heap.size wr wA.drew by rw [← haB]; exact hbB.drew)
        have hJC := hJ _ _ _ hJr (show Below W.heap.size wr (wA.setCell ⟨aB, m, none⟩ (.int .i64 (z : Int))).drew by rw [← haB]; exact hBC.drew)
        obtain ⟨I, hI⟩ : ∃ I, I = EachG l bB gB aB d s w (c.take m ++ (x + 1) :: lo.drop (m + 1)) (fun w' => x + 1 < y ∧ J ((witL ns lo hi [0]).take (r + 1)) w') (fun _ => True) := ⟨_, rfl⟩
        obtain ⟨K, hK⟩ : ∃ K, K = EachG l bB gB aB d s w (atL c lo m) (fun w' => ¬ x + 1 < y ∧ J ((witL ns lo hi [0]).take (r + 1)) w') (fun v => v = .int .i64 ((m : Int) - 1)) := ⟨_, rfl⟩
        have HI : Hid (x + 1 < y → ∀ T : Array Value, T.size = 64 → T.getD 0 undef = .func (.yield l) #[] #[] → T.getD 1 undef = .pointer (some ⟨bB, 0, none⟩) → T.getD 2 undef = .pointer (some ⟨gB, 0, none⟩) → T.getD 4 undef = .slice (some ⟨aB, 0, none⟩) d d → I { tmps := T, defers := [] } wA.drew) := Lib.hid (fun hxy T t t0 t1 t2 t4 => by
          rw [hI]; exact EachG.of (F7 := fun _ => True) T t t0 t1 t2 t4 (hdr _ hkA) (hdb _ _ hbA) ⟨hxy, hJD⟩ trivial)
        have HKK : Hid (¬ x + 1 < y → ∀ T : Array Value, T.size = 64 → T.getD 0 undef = .func (.yield l) #[] #[] → T.getD 1 undef = .pointer (some ⟨bB, 0, none⟩) → T.getD 2 undef = .pointer (some ⟨gB, 0, none⟩) → T.getD 4 undef = .slice (some ⟨aB, 0, none⟩) d d → T.getD 7 undef = .int .i64 ((m : Int) - 1) → K { tmps := T, defers := [] } (wA.setCell ⟨aB, m, none⟩ (.int .i64 (z : Int))).drew) := Lib.hid (fun hxy T t t0 t1 t2 t4 t7 => by
          rw [hK]; exact EachG.of (F7 := fun v => v = .int .i64 ((m : Int) - 1)) T t t0 t1 t2 t4 (hdr _ hkC) (hdb _ _ hbC) ⟨hxy, hJC⟩ t7)
        refine piece_j (I := I) (K := K) (R := fun _ _ => False) ?_ ?_ ?_ ?_
        · unfold eachT
          rw [h7']
          clear hY hJ hJx haB hd hb hwl e1 e2 hlo hhi hcd hN HK0 HJ0 hup hset hse hset1 hal hdn hnx hlow hml hmc hm hG hB h hW hk0 hkA hJA hbA hcl hcm hrN hx hy hz hne2 hgs hbs hn hp h4 hkC hbC hBC hdr hdb hJD hJC hI hK hJr h0
          go_upto_region 11 with fail
          rw [← hwA]
          clear hwA hat0 a2 hbk
          go_region_with (simp only [hfy])
          all_goals by_cases hxy : x + 1 < y
          all_goals (first | (have q1 : decide ((x : Int) + 1 < (y : Int)) = true := decide_eq_true (by omega)) | (have q1 : decide ((x : Int) + 1 < (y : Int)) = false := decide_eq_false (by omega)))
          all_goals (go_wp2_with (first | simp only [hfz] | (apply wp_goto)))
          all_goals (first | exact HI.out hxy _ rfl rfl rfl rfl rfl | exact HKK.out hxy _ rfl rfl rfl rfl rfl rfl)
        · intro a4 w4 hh
          rw [hI] at hh
          obtain ⟨u, rfl, hk4, hat4, ⟨hxy, hJ4⟩, -⟩ := hh
          rw [if_pos hxy] at hdn
          have hcc := hup hdn
          rw [cells_next hb.1 r c hc] at hcc
          refine ⟨(N - (r + 1)) * (d + 2), by omega, u, rfl, hk4, .inl ⟨rfl, r + 1, _, hcc, rfl, hat4, hJ4⟩⟩
        · intro a4 w4 hh
          rw [hK] at hh
          obtain ⟨u, rfl, hk4, hat4, ⟨hxy, hJ4⟩, h74⟩ := hh
          rw [if_neg hxy] at hdn
          exact ⟨(N - (r + 1)) * (d + 2) + m + 1, by omega, u, rfl, hk4, .inr ⟨rfl, r, c, m, hc, by omega, rfl, h74, hat4, hdn, hJ4⟩⟩
        · intro a4 w4 hh
          exact hh.elim
end Go.Proofs.Ytlpoopmjgobnnaa
