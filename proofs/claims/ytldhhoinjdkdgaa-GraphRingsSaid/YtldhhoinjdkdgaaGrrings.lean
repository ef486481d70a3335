/- GraphRings: for all lists of needs the program's Order has no answer just where a thing needs, by others or at once, itself, as its Reach says: the law returns true, and what was handed in reads as it did. No condition. -/
import Derived.ProofKit
import Derived.OpenShut
import Derived.ShutString
import Derived.ChangeOld
import Derived.Below
import Derived.Lib.SmallJoins
import Derived.Deep.Matrix
import Derived.Test.YtldhhoinjdkdgaaM1
import Derived.Test.YtldhhoinjdkdgaaM2
set_option linter.unusedSimpArgs false
set_option linter.unusedVariables false
namespace Go.Proofs.Ytldhhoinjdkdgaa
open Go.RowKit
open Go.ChangeShapes Go.WideShapes Go.ChangeAt
open Go.ChangeMaps (open_string shut_string)
set_option linter.unusedVariables false

def RingTo (ns : List (List Int)) (i k : Nat) : Prop := ∃ i' c : Nat, i' < ns.length ∧ c < (nd ns i').length ∧ (i' < i ∨ i' = i ∧ c < k) ∧ Rch ns ((nd ns i').getD c 0).toNat i'
theorem RingTo.start (ns : List (List Int)) : ¬ RingTo ns 0 0 := fun ⟨_, _, _, _, h, _⟩ => by omega
theorem RingTo.more {ns : List (List Int)} {i k : Nat} (hi : i < ns.length) (hk : k < (nd ns i).length) : RingTo ns i (k + 1) ↔ RingTo ns i k ∨ Rch ns ((nd ns i).getD k 0).toNat i := by
  constructor
  · rintro ⟨i', c, h1, h2, h3, h4⟩
    by_cases e : i' = i ∧ c = k
    · obtain ⟨rfl, rfl⟩ := e; exact .inr h4
    · exact .inl ⟨i', c, h1, h2, by omega, h4⟩
  · rintro (⟨i', c, h1, h2, h3, h4⟩ | h)
    · exact ⟨i', c, h1, h2, by omega, h4⟩
    · exact ⟨i, k, hi, hk, by omega, h⟩
theorem RingTo.next {ns : List (List Int)} {i k : Nat} (hk : (nd ns i).length ≤ k) : RingTo ns i k ↔ RingTo ns (i + 1) 0 := by
  constructor
  · rintro ⟨i', c, h1, h2, h3, h4⟩
    exact ⟨i', c, h1, h2, by omega, h4⟩
  · rintro ⟨i', c, h1, h2, h3, h4⟩
    refine ⟨i', c, h1, h2, ?_, h4⟩
    by_cases e : i' = i
    · subst e; exact .inr ⟨rfl, by omega⟩
    · exact .inl (by omega)
theorem RingTo.all {ns : List (List Int)} (hf : ∀ i c, i < ns.length → c < (nd ns i).length → 0 ≤ (nd ns i).getD c 0 ∧ (nd ns i).getD c 0 < (ns.length : Int)) : RingTo ns ns.length 0 ↔ ord ns = none := by
  rw [ring_iff hf]
  constructor
  · rintro ⟨i, c, h1, h2, _, h4⟩
    refine ⟨i, ((nd ns i).getD c 0).toNat, h1, ?_, h4⟩
    rw [Int.toNat_of_nonneg (hf i c h1 h2).1, getD_get h2]
    exact List.getElem_mem _
  · rintro ⟨i, n, h1, h2, h3⟩
    obtain ⟨c, hc, e⟩ := List.mem_iff_getElem.1 h2
    exact ⟨i, c, h1, hc, .inl h1, by rw [getD_get hc, e, Int.toNat_natCast]; exact h3⟩
theorem ord_code (ns : List (List Int)) (hz : (docOrd ns).2 = 0 ∨ (docOrd ns).2 = 11) : chk ns = 0 ∧ ((docOrd ns).2 = 11 ↔ ord ns = none) := by
  have hc : chk ns = 0 := by
    by_cases hc : chk ns = 0
    · exact hc
    · exfalso
      unfold docOrd at hz
      rw [if_neg hc] at hz
      have hz2 : chk ns = 0 ∨ chk ns = 11 := hz
      unfold chk at hz2
      by_cases h1 : longB ns = true
      · rw [if_pos h1] at hz2; omega
      · rw [if_neg h1] at hz2
        by_cases h2 : formB ns = true
        · exact hc (by unfold chk; rw [if_neg h1, if_pos h2])
        · rw [if_neg h2] at hz2; omega
  refine ⟨hc, ?_⟩
  unfold docOrd
  rw [if_pos hc]
  cases ord ns with
  | none => exact (⟨fun _ => rfl, fun _ => rfl⟩ : (11 : Int) = 11 ↔ _)
  | some l => exact (⟨(fun h => by cases h), (fun h => by cases h)⟩ : (0 : Int) = 11 ↔ some l = none)
set_option maxHeartbeats 4000000 in
theorem walk_GraphRings (ns : List (List Int)) (v : Value) (w : World) (h : Mat w v ns) :
    Calls Try.prog 5 #[v] w fun e w' => e = .returned (.bool true) ∧ Below w.heap.size w w' := by
  obtain ⟨l, z, hq⟩ : ∃ l z, docOrd ns = (l, z) := ⟨_, _, rfl⟩
  have HO := Lib.hid (fun W (h : Mat W v ns) => order_any ns v W h)
  unfold OrdPost at HO
  rw [hq] at HO
  by_cases hz : z = 0 ∨ z = 11
  · obtain ⟨hc, hco⟩ := ord_code ns (by rw [hq]; exact hz)
    rw [hq] at hco
    obtain ⟨hl, hf⟩ := chk_zero hc
    obtain ⟨n1, n2⟩ := longB_not hl
    have HF := Lib.hid (formB_iff.1 hf)
    have HALL := Far.mk (RingTo.all (formB_iff.1 hf))
    have HCO := Far.mk hco
    have HC := Lib.hid hc
    have HN2 := Lib.hid n2
    have HM := Lib.hid h
    have HZ := Lib.hid hz
    have HRE := Lib.hid (fun W a (h : Mat W v ns) => reach_any ns v a W h)
    unfold RchPost at HRE
    obtain ⟨A, C, rfl, m2, _⟩ := h
    unfold maxLen at m2
    have hz2 : ((z != 0) && (z != 11)) = false := by rcases hz with rfl | rfl <;> rfl
    clear hc hco hl hf n2 hq
    go_enter Try.func5, Try.ntmps5
    go_wp2_with ((go_at_call 8; with_reducible refine (known_any _).mono ?_); rintro _ w1 ⟨rfl, hb1⟩; have hb1s := hb1.size; (try simp only [World.size_alloc, World.size_setCell, World.size_drew, World.heap_drewN] at hb1s); obtain ⟨hb1c, hb1f⟩ := bcell hb1; (try have : w.heap.size < w1.heap.size := by omega); (try have : w.heap.size + 1 < w1.heap.size := by omega); (try have : w.heap.size + 1 + 1 < w1.heap.size := by omega); (try have : w.heap.size + 1 + 1 + 1 < w1.heap.size := by omega))
    refine (HO.out _ (HM.out.below hb1)).mono ?_
    rintro _ w2 ⟨o2, v2, rfl, k2, hb2⟩
    have hb3 := hb1.trans (hb2.mono hb1.size)
    clear hb1c hb1f k2 HO hb1 hb2
    rcases hz with rfl | rfl
    · have tk := trivial
      go_wp2_with fail
      go_loopg [5, 6] ns.length (fun k s5 s6 wr => ∃ (b : Bool) (i : Nat), s5 = .bool b ∧ s6 = .int .i64 i ∧ k + i = ns.length ∧ Far (b = true ↔ RingTo ns i 0) ∧ Hid (Below w.heap.size w wr))
      case atStart => exact ⟨false, 0, rfl, rfl, rfl, Far.mk ⟨(fun h => by cases h), (fun h => absurd h (RingTo.start ns))⟩, Lib.hid hb3⟩
      case round =>
          obtain ⟨b, i, rfl, rfl, hk, hb, HWB⟩ := hrel
          have HK := Lib.hid hk
          have hin : i ≤ ns.length := by omega
          clear hk
          by_cases hlt : i < ns.length
          · go_wp2_with fail
            obtain ⟨b2, q2, u2, rfl, c2w, hl2⟩ := HM.out.at hlt
            obtain ⟨A2, C2, rfl, hb2⟩ := hl2.is
            unfold maxLen at hb2
            have HL2 := Lib.hid hl2
            have C2W := Lib.hid c2w
            have hs0 : (nd ns i).length ≤ 100 := HN2.out _ (nd_mem hlt)
            have i0 : (0 : Int) ≤ (i : Int) := by omega
            clear hl2 c2w
            obtain ⟨go, hgo⟩ : ∃ go : Nat, go = gk := ⟨_, rfl⟩
            rw [← hgo] at HK
            have HGO := Lib.hid hgo
            clear hgo
            go_loopg [5, 7] (nd ns i).length (fun k s5 s7 wr => ∃ (b : Bool) (s : Nat), s5 = .bool b ∧ s7 = .int .i64 s ∧ k + s = (nd ns i).length ∧ Far (b = true ↔ RingTo ns i s) ∧ Hid (Below w.heap.size w wr))
            case atStart => exact ⟨b, 0, rfl, rfl, rfl, hb, HWB⟩
            case round =>
              clear hb HWB
              obtain ⟨b, s, rfl, rfl, hk, hb, HWB⟩ := hrel
              have HK2 := Lib.hid hk
              have hsn : s ≤ (nd ns i).length := by omega
              have hc2 := (HWB.out.cell (p := ⟨b2, q2 + i, none⟩) (cell_lt C2W.out)).trans C2W.out
              clear hk
              by_cases hls : s < (nd ns i).length
              · obtain ⟨b4, q4, rfl, hc4⟩ := (HL2.out.below HWB.out).at hls
                obtain ⟨z0, z1⟩ := HF.out i s hlt hls
                have HMORE := Far.mk (RingTo.more hlt hls)
                obtain ⟨m, hm⟩ := Int.eq_ofNat_of_zero_le z0
                rw [hm] at z1 hc4 HMORE
                rw [Int.toNat_natCast] at HMORE
                have hmn : ¬ ((m : Int) < 0 ∨ (ns.length : Int) ≤ (m : Int)) := by omega
                have HMN := Lib.hid hmn
                clear hm z0 z1 hmn
                go_wp2_with fail
                refine (HRE.out _ m (HM.out.below HWB.out)).mono ?_
                rintro _ w5 ⟨o5, v5, l5, c5, rfl, r5, s5, hb5⟩
                unfold RchSpec at s5
                rw [if_neg HMN.out, if_neg (fun hh => hh HC.out)] at s5
                obtain ⟨rfl, s51, s52⟩ := s5
                rw [Int.toNat_natCast] at s52
                have S52 := Far.mk s52
                have WB5 := Lib.hid (HWB.out.trans (hb5.mono HWB.out.size))
                have R5 := Lib.hid r5.lst
                obtain ⟨A5, C5, rfl, hb5l⟩ := r5.lst.is
                unfold maxLen at hb5l
                clear s51 s52 r5 hb5 hc4
                go_wp2_with fail
                obtain ⟨g2, hg2⟩ : ∃ g2 : Nat, g2 = gk := ⟨_, rfl⟩
                rw [← hg2] at HK2
                have HG2 := Lib.hid hg2
                clear hg2
                obtain ⟨w5', hw5⟩ : ∃ w5' : World, w5' = w5 := ⟨_, rfl⟩
                rw [← hw5] at R5 WB5
                go_loopg [5, 10] l5.length (fun k s5 s10 wr => ∃ (b : Bool) (j : Nat), s5 = .bool b ∧ s10 = .int .i64 j ∧ k + j = l5.length ∧ Far (b = true ↔ RingTo ns i s ∨ (i : Int) ∈ l5.take j) ∧ w5' = wr)
                case atStart => exact ⟨b, 0, rfl, rfl, by omega, Far.mk (by rw [List.take_zero]; simpa using hb.out), hw5⟩
                case round =>
                  clear hb hw5
                  obtain ⟨b, j, rfl, rfl, hk, hb, rfl⟩ := hrel
                  have HK3 := Lib.hid hk
                  have hjn : j ≤ l5.length := by omega
                  clear hk
                  by_cases hlj : j < l5.length
                  · obtain ⟨b6, q6, rfl, hc6⟩ := R5.out.at hlj
                    have ht : Far (∀ x : Int, x ∈ l5.take (j + 1) ↔ x ∈ l5.take j ∨ x = l5.getD j 0) := Far.mk fun x => by
                      rw [List.take_succ_eq_append_getElem hlj, List.mem_append, List.mem_singleton, getD_get hlj]
                    obtain ⟨y, hy⟩ : ∃ y, y = l5.getD j 0 := ⟨_, rfl⟩
                    rw [← hy] at hc6 ht
                    clear hy
                    have j0 : (0 : Int) ≤ (j : Int) := by omega
                    cases b with
                    | true =>
                      have hb' : Far (true = true ↔ RingTo ns i s ∨ (i : Int) ∈ l5.take (j + 1)) := Far.mk ⟨fun _ => (hb.out.1 rfl).imp_right fun h => (ht.out _).2 (.inl h), fun _ => rfl⟩
                      go_wp2_with fail
                      go_roundg (gk - 1)
                      case measure => have := HK3.out; omega
                      case rel => exact ⟨true, j + 1, rfl, by go_num, by have := HK3.out; omega, Far.mk ⟨fun _ => hb'.out.1 (by simp), fun _ => rfl⟩, rfl⟩
                    | false =>
                      by_cases hyi : y = (i : Int)
                      · have hye : (y == (i : Int)) = true := by rw [hyi]; simp
                        have hb' : Far (RingTo ns i s ∨ (i : Int) ∈ l5.take (j + 1)) := Far.mk (.inr ((ht.out _).2 (.inr hyi.symm)))
                        clear hyi
                        go_wp2_with fail
                        go_roundg (gk - 1)
                        case measure => have := HK3.out; omega
                        case rel => exact ⟨true, j + 1, rfl, by go_num, by have := HK3.out; omega, Far.mk ⟨fun _ => hb'.out, fun _ => rfl⟩, rfl⟩
                      · have hye : (y == (i : Int)) = false := by rw [beq_eq_false_iff_ne]; exact hyi
                        have hb' : Far (¬ (RingTo ns i s ∨ (i : Int) ∈ l5.take (j + 1))) := Far.mk fun h => by
                          rcases h with h | h
                          · have := hb.out.2 (.inl h); cases this
                          · rcases (ht.out _).1 h with h | h
                            · have := hb.out.2 (.inr h); cases this
                            · exact hyi h.symm
                        clear hyi
                        go_wp2_with fail
                        go_roundg (gk - 1)
                        case measure => have := HK3.out; omega
                        case rel => exact ⟨false, j + 1, rfl, by go_num, by have := HK3.out; omega, Far.mk ⟨(fun h => by cases h), (fun h => absurd h hb'.out)⟩, rfl⟩
                  · obtain rfl : j = l5.length := by omega
                    rw [List.take_length] at hb
                    have hb' : Far (b = true ↔ RingTo ns i (s + 1)) := Far.mk (by
                      rw [hb.out, HMORE.out, S52.out]
                      constructor
                      · rintro (h | ⟨k, h1, h2⟩)
                        · exact .inl h
                        · obtain rfl : i = k := by omega
                          exact .inr h2
                      · rintro (h | h)
                        · exact .inl h
                        · exact .inr ⟨i, rfl, h⟩)
                    clear hb
                    go_wp2_with fail
                    go_roundg (g2 - 1)
                    case measure => have := HK2.out; have := HG2.out; omega
                    case rel => exact ⟨b, s + 1, rfl, by go_num, by have := HK2.out; omega, hb', WB5⟩
              · have hb' : Far (b = true ↔ RingTo ns (i + 1) 0) := Far.mk (hb.out.trans (RingTo.next (by omega)))
                clear hb
                go_wp2_with fail
                go_roundg (go - 1)
                case measure => have := HK.out; have := HGO.out; omega
                case rel => exact ⟨b, i + 1, rfl, by go_num, by have := HK.out; omega, hb', HWB⟩
          · obtain rfl : i = ns.length := by omega
            have hbf : b = false := by
              cases b with
              | false => rfl
              | true => have := HCO.out.2 (HALL.out.1 (hb.out.1 rfl)); cases this
            subst hbf
            go_wp2_with fail
            go_ret
            exact ⟨rfl, HWB.out⟩
    · have tk := trivial
      go_wp2_with fail
      go_loopg [5, 6] ns.length (fun k s5 s6 wr => ∃ (b : Bool) (i : Nat), s5 = .bool b ∧ s6 = .int .i64 i ∧ k + i = ns.length ∧ Far (b = true ↔ RingTo ns i 0) ∧ Hid (Below w.heap.size w wr))
      case atStart => exact ⟨false, 0, rfl, rfl, rfl, Far.mk ⟨(fun h => by cases h), (fun h => absurd h (RingTo.start ns))⟩, Lib.hid hb3⟩
      case round =>
          obtain ⟨b, i, rfl, rfl, hk, hb, HWB⟩ := hrel
          have HK := Lib.hid hk
          have hin : i ≤ ns.length := by omega
          clear hk
          by_cases hlt : i < ns.length
          · go_wp2_with fail
            obtain ⟨b2, q2, u2, rfl, c2w, hl2⟩ := HM.out.at hlt
            obtain ⟨A2, C2, rfl, hb2⟩ := hl2.is
            unfold maxLen at hb2
            have HL2 := Lib.hid hl2
            have C2W := Lib.hid c2w
            have hs0 : (nd ns i).length ≤ 100 := HN2.out _ (nd_mem hlt)
            have i0 : (0 : Int) ≤ (i : Int) := by omega
            clear hl2 c2w
            obtain ⟨go, hgo⟩ : ∃ go : Nat, go = gk := ⟨_, rfl⟩
            rw [← hgo] at HK
            have HGO := Lib.hid hgo
            clear hgo
            go_loopg [5, 7] (nd ns i).length (fun k s5 s7 wr => ∃ (b : Bool) (s : Nat), s5 = .bool b ∧ s7 = .int .i64 s ∧ k + s = (nd ns i).length ∧ Far (b = true ↔ RingTo ns i s) ∧ Hid (Below w.heap.size w wr))
            case atStart => exact ⟨b, 0, rfl, rfl, rfl, hb, HWB⟩
            case round =>
              clear hb HWB
              obtain ⟨b, s, rfl, rfl, hk, hb, HWB⟩ := hrel
              have HK2 := Lib.hid hk
              have hsn : s ≤ (nd ns i).length := by omega
              have hc2 := (HWB.out.cell (p := ⟨b2, q2 + i, none⟩) (cell_lt C2W.out)).trans C2W.out
              clear hk
              by_cases hls : s < (nd ns i).length
              · obtain ⟨b4, q4, rfl, hc4⟩ := (HL2.out.below HWB.out).at hls
                obtain ⟨z0, z1⟩ := HF.out i s hlt hls
                have HMORE := Far.mk (RingTo.more hlt hls)
                obtain ⟨m, hm⟩ := Int.eq_ofNat_of_zero_le z0
                rw [hm] at z1 hc4 HMORE
                rw [Int.toNat_natCast] at HMORE
                have hmn : ¬ ((m : Int) < 0 ∨ (ns.length : Int) ≤ (m : Int)) := by omega
                have HMN := Lib.hid hmn
                clear hm z0 z1 hmn
                go_wp2_with fail
                refine (HRE.out _ m (HM.out.below HWB.out)).mono ?_
                rintro _ w5 ⟨o5, v5, l5, c5, rfl, r5, s5, hb5⟩
                unfold RchSpec at s5
                rw [if_neg HMN.out, if_neg (fun hh => hh HC.out)] at s5
                obtain ⟨rfl, s51, s52⟩ := s5
                rw [Int.toNat_natCast] at s52
                have S52 := Far.mk s52
                have WB5 := Lib.hid (HWB.out.trans (hb5.mono HWB.out.size))
                have R5 := Lib.hid r5.lst
                obtain ⟨A5, C5, rfl, hb5l⟩ := r5.lst.is
                unfold maxLen at hb5l
                clear s51 s52 r5 hb5 hc4
                go_wp2_with fail
                obtain ⟨g2, hg2⟩ : ∃ g2 : Nat, g2 = gk := ⟨_, rfl⟩
                rw [← hg2] at HK2
                have HG2 := Lib.hid hg2
                clear hg2
                obtain ⟨w5', hw5⟩ : ∃ w5' : World, w5' = w5 := ⟨_, rfl⟩
                rw [← hw5] at R5 WB5
                go_loopg [5, 10] l5.length (fun k s5 s10 wr => ∃ (b : Bool) (j : Nat), s5 = .bool b ∧ s10 = .int .i64 j ∧ k + j = l5.length ∧ Far (b = true ↔ RingTo ns i s ∨ (i : Int) ∈ l5.take j) ∧ w5' = wr)
                case atStart => exact ⟨b, 0, rfl, rfl, by omega, Far.mk (by rw [List.take_zero]; simpa using hb.out), hw5⟩
                case round =>
                  clear hb hw5
                  obtain ⟨b, j, rfl, rfl, hk, hb, rfl⟩ := hrel
                  have HK3 := Lib.hid hk
                  have hjn : j ≤ l5.length := by omega
                  clear hk
                  by_cases hlj : j < l5.length
                  · obtain ⟨b6, q6, rfl, hc6⟩ := R5.out.at hlj
                    have ht : Far (∀ x : Int, x ∈ l5.take (j + 1) ↔ x ∈ l5.take j ∨ x = l5.getD j 0) := Far.mk fun x => by
                      rw [List.take_succ_eq_append_getElem hlj, List.mem_append, List.mem_singleton, getD_get hlj]
                    obtain ⟨y, hy⟩ : ∃ y, y = l5.getD j 0 := ⟨_, rfl⟩
                    rw [← hy] at hc6 ht
                    clear hy
                    have j0 : (0 : Int) ≤ (j : Int) := by omega
                    cases b with
                    | true =>
                      have hb' : Far (true = true ↔ RingTo ns i s ∨ (i : Int) ∈ l5.take (j + 1)) := Far.mk ⟨fun _ => (hb.out.1 rfl).imp_right fun h => (ht.out _).2 (.inl h), fun _ => rfl⟩
                      go_wp2_with fail
                      go_roundg (gk - 1)
                      case measure => have := HK3.out; omega
                      case rel => exact ⟨true, j + 1, rfl, by go_num, by have := HK3.out; omega, Far.mk ⟨fun _ => hb'.out.1 (by simp), fun _ => rfl⟩, rfl⟩
                    | false =>
                      by_cases hyi : y = (i : Int)
                      · have hye : (y == (i : Int)) = true := by rw [hyi]; simp
                        have hb' : Far (RingTo ns i s ∨ (i : Int) ∈ l5.take (j + 1)) := Far.mk (.inr ((ht.out _).2 (.inr hyi.symm)))
                        clear hyi
                        go_wp2_with fail
                        go_roundg (gk - 1)
                        case measure => have := HK3.out; omega
                        case rel => exact ⟨true, j + 1, rfl, by go_num, by have := HK3.out; omega, Far.mk ⟨fun _ => hb'.out, fun _ => rfl⟩, rfl⟩
                      · have hye : (y == (i : Int)) = false := by rw [beq_eq_false_iff_ne]; exact hyi
                        have hb' : Far (¬ (RingTo ns i s ∨ (i : Int) ∈ l5.take (j + 1))) := Far.mk fun h => by
                          rcases h with h | h
                          · have := hb.out.2 (.inl h); cases this
                          · rcases (ht.out _).1 h with h | h
                            · have := hb.out.2 (.inr h); cases this
                            · exact hyi h.symm
                        clear hyi
                        go_wp2_with fail
                        go_roundg (gk - 1)
                        case measure => have := HK3.out; omega
                        case rel => exact ⟨false, j + 1, rfl, by go_num, by have := HK3.out; omega, Far.mk ⟨(fun h => by cases h), (fun h => absurd h hb'.out)⟩, rfl⟩
                  · obtain rfl : j = l5.length := by omega
                    rw [List.take_length] at hb
                    have hb' : Far (b = true ↔ RingTo ns i (s + 1)) := Far.mk (by
                      rw [hb.out, HMORE.out, S52.out]
                      constructor
                      · rintro (h | ⟨k, h1, h2⟩)
                        · exact .inl h
                        · obtain rfl : i = k := by omega
                          exact .inr h2
                      · rintro (h | h)
                        · exact .inl h
                        · exact .inr ⟨i, rfl, h⟩)
                    clear hb
                    go_wp2_with fail
                    go_roundg (g2 - 1)
                    case measure => have := HK2.out; have := HG2.out; omega
                    case rel => exact ⟨b, s + 1, rfl, by go_num, by have := HK2.out; omega, hb', WB5⟩
              · have hb' : Far (b = true ↔ RingTo ns (i + 1) 0) := Far.mk (hb.out.trans (RingTo.next (by omega)))
                clear hb
                go_wp2_with fail
                go_roundg (go - 1)
                case measure => have := HK.out; have := HGO.out; omega
                case rel => exact ⟨b, i + 1, rfl, by go_num, by have := HK.out; omega, hb', HWB⟩
          · obtain rfl : i = ns.length := by omega
            have hbf : b = true := hb.out.2 (HALL.out.2 (HCO.out.1 (by simp)))
            subst hbf
            go_wp2_with fail
            go_ret
            exact ⟨rfl, HWB.out⟩
  · have e1 : (z != 0) = true := by simp; omega
    have e2 : (z != 11) = true := by simp; omega
    clear hq hz
    go_enter Try.func5, Try.ntmps5
    go_wp2_with ((go_at_call 8; with_reducible refine (known_any _).mono ?_); rintro _ w1 ⟨rfl, hb1⟩; have hb1s := hb1.size; (try simp only [World.size_alloc, World.size_setCell, World.size_drew, World.heap_drewN] at hb1s); obtain ⟨hb1c, hb1f⟩ := bcell hb1; (try have : w.heap.size < w1.heap.size := by omega); (try have : w.heap.size + 1 < w1.heap.size := by omega); (try have : w.heap.size + 1 + 1 < w1.heap.size := by omega); (try have : w.heap.size + 1 + 1 + 1 < w1.heap.size := by omega))
    refine (HO.out _ (h.below hb1)).mono ?_
    rintro _ w2 ⟨o2, v2, rfl, k2, hb2⟩
    have hb3 := hb1.trans (hb2.mono hb1.size)
    clear hb1c hb1f k2 HO
    go_wp2_with fail
    go_ret
    exact ⟨rfl, hb3⟩

set_option maxRecDepth 100000 in
theorem lifted_GraphRings (os : Os) (started : os.Started) (H : Type) (enc : TypeId × Value → H) :
    ReturnsInHanded {} Try.checked os 5 .any (Rows.graphRingsSpec.pre6 enc Try.prog Try.f5 Rows.graphRingsRow.domain false) (Rows.graphRingsSpec.post enc Try.prog Try.f5 false true false false) := by
  refine returnsInHanded_of_change (C := Try.checked) own started (by kernel_rfl) Try.func5
    (ChangeSpec.witness6 (enc := enc) (C := Try.checked) false ⟨#[], #[.slice none 0 0], []⟩ 8 (by kernel_rfl) (by kernel_rfl) (by kernel_rfl) (by kernel_rfl)) ?_
  intro W base args ds gs before hval0 hW hcnd _
  have hval : ∀ (j : Nat) t v, Try.f5.params[j]? = some t → args[j]? = some v → Value.okWide Try.prog W .any base t v := hval0
  have hW' := hW
  obtain ⟨p, q, hA0, hV, rfl, hfz, hnd⟩ := hW
  have hA : DataW.TrodAll enc Try.prog W 0 (fun _ => true) true Try.f5.params.toList args.toList ds p := hA0
  rw [Try.params5] at hA hval
  obtain ⟨v0, vs0, d0, ds0, p0, q0, hargs0, rfl, rfl, h0, r0⟩ := trodAll_cons hA
  obtain ⟨rfl, rfl, rfl⟩ := trodAll_nil r0
  obtain rfl : args = #[v0] := by cases args; simp_all
  obtain ⟨rfl, rfl⟩ := trodVars_none hV
  have k0 := h0
  have lt0 : ∀ x ∈ p0, x.block < W.heap.size := by obtain ⟨m, hm⟩ := k0; exact DataW.trod_lt m _ _ _ hm
  obtain ⟨a0, w0⟩ := open_mat (hval 0 22 v0 rfl rfl) h0
  clear hA0 hval0
  refine (walk_GraphRings a0 v0 W w0).mono fun e W' ⟨he, bel⟩ => ?_
  subst he
  exact ⟨_, rfl, _, _, _, [], _, [], hW', trodAll_mk1 (shut_bool Try.underlying4 _), (trodAll_cons_mk (Below.trod laidOut (by kernel_rfl) (of_decide_eq_true (by kernel_rfl)) k0 bel lt0) trodAll_mk0), rfl, bel.frame _, fun h => by cases h⟩

theorem GraphRings_holds : Rows.GraphRingsSaid :=
  OpenClaim.holds_of_wide 5 Try.f5 rfl rfl rfl rfl rfl rfl rfl ⟨rfl, rfl, rfl, rfl, rfl⟩ rfl rfl rfl rfl rfl (by kernel_rfl) Try.func5 (by kernel_rfl)
    (of_decide_eq_true (by kernel_rfl)) (by unfold Func.isWrapper; first | (rw [if_pos (by decide +kernel)]; kernel_rfl) | (rw [if_neg (by decide +kernel)]; exact ⟨rfl, rfl⟩))
    (fun os started H enc _ => lifted_GraphRings os started H enc)
#print axioms GraphRings_holds
end Go.Proofs.Ytldhhoinjdkdgaa
