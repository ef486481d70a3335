/- A number read from its decimal text, by the document: texts of numbers. -/
import Derived.Test.YtnjiibeomailhaaRr
set_option linter.unusedSimpArgs false
set_option linter.unusedVariables false
namespace Go.Proofs.Ytnjiibeomailhaa
open Go.RowKit

theorem dig_drop (l : List UInt8) (m : Nat) (hm : m < l.length) (ds : List Int) (hlen : ds.length = l.length - (m + 1)) (hv : dval ds = ((dvb (l.drop (m + 1)) 0 : Nat) : Int)) (h48 : 48 ≤ l[m].toNat) :
    dval (ds ++ [(l[m].toNat : Int) - 48]) = ((dvb (l.drop m) 0 : Nat) : Int) := by
  rw [dval_snoc, List.drop_eq_getElem_cons hm, hv, hlen]
  simp only [dvb]
  rw [dvb_lin (l.drop (m + 1)) (0 * 10 + (l[m].toNat - 48)), List.length_drop]
  have e : ((l[m].toNat : Int) - 48) = ((l[m].toNat - 48 : Nat) : Int) := by omega
  rw [e, Int.natCast_add, Int.natCast_mul, Int.natCast_pow, Nat.zero_mul, Nat.zero_add, Int.mul_comm]
  show _ + _ * (10 : Int) ^ _ = _ * (10 : Int) ^ _ + _
  omega
set_option maxHeartbeats 2000000 in
set_option maxRecDepth 100000 in
theorem docread_ok (s : ByteArray) (h : okB s.data.toList = true) (hs : s.size ≤ maxLen) (w : World) : Calls Try.prog 23 #[.string s] w fun e w' => e = .returned (.tuple #[.agg #[.int .u64 (wd (rdN s.data.toList) 1), .int .u64 (wd (rdN s.data.toList) 0)], .int .i64 (rdE s.data.toList)]) ∧ Below w.heap.size w w' := by
  unfold maxLen at hs
  have hl : s.data.toList.length = s.size := by simp
  have hne := okB_ne h
  have hn : ¬ (1 < s.data.toList.length ∧ (s.data.toList.headD 0).toNat = 48) := by
    rintro ⟨h1, h2⟩
    rcases okB_lead h with h3 | h3
    · omega
    · exact h3 h2
  have hdig : ∀ j (hj : j < s.size), 48 ≤ s[j].toNat ∧ s[j].toNat ≤ 57 := fun j hj => okB_dig h (j := j) (by omega)
  have HD := Lib.hid hdig
  skip
  have z0 : 0 < s.size := by have := List.length_pos_iff.2 hne; omega
  have e1 : ¬ s.toList = [] := by rw [ByteArray.toList_eq]; exact hne
  have e2 : s.toList.isEmpty = false := by simpa using e1
  have hcase : ¬ (1 : Int) < (s.size : Int) ∨ ((1 : Int) < (s.size : Int) ∧ ((s[0].toNat : Int) == 48) = false) := by
    by_cases hb : 1 < s.size
    · right
      refine ⟨by omega, ?_⟩
      rw [head_data s z0, hl] at hn
      simp
      intro e
      exact hn ⟨hb, by omega⟩
    · left; omega
  have hlong := rd_long h
  have HLG := Lib.hid hlong
  have HL := Lib.hid hl
  clear h hn hne hl hdig hlong
  rcases hcase with hb | ⟨hb, e5⟩
  · go_enter Try.func23, Try.ntmps23
    go_wp2_with fail
    go_loopg [4] s.size (fun k i wr => ∃ t : Nat, k + t = s.size ∧ i = .int .i64 t ∧ Bk wr w.heap.size 27 [.int .u64 0, .int .u64 0] ∧ Below w.heap.size w wr)
    case atStart => exact ⟨0, by omega, rfl, by (repeat (first | (with_reducible assumption) | ((with_reducible refine Bk.new_ ?_); (first | rfl | (simp only [World.size_alloc, World.size_setCell, World.size_drew, World.heap_drewN]; done))) | (with_reducible refine Bk.alloc ?_ _) | (with_reducible refine Bk.drew ?_) | (with_reducible refine Bk.drewN ?_ _) | ((with_reducible refine Bk.far ?_ ?_ _); rotate_left; focus (simp only []; omega)) | ((with_reducible refine Bk.below ?_ (by with_reducible assumption) ?_); rotate_left; focus (go_size; done)))), by (repeat' (first | (with_reducible exact Below.refl _ _) | (with_reducible assumption) | (with_reducible refine Below.drew ?_) | (with_reducible refine below_drewN ?_ _) | ((with_reducible refine Below.alloc ?_ ?_ _); rotate_left; focus (go_size; done)) | ((with_reducible refine Below.setCell ?_ ?_ _); rotate_left; focus (go_size; done)) | ((with_reducible refine Below.trans ?_ (Below.mono (by with_reducible assumption) ?_)); rotate_left; focus (go_size; done))))⟩
    case round =>
      obtain ⟨t, hk, rfl, b0, hbel⟩ := hrel
      have HK := Lib.hid hk
      have c0 := b0.cell 0 rfl
      have c1 := b0.cell 1 rfl
      have f0 := b0.frozen 0
      have f1 := b0.frozen 1
      have hwl := b0.lt
      have B0 := Lib.hid b0
      have ht : t ≤ s.size := by omega
      clear hk b0
      by_cases hts : t < s.size
      · obtain ⟨p1, p2⟩ := HD.out t hts
        have d1 : (48 : Int) ≤ (s[t].toNat : Int) := by omega
        have d2 : (s[t].toNat : Int) ≤ 57 := by omega
        clear p1 p2
        go_wp2_with fail
        go_roundg (gk - 1)
        case measure => have := HK.out; omega
        case rel => exact ⟨t + 1, by have := HK.out; omega, by go_num, B0.out, hbel⟩
      · obtain rfl : t = s.size := by omega
        by_cases h39 : 39 < s.size
        · obtain ⟨q1, q2⟩ := HLG.out (by rw [HL.out]; exact h39)
          have Q1 := Lib.hid q1
          have Q2 := Lib.hid q2
          clear q1 q2
          have h39' : (39 : Int) < (s.size : Int) := by omega
          first | (exfalso; omega) | (go_wp2_with fail; (refine bodyPost_ret (by simp [results, Try.results23, go_sem, *]; try rfl) rfl ?_); exact ⟨by rw [Q1.out, Q2.out, wd_zero, wd_zero], by (repeat' (first | (with_reducible exact Below.refl _ _) | (with_reducible assumption) | (with_reducible refine Below.drew ?_) | (with_reducible refine below_drewN ?_ _) | ((with_reducible refine Below.alloc ?_ ?_ _); rotate_left; focus (go_size; done)) | ((with_reducible refine Below.setCell ?_ ?_ _); rotate_left; focus (go_size; done)) | ((with_reducible refine Below.trans ?_ (Below.mono (by with_reducible assumption) ?_)); rotate_left; focus (go_size; done))))⟩)
        · have h39' : ¬ (39 : Int) < (s.size : Int) := by omega
          have hs39 : s.size ≤ 39 := by omega
          clear h39
          go_wp2_with fail
          obtain ⟨wo, hwo⟩ : ∃ wo : World, wo = wr := ⟨_, rfl⟩
          clear hwo c0 c1 f0 f1
          go_loopg [5, 6] s.size (fun k v i wr => ∃ ds : List Int, k ≤ s.size ∧ i = .int .i64 ((k : Int) - 1) ∧ wr.ownsRow (w.heap.size + 1) 3 1 v ds.length (ds.map (Value.int .i64)) ∧ ds.length = s.size - k ∧ Digs ds ∧ dval ds = ((dvb (s.data.toList.drop k) 0 : Nat) : Int) ∧
            Bk wr w.heap.size 27 [.int .u64 0, .int .u64 0] ∧ w.heap.size < wr.heap.size ∧ Below w.heap.size w wr)
          case atStart =>
            refine ⟨[], Nat.le_refl _, rfl, World.ownsRow_nil _ _ _ _, by simp, Digs.nil, ?_, B0.out, hwl, hbel⟩
            rw [List.drop_of_length_le (by rw [HL.out]; exact Nat.le_refl _)]; rfl
          case round =>
            obtain ⟨ds, hk, rfl, hown, hdl, hdd, hval, b0, hsz, hbel⟩ := hrel
            have B0 := Lib.hid b0
            have HDL := Lib.hid hdl
            have HDD := Lib.hid hdd
            have HV := Lib.hid hval
            clear b0 hdl hdd hval
            by_cases hk0 : gk = 0
            · subst hk0
              have hm : ¬ (0 : Int) ≤ ((0 : Nat) : Int) - 1 := by omega
              go_wp2_with fail
              refine (cut_any ds _ _ (IsSl.of_own hown) HDD.out (by have := HDL.out; omega)).mono ?_
              rintro _ w2 ⟨v2, rfl, hdg, hb2⟩
              have hv : (dval ds).toNat = dvb s.data.toList 0 := by rw [HV.out, List.drop_zero]; exact Int.toNat_natCast _
              rw [hv] at hdg
              have hb2s := hb2.size
              have HDG := Lib.hid hdg
              have hsm : Small (dvb s.data.toList 0) := by
                have h1 := (dval_bd HDD.out).2
                rw [HV.out, List.drop_zero] at h1
                have h2 : dvb s.data.toList 0 < 10 ^ ds.length := by exact_mod_cast h1
                exact fun _ => Nat.lt_of_lt_of_le h2 (ten_le ds.length 1000 (by have := HDL.out; omega))
              have HSM := Lib.hid hsm
              have HV2 := Lib.hid hv
              clear hdg hv hsm
              go_wp2_with fail
              refine (told_any (dvb s.data.toList 0) v2 _ HDG.out HSM.out).mono ?_
              rintro _ w3 ⟨rfl, hb3⟩
              have hb3s := hb3.size
              have b0 := B0.out
              have b3 : Bk w3 w.heap.size 27 [.int .u64 0, .int .u64 0] := by (repeat (first | (with_reducible assumption) | ((with_reducible refine Bk.new_ ?_); (first | rfl | (simp only [World.size_alloc, World.size_setCell, World.size_drew, World.heap_drewN]; done))) | (with_reducible refine Bk.alloc ?_ _) | (with_reducible refine Bk.drew ?_) | (with_reducible refine Bk.drewN ?_ _) | ((with_reducible refine Bk.far ?_ ?_ _); rotate_left; focus (simp only []; omega)) | ((with_reducible refine Bk.below ?_ (by with_reducible assumption) ?_); rotate_left; focus (go_size; done))))
              have c0 := b3.cell 0 rfl
              have c1 := b3.cell 1 rfl
              have f0 := b3.frozen 0
              have f1 := b3.frozen 1
              have l3 := b3.lt
              clear b0 b3
              go_wp2_with fail
              refine bodyPost_ret (by simp [results, Try.results23, go_sem, *]; try rfl) rfl ?_
              unfold rdN rdE
              exact ⟨rfl, by (repeat' (first | (with_reducible exact Below.refl _ _) | (with_reducible assumption) | (with_reducible refine Below.drew ?_) | (with_reducible refine below_drewN ?_ _) | ((with_reducible refine Below.alloc ?_ ?_ _); rotate_left; focus (go_size; done)) | ((with_reducible refine Below.setCell ?_ ?_ _); rotate_left; focus (go_size; done)) | ((with_reducible refine Below.trans ?_ (Below.mono (by with_reducible assumption) ?_)); rotate_left; focus (go_size; done))))⟩
            · obtain ⟨m, rfl⟩ : ∃ m, gk = m + 1 := ⟨gk - 1, by omega⟩
              have hms : m < s.size := by omega
              obtain ⟨p1, p2⟩ := HD.out m hms
              have d1 : (48 : Int) ≤ (s[m].toNat : Int) := by omega
              have d2 : (s[m].toNat : Int) ≤ 57 := by omega
              have hp : (0 : Int) < ((m + 1 : Nat) : Int) := by omega
              have hx : ((m + 1 : Nat) : Int) - 1 = (m : Int) := by omega
              have m0 : (0 : Int) ≤ (m : Int) := by omega
              have m1 : (m : Int) < (s.size : Int) := by omega
              have P1 := Lib.hid p1
              clear hk0 p1 p2
              go_wp2_with (at_builtin; refine wpList_push rfl (.tmp 48) (.tmp 54) rfl (w.heap.size + 1) u5 ds rfl (hown.alloc _) wr.heap.size ((s[m].toNat : Int) - 48) rfl ?hc ?hl ?hb ?_; rotate_left 3; intro v1 w1 hown1 hg1)
              case hc => simp [go_sem]
              case hl => have := HDL.out; omega
              case hb => go_size
              go_roundg m
              case measure => omega
              case rel =>
                refine ⟨ds ++ [(s[m].toNat : Int) - 48], by omega, rfl, hown1, by rw [List.length_append, HDL.out]; simp only [List.length_cons, List.length_nil]; omega, HDD.out.snoc (by omega) (by omega), ?_, ?_, ?_, ?_⟩
                · have hml : m < s.data.toList.length := by rw [HL.out]; exact hms
                  exact dig_drop s.data.toList m hml ds (by rw [HL.out]; exact HDL.out) HV.out P1.out
                · refine Bk.grown (B0.out.alloc _) hg1 ?_
                  intro e
                  have := (hown.lt _ e.symm).1
                  omega
                · have h1 := hg1.size
                  simp only [World.size_alloc] at h1
                  omega
                · have h2 : Below (w.heap.size + 1) (wr.alloc (.cells #[.int .i64 ((s[m].toNat : Int) - 48)] 3)) w1 := below_push (Below.refl _ _) (hown.alloc _) hg1 (by go_size)
                  exact (hbel.alloc (by go_size) _).trans (h2.mono (by omega))
  · go_enter Try.func23, Try.ntmps23
    go_wp2_with fail
    go_loopg [4] s.size (fun k i wr => ∃ t : Nat, k + t = s.size ∧ i = .int .i64 t ∧ Bk wr w.heap.size 27 [.int .u64 0, .int .u64 0] ∧ Below w.heap.size w wr)
    case atStart => exact ⟨0, by omega, rfl, by (repeat (first | (with_reducible assumption) | ((with_reducible refine Bk.new_ ?_); (first | rfl | (simp only [World.size_alloc, World.size_setCell, World.size_drew, World.heap_drewN]; done))) | (with_reducible refine Bk.alloc ?_ _) | (with_reducible refine Bk.drew ?_) | (with_reducible refine Bk.drewN ?_ _) | ((with_reducible refine Bk.far ?_ ?_ _); rotate_left; focus (simp only []; omega)) | ((with_reducible refine Bk.below ?_ (by with_reducible assumption) ?_); rotate_left; focus (go_size; done)))), by (repeat' (first | (with_reducible exact Below.refl _ _) | (with_reducible assumption) | (with_reducible refine Below.drew ?_) | (with_reducible refine below_drewN ?_ _) | ((with_reducible refine Below.alloc ?_ ?_ _); rotate_left; focus (go_size; done)) | ((with_reducible refine Below.setCell ?_ ?_ _); rotate_left; focus (go_size; done)) | ((with_reducible refine Below.trans ?_ (Below.mono (by with_reducible assumption) ?_)); rotate_left; focus (go_size; done))))⟩
    case round =>
      obtain ⟨t, hk, rfl, b0, hbel⟩ := hrel
      have HK := Lib.hid hk
      have c0 := b0.cell 0 rfl
      have c1 := b0.cell 1 rfl
      have f0 := b0.frozen 0
      have f1 := b0.frozen 1
      have hwl := b0.lt
      have B0 := Lib.hid b0
      have ht : t ≤ s.size := by omega
      clear hk b0
      by_cases hts : t < s.size
      · obtain ⟨p1, p2⟩ := HD.out t hts
        have d1 : (48 : Int) ≤ (s[t].toNat : Int) := by omega
        have d2 : (s[t].toNat : Int) ≤ 57 := by omega
        clear p1 p2
        go_wp2_with fail
        go_roundg (gk - 1)
        case measure => have := HK.out; omega
        case rel => exact ⟨t + 1, by have := HK.out; omega, by go_num, B0.out, hbel⟩
      · obtain rfl : t = s.size := by omega
        by_cases h39 : 39 < s.size
        · obtain ⟨q1, q2⟩ := HLG.out (by rw [HL.out]; exact h39)
          have Q1 := Lib.hid q1
          have Q2 := Lib.hid q2
          clear q1 q2
          have h39' : (39 : Int) < (s.size : Int) := by omega
          first | (exfalso; omega) | (go_wp2_with fail; (refine bodyPost_ret (by simp [results, Try.results23, go_sem, *]; try rfl) rfl ?_); exact ⟨by rw [Q1.out, Q2.out, wd_zero, wd_zero], by (repeat' (first | (with_reducible exact Below.refl _ _) | (with_reducible assumption) | (with_reducible refine Below.drew ?_) | (with_reducible refine below_drewN ?_ _) | ((with_reducible refine Below.alloc ?_ ?_ _); rotate_left; focus (go_size; done)) | ((with_reducible refine Below.setCell ?_ ?_ _); rotate_left; focus (go_size; done)) | ((with_reducible refine Below.trans ?_ (Below.mono (by with_reducible assumption) ?_)); rotate_left; focus (go_size; done))))⟩)
        · have h39' : ¬ (39 : Int) < (s.size : Int) := by omega
          have hs39 : s.size ≤ 39 := by omega
          clear h39
          go_wp2_with fail
          obtain ⟨wo, hwo⟩ : ∃ wo : World, wo = wr := ⟨_, rfl⟩
          clear hwo c0 c1 f0 f1
          go_loopg [5, 6] s.size (fun k v i wr => ∃ ds : List Int, k ≤ s.size ∧ i = .int .i64 ((k : Int) - 1) ∧ wr.ownsRow (w.heap.size + 1) 3 1 v ds.length (ds.map (Value.int .i64)) ∧ ds.length = s.size - k ∧ Digs ds ∧ dval ds = ((dvb (s.data.toList.drop k) 0 : Nat) : Int) ∧
            Bk wr w.heap.size 27 [.int .u64 0, .int .u64 0] ∧ w.heap.size < wr.heap.size ∧ Below w.heap.size w wr)
          case atStart =>
            refine ⟨[], Nat.le_refl _, rfl, World.ownsRow_nil _ _ _ _, by simp, Digs.nil, ?_, B0.out, hwl, hbel⟩
            rw [List.drop_of_length_le (by rw [HL.out]; exact Nat.le_refl _)]; rfl
          case round =>
            obtain ⟨ds, hk, rfl, hown, hdl, hdd, hval, b0, hsz, hbel⟩ := hrel
            have B0 := Lib.hid b0
            have HDL := Lib.hid hdl
            have HDD := Lib.hid hdd
            have HV := Lib.hid hval
            clear b0 hdl hdd hval
            by_cases hk0 : gk = 0
            · subst hk0
              have hm : ¬ (0 : Int) ≤ ((0 : Nat) : Int) - 1 := by omega
              go_wp2_with fail
              refine (cut_any ds _ _ (IsSl.of_own hown) HDD.out (by have := HDL.out; omega)).mono ?_
              rintro _ w2 ⟨v2, rfl, hdg, hb2⟩
              have hv : (dval ds).toNat = dvb s.data.toList 0 := by rw [HV.out, List.drop_zero]; exact Int.toNat_natCast _
              rw [hv] at hdg
              have hb2s := hb2.size
              have HDG := Lib.hid hdg
              have hsm : Small (dvb s.data.toList 0) := by
                have h1 := (dval_bd HDD.out).2
                rw [HV.out, List.drop_zero] at h1
                have h2 : dvb s.data.toList 0 < 10 ^ ds.length := by exact_mod_cast h1
                exact fun _ => Nat.lt_of_lt_of_le h2 (ten_le ds.length 1000 (by have := HDL.out; omega))
              have HSM := Lib.hid hsm
              have HV2 := Lib.hid hv
              clear hdg hv hsm
              go_wp2_with fail
              refine (told_any (dvb s.data.toList 0) v2 _ HDG.out HSM.out).mono ?_
              rintro _ w3 ⟨rfl, hb3⟩
              have hb3s := hb3.size
              have b0 := B0.out
              have b3 : Bk w3 w.heap.size 27 [.int .u64 0, .int .u64 0] := by (repeat (first | (with_reducible assumption) | ((with_reducible refine Bk.new_ ?_); (first | rfl | (simp only [World.size_alloc, World.size_setCell, World.size_drew, World.heap_drewN]; done))) | (with_reducible refine Bk.alloc ?_ _) | (with_reducible refine Bk.drew ?_) | (with_reducible refine Bk.drewN ?_ _) | ((with_reducible refine Bk.far ?_ ?_ _); rotate_left; focus (simp only []; omega)) | ((with_reducible refine Bk.below ?_ (by with_reducible assumption) ?_); rotate_left; focus (go_size; done))))
              have c0 := b3.cell 0 rfl
              have c1 := b3.cell 1 rfl
              have f0 := b3.frozen 0
              have f1 := b3.frozen 1
              have l3 := b3.lt
              clear b0 b3
              go_wp2_with fail
              refine bodyPost_ret (by simp [results, Try.results23, go_sem, *]; try rfl) rfl ?_
              unfold rdN rdE
              exact ⟨rfl, by (repeat' (first | (with_reducible exact Below.refl _ _) | (with_reducible assumption) | (with_reducible refine Below.drew ?_) | (with_reducible refine below_drewN ?_ _) | ((with_reducible refine Below.alloc ?_ ?_ _); rotate_left; focus (go_size; done)) | ((with_reducible refine Below.setCell ?_ ?_ _); rotate_left; focus (go_size; done)) | ((with_reducible refine Below.trans ?_ (Below.mono (by with_reducible assumption) ?_)); rotate_left; focus (go_size; done))))⟩
            · obtain ⟨m, rfl⟩ : ∃ m, gk = m + 1 := ⟨gk - 1, by omega⟩
              have hms : m < s.size := by omega
              obtain ⟨p1, p2⟩ := HD.out m hms
              have d1 : (48 : Int) ≤ (s[m].toNat : Int) := by omega
              have d2 : (s[m].toNat : Int) ≤ 57 := by omega
              have hp : (0 : Int) < ((m + 1 : Nat) : Int) := by omega
              have hx : ((m + 1 : Nat) : Int) - 1 = (m : Int) := by omega
              have m0 : (0 : Int) ≤ (m : Int) := by omega
              have m1 : (m : Int) < (s.size : Int) := by omega
              have P1 := Lib.hid p1
              clear hk0 p1 p2
              go_wp2_with (at_builtin; refine wpList_push rfl (.tmp 48) (.tmp 54) rfl (w.heap.size + 1) u5 ds rfl (hown.alloc _) wr.heap.size ((s[m].toNat : Int) - 48) rfl ?hc ?hl ?hb ?_; rotate_left 3; intro v1 w1 hown1 hg1)
              case hc => simp [go_sem]
              case hl => have := HDL.out; omega
              case hb => go_size
              go_roundg m
              case measure => omega
              case rel =>
                refine ⟨ds ++ [(s[m].toNat : Int) - 48], by omega, rfl, hown1, by rw [List.length_append, HDL.out]; simp only [List.length_cons, List.length_nil]; omega, HDD.out.snoc (by omega) (by omega), ?_, ?_, ?_, ?_⟩
                · have hml : m < s.data.toList.length := by rw [HL.out]; exact hms
                  exact dig_drop s.data.toList m hml ds (by rw [HL.out]; exact HDL.out) HV.out P1.out
                · refine Bk.grown (B0.out.alloc _) hg1 ?_
                  intro e
                  have := (hown.lt _ e.symm).1
                  omega
                · have h1 := hg1.size
                  simp only [World.size_alloc] at h1
                  omega
                · have h2 : Below (w.heap.size + 1) (wr.alloc (.cells #[.int .i64 ((s[m].toNat : Int) - 48)] 3)) w1 := below_push (Below.refl _ _) (hown.alloc _) hg1 (by go_size)
                  exact (hbel.alloc (by go_size) _).trans (h2.mono (by omega))
end Go.Proofs.Ytnjiibeomailhaa
