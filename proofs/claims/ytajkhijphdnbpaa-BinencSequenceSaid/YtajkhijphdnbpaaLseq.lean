/- The walk of BinencSequence. -/
import Derived.Test.YtajkhijphdnbpaaRows
import Derived.Test.YtajkhijphdnbpaaMat
import Derived.Test.YtajkhijphdnbpaaSeq
namespace Go.Proofs.Ytajkhijphdnbpaa
open Go.RowKit
set_option linter.unusedVariables false
set_option maxRecDepth 20000 in
set_option maxHeartbeats 4000000 in
theorem law_seq (A : Option Addr) (n c : Nat) (ls : List (List UInt8)) (w : World) (hM : IsM w A n ls) (hn : n ≤ 9223372036854775807) :
    Calls Try.prog 11 #[.slice A n c] w (True1 w) := by
  rcases Nat.lt_or_ge 20 n with hbad | hgd
  · go_enter Try.func11, Try.ntmps11
    go_wp2_with (go_at_call 13; refine (awake01 _).mono ?_; rintro e w1 ⟨rfl, hb1⟩)
    go_ret
    exact ⟨rfl, hb1⟩
  · have hl := Lib.hid hM.1
    have HM := Lib.hid hM
    clear hM hn
    go_enter Try.func11, Try.ntmps11
    go_wp2
    go_loopw [3, 4] (fun o i wr => ∃ (k : Nat) (B : Option Addr) (nb cb : Nat), k ≤ n ∧ i = .int .i64 k ∧ o = .slice B nb cb ∧ nb ≤ cb ∧ Hid (IsB wr B nb (encL (ls.take k))) ∧ Hid (∀ q ∈ ls.take k, q.length ≤ 300) ∧ Below w.heap.size w wr) (fun _ i _ => n - (intOf i).toNat)
    case atStart => exact ⟨0, none, 0, 0, by omega, rfl, rfl, by omega, Lib.hid (IsB.nil _ _), Lib.hid (by simp), Below.refl _ _⟩
    case round =>
      obtain ⟨k, B, nb, cb, hk, rfl, rfl, hcb, HB, HS, hb⟩ := hrel
      have hlen : nb ≤ 6200 := by
        have h1 := HB.out.1
        have h2 := encL_len _ HS.out
        rw [List.length_take] at h2
        omega
      by_cases hkn : k < n
      · have hkl : k < ls.length := by have := hl.out; omega
        obtain ⟨b, o, rfl, hc⟩ := HM.out.at_ hb (by omega)
        obtain ⟨A3, C3, hcell, hmc, hm64, hi3⟩ := hc k hkl
        have HE := Lib.hid (encL_snoc ls k hkl)
        have HT : Hid (ls.take (k + 1) = ls.take k ++ [ls[k]]) := Lib.hid (List.take_succ_eq_append_getElem hkl)
        have HI3 := Lib.hid hi3
        clear hc hi3
        generalize ls[k] = p at *
        clear hkl
        obtain ⟨m, hm⟩ : ∃ m, m = p.length := ⟨_, rfl⟩
        rw [← hm] at hcell hmc hm64 HI3
        have Hm := Lib.hid hm
        clear hm
        by_cases hbig : 300 < m
        · go_wp2_with (go_at_call 13; refine (awake01 _).mono ?_; rintro e w1 ⟨rfl, hb1⟩)
          go_ret
          exact ⟨rfl, below_next hb hb1⟩
        · have HC := Lib.hid (append_bytes B nb cb _ A3 m C3 p (sz m) wr HB.out (by omega) HI3.out (by omega) (sz_grp m))
          go_wp2_with fail
          refine HC.out.mono ?_
          rintro e w1 ⟨g, mm, hge, hmm, rfl, hr, hb1⟩
          have hi := IsB.of_row hr
          rw [← hmm.out] at hi
          have HI : Hid (IsB w1 (some ⟨g, 0, none⟩) mm (encL (ls.take (k + 1)))) := Lib.hid (by
            rw [HE.out]
            have e1 : encP p = uvB m (sz m) ++ p := by rw [Hm.out]; rfl
            rw [e1]
            exact hi)
          have HS2 : Hid (∀ q ∈ ls.take (k + 1), q.length ≤ 300) := Lib.hid (by
            intro q hq
            rw [HT.out, List.mem_append] at hq
            rcases hq with hq | hq
            · exact HS.out q hq
            · have : q = p := by simpa using hq
              subst this
              have := Hm.out
              omega)
          have hbw := below_next hb hb1
          clear hi hr hmm HC hb1 hge
          go_wp2
          exact ⟨⟨k + 1, some ⟨g, 0, none⟩, mm, mm, by omega, by go_num, rfl, by omega, HI, HS2, hbw⟩, by simp [intOf]; omega⟩
      · obtain rfl : k = n := by omega
        have e : ls.take k = ls := List.take_of_length_le (by have := hl.out; omega)
        rw [e] at HB HS
        clear e
        have HL : Hid (nb = (encL ls).length) := Lib.hid HB.out.1
        go_wp2
        go_loopw [5, 6] (fun a i wr' => ∃ t at_ : Nat, t ≤ k ∧ i = .int .i64 t ∧ a = .int .i64 at_ ∧ at_ ≤ nb ∧ Hid (at_ = (encL (ls.take t)).length) ∧ Below wr.heap.size wr wr') (fun _ i _ => k - (intOf i).toNat)
        case atStart => exact ⟨0, 0, by omega, rfl, rfl, by omega, Lib.hid rfl, Below.refl _ _⟩
        case round =>
          obtain ⟨t, at_, ht, rfl, rfl, hat, HA, hb2⟩ := hrel
          by_cases htn : t < k
          · have htl : t < ls.length := by have := hl.out; omega
            obtain ⟨b, o, rfl, hc⟩ := HM.out.at_ (below_next hb hb2) (by omega)
            obtain ⟨A3, C3, hcell, hmc, hm64, hi3⟩ := hc t htl
            have hp : (ls[t]).length ≤ 300 := HS.out _ (List.getElem_mem htl)
            have HF := Lib.hid (encL_split ls t htl)
            have HE := Lib.hid (encL_snoc ls t htl)
            have HI3 := Lib.hid hi3
            clear hc hi3
            generalize ls[t] = p at *
            clear htl
            obtain ⟨m, hm⟩ : ∃ m, m = p.length := ⟨_, rfl⟩
            rw [← hm] at hcell hmc hm64 HI3 hp
            have Hm := Lib.hid hm
            have hm0 := hm
            clear hm64
            have F1 : Hid (bR (encL ls) (at_ : Nat) 300 = (p, at_ + (encP p).length, 0)) := Lib.hid (by
              rw [HF.out, HA.out]
              exact seq_ok _ p _ (by omega) 300 (by omega))
            have F2 : Hid (0 < m → bR (encL ls) (at_ : Nat) ((m : Int) - 1) = ([], 0, 15)) := Lib.hid (fun h => by
              rw [HF.out, HA.out, hm0]
              exact seq_small _ p _ (by omega) (by omega))
            have F3 : Hid (m = 0 → bR (encL ls) (at_ : Nat) ((m : Int) - 1) = ([], 0, 6)) := Lib.hid (fun h => by
              rw [HF.out, HA.out, hm0]
              exact seq_none _ p _ (by omega))
            obtain ⟨na, hna⟩ : ∃ na, na = at_ + (encP p).length := ⟨_, rfl⟩
            have HN : Hid (na = (encL (ls.take (t + 1))).length) := Lib.hid (by rw [hna, HE.out, List.length_append, ← HA.out])
            have hnb : na ≤ nb := by rw [hna, HL.out, HF.out, List.length_append, List.length_append, ← HA.out]; omega
            rw [← hna] at F1
            clear hna hm0 hm HE HF
            have HB2 := Lib.hid (HB.out.below hb2)
            have C1 := Lib.hid (bytes01 B nb cb (encL ls) at_ 300 _ HB2.out hcb (by omega) (by omega) (by omega) (by omega) (by omega))
            have C1 := Lib.hid (by have h := C1.out; unfold BPost at h; rw [F1.out] at h; exact h)
            go_wp2_with fail
            refine C1.out.mono ?_
            rintro e w3 ⟨A4, n4, c4, rfl, hi4, hb3⟩
            obtain rfl : n4 = m := by have := hi4.1; have := Hm.out; omega
            have hcell3 := (hb3.cell (p := ⟨b, o + t, none⟩) (block_lt_of_cell hcell)).trans hcell
            have hi33 := HI3.out.below hb3
            have hb23 := below_next hb2 hb3
            clear C1 hcell
            go_upto_region 15 with (fail)
            refine wp_region_told (n := 95) (fun w9 => Below w3.heap.size w3 w9) (fun w1 w2 => Below w1.heap.size w1 w2) (by kernel_rfl) (by kernel_rfl) (by rfl) (below_drewN (Below.refl _ _) 1) ?_
            repeat (first | (refine walk_pure (v := ?_) (fun _ => Below.refl _ _) (fun _ => rfl) ?_ ?_; rotate_left; (focus (intro us w9 hS9 hF; go_simp; (try with_reducible rfl); done)); simp only [Act.put, List.setIfInBounds_toArray, List.set_cons_zero, List.set_cons_succ, Nat.reduceAdd]) | (refine walk_skip (fun _ => Below.refl _ _) (fun _ => rfl) ?_; simp only [Act.put, List.setIfInBounds_toArray, List.set_cons_zero, List.set_cons_succ, Nat.reduceAdd]))
            refine walk_pure (v := ?_) (fun _ => Below.refl _ _) (fun _ => rfl) ?_ ?_; rotate_left; (focus (intro us w9 hS9 hF; have hs := run_str (P := Try.prog) (dst := 9) Try.underlying22 Try.underlying5 Try.underlying9 (c4) ((hi4).below hS9); clear hF; go_simp; (try with_reducible rfl); done)); simp only [Act.put, List.setIfInBounds_toArray, List.set_cons_zero, List.set_cons_succ, Nat.reduceAdd]
            repeat (first | (refine walk_pure (v := ?_) (fun _ => Below.refl _ _) (fun _ => rfl) ?_ ?_; rotate_left; (focus (intro us w9 hS9 hF; go_simp; (try with_reducible rfl); done)); simp only [Act.put, List.setIfInBounds_toArray, List.set_cons_zero, List.set_cons_succ, Nat.reduceAdd]) | (refine walk_skip (fun _ => Below.refl _ _) (fun _ => rfl) ?_; simp only [Act.put, List.setIfInBounds_toArray, List.set_cons_zero, List.set_cons_succ, Nat.reduceAdd]))
            refine walk_pure (v := ?_) (fun _ => Below.refl _ _) (fun _ => rfl) ?_ ?_; rotate_left; (focus (intro us w9 hS9 hF; have hc9 := (hS9.cell (p := ⟨b, o + t, none⟩) (block_lt_of_cell hcell3)).trans hcell3; clear hF; go_simp; (try with_reducible rfl); done)); simp only [Act.put, List.setIfInBounds_toArray, List.set_cons_zero, List.set_cons_succ, Nat.reduceAdd]
            refine walk_pure (v := ?_) (fun _ => Below.refl _ _) (fun _ => rfl) ?_ ?_; rotate_left; (focus (intro us w9 hS9 hF; have hs := run_str (P := Try.prog) (dst := 9) Try.underlying22 Try.underlying5 Try.underlying9 (C3) ((hi33).below hS9); clear hF; go_simp; (try with_reducible rfl); done)); simp only [Act.put, List.setIfInBounds_toArray, List.set_cons_zero, List.set_cons_succ, Nat.reduceAdd]
            repeat (first | (refine walk_pure (v := ?_) (fun _ => Below.refl _ _) (fun _ => rfl) ?_ ?_; rotate_left; (focus (intro us w9 hS9 hF; go_simp; (try with_reducible rfl); done)); simp only [Act.put, List.setIfInBounds_toArray, List.set_cons_zero, List.set_cons_succ, Nat.reduceAdd]) | (refine walk_skip (fun _ => Below.refl _ _) (fun _ => rfl) ?_; simp only [Act.put, List.setIfInBounds_toArray, List.set_cons_zero, List.set_cons_succ, Nat.reduceAdd]))
            refine walk_done fun us w4 hb4 hF => ?_
            clear hF
            have hb24 := below_next hb23 hb4
            have HB4 := Lib.hid (HB.out.below hb24)
            have C2 := Lib.hid (bytes01 B nb cb (encL ls) at_ ((n4 : Int) - 1) w4 HB4.out hcb (by omega) (by omega) (by omega) (by omega) (by omega))
            clear hi33 hcell3 hb4 hb23 hi4
            rcases Nat.eq_zero_or_pos n4 with h0 | h0
            · have C2 := Lib.hid (by have h := C2.out; unfold BPost at h; rw [F3.out h0] at h; exact h)
              subst h0
              go_wp2_with fail
              refine C2.out.mono ?_
              rintro e w5 ⟨A5, n5, c5, rfl, hi5, hb5⟩
              have hb25 := below_next hb24 hb5
              clear hi5 hb5 C2
              go_wp2
              exact ⟨⟨t + 1, na, by omega, by go_num, rfl, hnb, HN, hb25⟩, by simp [intOf]; omega⟩
            · have C2 := Lib.hid (by have h := C2.out; unfold BPost at h; rw [F2.out h0] at h; exact h)
              go_wp2_with fail
              refine C2.out.mono ?_
              rintro e w5 ⟨A5, n5, c5, rfl, hi5, hb5⟩
              have hb25 := below_next hb24 hb5
              clear hi5 hb5 C2
              go_wp2
              exact ⟨⟨t + 1, na, by omega, by go_num, rfl, hnb, HN, hb25⟩, by simp [intOf]; omega⟩
          · obtain rfl : t = k := by omega
            have e : ls.take t = ls := List.take_of_length_le (by have := hl.out; omega)
            rw [e] at HA
            obtain rfl : at_ = nb := by rw [HA.out, HL.out]
            go_wp2_with (go_at_call 13; refine (awake01 _).mono ?_; rintro e w1 ⟨rfl, hb1⟩)
            go_ret
            exact ⟨rfl, below_next (below_next hb hb2) hb1⟩
theorem walk_seq (W : World) (a : Option Addr) (len cap : Nat) (A : Nat → Option Addr) (L C : Nat → Nat) (Z : Nat → List Int) (h : IsRows .u8 W a len cap A L C Z) :
    Calls Try.prog 11 #[.slice a len cap] W (True1 W) := by
  obtain ⟨ls, hM, hn⟩ := h.isM
  exact law_seq a len cap ls W hM hn
end Go.Proofs.Ytajkhijphdnbpaa
