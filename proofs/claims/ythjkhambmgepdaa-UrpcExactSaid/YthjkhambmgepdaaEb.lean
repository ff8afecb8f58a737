/- urpc's reference: EncodeRemote, DecodeRemote. -/
import Derived.Test.YthjkhambmgepdaaEa
namespace Go.Proofs.Ythjkhambmgepdaa
open Go.RowKit
set_option linter.unusedVariables false
set_option linter.unusedSimpArgs false
theorem uvGo_err : ∀ (l : List UInt8) (n v o : Nat), (uvGo l n v o).2.2 ≠ 0 → (uvGo l n v o).2.1 = 0
  | [], _, _, _, h => rfl
  | x :: r, n, v, o, h => by
    unfold uvGo at h ⊢
    split
    · rfl
    · rename_i h1
      rw [if_neg h1] at h
      split
      · rfl
      · rename_i h2
        rw [if_neg h2] at h
        split
        · rename_i h3
          rw [if_pos h3] at h
          exact absurd rfl h
        · rename_i h3
          rw [if_neg h3] at h
          exact uvGo_err r (n + 1) _ _ h
theorem uvR_le (bs : List UInt8) (off : Int) : (uvR bs off).2.1 ≤ bs.length := by
  by_cases h : (uvR bs off).2.2 = 0
  · exact (uvR_next h).2.2
  · unfold uvR at h ⊢
    split
    · exact Nat.zero_le _
    · rename_i h1
      rw [if_neg h1] at h
      rw [uvGo_err _ _ _ _ h]
      exact Nat.zero_le _
theorem uvr_is {bs : List UInt8} {off : Int} {v a e : Nat} (h : uvR bs off = (v, a, e)) {A : Option Addr} {n c : Nat} {w : World} (hA : IsB w A n bs) (hn : n ≤ 1000000) (b0 : 0 ≤ off) (b1 : off ≤ 1000000) :
    Calls Try.prog 131 #[.slice A n c, .int .i64 off] w (fun en w' => en = .returned (.tuple #[.int .u64 (v : Int), .int .i64 (a : Int), .int .i64 (e : Int)]) ∧ w' = w) := by
  refine (uvarint_ref A n c bs off w hA (by omega) (by omega) (by omega)).mono ?_
  rintro en w' ⟨h1, h2⟩
  rw [h] at h1
  exact ⟨h1, h2⟩
theorem bytes_at {bs ps : List UInt8} {off : Int} {a e : Nat} (h : bR bs off 65536 = (ps, a, e)) {A : Option Addr} {n c : Nat} {w : World} (hA : IsB w A n bs) (hc : n ≤ c) (hn : n ≤ 1000000) (b0 : 0 ≤ off) (b1 : off ≤ 1000000) :
    Calls Try.prog 132 #[.slice A n c, .int .i64 off, .int .i64 65536] w (fun en w' => ∃ A' c', en = .returned (.tuple #[.slice A' ps.length c', .int .i64 (a : Int), .int .i64 (e : Int)]) ∧ OwnB w' w.heap.size 5 A' ps.length c' ps ∧ Below w.heap.size w w') := by
  refine (bytes_ref A n c bs off 65536 w hA hc hn (by omega) (by omega) (by omega) (by omega)).mono ?_
  rintro en w' ⟨A', n', c', h1, h2, h3⟩
  rw [h] at h1 h2
  obtain rfl := OwnB.len h2
  exact ⟨A', c', h1, h2, h3⟩
def EncRP (m : RM) (W : World) (en : Ending) (W' : World) : Prop := Below W.heap.size W W' ∧ ((m.ok = false ∧ en = .returned (.tuple #[.slice none 0 0, .int .i64 1])) ∨ (m.ok = true ∧ ∃ A l c, en = .returned (.tuple #[.slice A l c, .int .i64 0]) ∧ IsB W' A l m.by))
theorem uvo_is (A : Option Addr) (n c : Nat) (bs : List UInt8) (v : Nat) (w : World) (hA : IsB w A n bs) (hn : n ≤ 1000000) (hv : v < 18446744073709551616) : Calls Try.prog 129 #[.slice A n c, .int .u64 (v : Int)] w (GivesB w (bs ++ uB v)) := append_uvref A n c bs v (sz v) w hA hn hv (sz_grp v)
theorem uvo_as {x : Int} {v : Nat} (hx : x = (v : Int)) (A : Option Addr) (n c : Nat) (bs : List UInt8) (w : World) (hA : IsB w A n bs) (hn : n ≤ 1000000) (hv : v < 18446744073709551616) : Calls Try.prog 129 #[.slice A n c, .int .u64 x] w (GivesB w (bs ++ uB v)) := by
  subst hx
  exact uvo_is A n c bs v w hA hn hv
theorem abo_is (A : Option Addr) (n c : Nat) (bs : List UInt8) (B : Option Addr) (d : Nat) (ps : List UInt8) (w : World) (hA : IsB w A n bs) (hn : n ≤ 1000000) (hB : IsB w B ps.length ps) (hm : ps.length ≤ 1000000) : Calls Try.prog 130 #[.slice A n c, .slice B ps.length d] w (GivesB w (bs ++ (uB ps.length ++ ps))) := append_bytes_ref A n c bs B ps.length d ps (sz ps.length) w hA hn hB hm (sz_grp _)
set_option maxRecDepth 100000 in
set_option maxHeartbeats 8000000 in
theorem encR_bad (m : RM) (A : Option Addr) (c : Nat) (W : World) (hv : m.ok = false) : Calls Try.prog 84 #[.agg (RMV m A c)] W (EncRP m W) := by
  have HV := Lib.hid hv
  clear hv
  have hB1 := (Below.refl W.heap.size W).alloc (Nat.le_refl _) (.cells (RMV m A c) 97)
  have r1 := Row.born W 97 (RMV m A c)
  have hl1 := r1.lt
  go_enter Try.func84, Try.ntmps84
  go_upto_region 1 with (fail)
  generalize W.alloc (.cells (RMV m A c) 97) = w1 at *
  go_wp2_with (first | ((with_reducible refine wp_load_g ?_ r1.range Try.underlying97 rfl (rmv_info _ _ _) ?_ ?_); rfl; rfl) | (go_at_call 66; (with_reducible refine (valid_rm m A c _).mono ?_); rintro en w2 ⟨rfl, hb2⟩; rw [HV.out]))
  refine bodyPost_ret (v := .tuple #[.slice none 0 0, .int .i64 1]) (by simp [results, Try.results84, go_sem]) rfl ?_
  exact ⟨hB1.trans (hb2.mono hB1.size), .inl ⟨HV.out, rfl⟩⟩
set_option maxRecDepth 100000 in
set_option maxHeartbeats 8000000 in
theorem encR_q (m : RM) (A : Option Addr) (c : Nat) (W : World) (hv : m.ok = true) (hk : m.k = 1) (hA : IsB W A m.b.length m.b) : Calls Try.prog 84 #[.agg (RMV m A c)] W (EncRP m W) := by
  have HV := Lib.hid hv
  have hok := RM.ok_iff.1 hv
  have hkk := hok.k
  have hn0 := hok.n0
  have hn1 := hok.n1
  have hdd := hok.d
  have hb0 := hok.b
  have hdv : m.d = m.s := by unfold RM.d; rw [if_pos hk]
  have dk : (m.k == 1) = true := et hk
  obtain ⟨Kx, hK⟩ : ∃ Kx : Nat, m.k.toNat = Kx := ⟨_, rfl⟩
  obtain ⟨X, hX⟩ : ∃ X : Nat, m.n.toNat = X := ⟨_, rfl⟩
  obtain ⟨Y, hY⟩ : ∃ Y : Nat, m.d.toNat = Y := ⟨_, rfl⟩
  have HBY := Lib.hid (show m.by = uB Kx ++ (uB X ++ (uB Y ++ (uB m.b.length ++ m.b))) by unfold RM.by; rw [hK, hX, hY])
  have HKK := Lib.hid (show IntKind.u64.wrap m.k = (Kx : Int) by rw [IntKind.wrap_u64]; omega)
  have HNN := Lib.hid (show IntKind.u64.wrap m.n = (X : Int) by rw [IntKind.wrap_u64]; omega)
  have HYY := Lib.hid (show IntKind.u64.wrap m.s = (Y : Int) by rw [IntKind.wrap_u64]; omega)
  have HK64 := Lib.hid (show Kx < 18446744073709551616 by omega)
  have HN64 := Lib.hid (show X < 18446744073709551616 by omega)
  have HY64 := Lib.hid (show Y < 18446744073709551616 by omega)
  have lK := uB_small Kx HK64.out
  have lX := uB_small X HN64.out
  have lY := uB_small Y HY64.out
  clear hv hok hkk hdd hdv hK hX hY hk
  have hB1 := (Below.refl W.heap.size W).alloc (Nat.le_refl _) (.cells (RMV m A c) 97)
  have r1 := Row.born W 97 (RMV m A c)
  have hl1 := r1.lt
  go_enter Try.func84, Try.ntmps84
  go_upto_region 1 with (fail)
  generalize W.alloc (.cells (RMV m A c) 97) = w1 at *
  go_upto_region 3 with (first | ((with_reducible refine wp_load_g ?_ r1.range Try.underlying97 rfl (rmv_info _ _ _) ?_ ?_); rfl; rfl) | (go_at_call 66; (with_reducible refine (valid_rm m A c _).mono ?_); rintro en w2 ⟨rfl, hb2⟩; rw [HV.out]))
  have r1 := r1.below hb2 hl1
  have hB2 := hB1.trans (hb2.mono hB1.size)
  have r1d : Row w2.drew W.heap.size 97 (RMV m A c) := r1
  have hl2 : W.heap.size < w2.drew.heap.size := r1.lt
  have c0 : w2.drew.cell? ⟨W.heap.size, 0, none⟩ = some (.int .i64 m.k) := r1.cell 0
  have c1 : w2.drew.cell? ⟨W.heap.size, 1, none⟩ = some (.int .i64 m.n) := r1.cell 1
  have hBd := hB2.drew
  clear hB1 hb2 hl1 r1 hB2
  refine wp_region_told (n := 33) (fun w' => Below w2.drew.heap.size w2.drew w') (fun w w' => Below w.heap.size w w') (by kernel_rfl) (by kernel_rfl) (by rfl) (Below.refl _ _) ?_
  generalize w2.drew = wd at *
  refine walk_pure (v := ?_) (fun w => Below.refl _ w) (fun _ => rfl) ?_ ?_; rotate_left; (focus (intro us w9 hS9 hF; clear hF; have b0 := (hS9.cell (p := ⟨W.heap.size, 0, none⟩) hl2).trans c0; have b1 := (hS9.cell (p := ⟨W.heap.size, 1, none⟩) hl2).trans c1; go_simp; (try with_reducible rfl); done)); simp only [Act.put, List.setIfInBounds_toArray, List.set_cons_zero, List.set_cons_succ, Nat.reduceAdd]
  refine walk_pure (v := ?_) (fun w => Below.refl _ w) (fun _ => rfl) ?_ ?_; rotate_left; (focus (intro us w9 hS9 hF; clear hF; have b0 := (hS9.cell (p := ⟨W.heap.size, 0, none⟩) hl2).trans c0; have b1 := (hS9.cell (p := ⟨W.heap.size, 1, none⟩) hl2).trans c1; go_simp; (try with_reducible rfl); done)); simp only [Act.put, List.setIfInBounds_toArray, List.set_cons_zero, List.set_cons_succ, Nat.reduceAdd]
  refine walk_pure (v := ?_) (fun w => Below.refl _ w) (fun _ => rfl) ?_ ?_; rotate_left; (focus (intro us w9 hS9 hF; clear hF; have b0 := (hS9.cell (p := ⟨W.heap.size, 0, none⟩) hl2).trans c0; have b1 := (hS9.cell (p := ⟨W.heap.size, 1, none⟩) hl2).trans c1; go_simp; (try with_reducible rfl); done)); simp only [Act.put, List.setIfInBounds_toArray, List.set_cons_zero, List.set_cons_succ, Nat.reduceAdd]
  refine walk_free (fun u w' => ∃ A' n' c', u = .slice A' n' c' ∧ IsB w' A' n' (uB Kx)) (fun u x y hg ⟨A', n', c', e, h⟩ => ⟨A', n', c', e, h.below hg⟩) ?_ ?_; (focus (intro us w9 hS9 hF K hK; clear hF; go_simp; refine (uvo_as HKK.out none 0 0 [] _ (IsB.nil _ _) (by omega) HK64.out).mono ?_; rintro e w' ⟨A', n', c', rfl, hI, hb⟩; exact hK _ w' (below_on hS9 hb) hb ⟨A', n', c', rfl, hI⟩)); simp only [Act.put, List.setIfInBounds_toArray, List.set_cons_zero, List.set_cons_succ, Nat.reduceAdd]
  refine walk_pure (v := ?_) (fun w => Below.refl _ w) (fun _ => rfl) ?_ ?_; rotate_left; (focus (intro us w9 hS9 hF; clear hF; have b0 := (hS9.cell (p := ⟨W.heap.size, 0, none⟩) hl2).trans c0; have b1 := (hS9.cell (p := ⟨W.heap.size, 1, none⟩) hl2).trans c1; go_simp; (try with_reducible rfl); done)); simp only [Act.put, List.setIfInBounds_toArray, List.set_cons_zero, List.set_cons_succ, Nat.reduceAdd]
  refine walk_pure (v := ?_) (fun w => Below.refl _ w) (fun _ => rfl) ?_ ?_; rotate_left; (focus (intro us w9 hS9 hF; clear hF; have b0 := (hS9.cell (p := ⟨W.heap.size, 0, none⟩) hl2).trans c0; have b1 := (hS9.cell (p := ⟨W.heap.size, 1, none⟩) hl2).trans c1; go_simp; (try with_reducible rfl); done)); simp only [Act.put, List.setIfInBounds_toArray, List.set_cons_zero, List.set_cons_succ, Nat.reduceAdd]
  refine walk_pure (v := ?_) (fun w => Below.refl _ w) (fun _ => rfl) ?_ ?_; rotate_left; (focus (intro us w9 hS9 hF; clear hF; have b0 := (hS9.cell (p := ⟨W.heap.size, 0, none⟩) hl2).trans c0; have b1 := (hS9.cell (p := ⟨W.heap.size, 1, none⟩) hl2).trans c1; go_simp; (try with_reducible rfl); done)); simp only [Act.put, List.setIfInBounds_toArray, List.set_cons_zero, List.set_cons_succ, Nat.reduceAdd]
  refine walk_free (fun u w' => ∃ A' n' c', u = .slice A' n' c' ∧ IsB w' A' n' (uB Kx ++ uB X)) (fun u x y hg ⟨A', n', c', e, h⟩ => ⟨A', n', c', e, h.below hg⟩) ?_ ?_; (focus (intro us w9 hS9 hF K hK; obtain ⟨A', n', c', hu, hI⟩ := hF (3, fun u w' => ∃ A' n' c', u = .slice A' n' c' ∧ IsB w' A' n' (uB Kx)) (by simp) (by kernel_rfl); clear hF; dsimp only at hu; simp only [hu] at hK ⊢; go_simp; refine (uvo_as HNN.out A' n' c' _ _ hI (by have := hI.1; omega) HN64.out).mono ?_; rintro e w' ⟨A2, n2, c2, rfl, hI2, hb⟩; exact hK _ w' (below_on hS9 hb) hb ⟨A2, n2, c2, rfl, hI2⟩)); simp only [Act.put, List.setIfInBounds_toArray, List.set_cons_zero, List.set_cons_succ, Nat.reduceAdd]
  refine walk_free (fun u w' => ∃ A' n' c', u = .slice A' n' c' ∧ IsB w' A' n' (uB Kx ++ uB X)) (fun u x y hg ⟨A', n', c', e, h⟩ => ⟨A', n', c', e, h.below hg⟩) ?_ ?_; (focus (intro us w9 hS9 hF K hK; obtain ⟨A', n', c', hu, hI⟩ := hF (7, fun u w' => ∃ A' n' c', u = .slice A' n' c' ∧ IsB w' A' n' (uB Kx ++ uB X)) (by simp) (by kernel_rfl); clear hF; dsimp only at hu; simp only [hu] at hK ⊢; go_simp; exact hK _ w9 hS9 (Below.refl _ _) ⟨A', n', c', rfl, hI⟩)); simp only [Act.put, List.setIfInBounds_toArray, List.set_cons_zero, List.set_cons_succ, Nat.reduceAdd]
  refine walk_done fun us w7 hS7 hF => ?_
  obtain ⟨A8, n8, c8, hu, hI8⟩ := hF (8, fun u w' => ∃ A' n' c', u = .slice A' n' c' ∧ IsB w' A' n' (uB Kx ++ uB X)) (by simp)
  clear hF
  dsimp only at hu
  simp only [hu]
  clear hu
  have r1 := r1d.below hS7 hl2
  have hB7 := hBd.trans (hS7.mono hBd.size)
  have hA7 := hA.below hB7
  have c0 : w7.cell? ⟨W.heap.size, 0, none⟩ = some (.int .i64 m.k) := r1.cell 0
  have c1 : w7.cell? ⟨W.heap.size, 2, none⟩ = some (.int .i64 m.s) := r1.cell 2
  have hn8 : n8 ≤ 20 := by rw [hI8.1, List.length_append]; omega
  have hl7 := r1.lt
  clear r1d hBd hS7 hl2
  go_upto_region 7 with (go_at_call 129; (with_reducible refine (uvo_as HYY.out _ _ _ _ _ hI8 (by omega) HY64.out).mono ?_); rintro en w9 ⟨A9, n9, c9, rfl, hI9, hb9⟩)
  have r1 := r1.below hb9 hl7
  have hB9 := hB7.trans (hb9.mono hB7.size)
  have hA9 := hA7.below hb9
  have hn9 : n9 ≤ 30 := by rw [hI9.1, List.length_append, List.length_append]; omega
  have c4 : w9.cell? ⟨W.heap.size, 4, none⟩ = some (.slice A m.b.length c) := r1.cell 4
  clear c0 c1
  go_wp2_with (go_at_call 130; (with_reducible refine (abo_is _ _ _ _ _ _ _ _ hI9 (by omega) hA9 (by omega)).mono ?_); rintro en wa ⟨Aa, na, ca, rfl, hIa, hba⟩)
  refine bodyPost_ret (v := .tuple #[.slice Aa na ca, .int .i64 0]) (by simp [results, Try.results84, go_sem]) rfl ?_
  have e1 : (uB Kx ++ uB X ++ uB Y ++ (uB m.b.length ++ m.b)) = m.by := by rw [HBY.out]; simp only [List.append_assoc]
  rw [e1] at hIa
  exact ⟨hB9.trans (hba.mono hB9.size), .inr ⟨HV.out, Aa, na, ca, rfl, hIa⟩⟩
set_option maxRecDepth 100000 in
set_option maxHeartbeats 8000000 in
theorem encR_p (m : RM) (A : Option Addr) (c : Nat) (W : World) (hv : m.ok = true) (hk : m.k ≠ 1) (hA : IsB W A m.b.length m.b) : Calls Try.prog 84 #[.agg (RMV m A c)] W (EncRP m W) := by
  have HV := Lib.hid hv
  have hok := RM.ok_iff.1 hv
  have hkk := hok.k
  have hn0 := hok.n0
  have hn1 := hok.n1
  have hdd := hok.d
  have hb0 := hok.b
  have hdv : m.d = m.e := by unfold RM.d; rw [if_neg hk]
  have dk : (m.k == 1) = false := ef hk
  obtain ⟨Kx, hK⟩ : ∃ Kx : Nat, m.k.toNat = Kx := ⟨_, rfl⟩
  obtain ⟨X, hX⟩ : ∃ X : Nat, m.n.toNat = X := ⟨_, rfl⟩
  obtain ⟨Y, hY⟩ : ∃ Y : Nat, m.d.toNat = Y := ⟨_, rfl⟩
  have HBY := Lib.hid (show m.by = uB Kx ++ (uB X ++ (uB Y ++ (uB m.b.length ++ m.b))) by unfold RM.by; rw [hK, hX, hY])
  have HKK := Lib.hid (show IntKind.u64.wrap m.k = (Kx : Int) by rw [IntKind.wrap_u64]; omega)
  have HNN := Lib.hid (show IntKind.u64.wrap m.n = (X : Int) by rw [IntKind.wrap_u64]; omega)
  have HYY := Lib.hid (show IntKind.u64.wrap m.e = (Y : Int) by rw [IntKind.wrap_u64]; omega)
  have HK64 := Lib.hid (show Kx < 18446744073709551616 by omega)
  have HN64 := Lib.hid (show X < 18446744073709551616 by omega)
  have HY64 := Lib.hid (show Y < 18446744073709551616 by omega)
  have lK := uB_small Kx HK64.out
  have lX := uB_small X HN64.out
  have lY := uB_small Y HY64.out
  clear hv hok hkk hdd hdv hK hX hY hk
  have hB1 := (Below.refl W.heap.size W).alloc (Nat.le_refl _) (.cells (RMV m A c) 97)
  have r1 := Row.born W 97 (RMV m A c)
  have hl1 := r1.lt
  go_enter Try.func84, Try.ntmps84
  go_upto_region 1 with (fail)
  generalize W.alloc (.cells (RMV m A c) 97) = w1 at *
  go_upto_region 3 with (first | ((with_reducible refine wp_load_g ?_ r1.range Try.underlying97 rfl (rmv_info _ _ _) ?_ ?_); rfl; rfl) | (go_at_call 66; (with_reducible refine (valid_rm m A c _).mono ?_); rintro en w2 ⟨rfl, hb2⟩; rw [HV.out]))
  have r1 := r1.below hb2 hl1
  have hB2 := hB1.trans (hb2.mono hB1.size)
  have r1d : Row w2.drew W.heap.size 97 (RMV m A c) := r1
  have hl2 : W.heap.size < w2.drew.heap.size := r1.lt
  have c0 : w2.drew.cell? ⟨W.heap.size, 0, none⟩ = some (.int .i64 m.k) := r1.cell 0
  have c1 : w2.drew.cell? ⟨W.heap.size, 1, none⟩ = some (.int .i64 m.n) := r1.cell 1
  have hBd := hB2.drew
  clear hB1 hb2 hl1 r1 hB2
  refine wp_region_told (n := 33) (fun w' => Below w2.drew.heap.size w2.drew w') (fun w w' => Below w.heap.size w w') (by kernel_rfl) (by kernel_rfl) (by rfl) (Below.refl _ _) ?_
  generalize w2.drew = wd at *
  refine walk_pure (v := ?_) (fun w => Below.refl _ w) (fun _ => rfl) ?_ ?_; rotate_left; (focus (intro us w9 hS9 hF; clear hF; have b0 := (hS9.cell (p := ⟨W.heap.size, 0, none⟩) hl2).trans c0; have b1 := (hS9.cell (p := ⟨W.heap.size, 1, none⟩) hl2).trans c1; go_simp; (try with_reducible rfl); done)); simp only [Act.put, List.setIfInBounds_toArray, List.set_cons_zero, List.set_cons_succ, Nat.reduceAdd]
  refine walk_pure (v := ?_) (fun w => Below.refl _ w) (fun _ => rfl) ?_ ?_; rotate_left; (focus (intro us w9 hS9 hF; clear hF; have b0 := (hS9.cell (p := ⟨W.heap.size, 0, none⟩) hl2).trans c0; have b1 := (hS9.cell (p := ⟨W.heap.size, 1, none⟩) hl2).trans c1; go_simp; (try with_reducible rfl); done)); simp only [Act.put, List.setIfInBounds_toArray, List.set_cons_zero, List.set_cons_succ, Nat.reduceAdd]
  refine walk_pure (v := ?_) (fun w => Below.refl _ w) (fun _ => rfl) ?_ ?_; rotate_left; (focus (intro us w9 hS9 hF; clear hF; have b0 := (hS9.cell (p := ⟨W.heap.size, 0, none⟩) hl2).trans c0; have b1 := (hS9.cell (p := ⟨W.heap.size, 1, none⟩) hl2).trans c1; go_simp; (try with_reducible rfl); done)); simp only [Act.put, List.setIfInBounds_toArray, List.set_cons_zero, List.set_cons_succ, Nat.reduceAdd]
  refine walk_free (fun u w' => ∃ A' n' c', u = .slice A' n' c' ∧ IsB w' A' n' (uB Kx)) (fun u x y hg ⟨A', n', c', e, h⟩ => ⟨A', n', c', e, h.below hg⟩) ?_ ?_; (focus (intro us w9 hS9 hF K hK; clear hF; go_simp; refine (uvo_as HKK.out none 0 0 [] _ (IsB.nil _ _) (by omega) HK64.out).mono ?_; rintro e w' ⟨A', n', c', rfl, hI, hb⟩; exact hK _ w' (below_on hS9 hb) hb ⟨A', n', c', rfl, hI⟩)); simp only [Act.put, List.setIfInBounds_toArray, List.set_cons_zero, List.set_cons_succ, Nat.reduceAdd]
  refine walk_pure (v := ?_) (fun w => Below.refl _ w) (fun _ => rfl) ?_ ?_; rotate_left; (focus (intro us w9 hS9 hF; clear hF; have b0 := (hS9.cell (p := ⟨W.heap.size, 0, none⟩) hl2).trans c0; have b1 := (hS9.cell (p := ⟨W.heap.size, 1, none⟩) hl2).trans c1; go_simp; (try with_reducible rfl); done)); simp only [Act.put, List.setIfInBounds_toArray, List.set_cons_zero, List.set_cons_succ, Nat.reduceAdd]
  refine walk_pure (v := ?_) (fun w => Below.refl _ w) (fun _ => rfl) ?_ ?_; rotate_left; (focus (intro us w9 hS9 hF; clear hF; have b0 := (hS9.cell (p := ⟨W.heap.size, 0, none⟩) hl2).trans c0; have b1 := (hS9.cell (p := ⟨W.heap.size, 1, none⟩) hl2).trans c1; go_simp; (try with_reducible rfl); done)); simp only [Act.put, List.setIfInBounds_toArray, List.set_cons_zero, List.set_cons_succ, Nat.reduceAdd]
  refine walk_pure (v := ?_) (fun w => Below.refl _ w) (fun _ => rfl) ?_ ?_; rotate_left; (focus (intro us w9 hS9 hF; clear hF; have b0 := (hS9.cell (p := ⟨W.heap.size, 0, none⟩) hl2).trans c0; have b1 := (hS9.cell (p := ⟨W.heap.size, 1, none⟩) hl2).trans c1; go_simp; (try with_reducible rfl); done)); simp only [Act.put, List.setIfInBounds_toArray, List.set_cons_zero, List.set_cons_succ, Nat.reduceAdd]
  refine walk_free (fun u w' => ∃ A' n' c', u = .slice A' n' c' ∧ IsB w' A' n' (uB Kx ++ uB X)) (fun u x y hg ⟨A', n', c', e, h⟩ => ⟨A', n', c', e, h.below hg⟩) ?_ ?_; (focus (intro us w9 hS9 hF K hK; obtain ⟨A', n', c', hu, hI⟩ := hF (3, fun u w' => ∃ A' n' c', u = .slice A' n' c' ∧ IsB w' A' n' (uB Kx)) (by simp) (by kernel_rfl); clear hF; dsimp only at hu; simp only [hu] at hK ⊢; go_simp; refine (uvo_as HNN.out A' n' c' _ _ hI (by have := hI.1; omega) HN64.out).mono ?_; rintro e w' ⟨A2, n2, c2, rfl, hI2, hb⟩; exact hK _ w' (below_on hS9 hb) hb ⟨A2, n2, c2, rfl, hI2⟩)); simp only [Act.put, List.setIfInBounds_toArray, List.set_cons_zero, List.set_cons_succ, Nat.reduceAdd]
  refine walk_free (fun u w' => ∃ A' n' c', u = .slice A' n' c' ∧ IsB w' A' n' (uB Kx ++ uB X)) (fun u x y hg ⟨A', n', c', e, h⟩ => ⟨A', n', c', e, h.below hg⟩) ?_ ?_; (focus (intro us w9 hS9 hF K hK; obtain ⟨A', n', c', hu, hI⟩ := hF (7, fun u w' => ∃ A' n' c', u = .slice A' n' c' ∧ IsB w' A' n' (uB Kx ++ uB X)) (by simp) (by kernel_rfl); clear hF; dsimp only at hu; simp only [hu] at hK ⊢; go_simp; exact hK _ w9 hS9 (Below.refl _ _) ⟨A', n', c', rfl, hI⟩)); simp only [Act.put, List.setIfInBounds_toArray, List.set_cons_zero, List.set_cons_succ, Nat.reduceAdd]
  refine walk_done fun us w7 hS7 hF => ?_
  obtain ⟨A8, n8, c8, hu, hI8⟩ := hF (8, fun u w' => ∃ A' n' c', u = .slice A' n' c' ∧ IsB w' A' n' (uB Kx ++ uB X)) (by simp)
  clear hF
  dsimp only at hu
  simp only [hu]
  clear hu
  have r1 := r1d.below hS7 hl2
  have hB7 := hBd.trans (hS7.mono hBd.size)
  have hA7 := hA.below hB7
  have c0 : w7.cell? ⟨W.heap.size, 0, none⟩ = some (.int .i64 m.k) := r1.cell 0
  have c1 : w7.cell? ⟨W.heap.size, 3, none⟩ = some (.int .i64 m.e) := r1.cell 3
  have hn8 : n8 ≤ 20 := by rw [hI8.1, List.length_append]; omega
  have hl7 := r1.lt
  clear r1d hBd hS7 hl2
  go_upto_region 7 with (go_at_call 129; (with_reducible refine (uvo_as HYY.out _ _ _ _ _ hI8 (by omega) HY64.out).mono ?_); rintro en w9 ⟨A9, n9, c9, rfl, hI9, hb9⟩)
  have r1 := r1.below hb9 hl7
  have hB9 := hB7.trans (hb9.mono hB7.size)
  have hA9 := hA7.below hb9
  have hn9 : n9 ≤ 30 := by rw [hI9.1, List.length_append, List.length_append]; omega
  have c4 : w9.cell? ⟨W.heap.size, 4, none⟩ = some (.slice A m.b.length c) := r1.cell 4
  clear c0 c1
  go_wp2_with (go_at_call 130; (with_reducible refine (abo_is _ _ _ _ _ _ _ _ hI9 (by omega) hA9 (by omega)).mono ?_); rintro en wa ⟨Aa, na, ca, rfl, hIa, hba⟩)
  refine bodyPost_ret (v := .tuple #[.slice Aa na ca, .int .i64 0]) (by simp [results, Try.results84, go_sem]) rfl ?_
  have e1 : (uB Kx ++ uB X ++ uB Y ++ (uB m.b.length ++ m.b)) = m.by := by rw [HBY.out]; simp only [List.append_assoc]
  rw [e1] at hIa
  exact ⟨hB9.trans (hba.mono hB9.size), .inr ⟨HV.out, Aa, na, ca, rfl, hIa⟩⟩
theorem encodeR (m : RM) (A : Option Addr) (c : Nat) (W : World) (hA : IsB W A m.b.length m.b) : Calls Try.prog 84 #[.agg (RMV m A c)] W (EncRP m W) := by
  cases hv : m.ok
  · exact encR_bad m A c W hv
  · by_cases hk : m.k = 1
    · exact encR_q m A c W hv hk hA
    · exact encR_p m A c W hv hk hA
theorem dOk_split (bs : List UInt8) : dOk bs = true ↔ ((dK bs).2.2 = 0 ∧ (dK bs).1 ≤ 1099511627776) ∧ ((dN bs).2.2 = 0 ∧ (dN bs).1 ≤ 1099511627776) ∧ ((dT bs).2.2 = 0 ∧ (dT bs).1 ≤ 1099511627776) ∧ (dB bs).2.2 = 0 ∧ (dB bs).2.1 = bs.length ∧ (dM bs).ok = true := by
  unfold dOk dO
  simp only [Bool.and_eq_true, decide_eq_true_eq]
theorem dOk_not {bs : List UInt8} (h : ¬ dOk bs = true) : dOk bs = false := by cases h2 : dOk bs <;> simp_all
theorem dM_big {bs : List UInt8} (h : 2 < (dK bs).1 ∨ 65535 < (dT bs).1) : ¬ (dM bs).ok = true := by
  intro h2
  have := (RM.ok_iff.1 h2).c
  unfold dM at this
  simp only at this
  split at this <;> omega
/-- The reference's message. -/
def dR (bs : List UInt8) : RM := ⟨(dK bs).1, (dN bs).1, if (dK bs).1 = 1 then (dT bs).1 else 0, if (dK bs).1 = 1 then 0 else (dT bs).1, (dB bs).1⟩
theorem dR_is {bs : List UInt8} : (dR bs).ok = true → dR bs = dM bs := by
  intro h
  have := (RM.ok_iff.1 h).c
  unfold dR dM at *
  simp only at this
  rcases Nat.lt_trichotomy (dK bs).1 1 with h1 | h1 | h1
  · omega
  · rw [if_pos h1, if_pos h1, if_neg (by omega), if_neg (by omega)]
  · by_cases h2 : (dK bs).1 = 2
    · rw [if_neg (by omega), if_neg (by omega), if_pos h2, if_pos h2]
    · omega
theorem dM_is {bs : List UInt8} : (dM bs).ok = true → dR bs = dM bs := by
  intro h
  have := (RM.ok_iff.1 h).c
  unfold dR dM at *
  simp only at this
  rcases Nat.lt_trichotomy (dK bs).1 1 with h1 | h1 | h1
  · rw [if_neg (by omega)] at this; omega
  · rw [if_pos h1, if_pos h1, if_neg (by omega), if_neg (by omega)]
  · by_cases h2 : (dK bs).1 = 2
    · rw [if_neg (by omega), if_neg (by omega), if_pos h2, if_pos h2]
    · rw [if_neg h2] at this; omega
set_option maxRecDepth 100000 in
set_option maxHeartbeats 8000000 in
theorem decR_0 (bs : List UInt8) (A : Option Addr) (n c : Nat) (W : World) (hA : IsB W A n bs) (hn : n ≤ 1000000) (hc : n ≤ c) {vk ak ek vn an en_ vt at_ eT ab eb : Nat} {ps : List UInt8} (hK : dK bs = (vk, ak, ek)) (hN : dN bs = (vn, an, en_)) (hT : dT bs = (vt, at_, eT)) (hB : dB bs = (ps, ab, eb)) (h : ek ≠ 0) : Calls Try.prog 85 #[.slice A n c] W (DecP bs W) := by
  have hlen := hA.1
  have ha1 : ak ≤ 1000000 := by have := uvR_le bs 0; have h2 : (dK bs).2.1 ≤ bs.length := this; rw [hK] at h2; have h3 : ak ≤ bs.length := h2; omega
  have ha2 : an ≤ 1000000 := by have h2 : (dN bs).2.1 ≤ bs.length := uvR_le bs _; rw [hN] at h2; have h3 : an ≤ bs.length := h2; omega
  have ha3 : at_ ≤ 1000000 := by have h2 : (dT bs).2.1 ≤ bs.length := uvR_le bs _; rw [hT] at h2; have h3 : at_ ≤ bs.length := h2; omega
  have HK := Lib.hid (show uvR bs 0 = (vk, ak, ek) from hK)
  have HN := Lib.hid (show uvR bs (ak : Int) = (vn, an, en_) by unfold dN at hN; rw [hK] at hN; exact hN)
  have HT := Lib.hid (show uvR bs (an : Int) = (vt, at_, eT) by unfold dT at hT; rw [hN] at hT; exact hT)
  have HB := Lib.hid (show bR bs (at_ : Int) 65536 = (ps, ab, eb) by unfold dB at hB; rw [hT] at hB; exact hB)
  have HLN := Lib.hid hlen
  have HX := Lib.hid (show dOk bs = false from dOk_not fun h0 => by
    have h1 := (dOk_split bs).1 h0
    rw [hK, hN, hT, hB] at h1; simp only at h1; omega)
  have f0 : (((ek : Nat) : Int) != 0) = true := nt (by omega)
  clear h hK hN hT hB hlen
  have hB1 := (Below.refl W.heap.size W).alloc (Nat.le_refl _) (.cells ZRm 97)
  have r2 := Row.born W 97 ZRm
  have hA1 := hA.below hB1
  go_enter Try.func85, Try.ntmps85
  go_upto_region 1 with (fail)
  change Code.wp _ _ _ _ (W.alloc (.cells ZRm 97))
  generalize W.alloc (.cells ZRm 97) = w1 at *
  have hl1 := r2.lt
  go_upto_region 5 with (first | (go_at_call 131; (with_reducible refine (uvr_is HK.out hA1 hn (by omega) (by omega)).mono ?_); rintro en w' ⟨rfl, h9⟩; rw [h9]; clear h9) | (go_at_call 131; (with_reducible refine (uvr_is HN.out hA1 hn (by omega) (by omega)).mono ?_); rintro en w' ⟨rfl, h9⟩; rw [h9]; clear h9) | (go_at_call 131; (with_reducible refine (uvr_is HT.out hA1 hn (by omega) (by omega)).mono ?_); rintro en w' ⟨rfl, h9⟩; rw [h9]; clear h9) | (go_at_call 132; (with_reducible refine (bytes_at HB.out hA1 hc hn (by omega) (by omega)).mono ?_); rintro en w2 ⟨A5, c5, rfl, ho5, hb5⟩))
  have r2 := r2.below hb5 hl1
  have hB2 := hB1.trans (hb5.mono hB1.size)
  go_wp2_with ((with_reducible refine wp_row_store (L := ZRm) r2 rfl zrm_info zrm_one ?_ ?_ ?_); rfl; rfl; intro w9 u9 r9)
  refine bodyPost_ret (results_ct rfl rfl r9 Try.underlying97 rfl zrm_info) rfl ?_
  exact dec_no (Upd.below hB2 u9 (Nat.le_refl _)) HX.out
set_option maxRecDepth 100000 in
set_option maxHeartbeats 8000000 in
theorem decR_1 (bs : List UInt8) (A : Option Addr) (n c : Nat) (W : World) (hA : IsB W A n bs) (hn : n ≤ 1000000) (hc : n ≤ c) {vk ak ek vn an en_ vt at_ eT ab eb : Nat} {ps : List UInt8} (hK : dK bs = (vk, ak, ek)) (hN : dN bs = (vn, an, en_)) (hT : dT bs = (vt, at_, eT)) (hB : dB bs = (ps, ab, eb)) (h : ek = 0 ∧ en_ ≠ 0) : Calls Try.prog 85 #[.slice A n c] W (DecP bs W) := by
  have hlen := hA.1
  have ha1 : ak ≤ 1000000 := by have := uvR_le bs 0; have h2 : (dK bs).2.1 ≤ bs.length := this; rw [hK] at h2; have h3 : ak ≤ bs.length := h2; omega
  have ha2 : an ≤ 1000000 := by have h2 : (dN bs).2.1 ≤ bs.length := uvR_le bs _; rw [hN] at h2; have h3 : an ≤ bs.length := h2; omega
  have ha3 : at_ ≤ 1000000 := by have h2 : (dT bs).2.1 ≤ bs.length := uvR_le bs _; rw [hT] at h2; have h3 : at_ ≤ bs.length := h2; omega
  have HK := Lib.hid (show uvR bs 0 = (vk, ak, ek) from hK)
  have HN := Lib.hid (show uvR bs (ak : Int) = (vn, an, en_) by unfold dN at hN; rw [hK] at hN; exact hN)
  have HT := Lib.hid (show uvR bs (an : Int) = (vt, at_, eT) by unfold dT at hT; rw [hN] at hT; exact hT)
  have HB := Lib.hid (show bR bs (at_ : Int) 65536 = (ps, ab, eb) by unfold dB at hB; rw [hT] at hB; exact hB)
  have HLN := Lib.hid hlen
  have HX := Lib.hid (show dOk bs = false from dOk_not fun h0 => by
    have h1 := (dOk_split bs).1 h0
    rw [hK, hN, hT, hB] at h1; simp only at h1; omega)
  have f0 : (((ek : Nat) : Int) != 0) = false := nf (by omega)
  have f1 : (((en_ : Nat) : Int) != 0) = true := nt (by omega)
  clear h hK hN hT hB hlen
  have hB1 := (Below.refl W.heap.size W).alloc (Nat.le_refl _) (.cells ZRm 97)
  have r2 := Row.born W 97 ZRm
  have hA1 := hA.below hB1
  go_enter Try.func85, Try.ntmps85
  go_upto_region 1 with (fail)
  change Code.wp _ _ _ _ (W.alloc (.cells ZRm 97))
  generalize W.alloc (.cells ZRm 97) = w1 at *
  have hl1 := r2.lt
  go_upto_region 5 with (first | (go_at_call 131; (with_reducible refine (uvr_is HK.out hA1 hn (by omega) (by omega)).mono ?_); rintro en w' ⟨rfl, h9⟩; rw [h9]; clear h9) | (go_at_call 131; (with_reducible refine (uvr_is HN.out hA1 hn (by omega) (by omega)).mono ?_); rintro en w' ⟨rfl, h9⟩; rw [h9]; clear h9) | (go_at_call 131; (with_reducible refine (uvr_is HT.out hA1 hn (by omega) (by omega)).mono ?_); rintro en w' ⟨rfl, h9⟩; rw [h9]; clear h9) | (go_at_call 132; (with_reducible refine (bytes_at HB.out hA1 hc hn (by omega) (by omega)).mono ?_); rintro en w2 ⟨A5, c5, rfl, ho5, hb5⟩))
  have r2 := r2.below hb5 hl1
  have hB2 := hB1.trans (hb5.mono hB1.size)
  go_wp2_with ((with_reducible refine wp_row_store (L := ZRm) r2 rfl zrm_info zrm_one ?_ ?_ ?_); rfl; rfl; intro w9 u9 r9)
  refine bodyPost_ret (results_ct rfl rfl r9 Try.underlying97 rfl zrm_info) rfl ?_
  exact dec_no (Upd.below hB2 u9 (Nat.le_refl _)) HX.out
set_option maxRecDepth 100000 in
set_option maxHeartbeats 8000000 in
theorem decR_2 (bs : List UInt8) (A : Option Addr) (n c : Nat) (W : World) (hA : IsB W A n bs) (hn : n ≤ 1000000) (hc : n ≤ c) {vk ak ek vn an en_ vt at_ eT ab eb : Nat} {ps : List UInt8} (hK : dK bs = (vk, ak, ek)) (hN : dN bs = (vn, an, en_)) (hT : dT bs = (vt, at_, eT)) (hB : dB bs = (ps, ab, eb)) (h : ek = 0 ∧ en_ = 0 ∧ eT ≠ 0) : Calls Try.prog 85 #[.slice A n c] W (DecP bs W) := by
  have hlen := hA.1
  have ha1 : ak ≤ 1000000 := by have := uvR_le bs 0; have h2 : (dK bs).2.1 ≤ bs.length := this; rw [hK] at h2; have h3 : ak ≤ bs.length := h2; omega
  have ha2 : an ≤ 1000000 := by have h2 : (dN bs).2.1 ≤ bs.length := uvR_le bs _; rw [hN] at h2; have h3 : an ≤ bs.length := h2; omega
  have ha3 : at_ ≤ 1000000 := by have h2 : (dT bs).2.1 ≤ bs.length := uvR_le bs _; rw [hT] at h2; have h3 : at_ ≤ bs.length := h2; omega
  have HK := Lib.hid (show uvR bs 0 = (vk, ak, ek) from hK)
  have HN := Lib.hid (show uvR bs (ak : Int) = (vn, an, en_) by unfold dN at hN; rw [hK] at hN; exact hN)
  have HT := Lib.hid (show uvR bs (an : Int) = (vt, at_, eT) by unfold dT at hT; rw [hN] at hT; exact hT)
  have HB := Lib.hid (show bR bs (at_ : Int) 65536 = (ps, ab, eb) by unfold dB at hB; rw [hT] at hB; exact hB)
  have HLN := Lib.hid hlen
  have HX := Lib.hid (show dOk bs = false from dOk_not fun h0 => by
    have h1 := (dOk_split bs).1 h0
    rw [hK, hN, hT, hB] at h1; simp only at h1; omega)
  have f0 : (((ek : Nat) : Int) != 0) = false := nf (by omega)
  have f1 : (((en_ : Nat) : Int) != 0) = false := nf (by omega)
  have f2 : (((eT : Nat) : Int) != 0) = true := nt (by omega)
  clear h hK hN hT hB hlen
  have hB1 := (Below.refl W.heap.size W).alloc (Nat.le_refl _) (.cells ZRm 97)
  have r2 := Row.born W 97 ZRm
  have hA1 := hA.below hB1
  go_enter Try.func85, Try.ntmps85
  go_upto_region 1 with (fail)
  change Code.wp _ _ _ _ (W.alloc (.cells ZRm 97))
  generalize W.alloc (.cells ZRm 97) = w1 at *
  have hl1 := r2.lt
  go_upto_region 5 with (first | (go_at_call 131; (with_reducible refine (uvr_is HK.out hA1 hn (by omega) (by omega)).mono ?_); rintro en w' ⟨rfl, h9⟩; rw [h9]; clear h9) | (go_at_call 131; (with_reducible refine (uvr_is HN.out hA1 hn (by omega) (by omega)).mono ?_); rintro en w' ⟨rfl, h9⟩; rw [h9]; clear h9) | (go_at_call 131; (with_reducible refine (uvr_is HT.out hA1 hn (by omega) (by omega)).mono ?_); rintro en w' ⟨rfl, h9⟩; rw [h9]; clear h9) | (go_at_call 132; (with_reducible refine (bytes_at HB.out hA1 hc hn (by omega) (by omega)).mono ?_); rintro en w2 ⟨A5, c5, rfl, ho5, hb5⟩))
  have r2 := r2.below hb5 hl1
  have hB2 := hB1.trans (hb5.mono hB1.size)
  go_wp2_with ((with_reducible refine wp_row_store (L := ZRm) r2 rfl zrm_info zrm_one ?_ ?_ ?_); rfl; rfl; intro w9 u9 r9)
  refine bodyPost_ret (results_ct rfl rfl r9 Try.underlying97 rfl zrm_info) rfl ?_
  exact dec_no (Upd.below hB2 u9 (Nat.le_refl _)) HX.out
set_option maxRecDepth 100000 in
set_option maxHeartbeats 8000000 in
theorem decR_3 (bs : List UInt8) (A : Option Addr) (n c : Nat) (W : World) (hA : IsB W A n bs) (hn : n ≤ 1000000) (hc : n ≤ c) {vk ak ek vn an en_ vt at_ eT ab eb : Nat} {ps : List UInt8} (hK : dK bs = (vk, ak, ek)) (hN : dN bs = (vn, an, en_)) (hT : dT bs = (vt, at_, eT)) (hB : dB bs = (ps, ab, eb)) (h : ek = 0 ∧ en_ = 0 ∧ eT = 0 ∧ eb ≠ 0) : Calls Try.prog 85 #[.slice A n c] W (DecP bs W) := by
  have hlen := hA.1
  have ha1 : ak ≤ 1000000 := by have := uvR_le bs 0; have h2 : (dK bs).2.1 ≤ bs.length := this; rw [hK] at h2; have h3 : ak ≤ bs.length := h2; omega
  have ha2 : an ≤ 1000000 := by have h2 : (dN bs).2.1 ≤ bs.length := uvR_le bs _; rw [hN] at h2; have h3 : an ≤ bs.length := h2; omega
  have ha3 : at_ ≤ 1000000 := by have h2 : (dT bs).2.1 ≤ bs.length := uvR_le bs _; rw [hT] at h2; have h3 : at_ ≤ bs.length := h2; omega
  have HK := Lib.hid (show uvR bs 0 = (vk, ak, ek) from hK)
  have HN := Lib.hid (show uvR bs (ak : Int) = (vn, an, en_) by unfold dN at hN; rw [hK] at hN; exact hN)
  have HT := Lib.hid (show uvR bs (an : Int) = (vt, at_, eT) by unfold dT at hT; rw [hN] at hT; exact hT)
  have HB := Lib.hid (show bR bs (at_ : Int) 65536 = (ps, ab, eb) by unfold dB at hB; rw [hT] at hB; exact hB)
  have HLN := Lib.hid hlen
  have HX := Lib.hid (show dOk bs = false from dOk_not fun h0 => by
    have h1 := (dOk_split bs).1 h0
    rw [hK, hN, hT, hB] at h1; simp only at h1; omega)
  have f0 : (((ek : Nat) : Int) != 0) = false := nf (by omega)
  have f1 : (((en_ : Nat) : Int) != 0) = false := nf (by omega)
  have f2 : (((eT : Nat) : Int) != 0) = false := nf (by omega)
  have f3 : (((eb : Nat) : Int) != 0) = true := nt (by omega)
  clear h hK hN hT hB hlen
  have hB1 := (Below.refl W.heap.size W).alloc (Nat.le_refl _) (.cells ZRm 97)
  have r2 := Row.born W 97 ZRm
  have hA1 := hA.below hB1
  go_enter Try.func85, Try.ntmps85
  go_upto_region 1 with (fail)
  change Code.wp _ _ _ _ (W.alloc (.cells ZRm 97))
  generalize W.alloc (.cells ZRm 97) = w1 at *
  have hl1 := r2.lt
  go_upto_region 5 with (first | (go_at_call 131; (with_reducible refine (uvr_is HK.out hA1 hn (by omega) (by omega)).mono ?_); rintro en w' ⟨rfl, h9⟩; rw [h9]; clear h9) | (go_at_call 131; (with_reducible refine (uvr_is HN.out hA1 hn (by omega) (by omega)).mono ?_); rintro en w' ⟨rfl, h9⟩; rw [h9]; clear h9) | (go_at_call 131; (with_reducible refine (uvr_is HT.out hA1 hn (by omega) (by omega)).mono ?_); rintro en w' ⟨rfl, h9⟩; rw [h9]; clear h9) | (go_at_call 132; (with_reducible refine (bytes_at HB.out hA1 hc hn (by omega) (by omega)).mono ?_); rintro en w2 ⟨A5, c5, rfl, ho5, hb5⟩))
  have r2 := r2.below hb5 hl1
  have hB2 := hB1.trans (hb5.mono hB1.size)
  go_wp2_with ((with_reducible refine wp_row_store (L := ZRm) r2 rfl zrm_info zrm_one ?_ ?_ ?_); rfl; rfl; intro w9 u9 r9)
  refine bodyPost_ret (results_ct rfl rfl r9 Try.underlying97 rfl zrm_info) rfl ?_
  exact dec_no (Upd.below hB2 u9 (Nat.le_refl _)) HX.out
set_option maxRecDepth 100000 in
set_option maxHeartbeats 8000000 in
theorem decR_4 (bs : List UInt8) (A : Option Addr) (n c : Nat) (W : World) (hA : IsB W A n bs) (hn : n ≤ 1000000) (hc : n ≤ c) {vk ak ek vn an en_ vt at_ eT ab eb : Nat} {ps : List UInt8} (hK : dK bs = (vk, ak, ek)) (hN : dN bs = (vn, an, en_)) (hT : dT bs = (vt, at_, eT)) (hB : dB bs = (ps, ab, eb)) (h : ek = 0 ∧ en_ = 0 ∧ eT = 0 ∧ eb = 0 ∧ ab ≠ n) : Calls Try.prog 85 #[.slice A n c] W (DecP bs W) := by
  have hlen := hA.1
  have ha1 : ak ≤ 1000000 := by have := uvR_le bs 0; have h2 : (dK bs).2.1 ≤ bs.length := this; rw [hK] at h2; have h3 : ak ≤ bs.length := h2; omega
  have ha2 : an ≤ 1000000 := by have h2 : (dN bs).2.1 ≤ bs.length := uvR_le bs _; rw [hN] at h2; have h3 : an ≤ bs.length := h2; omega
  have ha3 : at_ ≤ 1000000 := by have h2 : (dT bs).2.1 ≤ bs.length := uvR_le bs _; rw [hT] at h2; have h3 : at_ ≤ bs.length := h2; omega
  have HK := Lib.hid (show uvR bs 0 = (vk, ak, ek) from hK)
  have HN := Lib.hid (show uvR bs (ak : Int) = (vn, an, en_) by unfold dN at hN; rw [hK] at hN; exact hN)
  have HT := Lib.hid (show uvR bs (an : Int) = (vt, at_, eT) by unfold dT at hT; rw [hN] at hT; exact hT)
  have HB := Lib.hid (show bR bs (at_ : Int) 65536 = (ps, ab, eb) by unfold dB at hB; rw [hT] at hB; exact hB)
  have HLN := Lib.hid hlen
  have HX := Lib.hid (show dOk bs = false from dOk_not fun h0 => by
    have h1 := (dOk_split bs).1 h0
    rw [hK, hN, hT, hB] at h1; simp only at h1; omega)
  have f0 : (((ek : Nat) : Int) != 0) = false := nf (by omega)
  have f1 : (((en_ : Nat) : Int) != 0) = false := nf (by omega)
  have f2 : (((eT : Nat) : Int) != 0) = false := nf (by omega)
  have f3 : (((eb : Nat) : Int) != 0) = false := nf (by omega)
  have f4 : (((ab : Nat) : Int) != ((n : Nat) : Int)) = true := nt (by omega)
  clear h hK hN hT hB hlen
  have hB1 := (Below.refl W.heap.size W).alloc (Nat.le_refl _) (.cells ZRm 97)
  have r2 := Row.born W 97 ZRm
  have hA1 := hA.below hB1
  go_enter Try.func85, Try.ntmps85
  go_upto_region 1 with (fail)
  change Code.wp _ _ _ _ (W.alloc (.cells ZRm 97))
  generalize W.alloc (.cells ZRm 97) = w1 at *
  have hl1 := r2.lt
  go_upto_region 5 with (first | (go_at_call 131; (with_reducible refine (uvr_is HK.out hA1 hn (by omega) (by omega)).mono ?_); rintro en w' ⟨rfl, h9⟩; rw [h9]; clear h9) | (go_at_call 131; (with_reducible refine (uvr_is HN.out hA1 hn (by omega) (by omega)).mono ?_); rintro en w' ⟨rfl, h9⟩; rw [h9]; clear h9) | (go_at_call 131; (with_reducible refine (uvr_is HT.out hA1 hn (by omega) (by omega)).mono ?_); rintro en w' ⟨rfl, h9⟩; rw [h9]; clear h9) | (go_at_call 132; (with_reducible refine (bytes_at HB.out hA1 hc hn (by omega) (by omega)).mono ?_); rintro en w2 ⟨A5, c5, rfl, ho5, hb5⟩))
  have r2 := r2.below hb5 hl1
  have hB2 := hB1.trans (hb5.mono hB1.size)
  go_wp2_with ((with_reducible refine wp_row_store (L := ZRm) r2 rfl zrm_info zrm_one ?_ ?_ ?_); rfl; rfl; intro w9 u9 r9)
  refine bodyPost_ret (results_ct rfl rfl r9 Try.underlying97 rfl zrm_info) rfl ?_
  exact dec_no (Upd.below hB2 u9 (Nat.le_refl _)) HX.out
set_option maxRecDepth 100000 in
set_option maxHeartbeats 8000000 in
theorem decR_5 (bs : List UInt8) (A : Option Addr) (n c : Nat) (W : World) (hA : IsB W A n bs) (hn : n ≤ 1000000) (hc : n ≤ c) {vk ak ek vn an en_ vt at_ eT ab eb : Nat} {ps : List UInt8} (hK : dK bs = (vk, ak, ek)) (hN : dN bs = (vn, an, en_)) (hT : dT bs = (vt, at_, eT)) (hB : dB bs = (ps, ab, eb)) (h : ek = 0 ∧ en_ = 0 ∧ eT = 0 ∧ eb = 0 ∧ ab = n ∧ 2 < vk) : Calls Try.prog 85 #[.slice A n c] W (DecP bs W) := by
  have hlen := hA.1
  have ha1 : ak ≤ 1000000 := by have := uvR_le bs 0; have h2 : (dK bs).2.1 ≤ bs.length := this; rw [hK] at h2; have h3 : ak ≤ bs.length := h2; omega
  have ha2 : an ≤ 1000000 := by have h2 : (dN bs).2.1 ≤ bs.length := uvR_le bs _; rw [hN] at h2; have h3 : an ≤ bs.length := h2; omega
  have ha3 : at_ ≤ 1000000 := by have h2 : (dT bs).2.1 ≤ bs.length := uvR_le bs _; rw [hT] at h2; have h3 : at_ ≤ bs.length := h2; omega
  have HK := Lib.hid (show uvR bs 0 = (vk, ak, ek) from hK)
  have HN := Lib.hid (show uvR bs (ak : Int) = (vn, an, en_) by unfold dN at hN; rw [hK] at hN; exact hN)
  have HT := Lib.hid (show uvR bs (an : Int) = (vt, at_, eT) by unfold dT at hT; rw [hN] at hT; exact hT)
  have HB := Lib.hid (show bR bs (at_ : Int) 65536 = (ps, ab, eb) by unfold dB at hB; rw [hT] at hB; exact hB)
  have HLN := Lib.hid hlen
  have HX := Lib.hid (show dOk bs = false from dOk_not fun h0 => by
    have h1 := (dOk_split bs).1 h0
    have h2 := dM_big (bs := bs) (.inl (by rw [hK]; show 2 < vk; omega)); exact h2 h1.2.2.2.2.2)
  have f0 : (((ek : Nat) : Int) != 0) = false := nf (by omega)
  have f1 : (((en_ : Nat) : Int) != 0) = false := nf (by omega)
  have f2 : (((eT : Nat) : Int) != 0) = false := nf (by omega)
  have f3 : (((eb : Nat) : Int) != 0) = false := nf (by omega)
  have f4 : (((ab : Nat) : Int) != ((n : Nat) : Int)) = false := nf (by omega)
  have f5 : decide (((2 : Int)) < ((vk : Nat) : Int)) = true := dt (by omega)
  have g5 : decide (2 < vk) = true := dt (by omega)
  clear h hK hN hT hB hlen
  have hB1 := (Below.refl W.heap.size W).alloc (Nat.le_refl _) (.cells ZRm 97)
  have r2 := Row.born W 97 ZRm
  have hA1 := hA.below hB1
  go_enter Try.func85, Try.ntmps85
  go_upto_region 1 with (fail)
  change Code.wp _ _ _ _ (W.alloc (.cells ZRm 97))
  generalize W.alloc (.cells ZRm 97) = w1 at *
  have hl1 := r2.lt
  go_upto_region 5 with (first | (go_at_call 131; (with_reducible refine (uvr_is HK.out hA1 hn (by omega) (by omega)).mono ?_); rintro en w' ⟨rfl, h9⟩; rw [h9]; clear h9) | (go_at_call 131; (with_reducible refine (uvr_is HN.out hA1 hn (by omega) (by omega)).mono ?_); rintro en w' ⟨rfl, h9⟩; rw [h9]; clear h9) | (go_at_call 131; (with_reducible refine (uvr_is HT.out hA1 hn (by omega) (by omega)).mono ?_); rintro en w' ⟨rfl, h9⟩; rw [h9]; clear h9) | (go_at_call 132; (with_reducible refine (bytes_at HB.out hA1 hc hn (by omega) (by omega)).mono ?_); rintro en w2 ⟨A5, c5, rfl, ho5, hb5⟩))
  have r2 := r2.below hb5 hl1
  have hB2 := hB1.trans (hb5.mono hB1.size)
  go_wp2_with ((with_reducible refine wp_row_store (L := ZRm) r2 rfl zrm_info zrm_one ?_ ?_ ?_); rfl; rfl; intro w9 u9 r9)
  refine bodyPost_ret (results_ct rfl rfl r9 Try.underlying97 rfl zrm_info) rfl ?_
  exact dec_no (Upd.below hB2 u9 (Nat.le_refl _)) HX.out
set_option maxRecDepth 100000 in
set_option maxHeartbeats 8000000 in
theorem decR_6 (bs : List UInt8) (A : Option Addr) (n c : Nat) (W : World) (hA : IsB W A n bs) (hn : n ≤ 1000000) (hc : n ≤ c) {vk ak ek vn an en_ vt at_ eT ab eb : Nat} {ps : List UInt8} (hK : dK bs = (vk, ak, ek)) (hN : dN bs = (vn, an, en_)) (hT : dT bs = (vt, at_, eT)) (hB : dB bs = (ps, ab, eb)) (h : ek = 0 ∧ en_ = 0 ∧ eT = 0 ∧ eb = 0 ∧ ab = n ∧ vk ≤ 2 ∧ 1099511627776 < vn) : Calls Try.prog 85 #[.slice A n c] W (DecP bs W) := by
  have hlen := hA.1
  have ha1 : ak ≤ 1000000 := by have := uvR_le bs 0; have h2 : (dK bs).2.1 ≤ bs.length := this; rw [hK] at h2; have h3 : ak ≤ bs.length := h2; omega
  have ha2 : an ≤ 1000000 := by have h2 : (dN bs).2.1 ≤ bs.length := uvR_le bs _; rw [hN] at h2; have h3 : an ≤ bs.length := h2; omega
  have ha3 : at_ ≤ 1000000 := by have h2 : (dT bs).2.1 ≤ bs.length := uvR_le bs _; rw [hT] at h2; have h3 : at_ ≤ bs.length := h2; omega
  have HK := Lib.hid (show uvR bs 0 = (vk, ak, ek) from hK)
  have HN := Lib.hid (show uvR bs (ak : Int) = (vn, an, en_) by unfold dN at hN; rw [hK] at hN; exact hN)
  have HT := Lib.hid (show uvR bs (an : Int) = (vt, at_, eT) by unfold dT at hT; rw [hN] at hT; exact hT)
  have HB := Lib.hid (show bR bs (at_ : Int) 65536 = (ps, ab, eb) by unfold dB at hB; rw [hT] at hB; exact hB)
  have HLN := Lib.hid hlen
  have HX := Lib.hid (show dOk bs = false from dOk_not fun h0 => by
    have h1 := (dOk_split bs).1 h0
    rw [hK, hN, hT, hB] at h1; simp only at h1; omega)
  have f0 : (((ek : Nat) : Int) != 0) = false := nf (by omega)
  have f1 : (((en_ : Nat) : Int) != 0) = false := nf (by omega)
  have f2 : (((eT : Nat) : Int) != 0) = false := nf (by omega)
  have f3 : (((eb : Nat) : Int) != 0) = false := nf (by omega)
  have f4 : (((ab : Nat) : Int) != ((n : Nat) : Int)) = false := nf (by omega)
  have f5 : decide (((2 : Int)) < ((vk : Nat) : Int)) = false := df (by omega)
  have g5 : decide (2 < vk) = false := df (by omega)
  have f6 : decide (((1099511627776 : Int)) < ((vn : Nat) : Int)) = true := dt (by omega)
  have g6 : decide (1099511627776 < vn) = true := dt (by omega)
  clear h hK hN hT hB hlen
  have hB1 := (Below.refl W.heap.size W).alloc (Nat.le_refl _) (.cells ZRm 97)
  have r2 := Row.born W 97 ZRm
  have hA1 := hA.below hB1
  go_enter Try.func85, Try.ntmps85
  go_upto_region 1 with (fail)
  change Code.wp _ _ _ _ (W.alloc (.cells ZRm 97))
  generalize W.alloc (.cells ZRm 97) = w1 at *
  have hl1 := r2.lt
  go_upto_region 5 with (first | (go_at_call 131; (with_reducible refine (uvr_is HK.out hA1 hn (by omega) (by omega)).mono ?_); rintro en w' ⟨rfl, h9⟩; rw [h9]; clear h9) | (go_at_call 131; (with_reducible refine (uvr_is HN.out hA1 hn (by omega) (by omega)).mono ?_); rintro en w' ⟨rfl, h9⟩; rw [h9]; clear h9) | (go_at_call 131; (with_reducible refine (uvr_is HT.out hA1 hn (by omega) (by omega)).mono ?_); rintro en w' ⟨rfl, h9⟩; rw [h9]; clear h9) | (go_at_call 132; (with_reducible refine (bytes_at HB.out hA1 hc hn (by omega) (by omega)).mono ?_); rintro en w2 ⟨A5, c5, rfl, ho5, hb5⟩))
  have r2 := r2.below hb5 hl1
  have hB2 := hB1.trans (hb5.mono hB1.size)
  go_wp2_with ((with_reducible refine wp_row_store (L := ZRm) r2 rfl zrm_info zrm_one ?_ ?_ ?_); rfl; rfl; intro w9 u9 r9)
  refine bodyPost_ret (results_ct rfl rfl r9 Try.underlying97 rfl zrm_info) rfl ?_
  exact dec_no (Upd.below hB2 u9 (Nat.le_refl _)) HX.out
set_option maxRecDepth 100000 in
set_option maxHeartbeats 8000000 in
theorem decR_7 (bs : List UInt8) (A : Option Addr) (n c : Nat) (W : World) (hA : IsB W A n bs) (hn : n ≤ 1000000) (hc : n ≤ c) {vk ak ek vn an en_ vt at_ eT ab eb : Nat} {ps : List UInt8} (hK : dK bs = (vk, ak, ek)) (hN : dN bs = (vn, an, en_)) (hT : dT bs = (vt, at_, eT)) (hB : dB bs = (ps, ab, eb)) (h : ek = 0 ∧ en_ = 0 ∧ eT = 0 ∧ eb = 0 ∧ ab = n ∧ vk ≤ 2 ∧ vn ≤ 1099511627776 ∧ 65535 < vt) : Calls Try.prog 85 #[.slice A n c] W (DecP bs W) := by
  have hlen := hA.1
  have ha1 : ak ≤ 1000000 := by have := uvR_le bs 0; have h2 : (dK bs).2.1 ≤ bs.length := this; rw [hK] at h2; have h3 : ak ≤ bs.length := h2; omega
  have ha2 : an ≤ 1000000 := by have h2 : (dN bs).2.1 ≤ bs.length := uvR_le bs _; rw [hN] at h2; have h3 : an ≤ bs.length := h2; omega
  have ha3 : at_ ≤ 1000000 := by have h2 : (dT bs).2.1 ≤ bs.length := uvR_le bs _; rw [hT] at h2; have h3 : at_ ≤ bs.length := h2; omega
  have HK := Lib.hid (show uvR bs 0 = (vk, ak, ek) from hK)
  have HN := Lib.hid (show uvR bs (ak : Int) = (vn, an, en_) by unfold dN at hN; rw [hK] at hN; exact hN)
  have HT := Lib.hid (show uvR bs (an : Int) = (vt, at_, eT) by unfold dT at hT; rw [hN] at hT; exact hT)
  have HB := Lib.hid (show bR bs (at_ : Int) 65536 = (ps, ab, eb) by unfold dB at hB; rw [hT] at hB; exact hB)
  have HLN := Lib.hid hlen
  have HX := Lib.hid (show dOk bs = false from dOk_not fun h0 => by
    have h1 := (dOk_split bs).1 h0
    have h2 := dM_big (bs := bs) (.inr (by rw [hT]; show 65535 < vt; omega)); exact h2 h1.2.2.2.2.2)
  have f0 : (((ek : Nat) : Int) != 0) = false := nf (by omega)
  have f1 : (((en_ : Nat) : Int) != 0) = false := nf (by omega)
  have f2 : (((eT : Nat) : Int) != 0) = false := nf (by omega)
  have f3 : (((eb : Nat) : Int) != 0) = false := nf (by omega)
  have f4 : (((ab : Nat) : Int) != ((n : Nat) : Int)) = false := nf (by omega)
  have f5 : decide (((2 : Int)) < ((vk : Nat) : Int)) = false := df (by omega)
  have g5 : decide (2 < vk) = false := df (by omega)
  have f6 : decide (((1099511627776 : Int)) < ((vn : Nat) : Int)) = false := df (by omega)
  have g6 : decide (1099511627776 < vn) = false := df (by omega)
  have f7 : decide (((65535 : Int)) < ((vt : Nat) : Int)) = true := dt (by omega)
  have g7 : decide (65535 < vt) = true := dt (by omega)
  clear h hK hN hT hB hlen
  have hB1 := (Below.refl W.heap.size W).alloc (Nat.le_refl _) (.cells ZRm 97)
  have r2 := Row.born W 97 ZRm
  have hA1 := hA.below hB1
  go_enter Try.func85, Try.ntmps85
  go_upto_region 1 with (fail)
  change Code.wp _ _ _ _ (W.alloc (.cells ZRm 97))
  generalize W.alloc (.cells ZRm 97) = w1 at *
  have hl1 := r2.lt
  go_upto_region 5 with (first | (go_at_call 131; (with_reducible refine (uvr_is HK.out hA1 hn (by omega) (by omega)).mono ?_); rintro en w' ⟨rfl, h9⟩; rw [h9]; clear h9) | (go_at_call 131; (with_reducible refine (uvr_is HN.out hA1 hn (by omega) (by omega)).mono ?_); rintro en w' ⟨rfl, h9⟩; rw [h9]; clear h9) | (go_at_call 131; (with_reducible refine (uvr_is HT.out hA1 hn (by omega) (by omega)).mono ?_); rintro en w' ⟨rfl, h9⟩; rw [h9]; clear h9) | (go_at_call 132; (with_reducible refine (bytes_at HB.out hA1 hc hn (by omega) (by omega)).mono ?_); rintro en w2 ⟨A5, c5, rfl, ho5, hb5⟩))
  have r2 := r2.below hb5 hl1
  have hB2 := hB1.trans (hb5.mono hB1.size)
  go_wp2_with ((with_reducible refine wp_row_store (L := ZRm) r2 rfl zrm_info zrm_one ?_ ?_ ?_); rfl; rfl; intro w9 u9 r9)
  refine bodyPost_ret (results_ct rfl rfl r9 Try.underlying97 rfl zrm_info) rfl ?_
  exact dec_no (Upd.below hB2 u9 (Nat.le_refl _)) HX.out
set_option maxRecDepth 100000 in
set_option maxHeartbeats 8000000 in
theorem decR_q0 (bs : List UInt8) (A : Option Addr) (n c : Nat) (W : World) (hA : IsB W A n bs) (hn : n ≤ 1000000) (hc : n ≤ c) {vk ak ek vn an en_ vt at_ eT ab eb : Nat} {ps : List UInt8} (hK : dK bs = (vk, ak, ek)) (hN : dN bs = (vn, an, en_)) (hT : dT bs = (vt, at_, eT)) (hB : dB bs = (ps, ab, eb)) (h : ek = 0 ∧ en_ = 0 ∧ eT = 0 ∧ eb = 0 ∧ ab = n ∧ vk ≤ 2 ∧ vn ≤ 1099511627776 ∧ vt ≤ 65535) (hk : vk = 1) (hok : (RM.mk (vk : Int) (vn : Int) (vt : Int) 0 ps).ok = false) : Calls Try.prog 85 #[.slice A n c] W (DecP bs W) := by
  have hdr : dR bs = ⟨(vk : Int), (vn : Int), (vt : Int), 0, ps⟩ := by
    unfold dR
    rw [hK, hN, hT, hB]
    simp only
    rw [if_pos hk, if_pos hk]
    try rfl
  have hlen := hA.1
  have ha1 : ak ≤ 1000000 := by have := uvR_le bs 0; have h2 : (dK bs).2.1 ≤ bs.length := this; rw [hK] at h2; have h3 : ak ≤ bs.length := h2; omega
  have ha2 : an ≤ 1000000 := by have h2 : (dN bs).2.1 ≤ bs.length := uvR_le bs _; rw [hN] at h2; have h3 : an ≤ bs.length := h2; omega
  have ha3 : at_ ≤ 1000000 := by have h2 : (dT bs).2.1 ≤ bs.length := uvR_le bs _; rw [hT] at h2; have h3 : at_ ≤ bs.length := h2; omega
  have HK := Lib.hid (show uvR bs 0 = (vk, ak, ek) from hK)
  have HN := Lib.hid (show uvR bs (ak : Int) = (vn, an, en_) by unfold dN at hN; rw [hK] at hN; exact hN)
  have HT := Lib.hid (show uvR bs (an : Int) = (vt, at_, eT) by unfold dT at hT; rw [hN] at hT; exact hT)
  have HB := Lib.hid (show bR bs (at_ : Int) 65536 = (ps, ab, eb) by unfold dB at hB; rw [hT] at hB; exact hB)
  have HLN := Lib.hid hlen
  have HX := Lib.hid (show dOk bs = false from dOk_not fun h0 => by
    have h1 := (dOk_split bs).1 h0
    have h2 := dM_is h1.2.2.2.2.2
    rw [hdr] at h2
    have h3 := h1.2.2.2.2.2
    rw [← h2, hok] at h3
    cases h3)
  have HOK := Lib.hid hok
  have f0 : (((ek : Nat) : Int) != 0) = false := nf (by omega)
  have f1 : (((en_ : Nat) : Int) != 0) = false := nf (by omega)
  have f2 : (((eT : Nat) : Int) != 0) = false := nf (by omega)
  have f3 : (((eb : Nat) : Int) != 0) = false := nf (by omega)
  have f4 : (((ab : Nat) : Int) != ((n : Nat) : Int)) = false := nf (by omega)
  have f5 : decide (((2 : Int)) < ((vk : Nat) : Int)) = false := df (by omega)
  have g5 : decide (2 < vk) = false := df (by omega)
  have f6 : decide (((1099511627776 : Int)) < ((vn : Nat) : Int)) = false := df (by omega)
  have g6 : decide (1099511627776 < vn) = false := df (by omega)
  have f7 : decide (((65535 : Int)) < ((vt : Nat) : Int)) = false := df (by omega)
  have g7 : decide (65535 < vt) = false := df (by omega)
  have dk : (((vk : Nat) : Int) == 1) = true := et (by omega)
  have wk : IntKind.i64.wrap (vk : Int) = (vk : Int) := by rw [IntKind.wrap_i64]; omega
  have wn : IntKind.i64.wrap (vn : Int) = (vn : Int) := by rw [IntKind.wrap_i64]; omega
  have wt : IntKind.i64.wrap (vt : Int) = (vt : Int) := by rw [IntKind.wrap_i64]; omega
  clear h hK hN hT hB hlen hdr hok  hk
  have hB1 := (Below.refl W.heap.size W).alloc (Nat.le_refl _) (.cells ZRm 97)
  have r2 := Row.born W 97 ZRm
  have hA1 := hA.below hB1
  go_enter Try.func85, Try.ntmps85
  go_upto_region 1 with (fail)
  change Code.wp _ _ _ _ (W.alloc (.cells ZRm 97))
  generalize W.alloc (.cells ZRm 97) = w1 at *
  have hl1 := r2.lt
  go_upto_region 5 with (first | (go_at_call 131; (with_reducible refine (uvr_is HK.out hA1 hn (by omega) (by omega)).mono ?_); rintro en w' ⟨rfl, h9⟩; rw [h9]; clear h9) | (go_at_call 131; (with_reducible refine (uvr_is HN.out hA1 hn (by omega) (by omega)).mono ?_); rintro en w' ⟨rfl, h9⟩; rw [h9]; clear h9) | (go_at_call 131; (with_reducible refine (uvr_is HT.out hA1 hn (by omega) (by omega)).mono ?_); rintro en w' ⟨rfl, h9⟩; rw [h9]; clear h9) | (go_at_call 132; (with_reducible refine (bytes_at HB.out hA1 hc hn (by omega) (by omega)).mono ?_); rintro en w2 ⟨A5, c5, rfl, ho5, hb5⟩))
  have r2 := r2.below hb5 hl1
  have hB2 := hB1.trans (hb5.mono hB1.size)
  have hs1 := hB1.size
  clear hB1 hl1
  have h26 := r2.lt
  go_upto_region 8 with ((with_reducible refine wp_row_store (L := RMV ⟨(vk : Int), (vn : Int), 0, 0, ps⟩ A5 c5) (Row.bornAt' (g := w2.heap.size) rfl 97 _) ?_ (rmv_info _ _ _) (rmv_one _ _ _) ?_ ?_ ?_); rfl; rfl; rfl; intro w6 u6 r6)
  have hal := Upd.below ((Below.refl w2.heap.size w2).alloc (Nat.le_refl _) (.cells ZRm 97)) u6 (Nat.le_refl _)
  have r2 := r2.below hal r2.lt
  have hB6 := hB2.trans (hal.mono hB2.size)
  have ho6 := ho5.below hal
  clear hal u6 ho5 hb5 hB2
  generalize w2.heap.size = g6 at *
  have c0 : w6.cell? ⟨g6, 0, none⟩ = some (.int .i64 (vk : Int)) := r6.cell 0
  have cf : w6.cell? ⟨g6, 2, none⟩ = some (.int .i64 0) := r6.cell 2
  have ff := r6.frozen 2
  go_upto_region 11 with (fail)
  have u7 := Upd.setCell w6 g6 2 (.int .i64 (vt : Int))
  have r7 := r6.set 2 (.int .i64 (vt : Int))
  have e7 : (RMV ⟨(vk : Int), (vn : Int), 0, 0, ps⟩ A5 c5).setIfInBounds 2 (.int .i64 (vt : Int)) = RMV ⟨(vk : Int), (vn : Int), (vt : Int), 0, ps⟩ A5 c5 := by simp [RMV]
  rw [e7] at r7
  have r2 := r2.upd u7 (by omega)
  have hB7 := Upd.below hB6 u7 (by omega)
  have ho7 := ho6.keeps (Keeps.upd (ts := [97]) u7 r6 (by simp)) (by decide)
  clear e7 c0 cf ff r6 ho6 hB6 u7
  generalize w6.setCell ⟨g6, 2, none⟩ (.int .i64 (vt : Int)) = w7 at *
  have hl7 := r7.lt
  have hl72 := r2.lt
  go_wp2_with (first | ((with_reducible refine wp_load_g ?_ r7.range Try.underlying97 rfl (rmv_info _ _ _) ?_ ?_); rfl; rfl) | (go_at_call 66; (with_reducible refine (valid_rm ⟨(vk : Int), (vn : Int), (vt : Int), 0, ps⟩ A5 c5 _).mono ?_); rintro en w8 ⟨rfl, hb8⟩; rw [HOK.out]; have r2 := r2.below hb8 hl72) | ((with_reducible refine wp_row_store (L := ZRm) r2 rfl zrm_info zrm_one ?_ ?_ ?_); rfl; rfl; intro w9 u9 r9))
  refine bodyPost_ret (results_ct rfl rfl r9 Try.underlying97 rfl zrm_info) rfl ?_
  have hB8 := hB7.trans (hb8.mono hB7.size)
  exact dec_no (Upd.below hB8 u9 (Nat.le_refl _)) HX.out
set_option maxRecDepth 100000 in
set_option maxHeartbeats 8000000 in
theorem decR_q1 (bs : List UInt8) (A : Option Addr) (n c : Nat) (W : World) (hA : IsB W A n bs) (hn : n ≤ 1000000) (hc : n ≤ c) {vk ak ek vn an en_ vt at_ eT ab eb : Nat} {ps : List UInt8} (hK : dK bs = (vk, ak, ek)) (hN : dN bs = (vn, an, en_)) (hT : dT bs = (vt, at_, eT)) (hB : dB bs = (ps, ab, eb)) (h : ek = 0 ∧ en_ = 0 ∧ eT = 0 ∧ eb = 0 ∧ ab = n ∧ vk ≤ 2 ∧ vn ≤ 1099511627776 ∧ vt ≤ 65535) (hk : vk = 1) (hok : (RM.mk (vk : Int) (vn : Int) (vt : Int) 0 ps).ok = true) : Calls Try.prog 85 #[.slice A n c] W (DecP bs W) := by
  have hdr : dR bs = ⟨(vk : Int), (vn : Int), (vt : Int), 0, ps⟩ := by
    unfold dR
    rw [hK, hN, hT, hB]
    simp only
    rw [if_pos hk, if_pos hk]
    try rfl
  have hlen := hA.1
  have ha1 : ak ≤ 1000000 := by have := uvR_le bs 0; have h2 : (dK bs).2.1 ≤ bs.length := this; rw [hK] at h2; have h3 : ak ≤ bs.length := h2; omega
  have ha2 : an ≤ 1000000 := by have h2 : (dN bs).2.1 ≤ bs.length := uvR_le bs _; rw [hN] at h2; have h3 : an ≤ bs.length := h2; omega
  have ha3 : at_ ≤ 1000000 := by have h2 : (dT bs).2.1 ≤ bs.length := uvR_le bs _; rw [hT] at h2; have h3 : at_ ≤ bs.length := h2; omega
  have HK := Lib.hid (show uvR bs 0 = (vk, ak, ek) from hK)
  have HN := Lib.hid (show uvR bs (ak : Int) = (vn, an, en_) by unfold dN at hN; rw [hK] at hN; exact hN)
  have HT := Lib.hid (show uvR bs (an : Int) = (vt, at_, eT) by unfold dT at hT; rw [hN] at hT; exact hT)
  have HB := Lib.hid (show bR bs (at_ : Int) 65536 = (ps, ab, eb) by unfold dB at hB; rw [hT] at hB; exact hB)
  have HLN := Lib.hid hlen
  have hdok : dOk bs = true := (dOk_split bs).2 (by
    refine ⟨?_, ?_, ?_, ?_, ?_, ?_⟩
    · rw [hK]; simp only; omega
    · rw [hN]; simp only; omega
    · rw [hT]; simp only; omega
    · rw [hB]; simp only; omega
    · rw [hB]; simp only; omega
    · rw [← dR_is (by rw [hdr]; exact hok), hdr]; exact hok)
  have HX := Lib.hid hdok
  have HDM := Lib.hid (show dM bs = ⟨(vk : Int), (vn : Int), (vt : Int), 0, ps⟩ from (dR_is (by rw [hdr]; exact hok)).symm.trans hdr)
  have HOK := Lib.hid hok
  have f0 : (((ek : Nat) : Int) != 0) = false := nf (by omega)
  have f1 : (((en_ : Nat) : Int) != 0) = false := nf (by omega)
  have f2 : (((eT : Nat) : Int) != 0) = false := nf (by omega)
  have f3 : (((eb : Nat) : Int) != 0) = false := nf (by omega)
  have f4 : (((ab : Nat) : Int) != ((n : Nat) : Int)) = false := nf (by omega)
  have f5 : decide (((2 : Int)) < ((vk : Nat) : Int)) = false := df (by omega)
  have g5 : decide (2 < vk) = false := df (by omega)
  have f6 : decide (((1099511627776 : Int)) < ((vn : Nat) : Int)) = false := df (by omega)
  have g6 : decide (1099511627776 < vn) = false := df (by omega)
  have f7 : decide (((65535 : Int)) < ((vt : Nat) : Int)) = false := df (by omega)
  have g7 : decide (65535 < vt) = false := df (by omega)
  have dk : (((vk : Nat) : Int) == 1) = true := et (by omega)
  have wk : IntKind.i64.wrap (vk : Int) = (vk : Int) := by rw [IntKind.wrap_i64]; omega
  have wn : IntKind.i64.wrap (vn : Int) = (vn : Int) := by rw [IntKind.wrap_i64]; omega
  have wt : IntKind.i64.wrap (vt : Int) = (vt : Int) := by rw [IntKind.wrap_i64]; omega
  clear h hK hN hT hB hlen hdr hok hdok hk
  have hB1 := (Below.refl W.heap.size W).alloc (Nat.le_refl _) (.cells ZRm 97)
  have r2 := Row.born W 97 ZRm
  have hA1 := hA.below hB1
  go_enter Try.func85, Try.ntmps85
  go_upto_region 1 with (fail)
  change Code.wp _ _ _ _ (W.alloc (.cells ZRm 97))
  generalize W.alloc (.cells ZRm 97) = w1 at *
  have hl1 := r2.lt
  go_upto_region 5 with (first | (go_at_call 131; (with_reducible refine (uvr_is HK.out hA1 hn (by omega) (by omega)).mono ?_); rintro en w' ⟨rfl, h9⟩; rw [h9]; clear h9) | (go_at_call 131; (with_reducible refine (uvr_is HN.out hA1 hn (by omega) (by omega)).mono ?_); rintro en w' ⟨rfl, h9⟩; rw [h9]; clear h9) | (go_at_call 131; (with_reducible refine (uvr_is HT.out hA1 hn (by omega) (by omega)).mono ?_); rintro en w' ⟨rfl, h9⟩; rw [h9]; clear h9) | (go_at_call 132; (with_reducible refine (bytes_at HB.out hA1 hc hn (by omega) (by omega)).mono ?_); rintro en w2 ⟨A5, c5, rfl, ho5, hb5⟩))
  have r2 := r2.below hb5 hl1
  have hB2 := hB1.trans (hb5.mono hB1.size)
  have hs1 := hB1.size
  clear hB1 hl1
  have h26 := r2.lt
  go_upto_region 8 with ((with_reducible refine wp_row_store (L := RMV ⟨(vk : Int), (vn : Int), 0, 0, ps⟩ A5 c5) (Row.bornAt' (g := w2.heap.size) rfl 97 _) ?_ (rmv_info _ _ _) (rmv_one _ _ _) ?_ ?_ ?_); rfl; rfl; rfl; intro w6 u6 r6)
  have hal := Upd.below ((Below.refl w2.heap.size w2).alloc (Nat.le_refl _) (.cells ZRm 97)) u6 (Nat.le_refl _)
  have r2 := r2.below hal r2.lt
  have hB6 := hB2.trans (hal.mono hB2.size)
  have ho6 := ho5.below hal
  clear hal u6 ho5 hb5 hB2
  generalize w2.heap.size = g6 at *
  have c0 : w6.cell? ⟨g6, 0, none⟩ = some (.int .i64 (vk : Int)) := r6.cell 0
  have cf : w6.cell? ⟨g6, 2, none⟩ = some (.int .i64 0) := r6.cell 2
  have ff := r6.frozen 2
  go_upto_region 11 with (fail)
  have u7 := Upd.setCell w6 g6 2 (.int .i64 (vt : Int))
  have r7 := r6.set 2 (.int .i64 (vt : Int))
  have e7 : (RMV ⟨(vk : Int), (vn : Int), 0, 0, ps⟩ A5 c5).setIfInBounds 2 (.int .i64 (vt : Int)) = RMV ⟨(vk : Int), (vn : Int), (vt : Int), 0, ps⟩ A5 c5 := by simp [RMV]
  rw [e7] at r7
  have r2 := r2.upd u7 (by omega)
  have hB7 := Upd.below hB6 u7 (by omega)
  have ho7 := ho6.keeps (Keeps.upd (ts := [97]) u7 r6 (by simp)) (by decide)
  clear e7 c0 cf ff r6 ho6 hB6 u7
  generalize w6.setCell ⟨g6, 2, none⟩ (.int .i64 (vt : Int)) = w7 at *
  have hl7 := r7.lt
  have hl72 := r2.lt
  go_wp2_with (first | ((with_reducible refine wp_load_g ?_ r7.range Try.underlying97 rfl (rmv_info _ _ _) ?_ ?_); rfl; rfl) | (go_at_call 66; (with_reducible refine (valid_rm ⟨(vk : Int), (vn : Int), (vt : Int), 0, ps⟩ A5 c5 _).mono ?_); rintro en w8 ⟨rfl, hb8⟩; rw [HOK.out]; have r7 := r7.below hb8 hl7; have r2 := r2.below hb8 hl72) | ((with_reducible refine wp_row_store (L := RMV ⟨(vk : Int), (vn : Int), (vt : Int), 0, ps⟩ A5 c5) r2 rfl (rmv_info _ _ _) (rmv_one _ _ _) ?_ ?_ ?_); rfl; rfl; intro w9 u9 r9))
  refine bodyPost_ret (results_ct rfl rfl r9 Try.underlying97 rfl (rmv_info _ _ _)) rfl ?_
  have hB8 := hB7.trans (hb8.mono hB7.size)
  have ho9 := (ho7.below hb8).keeps (Keeps.upd (ts := [97]) u9 r2 (by simp)) (by decide)
  refine ⟨Upd.below hB8 u9 (Nat.le_refl _), .inr ⟨HX.out, A5, c5, ?_, ?_⟩⟩
  · rw [HDM.out]; rfl
  · rw [HDM.out]
    exact ho9.lower (by omega)
set_option maxRecDepth 100000 in
set_option maxHeartbeats 8000000 in
theorem decR_p0 (bs : List UInt8) (A : Option Addr) (n c : Nat) (W : World) (hA : IsB W A n bs) (hn : n ≤ 1000000) (hc : n ≤ c) {vk ak ek vn an en_ vt at_ eT ab eb : Nat} {ps : List UInt8} (hK : dK bs = (vk, ak, ek)) (hN : dN bs = (vn, an, en_)) (hT : dT bs = (vt, at_, eT)) (hB : dB bs = (ps, ab, eb)) (h : ek = 0 ∧ en_ = 0 ∧ eT = 0 ∧ eb = 0 ∧ ab = n ∧ vk ≤ 2 ∧ vn ≤ 1099511627776 ∧ vt ≤ 65535) (hk : vk ≠ 1) (hok : (RM.mk (vk : Int) (vn : Int) 0 (vt : Int) ps).ok = false) : Calls Try.prog 85 #[.slice A n c] W (DecP bs W) := by
  have hdr : dR bs = ⟨(vk : Int), (vn : Int), 0, (vt : Int), ps⟩ := by
    unfold dR
    rw [hK, hN, hT, hB]
    simp only
    rw [if_neg hk, if_neg hk]
    try rfl
  have hlen := hA.1
  have ha1 : ak ≤ 1000000 := by have := uvR_le bs 0; have h2 : (dK bs).2.1 ≤ bs.length := this; rw [hK] at h2; have h3 : ak ≤ bs.length := h2; omega
  have ha2 : an ≤ 1000000 := by have h2 : (dN bs).2.1 ≤ bs.length := uvR_le bs _; rw [hN] at h2; have h3 : an ≤ bs.length := h2; omega
  have ha3 : at_ ≤ 1000000 := by have h2 : (dT bs).2.1 ≤ bs.length := uvR_le bs _; rw [hT] at h2; have h3 : at_ ≤ bs.length := h2; omega
  have HK := Lib.hid (show uvR bs 0 = (vk, ak, ek) from hK)
  have HN := Lib.hid (show uvR bs (ak : Int) = (vn, an, en_) by unfold dN at hN; rw [hK] at hN; exact hN)
  have HT := Lib.hid (show uvR bs (an : Int) = (vt, at_, eT) by unfold dT at hT; rw [hN] at hT; exact hT)
  have HB := Lib.hid (show bR bs (at_ : Int) 65536 = (ps, ab, eb) by unfold dB at hB; rw [hT] at hB; exact hB)
  have HLN := Lib.hid hlen
  have HX := Lib.hid (show dOk bs = false from dOk_not fun h0 => by
    have h1 := (dOk_split bs).1 h0
    have h2 := dM_is h1.2.2.2.2.2
    rw [hdr] at h2
    have h3 := h1.2.2.2.2.2
    rw [← h2, hok] at h3
    cases h3)
  have HOK := Lib.hid hok
  have f0 : (((ek : Nat) : Int) != 0) = false := nf (by omega)
  have f1 : (((en_ : Nat) : Int) != 0) = false := nf (by omega)
  have f2 : (((eT : Nat) : Int) != 0) = false := nf (by omega)
  have f3 : (((eb : Nat) : Int) != 0) = false := nf (by omega)
  have f4 : (((ab : Nat) : Int) != ((n : Nat) : Int)) = false := nf (by omega)
  have f5 : decide (((2 : Int)) < ((vk : Nat) : Int)) = false := df (by omega)
  have g5 : decide (2 < vk) = false := df (by omega)
  have f6 : decide (((1099511627776 : Int)) < ((vn : Nat) : Int)) = false := df (by omega)
  have g6 : decide (1099511627776 < vn) = false := df (by omega)
  have f7 : decide (((65535 : Int)) < ((vt : Nat) : Int)) = false := df (by omega)
  have g7 : decide (65535 < vt) = false := df (by omega)
  have dk : (((vk : Nat) : Int) == 1) = false := ef (by omega)
  have wk : IntKind.i64.wrap (vk : Int) = (vk : Int) := by rw [IntKind.wrap_i64]; omega
  have wn : IntKind.i64.wrap (vn : Int) = (vn : Int) := by rw [IntKind.wrap_i64]; omega
  have wt : IntKind.i64.wrap (vt : Int) = (vt : Int) := by rw [IntKind.wrap_i64]; omega
  clear h hK hN hT hB hlen hdr hok  hk
  have hB1 := (Below.refl W.heap.size W).alloc (Nat.le_refl _) (.cells ZRm 97)
  have r2 := Row.born W 97 ZRm
  have hA1 := hA.below hB1
  go_enter Try.func85, Try.ntmps85
  go_upto_region 1 with (fail)
  change Code.wp _ _ _ _ (W.alloc (.cells ZRm 97))
  generalize W.alloc (.cells ZRm 97) = w1 at *
  have hl1 := r2.lt
  go_upto_region 5 with (first | (go_at_call 131; (with_reducible refine (uvr_is HK.out hA1 hn (by omega) (by omega)).mono ?_); rintro en w' ⟨rfl, h9⟩; rw [h9]; clear h9) | (go_at_call 131; (with_reducible refine (uvr_is HN.out hA1 hn (by omega) (by omega)).mono ?_); rintro en w' ⟨rfl, h9⟩; rw [h9]; clear h9) | (go_at_call 131; (with_reducible refine (uvr_is HT.out hA1 hn (by omega) (by omega)).mono ?_); rintro en w' ⟨rfl, h9⟩; rw [h9]; clear h9) | (go_at_call 132; (with_reducible refine (bytes_at HB.out hA1 hc hn (by omega) (by omega)).mono ?_); rintro en w2 ⟨A5, c5, rfl, ho5, hb5⟩))
  have r2 := r2.below hb5 hl1
  have hB2 := hB1.trans (hb5.mono hB1.size)
  have hs1 := hB1.size
  clear hB1 hl1
  have h26 := r2.lt
  go_upto_region 8 with ((with_reducible refine wp_row_store (L := RMV ⟨(vk : Int), (vn : Int), 0, 0, ps⟩ A5 c5) (Row.bornAt' (g := w2.heap.size) rfl 97 _) ?_ (rmv_info _ _ _) (rmv_one _ _ _) ?_ ?_ ?_); rfl; rfl; rfl; intro w6 u6 r6)
  have hal := Upd.below ((Below.refl w2.heap.size w2).alloc (Nat.le_refl _) (.cells ZRm 97)) u6 (Nat.le_refl _)
  have r2 := r2.below hal r2.lt
  have hB6 := hB2.trans (hal.mono hB2.size)
  have ho6 := ho5.below hal
  clear hal u6 ho5 hb5 hB2
  generalize w2.heap.size = g6 at *
  have c0 : w6.cell? ⟨g6, 0, none⟩ = some (.int .i64 (vk : Int)) := r6.cell 0
  have cf : w6.cell? ⟨g6, 3, none⟩ = some (.int .i64 0) := r6.cell 3
  have ff := r6.frozen 3
  go_upto_region 11 with (fail)
  have u7 := Upd.setCell w6 g6 3 (.int .i64 (vt : Int))
  have r7 := r6.set 3 (.int .i64 (vt : Int))
  have e7 : (RMV ⟨(vk : Int), (vn : Int), 0, 0, ps⟩ A5 c5).setIfInBounds 3 (.int .i64 (vt : Int)) = RMV ⟨(vk : Int), (vn : Int), 0, (vt : Int), ps⟩ A5 c5 := by simp [RMV]
  rw [e7] at r7
  have r2 := r2.upd u7 (by omega)
  have hB7 := Upd.below hB6 u7 (by omega)
  have ho7 := ho6.keeps (Keeps.upd (ts := [97]) u7 r6 (by simp)) (by decide)
  clear e7 c0 cf ff r6 ho6 hB6 u7
  generalize w6.setCell ⟨g6, 3, none⟩ (.int .i64 (vt : Int)) = w7 at *
  have hl7 := r7.lt
  have hl72 := r2.lt
  go_wp2_with (first | ((with_reducible refine wp_load_g ?_ r7.range Try.underlying97 rfl (rmv_info _ _ _) ?_ ?_); rfl; rfl) | (go_at_call 66; (with_reducible refine (valid_rm ⟨(vk : Int), (vn : Int), 0, (vt : Int), ps⟩ A5 c5 _).mono ?_); rintro en w8 ⟨rfl, hb8⟩; rw [HOK.out]; have r2 := r2.below hb8 hl72) | ((with_reducible refine wp_row_store (L := ZRm) r2 rfl zrm_info zrm_one ?_ ?_ ?_); rfl; rfl; intro w9 u9 r9))
  refine bodyPost_ret (results_ct rfl rfl r9 Try.underlying97 rfl zrm_info) rfl ?_
  have hB8 := hB7.trans (hb8.mono hB7.size)
  exact dec_no (Upd.below hB8 u9 (Nat.le_refl _)) HX.out
set_option maxRecDepth 100000 in
set_option maxHeartbeats 8000000 in
theorem decR_p1 (bs : List UInt8) (A : Option Addr) (n c : Nat) (W : World) (hA : IsB W A n bs) (hn : n ≤ 1000000) (hc : n ≤ c) {vk ak ek vn an en_ vt at_ eT ab eb : Nat} {ps : List UInt8} (hK : dK bs = (vk, ak, ek)) (hN : dN bs = (vn, an, en_)) (hT : dT bs = (vt, at_, eT)) (hB : dB bs = (ps, ab, eb)) (h : ek = 0 ∧ en_ = 0 ∧ eT = 0 ∧ eb = 0 ∧ ab = n ∧ vk ≤ 2 ∧ vn ≤ 1099511627776 ∧ vt ≤ 65535) (hk : vk ≠ 1) (hok : (RM.mk (vk : Int) (vn : Int) 0 (vt : Int) ps).ok = true) : Calls Try.prog 85 #[.slice A n c] W (DecP bs W) := by
  have hdr : dR bs = ⟨(vk : Int), (vn : Int), 0, (vt : Int), ps⟩ := by
    unfold dR
    rw [hK, hN, hT, hB]
    simp only
    rw [if_neg hk, if_neg hk]
    try rfl
  have hlen := hA.1
  have ha1 : ak ≤ 1000000 := by have := uvR_le bs 0; have h2 : (dK bs).2.1 ≤ bs.length := this; rw [hK] at h2; have h3 : ak ≤ bs.length := h2; omega
  have ha2 : an ≤ 1000000 := by have h2 : (dN bs).2.1 ≤ bs.length := uvR_le bs _; rw [hN] at h2; have h3 : an ≤ bs.length := h2; omega
  have ha3 : at_ ≤ 1000000 := by have h2 : (dT bs).2.1 ≤ bs.length := uvR_le bs _; rw [hT] at h2; have h3 : at_ ≤ bs.length := h2; omega
  have HK := Lib.hid (show uvR bs 0 = (vk, ak, ek) from hK)
  have HN := Lib.hid (show uvR bs (ak : Int) = (vn, an, en_) by unfold dN at hN; rw [hK] at hN; exact hN)
  have HT := Lib.hid (show uvR bs (an : Int) = (vt, at_, eT) by unfold dT at hT; rw [hN] at hT; exact hT)
  have HB := Lib.hid (show bR bs (at_ : Int) 65536 = (ps, ab, eb) by unfold dB at hB; rw [hT] at hB; exact hB)
  have HLN := Lib.hid hlen
  have hdok : dOk bs = true := (dOk_split bs).2 (by
    refine ⟨?_, ?_, ?_, ?_, ?_, ?_⟩
    · rw [hK]; simp only; omega
    · rw [hN]; simp only; omega
    · rw [hT]; simp only; omega
    · rw [hB]; simp only; omega
    · rw [hB]; simp only; omega
    · rw [← dR_is (by rw [hdr]; exact hok), hdr]; exact hok)
  have HX := Lib.hid hdok
  have HDM := Lib.hid (show dM bs = ⟨(vk : Int), (vn : Int), 0, (vt : Int), ps⟩ from (dR_is (by rw [hdr]; exact hok)).symm.trans hdr)
  have HOK := Lib.hid hok
  have f0 : (((ek : Nat) : Int) != 0) = false := nf (by omega)
  have f1 : (((en_ : Nat) : Int) != 0) = false := nf (by omega)
  have f2 : (((eT : Nat) : Int) != 0) = false := nf (by omega)
  have f3 : (((eb : Nat) : Int) != 0) = false := nf (by omega)
  have f4 : (((ab : Nat) : Int) != ((n : Nat) : Int)) = false := nf (by omega)
  have f5 : decide (((2 : Int)) < ((vk : Nat) : Int)) = false := df (by omega)
  have g5 : decide (2 < vk) = false := df (by omega)
  have f6 : decide (((1099511627776 : Int)) < ((vn : Nat) : Int)) = false := df (by omega)
  have g6 : decide (1099511627776 < vn) = false := df (by omega)
  have f7 : decide (((65535 : Int)) < ((vt : Nat) : Int)) = false := df (by omega)
  have g7 : decide (65535 < vt) = false := df (by omega)
  have dk : (((vk : Nat) : Int) == 1) = false := ef (by omega)
  have wk : IntKind.i64.wrap (vk : Int) = (vk : Int) := by rw [IntKind.wrap_i64]; omega
  have wn : IntKind.i64.wrap (vn : Int) = (vn : Int) := by rw [IntKind.wrap_i64]; omega
  have wt : IntKind.i64.wrap (vt : Int) = (vt : Int) := by rw [IntKind.wrap_i64]; omega
  clear h hK hN hT hB hlen hdr hok hdok hk
  have hB1 := (Below.refl W.heap.size W).alloc (Nat.le_refl _) (.cells ZRm 97)
  have r2 := Row.born W 97 ZRm
  have hA1 := hA.below hB1
  go_enter Try.func85, Try.ntmps85
  go_upto_region 1 with (fail)
  change Code.wp _ _ _ _ (W.alloc (.cells ZRm 97))
  generalize W.alloc (.cells ZRm 97) = w1 at *
  have hl1 := r2.lt
  go_upto_region 5 with (first | (go_at_call 131; (with_reducible refine (uvr_is HK.out hA1 hn (by omega) (by omega)).mono ?_); rintro en w' ⟨rfl, h9⟩; rw [h9]; clear h9) | (go_at_call 131; (with_reducible refine (uvr_is HN.out hA1 hn (by omega) (by omega)).mono ?_); rintro en w' ⟨rfl, h9⟩; rw [h9]; clear h9) | (go_at_call 131; (with_reducible refine (uvr_is HT.out hA1 hn (by omega) (by omega)).mono ?_); rintro en w' ⟨rfl, h9⟩; rw [h9]; clear h9) | (go_at_call 132; (with_reducible refine (bytes_at HB.out hA1 hc hn (by omega) (by omega)).mono ?_); rintro en w2 ⟨A5, c5, rfl, ho5, hb5⟩))
  have r2 := r2.below hb5 hl1
  have hB2 := hB1.trans (hb5.mono hB1.size)
  have hs1 := hB1.size
  clear hB1 hl1
  have h26 := r2.lt
  go_upto_region 8 with ((with_reducible refine wp_row_store (L := RMV ⟨(vk : Int), (vn : Int), 0, 0, ps⟩ A5 c5) (Row.bornAt' (g := w2.heap.size) rfl 97 _) ?_ (rmv_info _ _ _) (rmv_one _ _ _) ?_ ?_ ?_); rfl; rfl; rfl; intro w6 u6 r6)
  have hal := Upd.below ((Below.refl w2.heap.size w2).alloc (Nat.le_refl _) (.cells ZRm 97)) u6 (Nat.le_refl _)
  have r2 := r2.below hal r2.lt
  have hB6 := hB2.trans (hal.mono hB2.size)
  have ho6 := ho5.below hal
  clear hal u6 ho5 hb5 hB2
  generalize w2.heap.size = g6 at *
  have c0 : w6.cell? ⟨g6, 0, none⟩ = some (.int .i64 (vk : Int)) := r6.cell 0
  have cf : w6.cell? ⟨g6, 3, none⟩ = some (.int .i64 0) := r6.cell 3
  have ff := r6.frozen 3
  go_upto_region 11 with (fail)
  have u7 := Upd.setCell w6 g6 3 (.int .i64 (vt : Int))
  have r7 := r6.set 3 (.int .i64 (vt : Int))
  have e7 : (RMV ⟨(vk : Int), (vn : Int), 0, 0, ps⟩ A5 c5).setIfInBounds 3 (.int .i64 (vt : Int)) = RMV ⟨(vk : Int), (vn : Int), 0, (vt : Int), ps⟩ A5 c5 := by simp [RMV]
  rw [e7] at r7
  have r2 := r2.upd u7 (by omega)
  have hB7 := Upd.below hB6 u7 (by omega)
  have ho7 := ho6.keeps (Keeps.upd (ts := [97]) u7 r6 (by simp)) (by decide)
  clear e7 c0 cf ff r6 ho6 hB6 u7
  generalize w6.setCell ⟨g6, 3, none⟩ (.int .i64 (vt : Int)) = w7 at *
  have hl7 := r7.lt
  have hl72 := r2.lt
  go_wp2_with (first | ((with_reducible refine wp_load_g ?_ r7.range Try.underlying97 rfl (rmv_info _ _ _) ?_ ?_); rfl; rfl) | (go_at_call 66; (with_reducible refine (valid_rm ⟨(vk : Int), (vn : Int), 0, (vt : Int), ps⟩ A5 c5 _).mono ?_); rintro en w8 ⟨rfl, hb8⟩; rw [HOK.out]; have r7 := r7.below hb8 hl7; have r2 := r2.below hb8 hl72) | ((with_reducible refine wp_row_store (L := RMV ⟨(vk : Int), (vn : Int), 0, (vt : Int), ps⟩ A5 c5) r2 rfl (rmv_info _ _ _) (rmv_one _ _ _) ?_ ?_ ?_); rfl; rfl; intro w9 u9 r9))
  refine bodyPost_ret (results_ct rfl rfl r9 Try.underlying97 rfl (rmv_info _ _ _)) rfl ?_
  have hB8 := hB7.trans (hb8.mono hB7.size)
  have ho9 := (ho7.below hb8).keeps (Keeps.upd (ts := [97]) u9 r2 (by simp)) (by decide)
  refine ⟨Upd.below hB8 u9 (Nat.le_refl _), .inr ⟨HX.out, A5, c5, ?_, ?_⟩⟩
  · rw [HDM.out]; rfl
  · rw [HDM.out]
    exact ho9.lower (by omega)
theorem decodeR (bs : List UInt8) (A : Option Addr) (n c : Nat) (W : World) (hA : IsB W A n bs) (hn : n ≤ 1000000) (hc : n ≤ c) : Calls Try.prog 85 #[.slice A n c] W (DecP bs W) := by
  obtain ⟨⟨vk, ak, ek⟩, hK⟩ : ∃ r, dK bs = r := ⟨_, rfl⟩
  obtain ⟨⟨vn, an, en_⟩, hN⟩ : ∃ r, dN bs = r := ⟨_, rfl⟩
  obtain ⟨⟨vt, at_, eT⟩, hT⟩ : ∃ r, dT bs = r := ⟨_, rfl⟩
  obtain ⟨⟨ps, ab, eb⟩, hB⟩ : ∃ r, dB bs = r := ⟨_, rfl⟩
  by_cases h0 : ek = 0
  case neg => exact decR_0 bs A n c W hA hn hc hK hN hT hB h0
  by_cases h1 : en_ = 0
  case neg => exact decR_1 bs A n c W hA hn hc hK hN hT hB ⟨h0, h1⟩
  by_cases h2 : eT = 0
  case neg => exact decR_2 bs A n c W hA hn hc hK hN hT hB ⟨h0, h1, h2⟩
  by_cases h3 : eb = 0
  case neg => exact decR_3 bs A n c W hA hn hc hK hN hT hB ⟨h0, h1, h2, h3⟩
  by_cases h4 : ab = n
  case neg => exact decR_4 bs A n c W hA hn hc hK hN hT hB ⟨h0, h1, h2, h3, h4⟩
  by_cases h5 : vk ≤ 2
  case neg => exact decR_5 bs A n c W hA hn hc hK hN hT hB ⟨h0, h1, h2, h3, h4, by omega⟩
  by_cases h6 : vn ≤ 1099511627776
  case neg => exact decR_6 bs A n c W hA hn hc hK hN hT hB ⟨h0, h1, h2, h3, h4, h5, by omega⟩
  by_cases h7 : vt ≤ 65535
  case neg => exact decR_7 bs A n c W hA hn hc hK hN hT hB ⟨h0, h1, h2, h3, h4, h5, h6, by omega⟩
  have hall : ek = 0 ∧ en_ = 0 ∧ eT = 0 ∧ eb = 0 ∧ ab = n ∧ vk ≤ 2 ∧ vn ≤ 1099511627776 ∧ vt ≤ 65535 := ⟨h0, h1, h2, h3, h4, h5, h6, h7⟩
  by_cases hk : vk = 1
  · cases hok : (RM.mk (vk : Int) (vn : Int) (vt : Int) 0 ps).ok
    · exact decR_q0 bs A n c W hA hn hc hK hN hT hB hall hk hok
    · exact decR_q1 bs A n c W hA hn hc hK hN hT hB hall hk hok
  · cases hok : (RM.mk (vk : Int) (vn : Int) 0 (vt : Int) ps).ok
    · exact decR_p0 bs A n c W hA hn hc hK hN hT hB hall hk hok
    · exact decR_p1 bs A n c W hA hn hc hK hN hT hB hall hk hok
end Go.Proofs.Ythjkhambmgepdaa
