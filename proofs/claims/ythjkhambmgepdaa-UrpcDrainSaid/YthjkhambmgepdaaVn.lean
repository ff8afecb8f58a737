/- The law UrpcOnce: under every script each call ends at most once, and when the other end is lost, exactly the open calls fail. -/
import Derived.Test.YthjkhambmgepdaaVo
import Derived.Test.YthjkhambmgepdaaTr
import Derived.Test.YthjkhambmgepdaaVu
namespace Go.Proofs.Ythjkhambmgepdaa
open Go.RowKit
set_option linter.unusedVariables false
set_option linter.unusedSimpArgs false
/-- A step of kind 1 at end s. -/
def TkQ (N : Int) (c : Nat) (S : UcS) (s : Nat) (S' : UcS) (F' : Nat → List RM) : Prop := F' = (fun _ => []) ∧ UInv N c S' ∧ ((S' = S ∧ S.Y s = []) ∨ ∃ m ys, S.Y s = m :: ys ∧ S' = rcvS S s m ys)
theorem rel_tail {S : UcS} {Z : Nat → List (List UInt8)} (hR : RelF S (fun _ => []) Z) {s : Nat} (hs : s < 2) {m : RM} {ys : List RM} (hY : S.Y s = m :: ys) : Z s = m.by :: ys.map RM.by ∧ RelF { S with Y := upd S.Y s ys } (fun _ => []) (upd Z s (ys.map RM.by)) := by
  have h : ∀ t, t < 2 → Z t = (S.Y t).map RM.by := fun t ht => by
    obtain ⟨ms, k1, k2⟩ := hR t ht
    rw [k2, k1]; rfl
  refine ⟨by rw [h s hs, hY]; rfl, fun t ht => ?_⟩
  by_cases e : t = s
  · subst e
    exact ⟨ys, by show upd S.Y t ys t = _; rw [upd_self]; rfl, by rw [upd_self]⟩
  · exact ⟨S.Y t, by show upd S.Y s ys t = _; rw [upd_other e]; rfl, by rw [upd_other e]; exact h t ht⟩
theorem do_one0 {base g : Nat} {col : Nat → Nat} {w : World} {S : UcS} {Z : Nat → List (List UInt8)} {p : CnP} {N : Int} {c : Nat} (hM : CM base g col w (S.cn Z) p) (hI : UInv N c S) (hR : RelF S (fun _ => []) Z) (hc : c ≤ 999) {kd sd sv : Int} (hs : bits .and .i64 sd 1 = 0) (hk : kd % 3 = 1) : Calls Try.prog 68 #[.pointer (some ⟨g, 0, none⟩), .agg #[.int .i64 kd, .int .i64 sd, .int .i64 sv]] w (CPost (TkQ N c S 0) base g col w) := by
  cases hY : S.Y 0 with
  | nil =>
    have hZ : Z 0 = [] := by
      obtain ⟨ms, k1, k2⟩ := hR 0 (by omega)
      rw [hY] at k1
      have : ms = [] := by simpa using k1.symm
      rw [k2, this]; rfl
    refine (do_nil0 hM hI hR (by omega) hs hk hZ).mono ?_
    intro en W' h
    exact h.mono fun S' F' h => ⟨h.1, by rw [h.2]; exact hI, .inl ⟨h.2, hY⟩⟩
  | cons m ys =>
    obtain ⟨h1, h2⟩ := rel_tail hR (s := 0) (by omega) hY
    have hl := ylen hI (s := 0) (by omega)
    rw [hY, List.length_cons] at hl
    refine (do_take0 hM hI (by omega) hs hk hY h1 h2 (by rw [List.length_map]; omega)).mono ?_
    intro en W' h
    exact h.mono fun S' F' h => ⟨h.1, h.2.1, .inr ⟨m, ys, hY, h.2.2⟩⟩
theorem do_one1 {base g : Nat} {col : Nat → Nat} {w : World} {S : UcS} {Z : Nat → List (List UInt8)} {p : CnP} {N : Int} {c : Nat} (hM : CM base g col w (S.cn Z) p) (hI : UInv N c S) (hR : RelF S (fun _ => []) Z) (hc : c ≤ 999) {kd sd sv : Int} (hs : bits .and .i64 sd 1 = 1) (hk : kd % 3 = 1) : Calls Try.prog 68 #[.pointer (some ⟨g, 0, none⟩), .agg #[.int .i64 kd, .int .i64 sd, .int .i64 sv]] w (CPost (TkQ N c S 1) base g col w) := by
  cases hY : S.Y 1 with
  | nil =>
    have hZ : Z 1 = [] := by
      obtain ⟨ms, k1, k2⟩ := hR 1 (by omega)
      rw [hY] at k1
      have : ms = [] := by simpa using k1.symm
      rw [k2, this]; rfl
    refine (do_nil1 hM hI hR (by omega) hs hk hZ).mono ?_
    intro en W' h
    exact h.mono fun S' F' h => ⟨h.1, by rw [h.2]; exact hI, .inl ⟨h.2, hY⟩⟩
  | cons m ys =>
    obtain ⟨h1, h2⟩ := rel_tail hR (s := 1) (by omega) hY
    have hl := ylen hI (s := 1) (by omega)
    rw [hY, List.length_cons] at hl
    refine (do_take1 hM hI (by omega) hs hk hY h1 h2 (by rw [List.length_map]; omega)).mono ?_
    intro en W' h
    exact h.mono fun S' F' h => ⟨h.1, h.2.1, .inr ⟨m, ys, hY, h.2.2⟩⟩
theorem do_any {base g : Nat} {col : Nat → Nat} {w : World} {S : UcS} {Z : Nat → List (List UInt8)} {p : CnP} {N : Int} {c : Nat} (hM : CM base g col w (S.cn Z) p) (hI : UInv N c S) (hR : RelF S (fun _ => []) Z) (hc : c ≤ 999) (kd sd sv : Int) : Calls Try.prog 68 #[.pointer (some ⟨g, 0, none⟩), .agg #[.int .i64 kd, .int .i64 sd, .int .i64 sv]] w (CPost (fun S' F' => F' = (fun _ => []) ∧ UInv N (c + 1) S') base g col w) := by
  have h0 := Int.emod_nonneg kd (show (3 : Int) ≠ 0 by omega)
  have h1 := Int.emod_lt_of_pos kd (show (0 : Int) < 3 by omega)
  have hup : ∀ S', UInv N c S' → UInv N (c + 1) S' := fun S' h => h.more (by omega) (by omega)
  rcases and1 sd with hs | hs <;> rcases (by omega : kd % 3 = 0 ∨ kd % 3 = 1 ∨ kd % 3 = 2) with hk | hk | hk
  · exact do_call0 hM hI hR (by omega) hs hk
  · exact (do_one0 hM hI hR hc hs hk).mono fun en W' h => h.mono fun S' F' h => ⟨h.1, hup _ h.2.1⟩
  · exact (do_rep0 hM hI hR (by omega) hs hk).mono fun en W' h => h.mono fun S' F' h => ⟨h.1, hup _ h.2⟩
  · exact do_call1 hM hI hR (by omega) hs hk
  · exact (do_one1 hM hI hR hc hs hk).mono fun en W' h => h.mono fun S' F' h => ⟨h.1, hup _ h.2.1⟩
  · exact (do_rep1 hM hI hR (by omega) hs hk).mono fun en W' h => h.mono fun S' F' h => ⟨h.1, hup _ h.2⟩
theorem lost_is {e : UE} {A B : Option Addr} {c d : Nat} {W : World} (hx : uE e = 0) (hH : HeldU W e A c B d) : Calls Try.prog 82 #[.agg (UEV e A c B d)] W (fun en W' => ∃ A c, en = .returned (.tuple #[.agg (UEV (lstU e) none 0 none 0), .slice A e.cs.length c, .int .i64 0]) ∧ OwnN W' W.heap.size 3 A e.cs.length c e.cs ∧ Below W.heap.size W W') := by
  refine (lostU e A B c d W hH).mono ?_
  rintro en W' ⟨hb, ⟨h1, -⟩ | ⟨-, A', c', h2, h3⟩⟩
  · exact absurd hx h1
  · exact ⟨A', c', h2, h3, hb⟩
theorem dead_e {e : UE} (h : uV e = true) : uE (lstU e) = 16 := by
  have hb := uV_bd h
  have : uV (lstU e) = true := by
    unfold uV bdB lstU numB upB
    simp
    omega
  unfold uE
  rw [this]
  rfl
theorem dead_call {e : UE} {W : World} (h : uE e = 16) (hH : HeldU W e none 0 none 0) : Calls Try.prog 76 #[.agg (UEV e none 0 none 0), .int .i64 1, .slice none 0 0] W (fun en W' => en = .returned (.tuple #[.agg ZU, .int .i64 0, .slice none 0 0, .int .i64 16]) ∧ Below W.heap.size W W') := by
  have hc : calE e 1 [] = 16 := by unfold calE; rw [if_neg (by omega), h]
  refine (callU e none none 0 0 1 none 0 [] W hH (IsB.nil _ _)).mono ?_
  rintro en W' ⟨hb, ⟨-, h2⟩ | ⟨h1, -⟩⟩
  · rw [hc] at h2
    exact ⟨h2, hb⟩
  · omega
theorem dead_rcv {e : UE} {W : World} (h : uE e = 16) (hH : HeldU W e none 0 none 0) : Calls Try.prog 78 #[.agg (UEV e none 0 none 0), .slice none 0 0] W (fun en W' => en = .returned (.tuple #[.agg ZU, .agg ZRm, .int .i64 16]) ∧ Below W.heap.size W W') := by
  have hc : rcvE e [] = 16 := by unfold rcvE; rw [if_neg (by omega), h]
  refine (receiveU e none none 0 0 none 0 [] W hH (IsB.nil _ _) (Nat.zero_le _) (Nat.zero_le _)).mono ?_
  rintro en W' ⟨hb, ⟨-, h2⟩ | ⟨h1, -⟩⟩
  · rw [hc] at h2
    exact ⟨h2, hb⟩
  · omega
theorem dead_lost {e : UE} {W : World} (h : uE e = 16) (hH : HeldU W e none 0 none 0) : Calls Try.prog 82 #[.agg (UEV e none 0 none 0)] W (fun en W' => en = .returned (.tuple #[.agg ZU, .slice none 0 0, .int .i64 16]) ∧ Below W.heap.size W W') := by
  refine (lostU e none none 0 0 W hH).mono ?_
  rintro en W' ⟨hb, ⟨-, h2⟩ | ⟨h1, -⟩⟩
  · rw [h] at h2
    exact ⟨h2, hb⟩
  · omega
theorem held_dead (w : World) (e : UE) : HeldU w (lstU e) none 0 none 0 := ⟨IsN.nil _ _, IsN.nil _ _, Nat.zero_le _, Nat.zero_le _⟩
theorem trips_cn {W w1 : World} {base g : Nat} {col : Nat → Nat} {C : CnS} {p : CnP} {A : Option Addr} {n : Nat} (h : IsTr W A n) (hb : Below W.heap.size W w1) (hM : CM base g col w1 C p) (hg : W.heap.size ≤ g) (hc : ∀ x, x ≠ g → col x = 0) : Part col 0 w1 (fun w => IsTr w A n) :=
  (h.part (col := fun _ => 0) (fun _ _ => rfl)).ofWhite (White.below hb) (fun x hx _ => hc x (by omega))
/-- The Over list while the failed calls are counted: number k has ended unless it is still to come. -/
def OvAt (cs O : List Int) (j : Nat) : Prop := ∀ k, k < O.length → O[k]? = some (if ((k : Int) + 1) ∈ cs.drop j then 0 else 1)
theorem ov_step {cs O : List Int} {j : Nat} (hn : cs.Nodup) (h : OvAt cs O j) {x : Int} {k : Nat} (hx : cs[j]? = some x) (hk : x = (k : Int) + 1) (hkl : k < O.length) : O[k]? = some 0 ∧ OvAt cs (O.set k 1) (j + 1) := by
  have hj := (List.getElem?_eq_some_iff.1 hx).1
  have hd : cs.drop j = x :: cs.drop (j + 1) := by
    rw [List.drop_eq_getElem_cons hj, (List.getElem?_eq_some_iff.1 hx).2]
  have hn2 : (x :: cs.drop (j + 1)).Nodup := by rw [← hd]; exact hn.sublist (List.drop_sublist _ _)
  rw [List.nodup_cons] at hn2
  refine ⟨by rw [h k hkl, hd, if_pos (by rw [← hk]; exact List.mem_cons_self ..)], fun i hi => ?_⟩
  rw [List.length_set] at hi
  by_cases e : k = i
  · subst e
    rw [List.getElem?_set_self hkl, if_neg (by rw [← hk]; exact hn2.1)]
  · rw [List.getElem?_set_ne e, h i hi, hd]
    congr 1
    have : ((i : Int) + 1 ∈ x :: cs.drop (j + 1)) ↔ ((i : Int) + 1 ∈ cs.drop (j + 1)) := by
      rw [List.mem_cons]
      constructor
      · rintro (h1 | h1)
        · omega
        · exact h1
      · exact .inr
    simp only [this]
theorem Part.intsU {col : Nat → Nat} {w : World} {lo : Nat} {A : Option Addr} {n c : Nat} {l : List Int} (h : OwnN w lo 3 A n c l) (hc : ∀ x, lo ≤ x → col x = 0) : Part col 0 w (fun w => IsN w A n l) := fun w' hs hk =>
  h.isB.of_same fun b o e h0 => by
    obtain ⟨g, hA, hg, hl, -⟩ := OwnN.form h h0
    rw [hA] at e
    injection e with e
    injection e with e1 e2 e3
    subst e1
    exact hk _ hl (hc _ hg)
set_option maxRecDepth 100000 in
set_option maxHeartbeats 8000000 in
theorem walk_once (W : World) (t : Int) (A : Option Addr) (n cc : Nat) (_ : (Lit.int .i64 t).wf = true) (hT : IsTr W A n) : Calls Try.prog 18 #[.int .i64 t, .slice A n cc] W (True1 W) := by
  go_enter Try.func18, Try.ntmps18
  go_upto_region 2 with (go_at_call 67; refine (cn_open W.heap.size t _ (Nat.le_refl _)).mono ?_; rintro en w1 ⟨g, N, col, p, n1, n2, rfl, hM0, hc0, hb0⟩)
  have hT1 := trips_cn hT hb0 hM0 hM0.bg hc0
  clear hT
  have hM0 : CM W.heap.size g col w1 ((newUS N).cn (fun _ => [])) p := hM0
  have hB1 := hM0.white (White.refl _ _) hb0
  have hMb := hM0
  go_upto_block 0 with (fail)
  go_cut [7] from 32 to 66 (fun u wx => ∃ S1 Z1 col1 p1, UInv N 200 S1 ∧ RelF S1 (fun _ => []) Z1 ∧ CM W.heap.size g col1 wx (S1.cn Z1) p1 ∧ White col w1 wx ∧ (∀ x, x < w1.heap.size → col x = 0 → col1 x = 0))
  case first =>
   as_aux_lemma =>
    go_upto_region 5 with (fail)
    go_loopw [7] (fun i wr => ∃ j : Nat, ∃ S1 Z1 col1 p1, i = .int .i64 j ∧ j ≤ 200 ∧ j ≤ n ∧ UInv N j S1 ∧ RelF S1 (fun _ => []) Z1 ∧ CM W.heap.size g col1 wr (S1.cn Z1) p1 ∧ Part col1 0 wr (fun w => IsTr w A n) ∧ White col w1 wr ∧ (∀ x, x < w1.heap.size → col x = 0 → col1 x = 0)) (fun i _ => 200 - (intOf i).toNat)
    case atStart => exact ⟨0, newUS N, fun _ => [], col, p, rfl, by omega, by omega, newUS_inv n1 n2, newRelF N, hM0, hT1, White.refl _ _, fun _ _ h => h⟩
    case round =>
      clear hM0 hT1 hc0 hb0
      obtain ⟨j, S1, Z1, col1, p1, rfl, hj, hjn, hI, hR, hM, hT, hW, hC⟩ := hrel
      by_cases hd : j < n ∧ j < 200
      · obtain ⟨hjl, hj4⟩ := hd
        have d1 : decide (j < n) = true := decide_eq_true hjl
        have d1i : decide ((j : Int) < (n : Int)) = true := decide_eq_true (by omega)
        have d2 : decide (j < 200) = true := decide_eq_true hj4
        have d2i : decide ((j : Int) < 200) = true := decide_eq_true (by omega)
        have hji : (j : Int) < n := by omega
        have hj0 : (0 : Int) ≤ (j : Int) := by omega
        obtain ⟨b, o, x, y, z, hA, q0, q1, q2⟩ := hT.now j hjl
        subst hA
        go_upto_region 6 with (first | (go_at_call 68; (with_reducible refine (do_any hM hI hR (by omega) x y z).mono ?_); rintro en w2 ⟨rfl, S2, F2, Z2, col2, p2, ⟨hF2, hI2⟩, hR2, hM2, hw2, hc2⟩; subst hF2; have HV0 : Hid (uV ((S2.cn Z2).E 0) = true) := Lib.hid (hI2.valid (s := 0) (by omega)); have HV1 : Hid (uV ((S2.cn Z2).E 1) = true) := Lib.hid (hI2.valid (s := 1) (by omega)); obtain ⟨⟨z0, z1, i0, i1, i2, i3, i4, i5⟩, fz, e0, e1⟩ := hM2.cells) | ((with_reducible refine wp_load_g ?_ e0 Try.underlying112 rfl (uev_info _ _ _ _ _) ?_ ?_); rfl; rfl) | ((with_reducible refine wp_load_g ?_ e1 Try.underlying112 rfl (uev_info _ _ _ _ _) ?_ ?_); rfl; rfl) | (go_at_call 75; (with_reducible refine (valid_ref_is HV0.out (hM2.held 0 (by omega)).now).mono ?_); rintro en w3 ⟨rfl, hb3⟩; have hM3 := hM2.below hb3; clear z0 z1 i0 i1 i2 i3 i4 i5 fz e0 e1; obtain ⟨⟨z0, z1, i0, i1, i2, i3, i4, i5⟩, fz, e0, e1⟩ := hM3.cells) | (go_at_call 75; (with_reducible refine (valid_ref_is HV1.out (hM3.held 1 (by omega)).now).mono ?_); rintro en w4 ⟨rfl, hb4⟩; have hM4 := hM3.below hb4; clear z0 z1 i0 i1 i2 i3 i4 i5 fz e0 e1; obtain ⟨⟨z0, z1, i0, i1, i2, i3, i4, i5⟩, fz, e0, e1⟩ := hM4.cells))
        have hC4 := fun x (hx : x < w1.heap.size) (h0 : col x = 0) => hc2 x (Nat.lt_of_lt_of_le hx hW.size) (hC x hx h0)
        have hW4 := ((hW.stepU hC hw2).stepU hC4 (White.below hb3)).stepU hC4 (White.below hb4)
        have hT4 := ((hT.ofWhite hw2 hc2).below hb3).below hb4
        clear z0 z1 i0 i1 i2 i3 i4 i5 fz e0 e1
        go_wp2
        exact ⟨⟨j + 1, S2, Z2, col2, p2, by go_num, by omega, by omega, hI2, hR2, hM4, hT4, hW4, hC4⟩, by simp [intOf]; omega⟩
      · have hI := hI.more (show j ≤ 200 by omega) (by omega)
        rcases Nat.lt_or_ge j n with h1 | h1
        · have d1 := dt h1
          have d1i := dt (show (j : Int) < (n : Int) by omega)
          have d2 := df (show ¬ j < 200 by omega)
          have d2i := df (show ¬ (j : Int) < 200 by omega)
          clear h1 hd
          go_wp2
          go_meet
          exact ⟨S1, Z1, col1, p1, hI, hR, hM, hW, hC⟩
        · have d1 := df (show ¬ j < n by omega)
          have d1i := df (show ¬ (j : Int) < (n : Int) by omega)
          clear h1 hd
          go_wp2
          go_meet
          exact ⟨S1, Z1, col1, p1, hI, hR, hM, hW, hC⟩
  case rest =>
  obtain ⟨S2, Z2, col2, p2, hI2, hR2, hM2, hw2, hc2⟩ := hcut
  clear hM0 hT1 hc0 hb0 hR2
  obtain ⟨w2, hw2e⟩ : ∃ w', wc = w' := ⟨_, rfl⟩
  have hB2 := hMb.white hw2 hB1
  rw [hw2e] at hM2 hw2 hB2
  have hMw := hM2
  go_upto_region 10 with (fail)
  go_loopw [8] (fun i wr => ∃ s : Nat, s ≤ 2 ∧ ∃ C : CnS, i = .int .i64 s ∧ CM W.heap.size g col2 wr C p2 ∧ (∀ t, t < 2 → C.E t = S2.E t) ∧ (∀ t, s ≤ t → t < 2 → C.I (4 + t) = S2.O t) ∧ White col2 w2 wr) (fun i _ => 2 - (intOf i).toNat)
  case atStart => exact ⟨0, by omega, S2.cn Z2, rfl, by rw [hw2e]; exact hM2, fun t ht => rfl, fun t h1 h2 => (by rcases (by omega : t = 0 ∨ t = 1) with rfl | rfl <;> rfl), by rw [hw2e]; exact White.refl _ _⟩
  case round =>
  obtain ⟨s, hs, C, rfl, hM, hE, hIo, hW⟩ := hrel
  clear hM2
  rcases (by omega : s = 0 ∨ s = 1 ∨ s = 2) with h' | h' | h' <;> subst h'
  · as_aux_lemma =>
    have hEs : uV (C.E 0) = true := by rw [hE 0 (by omega)]; exact hI2.valid (s := 0) (by omega)
    have HX : Hid (uE (C.E 0) = 0) := Lib.hid (by rw [hE 0 (by omega)]; exact hI2.ok (s := 0) (by omega))
    have HD := Lib.hid (dead_e hEs)
    have hsd := hI2.sd (s := 0) (by omega)
    have hcs : (C.E 0).cs = (S2.E 0).cs := by rw [hE 0 (by omega)]
    obtain ⟨O0, hO0⟩ : ∃ O0, S2.O 0 = O0 := ⟨_, rfl⟩
    have hCO : C.I 4 = O0 := (hIo 0 (by omega) (by omega)).trans hO0
    have hnd : (C.E 0).cs.Nodup := by rw [hcs]; exact nodup_lt hsd.dir.asc
    have hov0 : OvAt (C.E 0).cs O0 0 := by
      intro k hk
      rw [← hO0] at hk ⊢
      rw [hsd.dir.ov k (by rw [← hsd.dir.ol]; exact hk), List.drop_zero, hcs]
    have hbd : ∀ x ∈ (C.E 0).cs, 1 ≤ x ∧ x ≤ (O0.length : Int) := by
      intro x hx
      rw [hcs] at hx
      have h1 := hsd.dir.cb x hx
      have h2 := hsd.dir.lv
      have h3 := hsd.dir.ol
      rw [hO0] at h3
      omega
    have hcl : (C.E 0).cs.length ≤ 1000 := by
      have := cslen hI2 (s := 0) (by omega)
      rw [hcs]; omega
    have hol0 : O0.length ≤ 1000 := by
      have := hsd.dir.ol
      have := hsd.lc
      rw [← hO0]; omega
    have hMO : CM W.heap.size g col2 wr { C with I := upd C.I 4 O0 } p2 := hM.same (fun _ _ => rfl) (fun _ _ => rfl) (fun i hi => by
      show upd C.I 4 O0 i = C.I i
      by_cases e : i = 4
      · subst e; rw [upd_self, hCO]
      · rw [upd_other e])
    have HHD := Lib.hid (hM.held 0 (by omega)).now
    obtain ⟨e5, he5⟩ : ∃ e5, C.E 0 = e5 := ⟨_, rfl⟩
    clear hsd hcs hO0 hEs
    obtain ⟨⟨z0, z1, i0, i1, i2, i3, i4, i5⟩, fz, e0, e1⟩ := hM.cells
    have hHe := HHD.out
    rw [he5] at HX HD hnd hov0 hbd hcl hHe
    rw [he5] at e0
    clear he5
    go_upto_region 13 with (first | ((with_reducible refine wp_load_g ?_ e0 Try.underlying112 rfl (uev_info _ _ _ _ _) ?_ ?_); rfl; rfl) | (go_at_call 82; (with_reducible refine (lost_is HX.out hHe).mono ?_); rintro en w3 ⟨A3, c3, rfl, ho3, hb3⟩) | ((with_reducible refine wp_row_store (L := UEV (lstU e5) none 0 none 0) (Row.bornAt' (g := w3.heap.size) rfl 112 _) ?_ (uev_info _ _ _ _ _) (uev_one _ _ _ _ _) ?_ ?_ ?_); rfl; rfl; rfl; intro w4 uf r9))
    clear z0 z1 i0 i1 i2 i3 i4 i5 fz e0 e1
    have hB4 := Upd.below (hb3.trans (((Below.refl w3.heap.size w3).alloc (Nat.le_refl _) (.cells ZU 112)).mono hb3.size)) uf hb3.size
    have hal4 := Upd.below ((Below.refl w3.heap.size w3).alloc (Nat.le_refl _) (.cells ZU 112)) uf (Nat.le_refl _)
    have hM4 := hMO.below hB4
    have hg9 : col2 w3.heap.size = 0 := hM.cn _ hb3.size
    have hPF : Part col2 0 w4 (fun w => IsN w A3 e5.cs.length e5.cs) := Part.intsU ((OwnN.below ho3 hal4)) (fun x hx => hM.cn x hx)
    have hPR : Part col2 0 w4 (fun w => Row w w3.heap.size 112 (UEV (lstU e5) none 0 none 0)) := Part.row r9 hg9
    have hW4 : White col2 w2 w4 := hW.trans (White.below hB4)
    have q3 : w4.cell? ⟨w3.heap.size, 3, none⟩ = some (.slice none 0 0) := r9.cell 3
    have q4 : w4.cell? ⟨w3.heap.size, 4, none⟩ = some (.slice none 0 0) := r9.cell 4
    have q5 : w4.cell? ⟨w3.heap.size, 5, none⟩ = some (.bool true) := r9.cell 5
    clear hb3 ho3 uf hB4 hal4 hg9 hMO hM hW HHD hHe r9 hCO
    generalize w3.heap.size = g9 at *
    have hw00 : IntKind.i64.wrap 0 = 0 := by rw [IntKind.wrap_i64]; rfl
    go_upto_region 16 with (fail)
    clear q3 q4 q5
    go_loopw [12] (fun i wr => ∃ j : Nat, ∃ O1, i = .int .i64 j ∧ j ≤ e5.cs.length ∧ O1.length = O0.length ∧ OvAt e5.cs O1 j ∧ CM W.heap.size g col2 wr { C with I := upd C.I 4 O1 } p2 ∧ Part col2 0 wr (fun w => IsN w A3 e5.cs.length e5.cs) ∧ Part col2 0 wr (fun w => Row w g9 112 (UEV (lstU e5) none 0 none 0)) ∧ White col2 w2 wr) (fun i _ => e5.cs.length - (intOf i).toNat)
    case atStart => exact ⟨0, O0, rfl, Nat.zero_le _, rfl, hov0, hM4, hPF, hPR, hW4⟩
    case round =>
      clear hM4 hPF hPR hW4 hov0
      obtain ⟨j, O1, rfl, hj, hOl, hov, hM, hPF, hPR, hW⟩ := hrel
      rcases Nat.lt_or_ge j e5.cs.length with hjn | hjn
      · have dj : decide (j < e5.cs.length) = true := decide_eq_true hjn
        have dji : decide ((j : Int) < (e5.cs.length : Int)) = true := decide_eq_true (by omega)
        have hji : (j : Int) < (e5.cs.length : Int) := by omega
        have hj0 : (0 : Int) ≤ (j : Int) := by omega
        obtain ⟨bf, of_, hAf⟩ := hPF.now.form (by omega)
        subst hAf
        obtain ⟨x, hx, hcx⟩ := hPF.now.idx hjn
        have hb := hbd x (List.mem_of_getElem? hx)
        obtain ⟨k, rfl⟩ : ∃ k : Nat, x = (k : Int) + 1 := ⟨(x - 1).toNat, by omega⟩
        have hkl : k < O1.length := by omega
        obtain ⟨hz, hov2⟩ := ov_step hnd hov hx rfl hkl
        have hIO : (upd C.I 4 O1) 4 = O1 := upd_self _ _ _
        obtain ⟨bO, oO, curO, hAO, hrO, hcO⟩ := (hM.ints 4 (by omega)).part.now.cells (by show 0 < (upd C.I 4 O1 4).length; rw [hIO]; omega)
        have hcO : wr.cell? ⟨bO, oO + k, none⟩ = some (.int .i64 0) := hcO k _ (iv_at (by show (upd C.I 4 O1 4)[k]? = some 0; rw [hIO]; exact hz))
        have hoq := (hM.ints 4 (by omega)).part.now
        rw [hAO] at hoq
        have hfO := hoq.frozen (oO + k)
        have hcolO : col2 bO = 4 + 4 := (hM.ints 4 (by omega)).blk bO (by rw [hAO]; rfl)
        have iO' : wr.cell? ⟨g, 18, none⟩ = some (.slice (some ⟨bO, oO, none⟩) O1.length (p2.ic 4)) := by
          have h : wr.cell? ⟨g, 18, none⟩ = some (.slice (p2.iA 4) (upd C.I 4 O1 4).length (p2.ic 4)) := hM.row.now.cell 18
          rw [hAO, hIO] at h
          exact h
        clear hoq hrO hz
        have hki : (k : Int) < (O1.length : Int) := by omega
        have hk0 : (0 : Int) ≤ (k : Int) := by omega
        have dk0 : decide ((k : Int) < 0) = false := decide_eq_false (by omega)
        have dkO : decide ((O1.length : Int) ≤ (k : Int)) = false := decide_eq_false (by omega)
        have dkOn : decide (O1.length ≤ k) = false := decide_eq_false (by omega)
        have hwk : IntKind.i64.wrap ((k : Int) + 1 - 1) = (k : Int) := by rw [IntKind.wrap_i64]; omega
        have hwk2 : IntKind.i64.wrap (k : Int) = (k : Int) := by rw [IntKind.wrap_i64]; omega
        have hw01 : IntKind.i64.wrap 1 = 1 := by rw [IntKind.wrap_i64]; rfl
        have hw02 : IntKind.i64.wrap (0 + 1) = 1 := by rw [IntKind.wrap_i64]; rfl
        have HAO := Lib.hid hAO
        have HIO := Lib.hid hIO
        have HOL := Lib.hid hOl
        clear hAO hIO hOl hx
        go_wp2
        have hM' := hM.setI (i := 4) (x := 1) (k := k) (by omega) HAO.out (by show k < (upd C.I 4 O1 4).length; rw [HIO.out]; exact hkl)
        have uO := Upd.setCell wr bO (oO + k) (.int .i64 1)
        have hOnly : Only col2 (4 + 4) wr (wr.setCell ⟨bO, oO + k, none⟩ (.int .i64 1)) := Only.upd uO hcolO
        refine ⟨⟨j + 1, O1.set k 1, by go_num, by omega, by rw [List.length_set]; exact HOL.out, hov2, hM'.same (fun _ _ => rfl) (fun _ _ => rfl) (fun i hi => ?_), hPF.only hOnly (by omega), hPR.only hOnly (by omega), hW.trans (hOnly.white (by omega))⟩, by simp [intOf]; omega⟩
        show upd C.I 4 (O1.set k 1) i = upd (upd C.I 4 O1) 4 ((upd C.I 4 O1 4).set k 1) i
        rw [HIO.out]
        by_cases e : i = 4
        · subst e; rw [upd_self, upd_self]
        · rw [upd_other e, upd_other e, upd_other e]
      · have dj : decide (j < e5.cs.length) = false := decide_eq_false (by omega)
        have dji : decide ((j : Int) < (e5.cs.length : Int)) = false := decide_eq_false (by omega)
        have hone : ∀ k, k < O1.length → O1[k]? = some 1 := fun k hk => by
          rw [hov k hk, List.drop_of_length_le hjn, if_neg (by simp)]
        have hIO : (upd C.I 4 O1) 4 = O1 := upd_self _ _ _
        have iO' : wr.cell? ⟨g, 18, none⟩ = some (.slice (p2.iA 4) O1.length (p2.ic 4)) := by
          have h : wr.cell? ⟨g, 18, none⟩ = some (.slice (p2.iA 4) (upd C.I 4 O1 4).length (p2.ic 4)) := hM.row.now.cell 18
          rw [hIO] at h
          exact h
        have hcells : ∀ k, k < O1.length → ∃ b o, p2.iA 4 = some ⟨b, o, none⟩ ∧ wr.cell? ⟨b, o + k, none⟩ = some (.int .i64 1) := fun k hk => by
          obtain ⟨bO, oO, curO, hAO, hrO, hcO⟩ := (hM.ints 4 (by omega)).part.now.cells (by show 0 < (upd C.I 4 O1 4).length; rw [hIO]; omega)
          exact ⟨bO, oO, hAO, hcO k _ (iv_at (by show (upd C.I 4 O1 4)[k]? = some 1; rw [hIO]; exact hone k hk))⟩
        have hO1 : O1.length ≤ 1000 := by omega
        have HCE := Lib.hid hcells
        have HMM := Lib.hid hM
        have HOL := Lib.hid hOl
        clear hov hone hcells hIO hjn hOl
        go_upto_region 23 with (fail)
        go_loopw [14] (fun i wq => ∃ k : Nat, i = .int .i64 k ∧ k ≤ O1.length ∧ wq = wr) (fun i _ => O1.length - (intOf i).toNat)
        case atStart => exact ⟨0, rfl, Nat.zero_le _, rfl⟩
        case round =>
          obtain ⟨k, rfl, hk, rfl⟩ := hrel
          rcases Nat.lt_or_ge k O1.length with hkl | hkl
          · have dk : decide (k < O1.length) = true := decide_eq_true hkl
            have dki : decide ((k : Int) < (O1.length : Int)) = true := decide_eq_true (by omega)
            have hki : (k : Int) < (O1.length : Int) := by omega
            have hk0 : (0 : Int) ≤ (k : Int) := by omega
            obtain ⟨bO, oO, hAO, hcO⟩ := HCE.out k hkl
            rw [hAO] at iO'
            clear hAO
            go_wp2
            exact ⟨⟨k + 1, by go_num, by omega, trivial⟩, by simp [intOf]; omega⟩
          · have dk : decide (k < O1.length) = false := decide_eq_false (by omega)
            have dki : decide ((k : Int) < (O1.length : Int)) = false := decide_eq_false (by omega)
            clear hkl hk
            have r9 := hPR.now
            have hl9 := r9.lt
            go_upto_region 28 with (first | ((with_reducible refine wp_load_g ?_ r9.range Try.underlying112 rfl (uev_info _ _ _ _ _) ?_ ?_); rfl; rfl) | (go_at_call 76; (with_reducible refine (dead_call HD.out (held_dead _ _)).mono ?_); rintro en w6 ⟨rfl, hb6⟩) | ((with_reducible refine wp_row_store (L := ZU) (Row.bornAt' (g := w6.heap.size) rfl 112 _) ?_ zu_info zu_one ?_ ?_ ?_); rfl; rfl; rfl; intro w7 ug r7))
            have hB7 := Upd.below (hb6.trans (((Below.refl w6.heap.size w6).alloc (Nat.le_refl _) (.cells ZU 112)).mono hb6.size)) ug hb6.size
            have r9 := r9.below hB7 hl9
            have hl9 := r9.lt
            clear hb6 ug r7 iO'
            go_upto_region 29 with (first | ((with_reducible refine wp_load_g ?_ r9.range Try.underlying112 rfl (uev_info _ _ _ _ _) ?_ ?_); rfl; rfl) | (go_at_call 78; (with_reducible refine (dead_rcv HD.out (held_dead _ _)).mono ?_); rintro en w8 ⟨rfl, hb8⟩) | ((with_reducible refine wp_row_store (L := ZU) ((Row.bornAt' (g := w8.heap.size) rfl 112 _).alloc _) ?_ zu_info zu_one ?_ ?_ ?_); rfl; rfl; rfl; intro wa ua ra) | ((with_reducible refine wp_row_store (L := ZRm) ((Row.bornAt' (g := w8.heap.size + 1) (by simp) 97 _).upd ua (by omega)) ?_ zrm_info zrm_one ?_ ?_ ?_); rfl; rfl; rfl; intro wb ub rb))
            have hal8 := ((Below.refl w8.heap.size w8).alloc (Nat.le_refl _) (.cells ZU 112)).alloc (by simp) (.cells ZRm 97)
            have hB8 := hb8.trans ((Upd.below (Upd.below hal8 ua (Nat.le_refl _)) ub (by omega)).mono hb8.size)
            have r9 := r9.below hB8 hl9
            have hl9 := r9.lt
            have hB78 := hB7.trans (hB8.mono hB7.size)
            clear hb8 ua ub ra rb hal8 hB7 hB8
            go_upto_region 30 with (first | ((with_reducible refine wp_load_g ?_ r9.range Try.underlying112 rfl (uev_info _ _ _ _ _) ?_ ?_); rfl; rfl) | (go_at_call 82; (with_reducible refine (dead_lost HD.out (held_dead _ _)).mono ?_); rintro en wc ⟨rfl, hbc⟩) | ((with_reducible refine wp_row_store (L := ZU) (Row.bornAt' (g := wc.heap.size) rfl 112 _) ?_ zu_info zu_one ?_ ?_ ?_); rfl; rfl; rfl; intro wd ud rd))
            have hBd := Upd.below (hbc.trans (((Below.refl wc.heap.size wc).alloc (Nat.le_refl _) (.cells ZU 112)).mono hbc.size)) ud hbc.size
            have hBq := hB78.trans (hBd.mono hB78.size)
            clear hbc ud rd hBd hB78 r9 hl9
            go_wp2
            exact ⟨⟨1, by omega, { C with I := upd C.I 4 O1 }, by go_num, HMM.out.below hBq, fun t ht => hE t ht, fun t h1 h2 => (upd_other (show 4 + t ≠ 4 by omega)).trans (hIo t (by omega) h2), hW.trans (White.below hBq)⟩, by simp [intOf]⟩
  · as_aux_lemma =>
    have hEs : uV (C.E 1) = true := by rw [hE 1 (by omega)]; exact hI2.valid (s := 1) (by omega)
    have HX : Hid (uE (C.E 1) = 0) := Lib.hid (by rw [hE 1 (by omega)]; exact hI2.ok (s := 1) (by omega))
    have HD := Lib.hid (dead_e hEs)
    have hsd := hI2.sd (s := 1) (by omega)
    have hcs : (C.E 1).cs = (S2.E 1).cs := by rw [hE 1 (by omega)]
    obtain ⟨O0, hO0⟩ : ∃ O0, S2.O 1 = O0 := ⟨_, rfl⟩
    have hCO : C.I 5 = O0 := (hIo 1 (by omega) (by omega)).trans hO0
    have hnd : (C.E 1).cs.Nodup := by rw [hcs]; exact nodup_lt hsd.dir.asc
    have hov0 : OvAt (C.E 1).cs O0 0 := by
      intro k hk
      rw [← hO0] at hk ⊢
      rw [hsd.dir.ov k (by rw [← hsd.dir.ol]; exact hk), List.drop_zero, hcs]
    have hbd : ∀ x ∈ (C.E 1).cs, 1 ≤ x ∧ x ≤ (O0.length : Int) := by
      intro x hx
      rw [hcs] at hx
      have h1 := hsd.dir.cb x hx
      have h2 := hsd.dir.lv
      have h3 := hsd.dir.ol
      rw [hO0] at h3
      omega
    have hcl : (C.E 1).cs.length ≤ 1000 := by
      have := cslen hI2 (s := 1) (by omega)
      rw [hcs]; omega
    have hol0 : O0.length ≤ 1000 := by
      have := hsd.dir.ol
      have := hsd.lc
      rw [← hO0]; omega
    have hMO : CM W.heap.size g col2 wr { C with I := upd C.I 5 O0 } p2 := hM.same (fun _ _ => rfl) (fun _ _ => rfl) (fun i hi => by
      show upd C.I 5 O0 i = C.I i
      by_cases e : i = 5
      · subst e; rw [upd_self, hCO]
      · rw [upd_other e])
    have HHD := Lib.hid (hM.held 1 (by omega)).now
    obtain ⟨e5, he5⟩ : ∃ e5, C.E 1 = e5 := ⟨_, rfl⟩
    clear hsd hcs hO0 hEs
    obtain ⟨⟨z0, z1, i0, i1, i2, i3, i4, i5⟩, fz, e0, e1⟩ := hM.cells
    have hHe := HHD.out
    rw [he5] at HX HD hnd hov0 hbd hcl hHe
    rw [he5] at e1
    clear he5
    go_upto_region 13 with (first | ((with_reducible refine wp_load_g ?_ e1 Try.underlying112 rfl (uev_info _ _ _ _ _) ?_ ?_); rfl; rfl) | (go_at_call 82; (with_reducible refine (lost_is HX.out hHe).mono ?_); rintro en w3 ⟨A3, c3, rfl, ho3, hb3⟩) | ((with_reducible refine wp_row_store (L := UEV (lstU e5) none 0 none 0) (Row.bornAt' (g := w3.heap.size) rfl 112 _) ?_ (uev_info _ _ _ _ _) (uev_one _ _ _ _ _) ?_ ?_ ?_); rfl; rfl; rfl; intro w4 uf r9))
    clear z0 z1 i0 i1 i2 i3 i4 i5 fz e0 e1
    have hB4 := Upd.below (hb3.trans (((Below.refl w3.heap.size w3).alloc (Nat.le_refl _) (.cells ZU 112)).mono hb3.size)) uf hb3.size
    have hal4 := Upd.below ((Below.refl w3.heap.size w3).alloc (Nat.le_refl _) (.cells ZU 112)) uf (Nat.le_refl _)
    have hM4 := hMO.below hB4
    have hg9 : col2 w3.heap.size = 0 := hM.cn _ hb3.size
    have hPF : Part col2 0 w4 (fun w => IsN w A3 e5.cs.length e5.cs) := Part.intsU ((OwnN.below ho3 hal4)) (fun x hx => hM.cn x hx)
    have hPR : Part col2 0 w4 (fun w => Row w w3.heap.size 112 (UEV (lstU e5) none 0 none 0)) := Part.row r9 hg9
    have hW4 : White col2 w2 w4 := hW.trans (White.below hB4)
    have q3 : w4.cell? ⟨w3.heap.size, 3, none⟩ = some (.slice none 0 0) := r9.cell 3
    have q4 : w4.cell? ⟨w3.heap.size, 4, none⟩ = some (.slice none 0 0) := r9.cell 4
    have q5 : w4.cell? ⟨w3.heap.size, 5, none⟩ = some (.bool true) := r9.cell 5
    clear hb3 ho3 uf hB4 hal4 hg9 hMO hM hW HHD hHe r9 hCO
    generalize w3.heap.size = g9 at *
    have hw00 : IntKind.i64.wrap 0 = 0 := by rw [IntKind.wrap_i64]; rfl
    go_upto_region 16 with (fail)
    clear q3 q4 q5
    go_loopw [12] (fun i wr => ∃ j : Nat, ∃ O1, i = .int .i64 j ∧ j ≤ e5.cs.length ∧ O1.length = O0.length ∧ OvAt e5.cs O1 j ∧ CM W.heap.size g col2 wr { C with I := upd C.I 5 O1 } p2 ∧ Part col2 0 wr (fun w => IsN w A3 e5.cs.length e5.cs) ∧ Part col2 0 wr (fun w => Row w g9 112 (UEV (lstU e5) none 0 none 0)) ∧ White col2 w2 wr) (fun i _ => e5.cs.length - (intOf i).toNat)
    case atStart => exact ⟨0, O0, rfl, Nat.zero_le _, rfl, hov0, hM4, hPF, hPR, hW4⟩
    case round =>
      clear hM4 hPF hPR hW4 hov0
      obtain ⟨j, O1, rfl, hj, hOl, hov, hM, hPF, hPR, hW⟩ := hrel
      rcases Nat.lt_or_ge j e5.cs.length with hjn | hjn
      · have dj : decide (j < e5.cs.length) = true := decide_eq_true hjn
        have dji : decide ((j : Int) < (e5.cs.length : Int)) = true := decide_eq_true (by omega)
        have hji : (j : Int) < (e5.cs.length : Int) := by omega
        have hj0 : (0 : Int) ≤ (j : Int) := by omega
        obtain ⟨bf, of_, hAf⟩ := hPF.now.form (by omega)
        subst hAf
        obtain ⟨x, hx, hcx⟩ := hPF.now.idx hjn
        have hb := hbd x (List.mem_of_getElem? hx)
        obtain ⟨k, rfl⟩ : ∃ k : Nat, x = (k : Int) + 1 := ⟨(x - 1).toNat, by omega⟩
        have hkl : k < O1.length := by omega
        obtain ⟨hz, hov2⟩ := ov_step hnd hov hx rfl hkl
        have hIO : (upd C.I 5 O1) 5 = O1 := upd_self _ _ _
        obtain ⟨bO, oO, curO, hAO, hrO, hcO⟩ := (hM.ints 5 (by omega)).part.now.cells (by show 0 < (upd C.I 5 O1 5).length; rw [hIO]; omega)
        have hcO : wr.cell? ⟨bO, oO + k, none⟩ = some (.int .i64 0) := hcO k _ (iv_at (by show (upd C.I 5 O1 5)[k]? = some 0; rw [hIO]; exact hz))
        have hoq := (hM.ints 5 (by omega)).part.now
        rw [hAO] at hoq
        have hfO := hoq.frozen (oO + k)
        have hcolO : col2 bO = 4 + 5 := (hM.ints 5 (by omega)).blk bO (by rw [hAO]; rfl)
        have iO' : wr.cell? ⟨g, 19, none⟩ = some (.slice (some ⟨bO, oO, none⟩) O1.length (p2.ic 5)) := by
          have h : wr.cell? ⟨g, 19, none⟩ = some (.slice (p2.iA 5) (upd C.I 5 O1 5).length (p2.ic 5)) := hM.row.now.cell 19
          rw [hAO, hIO] at h
          exact h
        clear hoq hrO hz
        have hki : (k : Int) < (O1.length : Int) := by omega
        have hk0 : (0 : Int) ≤ (k : Int) := by omega
        have dk0 : decide ((k : Int) < 0) = false := decide_eq_false (by omega)
        have dkO : decide ((O1.length : Int) ≤ (k : Int)) = false := decide_eq_false (by omega)
        have dkOn : decide (O1.length ≤ k) = false := decide_eq_false (by omega)
        have hwk : IntKind.i64.wrap ((k : Int) + 1 - 1) = (k : Int) := by rw [IntKind.wrap_i64]; omega
        have hwk2 : IntKind.i64.wrap (k : Int) = (k : Int) := by rw [IntKind.wrap_i64]; omega
        have hw01 : IntKind.i64.wrap 1 = 1 := by rw [IntKind.wrap_i64]; rfl
        have hw02 : IntKind.i64.wrap (0 + 1) = 1 := by rw [IntKind.wrap_i64]; rfl
        have HAO := Lib.hid hAO
        have HIO := Lib.hid hIO
        have HOL := Lib.hid hOl
        clear hAO hIO hOl hx
        go_wp2
        have hM' := hM.setI (i := 5) (x := 1) (k := k) (by omega) HAO.out (by show k < (upd C.I 5 O1 5).length; rw [HIO.out]; exact hkl)
        have uO := Upd.setCell wr bO (oO + k) (.int .i64 1)
        have hOnly : Only col2 (4 + 5) wr (wr.setCell ⟨bO, oO + k, none⟩ (.int .i64 1)) := Only.upd uO hcolO
        refine ⟨⟨j + 1, O1.set k 1, by go_num, by omega, by rw [List.length_set]; exact HOL.out, hov2, hM'.same (fun _ _ => rfl) (fun _ _ => rfl) (fun i hi => ?_), hPF.only hOnly (by omega), hPR.only hOnly (by omega), hW.trans (hOnly.white (by omega))⟩, by simp [intOf]; omega⟩
        show upd C.I 5 (O1.set k 1) i = upd (upd C.I 5 O1) 5 ((upd C.I 5 O1 5).set k 1) i
        rw [HIO.out]
        by_cases e : i = 5
        · subst e; rw [upd_self, upd_self]
        · rw [upd_other e, upd_other e, upd_other e]
      · have dj : decide (j < e5.cs.length) = false := decide_eq_false (by omega)
        have dji : decide ((j : Int) < (e5.cs.length : Int)) = false := decide_eq_false (by omega)
        have hone : ∀ k, k < O1.length → O1[k]? = some 1 := fun k hk => by
          rw [hov k hk, List.drop_of_length_le hjn, if_neg (by simp)]
        have hIO : (upd C.I 5 O1) 5 = O1 := upd_self _ _ _
        have iO' : wr.cell? ⟨g, 19, none⟩ = some (.slice (p2.iA 5) O1.length (p2.ic 5)) := by
          have h : wr.cell? ⟨g, 19, none⟩ = some (.slice (p2.iA 5) (upd C.I 5 O1 5).length (p2.ic 5)) := hM.row.now.cell 19
          rw [hIO] at h
          exact h
        have hcells : ∀ k, k < O1.length → ∃ b o, p2.iA 5 = some ⟨b, o, none⟩ ∧ wr.cell? ⟨b, o + k, none⟩ = some (.int .i64 1) := fun k hk => by
          obtain ⟨bO, oO, curO, hAO, hrO, hcO⟩ := (hM.ints 5 (by omega)).part.now.cells (by show 0 < (upd C.I 5 O1 5).length; rw [hIO]; omega)
          exact ⟨bO, oO, hAO, hcO k _ (iv_at (by show (upd C.I 5 O1 5)[k]? = some 1; rw [hIO]; exact hone k hk))⟩
        have hO1 : O1.length ≤ 1000 := by omega
        have HCE := Lib.hid hcells
        have HMM := Lib.hid hM
        have HOL := Lib.hid hOl
        clear hov hone hcells hIO hjn hOl
        go_upto_region 23 with (fail)
        go_loopw [14] (fun i wq => ∃ k : Nat, i = .int .i64 k ∧ k ≤ O1.length ∧ wq = wr) (fun i _ => O1.length - (intOf i).toNat)
        case atStart => exact ⟨0, rfl, Nat.zero_le _, rfl⟩
        case round =>
          obtain ⟨k, rfl, hk, rfl⟩ := hrel
          rcases Nat.lt_or_ge k O1.length with hkl | hkl
          · have dk : decide (k < O1.length) = true := decide_eq_true hkl
            have dki : decide ((k : Int) < (O1.length : Int)) = true := decide_eq_true (by omega)
            have hki : (k : Int) < (O1.length : Int) := by omega
            have hk0 : (0 : Int) ≤ (k : Int) := by omega
            obtain ⟨bO, oO, hAO, hcO⟩ := HCE.out k hkl
            rw [hAO] at iO'
            clear hAO
            go_wp2
            exact ⟨⟨k + 1, by go_num, by omega, trivial⟩, by simp [intOf]; omega⟩
          · have dk : decide (k < O1.length) = false := decide_eq_false (by omega)
            have dki : decide ((k : Int) < (O1.length : Int)) = false := decide_eq_false (by omega)
            clear hkl hk
            have r9 := hPR.now
            have hl9 := r9.lt
            go_upto_region 28 with (first | ((with_reducible refine wp_load_g ?_ r9.range Try.underlying112 rfl (uev_info _ _ _ _ _) ?_ ?_); rfl; rfl) | (go_at_call 76; (with_reducible refine (dead_call HD.out (held_dead _ _)).mono ?_); rintro en w6 ⟨rfl, hb6⟩) | ((with_reducible refine wp_row_store (L := ZU) (Row.bornAt' (g := w6.heap.size) rfl 112 _) ?_ zu_info zu_one ?_ ?_ ?_); rfl; rfl; rfl; intro w7 ug r7))
            have hB7 := Upd.below (hb6.trans (((Below.refl w6.heap.size w6).alloc (Nat.le_refl _) (.cells ZU 112)).mono hb6.size)) ug hb6.size
            have r9 := r9.below hB7 hl9
            have hl9 := r9.lt
            clear hb6 ug r7 iO'
            go_upto_region 29 with (first | ((with_reducible refine wp_load_g ?_ r9.range Try.underlying112 rfl (uev_info _ _ _ _ _) ?_ ?_); rfl; rfl) | (go_at_call 78; (with_reducible refine (dead_rcv HD.out (held_dead _ _)).mono ?_); rintro en w8 ⟨rfl, hb8⟩) | ((with_reducible refine wp_row_store (L := ZU) ((Row.bornAt' (g := w8.heap.size) rfl 112 _).alloc _) ?_ zu_info zu_one ?_ ?_ ?_); rfl; rfl; rfl; intro wa ua ra) | ((with_reducible refine wp_row_store (L := ZRm) ((Row.bornAt' (g := w8.heap.size + 1) (by simp) 97 _).upd ua (by omega)) ?_ zrm_info zrm_one ?_ ?_ ?_); rfl; rfl; rfl; intro wb ub rb))
            have hal8 := ((Below.refl w8.heap.size w8).alloc (Nat.le_refl _) (.cells ZU 112)).alloc (by simp) (.cells ZRm 97)
            have hB8 := hb8.trans ((Upd.below (Upd.below hal8 ua (Nat.le_refl _)) ub (by omega)).mono hb8.size)
            have r9 := r9.below hB8 hl9
            have hl9 := r9.lt
            have hB78 := hB7.trans (hB8.mono hB7.size)
            clear hb8 ua ub ra rb hal8 hB7 hB8
            go_upto_region 30 with (first | ((with_reducible refine wp_load_g ?_ r9.range Try.underlying112 rfl (uev_info _ _ _ _ _) ?_ ?_); rfl; rfl) | (go_at_call 82; (with_reducible refine (dead_lost HD.out (held_dead _ _)).mono ?_); rintro en wc ⟨rfl, hbc⟩) | ((with_reducible refine wp_row_store (L := ZU) (Row.bornAt' (g := wc.heap.size) rfl 112 _) ?_ zu_info zu_one ?_ ?_ ?_); rfl; rfl; rfl; intro wd ud rd))
            have hBd := Upd.below (hbc.trans (((Below.refl wc.heap.size wc).alloc (Nat.le_refl _) (.cells ZU 112)).mono hbc.size)) ud hbc.size
            have hBq := hB78.trans (hBd.mono hB78.size)
            clear hbc ud rd hBd hB78 r9 hl9
            go_wp2
            exact ⟨⟨2, by omega, { C with I := upd C.I 5 O1 }, by go_num, HMM.out.below hBq, fun t ht => hE t ht, fun t h1 h2 => (upd_other (show 4 + t ≠ 5 by omega)).trans (hIo t (by omega) h2), hW.trans (White.below hBq)⟩, by simp [intOf]⟩
  · have hBw := hMw.white hW hB2
    clear hM hW hMw hE hIo
    go_wp2_with (go_at_call 62; refine (awake32 _).mono ?_; rintro en wz ⟨rfl, hbz⟩)
    go_ret
    exact ⟨rfl, hBw.trans (hbz.mono hBw.size)⟩
end Go.Proofs.Ythjkhambmgepdaa
