/- Image: align, up, layout. -/
import Derived.Test.YtigbmlgllgcbhaaDoorIb
import Derived.Test.YtigbmlgllgcbhaaDoorIn
import Derived.Test.YtigbmlgllgcbhaaDoorOwr
namespace Go.Proofs.YtigbmlgllgcbhaaDoor
open Go.RowKit
set_option linter.unusedVariables false
set_option linter.unusedSimpArgs false
theorem fin_le : ∀ (ms : List Md) (e : Nat), (∀ m ∈ ms, m.data.length ≤ 1000000000) → imFin e ms ≤ e + ms.length * 1000000064
  | [], e, _ => by simp [imFin]
  | m :: r, e, h => by
    have h1 := fin_le r (up64 e + m.data.length) (fun x hx => h x (by simp [hx]))
    have h2 := up64_lt e
    have h3 := h m (by simp)
    show imFin (up64 e + m.data.length) r ≤ _
    simp only [List.length_cons]
    omega
theorem imFin_app : ∀ (a b : List Md) (e : Nat), imFin e (a ++ b) = imFin (imFin e a) b
  | [], _, _ => rfl
  | m :: r, b, e => imFin_app r b _
theorem tdiv64 (n : Nat) : ((n : Int) + 63).tdiv 64 = (((n + 63) / 64 : Nat) : Int) := by rw [Int.tdiv_eq_ediv_of_nonneg (by omega)]; omega
theorem info_n3 : (Tryd.prog.info? 3).map (fun i => (i.zero, i.size, i.bytes)) = some (some (.int .i64 0), 1, 8) := by kernel_rfl
theorem isN_new (w : World) (x : Int) : IsN (w.alloc (.cells #[.int .i64 x] 3)) (some ⟨w.heap.size, 0, none⟩) 1 [x] := IsN.of_row (bs := [x]) (Row.bornAt rfl 3 #[.int .i64 x])
theorem offs_take : ∀ (ms : List Md) (e j : Nat) (h : j < ms.length), imOffs e (ms.take (j + 1)) = imOffs e (ms.take j) ++ [up64 (imFin e (ms.take j))] ∧ imFin e (ms.take (j + 1)) = up64 (imFin e (ms.take j)) + (ms[j]).data.length := fun ms e j h => by
  rw [List.take_succ_eq_append_getElem h, imOffs_snoc, imFin_snoc]
  exact ⟨rfl, rfl⟩
set_option maxRecDepth 100000 in
set_option maxHeartbeats 4000000 in
theorem align42 (n : Nat) (hn : n ≤ 1000000000000000) (W : World) : Calls Tryd.prog 42 #[.int .i64 n] W (fun en W' => en = .returned (.int .i64 (up64 n : Nat)) ∧ W' = W) := by
  obtain ⟨q, hq⟩ : ∃ q, (n + 63) / 64 = q := ⟨_, rfl⟩
  have h3 := tdiv64 n
  rw [hq] at h3
  have HU := Lib.hid (show up64 n = q * 64 by unfold up64; rw [hq])
  have hq2 : q ≤ 100000000000000 := by omega
  have h1 : IntKind.i64.wrap ((n : Int) + 64) = (n : Int) + 64 := by rw [IntKind.wrap_i64]; omega
  have h2 : IntKind.i64.wrap ((n : Int) + 64 - 1) = (n : Int) + 63 := by rw [IntKind.wrap_i64]; omega
  have h2' : IntKind.i64.wrap ((n : Int) + 63) = (n : Int) + 63 := by rw [IntKind.wrap_i64]; omega
  have h4 : IntKind.i64.wrap (q : Int) = (q : Int) := by rw [IntKind.wrap_i64]; omega
  have h5 : IntKind.i64.wrap ((q : Int) * 64) = (q : Int) * 64 := by rw [IntKind.wrap_i64]; omega
  go_enter Tryd.func42, Tryd.ntmps42
  go_wp2
  go_ret
  exact ⟨by rw [HU.out]; simp, rfl⟩
set_option maxRecDepth 100000 in
set_option maxHeartbeats 4000000 in
theorem up35 (n : Nat) (hn : n ≤ 1000000000000000) (W : World) : Calls Tryd.prog 35 #[.int .i64 n] W (fun en W' => en = .returned (.int .i64 (up64 n : Nat)) ∧ W' = W) := by
  obtain ⟨q, hq⟩ : ∃ q, (n + 63) / 64 = q := ⟨_, rfl⟩
  have h3 := tdiv64 n
  rw [hq] at h3
  have HU := Lib.hid (show up64 n = q * 64 by unfold up64; rw [hq])
  have hq2 : q ≤ 100000000000000 := by omega
  have h1 : IntKind.i64.wrap ((n : Int) + 64) = (n : Int) + 64 := by rw [IntKind.wrap_i64]; omega
  have h2 : IntKind.i64.wrap ((n : Int) + 64 - 1) = (n : Int) + 63 := by rw [IntKind.wrap_i64]; omega
  have h2' : IntKind.i64.wrap ((n : Int) + 63) = (n : Int) + 63 := by rw [IntKind.wrap_i64]; omega
  have h4 : IntKind.i64.wrap (q : Int) = (q : Int) := by rw [IntKind.wrap_i64]; omega
  have h5 : IntKind.i64.wrap ((q : Int) * 64) = (q : Int) * 64 := by rw [IntKind.wrap_i64]; omega
  go_enter Tryd.func35, Tryd.ntmps35
  go_wp2
  go_ret
  exact ⟨by rw [HU.out]; simp, rfl⟩
def LayP (ms : List Md) (W : World) (en : Ending) (W' : World) : Prop := ∃ A c, en = .returned (.tuple #[.slice A ms.length c, .int .i64 (imSize ms : Nat)]) ∧ OwnN W' W.heap.size 3 A ms.length c ((imOffs (16 + 48 * ms.length) ms).map (fun (x : Nat) => (x : Int))) ∧ Below W.heap.size W W'
set_option maxRecDepth 100000 in
set_option maxHeartbeats 4000000 in
theorem layout26 (ms : List Md) (A : Option Addr) (c : Nat) (W : World) (hM : IsMs W A ms.length ms) (hl : ms.length ≤ 1000) (hd : ∀ m ∈ ms, m.data.length ≤ 1000000000) : Calls Tryd.prog 26 #[.slice A ms.length c] W (LayP ms W) := by
  have hfl := fun j => fin_le (ms.take j) (16 + 48 * ms.length) (fun x hx => hd x (List.mem_of_mem_take hx))
  have e1 : IntKind.i64.wrap (48 * (ms.length : Int)) = 48 * (ms.length : Int) := by rw [IntKind.wrap_i64]; omega
  have e2 : IntKind.i64.wrap (16 + 48 * (ms.length : Int)) = 16 + 48 * (ms.length : Int) := by rw [IntKind.wrap_i64]; omega
  have HFL := Lib.hid hfl
  clear hfl
  go_enter Tryd.func26, Tryd.ntmps26
  go_upto_region 3 with (fail)
  clear e1 e2
  go_loopw [2, 4, 14] (fun os en i wr => ∃ j A1 c1, j ≤ ms.length ∧ i = .int .i64 (j : Nat) ∧ os = .slice A1 j c1 ∧ en = .int .i64 (imFin (16 + 48 * ms.length) (ms.take j) : Nat) ∧ OwnN wr W.heap.size 3 A1 j c1 ((imOffs (16 + 48 * ms.length) (ms.take j)).map (fun (x : Nat) => (x : Int))) ∧ Below W.heap.size W wr) (fun _ _ i _ => ms.length - (intOf i).toNat)
  case atStart => exact ⟨0, none, 0, by omega, rfl, rfl, by simp [imFin], OwnN.nil _ _ _, Below.refl _ _⟩
  case round =>
    obtain ⟨j, A1, c1, hj, rfl, rfl, rfl, ho, hB⟩ := hrel
    obtain ⟨E, hE⟩ : ∃ E, imFin (16 + 48 * ms.length) (ms.take j) = E := ⟨_, rfl⟩
    have hEb : E ≤ 1000001000000 := by
      have h9 := HFL.out j
      rw [hE, List.length_take] at h9
      have h8 : min j ms.length ≤ 1000 := by omega
      have h7 : min j ms.length * 1000000064 ≤ 1000 * 1000000064 := Nat.mul_le_mul_right _ h8
      omega
    rw [hE]
    have HE := Lib.hid hE
    clear hE
    rcases Nat.lt_or_ge j ms.length with hjl | hjl
    · have d1 : decide (j < ms.length) = true := decide_eq_true hjl
      have hji : (j : Int) < ms.length := by omega
      have hj0 : (0 : Int) ≤ (j : Int) := by omega
      have hM1 := hM.below hB
      obtain ⟨b, o, hA, hc⟩ := hM1.2 (by omega)
      subst hA
      obtain ⟨D, dc, hrg, -, -⟩ := hc j hjl
      obtain ⟨hof, hfi⟩ := offs_take ms (16 + 48 * ms.length) j hjl
      have hdm := hd _ (List.getElem_mem hjl)
      obtain ⟨m, hm⟩ : ∃ m, ms[j] = m := ⟨_, rfl⟩
      rw [hm] at hrg hfi hdm
      rw [HE.out] at hof hfi
      have HOF := Lib.hid hof
      have HFI := Lib.hid hfi
      clear hc hM1 hm hof hfi
      have hrg2 : wr.rangeAt b (o + j * 5) (mdV m D dc).toArray.toList := by simpa using hrg
      have hu1 := up64_lt E
      obtain ⟨u, hu⟩ : ∃ u, up64 E = u := ⟨_, rfl⟩
      rw [hu] at hu1
      have HU := Lib.hid hu
      have hal42 := align42 E (by omega)
      rw [hu] at hal42
      have HAL := Lib.hid hal42
      clear hu hal42 hrg
      go_upto_region 5 with (first | ((with_reducible refine wp_load_g ?_ hrg2 Tryd.underlying35 rfl (info35 _ _ _) ?_ ?_); rfl; rfl) | ((with_reducible refine wp_row_store (L := (mdV m D dc).toArray) (Row.bornAt (g := wr.heap.size) rfl 35 _) ?_ (info35 _ _ _) (mdV_one _ _ _) ?_ ?_ ?_); rfl; rfl; rfl; intro w3 u3 r3))
      have hal := Upd.below ((Below.refl wr.heap.size wr).alloc (Nat.le_refl _) (.cells ZM 35)) u3 (Nat.le_refl _)
      have ho := ho.below hal
      have hB := hB.trans (hal.mono hB.size)
      have hg3 := r3.lt
      clear hal u3 hrg2
      generalize wr.heap.size = g at *
      go_upto_region 6 with (go_at_call 42; refine (HAL.out _).mono ?_; rintro en w4 ⟨rfl, hw4⟩; subst w4)
      have hIx := isN_new w3 (u : Int)
      have hbx : Below w3.heap.size w3 (w3.alloc (.cells #[.int .i64 (u : Int)] 3)) := (Below.refl _ _).alloc (Nat.le_refl _) _
      have ho := ho.alloc (.cells #[.int .i64 (u : Int)] 3)
      have r3 := r3.below hbx hg3
      have hB := hB.trans (hbx.mono hB.size)
      have hbs := hB.size
      have hl3 := r3.lt
      go_upto_region 7 with (at_builtin; (refine wp_append_n (P := Tryd.prog) rfl _ _ 22 rfl Tryd.underlying22 info_n3 ho hIx (by omega) hbs rfl rfl ?_); intro A2 n2 c2 w5 hn2 ho2 hb5 hg5 hat5)
      have hq2 := hn2.out
      subst hq2
      have hk := Keeps.grown (ts := [3]) hg5 (OwnV.typed (size := 1) ho)
      have r3 := hk.row r3 (by decide)
      have hB := hB.trans hb5
      obtain ⟨c0, c1', c2', c3, c4⟩ := md_cells r3
      have hw : IntKind.i64.wrap ((u : Int) + (m.data.length : Int)) = (u : Int) + (m.data.length : Int) := by rw [IntKind.wrap_i64]; omega
      go_wp2
      refine ⟨⟨j + 1, A2, c2, by omega, by go_num, rfl, ?_, ?_, hB⟩, by simp [intOf]; omega⟩
      · rw [HFI.out, HU.out]; simp
      · rw [HOF.out, HU.out, List.map_append]; exact ho2
    · obtain rfl : j = ms.length := by omega
      have d1 : decide (ms.length < ms.length) = false := by simp
      have hal42 := align42 E (by omega)
      have HAL := Lib.hid hal42
      have HS := Lib.hid (show imSize ms = up64 E by unfold imSize; rw [← HE.out, List.take_length])
      have HO := Lib.hid (show imOffs (16 + 48 * ms.length) ms = imOffs (16 + 48 * ms.length) (ms.take ms.length) by rw [List.take_length])
      clear hal42
      go_wp2_with (go_at_call 42; refine (HAL.out _).mono ?_; rintro en w4 ⟨rfl, hw4⟩; subst w4)
      go_ret2
      exact ⟨A1, c1, by rw [HS.out]; rfl, by rw [HO.out]; exact ho, hB⟩
end Go.Proofs.YtigbmlgllgcbhaaDoor
