/- Image: the reference's Build. -/
import Derived.Test.YtigbmlgllgcbhaaDoorKa
import Derived.Test.YtigbmlgllgcbhaaDoorKf
import Derived.Deep.RegionHeld3
namespace Go.Proofs.YtigbmlgllgcbhaaDoor
open Go.RowKit
set_option linter.unusedVariables false
set_option linter.unusedSimpArgs false
def RBl (ms : List Md) (W : World) (en : Ending) (W' : World) : Prop :=
  (bldE ms ≠ 0 ∧ en = .returned (.tuple #[.slice none 0 0, .int .i64 (bldE ms)]) ∧ Below W.heap.size W W') ∨
  (bldE ms = 0 ∧ ∃ A' c', en = .returned (.tuple #[.slice A' (imImg ms).length c', .int .i64 0]) ∧ OwnB W' W.heap.size 5 A' (imImg ms).length c' (imImg ms) ∧ Below W.heap.size W W')
theorem rbl_no {ms : List Md} {E : Int} (h : bldE ms = E) (hE : E ≠ 0) {W W' : World} (hb : Below W.heap.size W W') : RBl ms W (.returned (.tuple #[.slice none 0 0, .int .i64 E])) W' := .inl ⟨by rw [h]; exact hE, by rw [h], hb⟩
theorem rent_eq (m : Md) (kd wd en off : Nat) (hk : m.kind = (kd : Int)) (hw : m.width = (wd : Int)) (he : m.entry = (en : Int)) (hk2 : kd < 256) (hw2 : wd < 256) (B : List UInt8) : (((((((B ++ (m.name ++ zer (24 - m.name.length))) ++ fixB kd 1) ++ fixB wd 1) ++ fixB 0 2) ++ fixB en 4) ++ fixB off 4) ++ fixB m.data.length 4) ++ fixB (crc m.data) 4 ++ fixB 0 4 = B ++ imEnt m off := by
  have e1 : fixB kd 1 = [UInt8.ofNat m.kind.toNat] := by simp [fixB, hk, Nat.mod_eq_of_lt hk2]
  have e2 : fixB wd 1 = [UInt8.ofNat m.width.toNat] := by simp [fixB, hw, Nat.mod_eq_of_lt hw2]
  have e3 : fixB 0 2 = [0, 0] := by simp [fixB]; decide
  have e4 : fixB 0 4 = zer 4 := by simp [fixB, zer]; decide
  have e5 : en = m.entry.toNat := by omega
  rw [e1, e2, e3, e4, e5]
  unfold imEnt
  simp
theorem bytes_take (w : World) (bs : List UInt8) : (Go.Lib.bytesCells w 5 (sv bs)).toList.take bs.length = bs.map bv := by
  unfold Go.Lib.bytesCells
  rw [Array.toList_append]
  have e : (Array.map (fun b => Value.int .u8 b.toNat) (sv bs).data).toList = bs.map bv := by simp [sv, bv]
  rw [e]
  exact List.take_left' (by simp)
theorem conv_name (w : World) (nm : List UInt8) (h : nm.length ≤ 24) : ∃ cp w7 A' c' w8, (convert 9 23 (.string (sv nm))).run Tryd.prog w = .ok (.slice (some ⟨w.heap.size, 0, none⟩) nm.length cp) w7 ∧ (Builtin.append_ #[23, 3] 23 #[.slice (some ⟨w.heap.size, 0, none⟩) nm.length cp, .int .i64 (24 - (nm.length : Int))]).run Tryd.prog w7 = .ok (.slice A' 24 c') w8 ∧ IsB w8 A' 24 (nm ++ zer (24 - nm.length)) ∧ Below w.heap.size w w7 ∧ Below w.heap.size w w8 := by
  have h1 := Go.Lib.run_convert_string_bytes (P := Tryd.prog) w 9 23 5 (sv nm) Tryd.underlying9 Tryd.underlying23 Tryd.underlying5
  rw [sv_size] at h1
  have hge := grownCap_ge w nm.length 0 5
  have hb7 : Below w.heap.size w (Go.Lib.bytesWorld w 5 (sv nm)) := ⟨rfl, rfl, rfl, by rw [Go.Lib.bytesWorld_size]; omega, fun k hk => Go.Lib.bytesWorld_at_old w 5 (sv nm) k hk⟩
  obtain ⟨A', c', w8, hr, hI, hb, -⟩ := conv_z (n := nm.length) (k := 24 - nm.length) (cp := grownCap w nm.length 0 5) (ty := 23) (Go.Lib.bytesWorld_at_new w 5 (sv nm)) (bytes_take w nm) rfl (by simp only [Go.Lib.bytesCells, Array.size_append, Array.size_map, Array.size_replicate]; have e : (sv nm).data.size = nm.length := sv_size nm; rw [e, sv_size]; omega) hge (by omega) (by rw [Go.Lib.bytesWorld_size]; omega)
  have e1 : ((24 - nm.length : Nat) : Int) = 24 - (nm.length : Int) := by omega
  have e2 : nm.length + (24 - nm.length) = 24 := by omega
  rw [e1, e2] at hr
  rw [e2] at hI
  exact ⟨_, _, A', c', w8, h1, hr, hI, hb7, hb7.trans hb⟩
theorem OwnB.base {w : World} {base b0 : Nat} {e : TypeId} {A : Option Addr} {n c : Nat} {bs : List UInt8} (h : OwnB w base e A n c bs) (hb : b0 ≤ base) : OwnB w b0 e A n c bs := by
  refine ⟨h.1, ?_⟩
  rcases h.2 with hn | ⟨g, cap, cur, hv, h1, hg, rest⟩
  · exact .inl hn
  · exact .inr ⟨g, cap, cur, hv, Nat.le_trans hb h1, hg, rest⟩
def GivesL (W : World) (bs : List UInt8) (m : Nat) (e : Ending) (w' : World) : Prop := ∃ A n c, e = .returned (.slice A n c) ∧ n ≤ m ∧ OwnB w' W.heap.size 5 A n c bs ∧ Below W.heap.size W w'
theorem rputL (s : Nat) (A : Option Addr) (n c : Nat) (bs : List UInt8) (v : Nat) (w : World) (hA : IsB w A n bs) (hn : n ≤ 1000000000) (hv : v < 18446744073709551616) (s8 : s ≤ 8) : Calls Tryd.prog 37 #[.slice A n c, .int .u64 v, .int .i64 s] w (GivesL w (bs ++ fixB v s) (n + s)) := by
  refine (rput A n c bs v s w hA hn hv s8).mono ?_
  rintro en w2 ⟨A2, n2, c2, rfl, ho, hb⟩
  have h1 := ho.len
  have h2 := hA.1
  simp only [List.length_append, fixB_len] at h1
  exact ⟨A2, n2, c2, rfl, by omega, ho, hb⟩
theorem rput1 (A : Option Addr) (n c : Nat) (bs : List UInt8) (v : Nat) (w : World) (hA : IsB w A n bs) (hn : n ≤ 1000000000) (hv : v < 18446744073709551616) : Calls Tryd.prog 37 #[.slice A n c, .int .u64 v, .int .i64 1] w (GivesL w (bs ++ fixB v 1) (n + 1)) := rputL 1 A n c bs v w hA hn hv (by omega)
theorem rput2 (A : Option Addr) (n c : Nat) (bs : List UInt8) (v : Nat) (w : World) (hA : IsB w A n bs) (hn : n ≤ 1000000000) (hv : v < 18446744073709551616) : Calls Tryd.prog 37 #[.slice A n c, .int .u64 v, .int .i64 2] w (GivesL w (bs ++ fixB v 2) (n + 2)) := rputL 2 A n c bs v w hA hn hv (by omega)
theorem rput4 (A : Option Addr) (n c : Nat) (bs : List UInt8) (v : Nat) (w : World) (hA : IsB w A n bs) (hn : n ≤ 1000000000) (hv : v < 18446744073709551616) : Calls Tryd.prog 37 #[.slice A n c, .int .u64 v, .int .i64 4] w (GivesL w (bs ++ fixB v 4) (n + 4)) := rputL 4 A n c bs v w hA hn hv (by omega)
theorem rput02 (A : Option Addr) (n c : Nat) (bs : List UInt8) (w : World) (hA : IsB w A n bs) (hn : n ≤ 1000000000) : Calls Tryd.prog 37 #[.slice A n c, .int .u64 0, .int .i64 2] w (GivesL w (bs ++ fixB 0 2) (n + 2)) := rputL 2 A n c bs 0 w hA hn (by omega) (by omega)
theorem rput12 (A : Option Addr) (n c : Nat) (bs : List UInt8) (w : World) (hA : IsB w A n bs) (hn : n ≤ 1000000000) : Calls Tryd.prog 37 #[.slice A n c, .int .u64 1, .int .i64 2] w (GivesL w (bs ++ fixB 1 2) (n + 2)) := rputL 2 A n c bs 1 w hA hn (by omega) (by omega)
theorem rput04 (A : Option Addr) (n c : Nat) (bs : List UInt8) (w : World) (hA : IsB w A n bs) (hn : n ≤ 1000000000) : Calls Tryd.prog 37 #[.slice A n c, .int .u64 0, .int .i64 4] w (GivesL w (bs ++ fixB 0 4) (n + 4)) := rputL 4 A n c bs 0 w hA hn (by omega) (by omega)
set_option maxRecDepth 100000 in
set_option maxHeartbeats 8000000 in
theorem rbuild (ms : List Md) (A : Option Addr) (c : Nat) (W : World) (hM : IsMs W A ms.length ms) (hc : ms.length ≤ c) (hnl : ∀ m ∈ ms, m.name.length ≤ 1000000000) (hdl : ∀ m ∈ ms, m.data.length ≤ 1000000000) : Calls Tryd.prog 18 #[.slice A ms.length c] W (RBl ms W) := by
  have hB := Below.refl W.heap.size W
  by_cases h64 : 64 < ms.length
  · have HE := Lib.hid (show bldE ms = 15 by unfold bldE; rw [if_pos h64])
    have d0 : decide (64 < ms.length) = true := decide_eq_true h64
    have d0i : decide ((64 : Int) < (ms.length : Int)) = true := decide_eq_true (by omega)
    clear h64
    go_enter Tryd.func18, Tryd.ntmps18
    go_wp2
    go_ret2
    exact rbl_no HE.out (by decide) hB
  have d0 : decide (64 < ms.length) = false := decide_eq_false h64
  have d0i : decide ((64 : Int) < (ms.length : Int)) = false := decide_eq_false (by omega)
  have hw1 : IntKind.i64.wrap (48 * (ms.length : Int)) = 48 * (ms.length : Int) := by rw [IntKind.wrap_i64]; omega
  have hw2 : IntKind.i64.wrap (16 + 48 * (ms.length : Int)) = 16 + 48 * (ms.length : Int) := by rw [IntKind.wrap_i64]; omega
  have U0 := up35 (16 + 48 * ms.length) (by omega) W
  have hcast : ((16 + 48 * ms.length : Nat) : Int) = 16 + 48 * (ms.length : Int) := by omega
  rw [hcast] at U0
  have U0 := Lib.hid U0
  clear hcast
  go_enter Tryd.func18, Tryd.ntmps18
  go_upto_region 5 with (go_at_call 35; (with_reducible refine U0.out.mono ?_); rintro en w9 ⟨rfl, h9⟩; rw [h9]; clear h9)
  clear U0 d0 d0i hw1 hw2
  go_loopw [5] (fun v5 wr => ∃ j : Nat, j ≤ ms.length ∧ v5 = .int .i64 j ∧ Below W.heap.size W wr ∧ ∀ i (h : i < ms.length), i < j → chkE ms[i] (ms.take i) = 0) (fun i _ => ms.length - (intOf i).toNat)
  case atStart => exact ⟨0, by omega, rfl, Below.refl _ _, fun i hi h => by omega⟩
  case round =>
    obtain ⟨j, hj, rfl, hbr, hall⟩ := hrel
    have HAL := Lib.hid hall
    clear hall
    rcases Nat.lt_or_ge j ms.length with hjl | hjl
    · have d1 : decide (j < ms.length) = true := decide_eq_true hjl
      have hji : (j : Int) < ms.length := by omega
      have hj0 : (0 : Int) ≤ (j : Int) := by omega
      have hjc : (j : Int) ≤ (c : Int) := by omega
      obtain ⟨b0, o0, rfl, -⟩ := hM.2 (by omega)
      have hMr := hM.below hbr
      obtain ⟨D, dc, q0, q1, q2, q3, q4, -, -⟩ := hMr.cell j hjl
      have hyn := hnl _ (List.getElem_mem hjl)
      have hyd := hdl _ (List.getElem_mem hjl)
      have HER := Lib.hid (fun h => fstG_at ms [] j hjl (fun i hi hij => by rw [List.nil_append]; exact HAL.out i hi hij) h)
      obtain ⟨y, hy⟩ : ∃ y, ms[j] = y := ⟨_, rfl⟩
      rw [hy] at q0 q1 q2 q3 q4 hyn hyd HER
      have HY := Lib.hid hy
      clear hy
      have htl : (ms.take j).length = j := by rw [List.length_take]; omega
      have hMk := hMr.take j (by omega)
      have RC := Lib.hid (fun (w : World) (hb : Below wr.heap.size wr w) => (show Calls Tryd.prog 36 #[.agg #[.string (sv y.name), .int .i64 y.kind, .int .i64 y.width, .int .i64 y.entry, .slice D y.data.length dc], .slice (some ⟨b0, o0, none⟩) j c] w (ChkP y (ms.take j) w) from by
        have h := rchk y D dc (ms.take j) (some ⟨b0, o0, none⟩) c w (by rw [htl]; exact hMk.below hb) (by rw [htl]; omega) hyn hyd
        rw [htl] at h
        exact h))
      have HK := Lib.hid (fun (w' : World) (hb : Below wr.heap.size wr w') => (show w'.cell? ⟨b0, o0 + j * 5, none⟩ = some (.string (sv y.name)) ∧ w'.cell? ⟨b0, o0 + j * 5 + 1, none⟩ = some (.int .i64 y.kind) ∧ w'.cell? ⟨b0, o0 + j * 5 + 2, none⟩ = some (.int .i64 y.width) ∧ w'.cell? ⟨b0, o0 + j * 5 + 3, none⟩ = some (.int .i64 y.entry) ∧ w'.cell? ⟨b0, o0 + j * 5 + 4, none⟩ = some (.slice D y.data.length dc) from ⟨(hb.cell (p := ⟨b0, o0 + j * 5, none⟩) (block_lt_of_cell q0)).trans q0, (hb.cell (p := ⟨b0, o0 + j * 5 + 1, none⟩) (block_lt_of_cell q1)).trans q1, (hb.cell (p := ⟨b0, o0 + j * 5 + 2, none⟩) (block_lt_of_cell q2)).trans q2, (hb.cell (p := ⟨b0, o0 + j * 5 + 3, none⟩) (block_lt_of_cell q3)).trans q3, (hb.cell (p := ⟨b0, o0 + j * 5 + 4, none⟩) (block_lt_of_cell q4)).trans q4⟩))
      have HKW := HK.out wr.drew (Below.refl _ _).drew
      obtain ⟨E, hE⟩ : ∃ E, chkE y (ms.take j) = E := ⟨_, rfl⟩
      unfold ChkP at RC
      simp only [List.nil_append, hE] at HER
      simp only [hE] at RC
      have HEE := Lib.hid hE
      clear hE htl hMk
      go_upto_region 7 with (fail)
      go_region_held3? (fun w' => w'.cell? ⟨b0, o0 + j * 5, none⟩ = some (.string (sv y.name)) ∧ w'.cell? ⟨b0, o0 + j * 5 + 1, none⟩ = some (.int .i64 y.kind) ∧ w'.cell? ⟨b0, o0 + j * 5 + 2, none⟩ = some (.int .i64 y.width) ∧ w'.cell? ⟨b0, o0 + j * 5 + 3, none⟩ = some (.int .i64 y.entry) ∧ w'.cell? ⟨b0, o0 + j * 5 + 4, none⟩ = some (.slice D y.data.length dc)) (first | exact HK.out _ (Below.refl _ _) | exact HKW | exact HK.out _ hb6) (first | (go_at_call 36; (with_reducible refine Calls.mono (RC.out _ (by first | exact Below.refl _ _ | exact (Below.refl _ _).drew)) ?_); rintro en w5 ⟨rfl, hb5⟩; have hb6 := (show Below wr.heap.size wr w5 from (by first | exact hb5 | exact ((Below.refl _ wr).drew).trans hb5))))
      have hb9 := hbr.trans (hb6.mono hbr.size)
      clear HK HKW RC
      by_cases h0 : E = 0
      · subst h0
        go_wp2
        exact ⟨⟨j + 1, by omega, by go_num, hb9, fun i hi h => by rcases Nat.lt_or_ge i j with h9 | h9; exact HAL.out i hi h9; obtain rfl : i = j := (by omega); rw [HY.out]; exact HEE.out⟩, by simp [intOf]; omega⟩
      · have e0 : (E != 0) = true := by simpa using h0
        have HE := Lib.hid (show bldE ms = E by
          have h1 := HER.out h0
          unfold bldE
          rw [if_neg h64, if_pos (by show fstG [] ms ≠ 0; rw [h1]; exact h0)]
          exact h1)
        have HE0 := Lib.hid h0
        clear h0
        go_wp2
        go_ret2
        exact rbl_no HE.out HE0.out hb9
    · obtain rfl : j = ms.length := by omega
      have d1 : decide (ms.length < ms.length) = false := by simp
      have HF := Lib.hid (show fstE ms = 0 from fstG_no ms [] (fun i hi => by rw [List.nil_append]; exact HAL.out i hi hi))
      go_upto_region 12 with (fail)
      obtain ⟨E0, hE0⟩ : ∃ E0, 16 + 48 * ms.length = E0 := ⟨_, rfl⟩
      have HE0 := Lib.hid hE0
      have hE0b : E0 ≤ 4000 := by omega
      simp only [hE0]
      clear hE0 HAL
      go_loopw [4, 7, 8] (fun v4 v7 v8 wr => ∃ (j : Nat) (A7 : Option Addr) (c7 : Nat), j ≤ ms.length ∧ v8 = .int .i64 (j : Nat) ∧ v7 = .slice A7 j c7 ∧ v4 = .int .i64 ((up64 (imFin E0 (ms.take j)) : Nat) : Int) ∧ OwnN wr W.heap.size 3 A7 j c7 ((imOffs E0 (ms.take j)).map (fun (x : Nat) => (x : Int))) ∧ imFin E0 (ms.take j) ≤ 16777216 ∧ Below W.heap.size W wr) (fun _ _ i _ => ms.length - (intOf i).toNat)
      case atStart => exact ⟨0, none, 0, by omega, rfl, rfl, by simp [imFin], OwnN.nil _ _ _, by simp [imFin]; omega, hbr⟩
      case round =>
        clear hbr
        obtain ⟨j, A7, c7, hj, rfl, rfl, rfl, ho, hFb, hB⟩ := hrel
        obtain ⟨F, hF⟩ : ∃ F, imFin E0 (ms.take j) = F := ⟨_, rfl⟩
        rw [hF] at hFb
        simp only [hF]
        have HF2 := Lib.hid hF
        clear hF
        rcases Nat.lt_or_ge j ms.length with hjl | hjl
        · have d1 : decide (j < ms.length) = true := decide_eq_true hjl
          have hji : (j : Int) < ms.length := by omega
          have hj0 : (0 : Int) ≤ (j : Int) := by omega
          obtain ⟨b0, o0, rfl, -⟩ := hM.2 (by omega)
          obtain ⟨hof, hfi⟩ := offs_take ms E0 j hjl
          have hdm := hdl _ (List.getElem_mem hjl)
          have hft := imFin_take ms E0 j hjl
          obtain ⟨D, dc, -, -, -, -, q4, -, -⟩ := hM.cell j hjl
          obtain ⟨y, hy⟩ : ∃ y, ms[j] = y := ⟨_, rfl⟩
          rw [hy] at q4 hfi hdm hft
          rw [HF2.out] at hof hfi hft
          have HOF := Lib.hid hof
          have HFI := Lib.hid hfi
          clear hy hof hfi
          have hu1 := up64_lt F
          obtain ⟨u, hu⟩ : ∃ u, up64 F = u := ⟨_, rfl⟩
          rw [hu] at hu1 hft
          simp only [hu]
          have HU := Lib.hid hu
          clear hu
          have hIx := isN_new wr (u : Int)
          have hbx : Below wr.heap.size wr (wr.alloc (.cells #[.int .i64 (u : Int)] 3)) := (Below.refl _ _).alloc (Nat.le_refl _) _
          have ho := ho.alloc (.cells #[.int .i64 (u : Int)] 3)
          have hB := hB.trans (hbx.mono hB.size)
          have hbs := hB.size
          go_upto_region 15 with (at_builtin; (refine wp_append_n (P := Tryd.prog) rfl _ _ 22 rfl Tryd.underlying22 info_n3 ho hIx (by omega) hbs rfl rfl ?_); intro A2 n2 c2 w5 hn2 ho2 hb5 hg5 hat5)
          have hq2 := hn2.out
          subst hq2
          have hB := hB.trans hb5
          have c4 := (hB.cell (p := ⟨b0, o0 + j * 5 + 4, none⟩) (block_lt_of_cell q4)).trans q4
          have hw3 : IntKind.i64.wrap (16777216 - (u : Int)) = 16777216 - (u : Int) := by rw [IntKind.wrap_i64]; omega
          clear hn2 hat5 hg5 hb5 hbx hbs hIx ho
          by_cases hlim : 16777216 < u + y.data.length
          · have HE := Lib.hid (show bldE ms = 15 by
              have h5 : imFin E0 ms ≤ imSize ms := by rw [← HE0.out]; exact up64_ge _
              unfold bldE
              rw [if_neg h64, if_neg (by rw [HF.out]; simp), if_pos (by omega)])
            have f1 : decide ((16777216 : Int) - (u : Int) < (y.data.length : Int)) = true := decide_eq_true (by omega)
            clear hlim
            go_wp2
            go_ret2
            exact rbl_no HE.out (by decide) hB
          · have f1 : decide ((16777216 : Int) - (u : Int) < (y.data.length : Int)) = false := decide_eq_false (by omega)
            have hw4 : IntKind.i64.wrap ((u : Int) + (y.data.length : Int)) = (u : Int) + (y.data.length : Int) := by rw [IntKind.wrap_i64]; omega
            have UP := fun w => up35 (u + y.data.length) (by omega) w
            have hcast : ((u + y.data.length : Nat) : Int) = (u : Int) + (y.data.length : Int) := by omega
            simp only [hcast] at UP
            have UP := Lib.hid UP
            have HL2 := Lib.hid (show imFin E0 (ms.take (j + 1)) ≤ 16777216 by rw [HFI.out, HU.out]; omega)
            clear hlim hcast
            go_wp2_with (go_at_call 35; (with_reducible refine (UP.out _).mono ?_); rintro en w9 ⟨rfl, h9⟩; rw [h9]; clear h9)
            refine ⟨⟨j + 1, A2, c2, by omega, by go_num, rfl, ?_, ?_, HL2.out, hB⟩, by simp [intOf]; omega⟩
            · rw [HFI.out, HU.out]
            · rw [HOF.out, HU.out, List.map_append]; exact ho2
        · obtain rfl : j = ms.length := by omega
          have d1 : decide (ms.length < ms.length) = false := by simp
          have HO := Lib.hid (show (imOffs E0 (ms.take ms.length)) = imOffs E0 ms by rw [List.take_length])
          have HSZ := Lib.hid (show up64 F = imSize ms by rw [← HF2.out, List.take_length, ← HE0.out]; rfl)
          have hu1 := up64_lt F
          obtain ⟨sz, hsz⟩ : ∃ sz, up64 F = sz := ⟨_, rfl⟩
          rw [hsz] at HSZ hu1
          simp only [hsz]
          rw [HO.out] at ho
          clear hsz
          by_cases hlim : 16777216 < sz
          · have HE := Lib.hid (show bldE ms = 15 by
              unfold bldE
              rw [if_neg h64, if_neg (by rw [HF.out]; simp), if_pos (by rw [← HSZ.out]; exact hlim)])
            have f1 : decide ((16777216 : Int) < (sz : Int)) = true := decide_eq_true (by omega)
            clear hlim
            go_wp2
            go_ret2
            exact rbl_no HE.out (by decide) hB
          · have HBE := Lib.hid (show bldE ms = 0 by
              unfold bldE
              rw [if_neg h64, if_neg (by rw [HF.out]; simp), if_neg (by rw [← HSZ.out]; exact hlim)])
            have f1 : decide ((16777216 : Int) < (sz : Int)) = false := decide_eq_false (by omega)
            go_upto_region 22 with (fail)
            clear f1
            have HNN := Lib.hid (bld_names HBE.out)
            have HOF := Lib.hid ho.isB
            have HFF := Lib.hid (bld_ok HBE.out).2.1
            have hmz := hM.below hB
            clear hM ho
            obtain ⟨wo, rfl⟩ : ∃ wo, wo = wr := ⟨_, rfl⟩
            go_loopw [9, 10] (fun v9 v10 wr => ∃ (j : Nat) (A9 : Option Addr) (n9 c9 : Nat), j ≤ ms.length ∧ v10 = .int .i64 (j : Nat) ∧ v9 = .slice A9 n9 c9 ∧ n9 ≤ 48 * j ∧ OwnB wr wo.heap.size 5 A9 n9 c9 (imTab E0 (ms.take j)) ∧ Below wo.heap.size wo wr) (fun _ i _ => ms.length - (intOf i).toNat)
            case atStart => exact ⟨0, none, 0, 0, by omega, rfl, rfl, by omega, OwnB.nil _ _ _, Below.refl _ _⟩
            case round =>
              obtain ⟨j, A9, n9, c9, hj, rfl, rfl, hn9, ho, hBq⟩ := hrel
              rcases Nat.lt_or_ge j ms.length with hjl | hjl
              · have d1 : decide (j < ms.length) = true := decide_eq_true hjl
                have hji : (j : Int) < ms.length := by omega
                have hj0 : (0 : Int) ≤ (j : Int) := by omega
                have hB := hB.trans (hBq.mono hB.size)
                obtain ⟨b0, o0, rfl, hcc⟩ := hmz.2 (by omega)
                obtain ⟨D, dc, hrg, hdc, hID⟩ := hcc j hjl
                have hrg := rangeAt_below hrg hBq
                have hdl1 := hdl _ (List.getElem_mem hjl)
                have hok := chk_ok (show chkE ms[j] (ms.take j) = 0 from fstG_all ms [] HFF.out j hjl) (hdl _ (List.getElem_mem hjl))
                have hog := offs_get ms E0 j hjl
                have HTS := Lib.hid (show imTab E0 (ms.take (j + 1)) = imTab E0 (ms.take j) ++ imEnt ms[j] (up64 (imFin E0 (ms.take j))) by rw [List.take_succ_eq_append_getElem hjl, imTab_snoc])
                obtain ⟨off, hoff⟩ : ∃ off, up64 (imFin E0 (ms.take j)) = off := ⟨_, rfl⟩
                rw [hoff] at hog HTS
                obtain ⟨m, hm⟩ : ∃ m, ms[j] = m := ⟨_, rfl⟩
                rw [hm] at hrg hdc hID hdl1 hok HTS
                have hrg2 : wr.rangeAt b0 (o0 + j * 5) (mdV m D dc).toArray.toList := by simpa using hrg
                obtain ⟨hnl1, hkd, hwd, hen⟩ := hok
                obtain ⟨bo, oo, hA7, hlo, hco⟩ := (HOF.out.below hBq).at_ (by omega)
                subst hA7
                have HK6 := Lib.hid (fun (w : World) (hb : Below wo.heap.size wo w) => (show w.cell? ⟨bo, oo + j, none⟩ = some (.int .i64 (off : Int)) from by
                  obtain ⟨b1, o1, e1, hlb, hco⟩ := (HOF.out.below hb).at_ (by omega)
                  cases e1
                  have hjo : j < ((imOffs E0 ms).map (fun (x : Nat) => (x : Int))).length := by rw [List.length_map, imOffs_len]; exact hjl
                  rw [hco j hjo]
                  have h9 : ((imOffs E0 ms).map (fun (x : Nat) => (x : Int)))[j]? = some (off : Int) := by rw [List.getElem?_map, hog]; rfl
                  rw [List.getElem?_eq_getElem hjo] at h9
                  exact congrArg (fun z => some (Value.int .i64 z)) (Option.some.inj h9)))
                have hofl : off ≤ 17000000 := by
                  have h1 := (offs_take ms E0 j hjl).2
                  rw [hoff] at h1
                  have h2 := imFin_take ms E0 (j + 1)
                  have h3 : imFin E0 (ms.take (j + 1)) ≤ imFin E0 ms := by
                    have h8 := imFin_ge (ms.drop (j + 1)) (imFin E0 (ms.take (j + 1)))
                    have h7 := imFin_app (ms.take (j + 1)) (ms.drop (j + 1)) E0
                    rw [List.take_append_drop] at h7
                    omega
                  have h4 : imFin E0 ms ≤ imSize ms := by rw [← HE0.out]; exact up64_ge _
                  have h5 := (bld_ok HBE.out).2.2
                  omega
                clear hcc hrg hm hoff hog hco
                obtain ⟨kd, hk⟩ : ∃ kd : Nat, m.kind = (kd : Int) := ⟨m.kind.toNat, by omega⟩
                obtain ⟨wd, hw⟩ : ∃ wd : Nat, m.width = (wd : Int) := ⟨m.width.toNat, by omega⟩
                obtain ⟨en, he⟩ : ∃ en : Nat, m.entry = (en : Int) := ⟨m.entry.toNat, by omega⟩
                rw [hk] at hkd
                rw [hw] at hwd
                rw [he] at hen
                have HK := Lib.hid hk
                have HW := Lib.hid hw
                have HEN := Lib.hid he
                clear hk hw he
                go_upto_region 25 with (first | ((with_reducible refine wp_load_g ?_ hrg2 Tryd.underlying35 rfl (info35 _ _ _) ?_ ?_); rfl; rfl) | ((with_reducible refine wp_row_store (L := (mdV m D dc).toArray) (Row.bornAt (g := wr.heap.size) rfl 35 _) ?_ (info35 _ _ _) (mdV_one _ _ _) ?_ ?_ ?_); rfl; rfl; rfl; intro w3 u3 r3))
                have hal := Upd.below ((Below.refl wr.heap.size wr).alloc (Nat.le_refl _) (.cells ZM 35)) u3 (Nat.le_refl _)
                have hne : ∀ k, (Value.slice A9 n9 c9).ownBlock = some k → k < wr.heap.size := fun k hk => (World.ownsRow.lt ho k hk).2
                have ho := ho.below hal
                have HID := Lib.hid hID
                have hBq := hBq.trans (hal.mono hBq.size)
                clear hal u3 hrg2 hID
                generalize wr.heap.size = g at *
                obtain ⟨c0, -, -, -, -⟩ := md_cells r3
                obtain ⟨cp, w7, AN, cN, w8, hcv, hap, hIN, hb7, hb8⟩ := conv_name w3 m.name hnl1
                have c07 := (md_cells (r3.below hb7 r3.lt)).1
                have hwN : IntKind.i64.wrap (24 - (m.name.length : Int)) = 24 - (m.name.length : Int) := by rw [IntKind.wrap_i64]; omega
                have hwN2 : IntKind.i64.wrap (24 - ((sv m.name).size : Int)) = 24 - (m.name.length : Int) := by rw [sv_size]; exact hwN
                have hszn : (sv m.name).size = m.name.length := sv_size _
                go_upto_region 26 with (at_builtin; (refine Go.Lib.wpList_append_run _ rfl _ _ 23 3 rfl _ _ rfl rfl _ _ hap ?_))
                have hwg := hBq.size
                have ho := ho.below (hb8)
                have r3 := r3.below hb8 r3.lt
                have hBq := hBq.trans (hb8.mono hBq.size)
                have hwg2 := hBq.size
                clear hcv hap hb7 hb8 c07 hwN hwN2 hszn c0
                go_upto_region 27 with (at_builtin; (refine wp_append_b (P := Tryd.prog) rfl _ _ 23 rfl Tryd.underlying23 info_u8 ho hIN (by omega) hwg2 rfl rfl ?_); intro A2 n2 c2 w2 hn2 ho2 hb2 hg2 hat2)
                have hn2 : n2 ≤ n9 + 24 := Nat.le_of_eq hn2.out
                have HI := Lib.hid ho2.isB
                have hnb : n2 ≤ 1000000000 := by omega
                have hBq := hBq.trans hb2
                have r3 := (hg2.block g r3.lt (fun e => by have := hne g e.symm; omega)).trans r3
                have r3 : Row w2 g 35 (mdV m D dc).toArray := r3
                clear ho ho2 hIN hb2 hg2 hat2 hne hwg hwg2
                obtain ⟨-, c1, -, -, -⟩ := md_cells r3
                rw [HK.out] at c1
                have hwu := wrapU64 (x := kd) (by omega)
                have HP := Lib.hid (rput1 _ _ c2 _ kd _ HI.out hnb (by omega))
                go_upto_region 28 with (go_at_call 37; (with_reducible refine Calls.mono HP.out ?_); rintro en w2 ⟨A2, n2, c2, rfl, hn2, ho2, hb2⟩)
                have HI := Lib.hid ho2.isB
                have hnb : n2 ≤ 1000000000 := by omega
                have hBq := hBq.trans (hb2.mono hBq.size)
                have r3 := r3.below hb2 r3.lt
                clear HP
                clear c1 hwu ho2 hb2
                obtain ⟨-, -, c1, -, -⟩ := md_cells r3
                rw [HW.out] at c1
                have hwu := wrapU64 (x := wd) (by omega)
                have HP := Lib.hid (rput1 _ _ c2 _ wd _ HI.out hnb (by omega))
                go_upto_region 29 with (go_at_call 37; (with_reducible refine Calls.mono HP.out ?_); rintro en w2 ⟨A2, n2, c2, rfl, hn2, ho2, hb2⟩)
                have HI := Lib.hid ho2.isB
                have hnb : n2 ≤ 1000000000 := by omega
                have hBq := hBq.trans (hb2.mono hBq.size)
                have r3 := r3.below hb2 r3.lt
                clear HP
                clear c1 hwu ho2 hb2
                have HP := Lib.hid (rput02 _ _ c2 _ _ HI.out hnb)
                go_upto_region 30 with (go_at_call 37; (with_reducible refine Calls.mono HP.out ?_); rintro en w2 ⟨A2, n2, c2, rfl, hn2, ho2, hb2⟩)
                have HI := Lib.hid ho2.isB
                have hnb : n2 ≤ 1000000000 := by omega
                have hBq := hBq.trans (hb2.mono hBq.size)
                have r3 := r3.below hb2 r3.lt
                clear HP
                clear ho2 hb2
                obtain ⟨-, -, -, c1, -⟩ := md_cells r3
                rw [HEN.out] at c1
                have hwu := wrapU64 (x := en) (by omega)
                have HP := Lib.hid (rput4 _ _ c2 _ en _ HI.out hnb (by omega))
                go_upto_region 31 with (go_at_call 37; (with_reducible refine Calls.mono HP.out ?_); rintro en w2 ⟨A2, n2, c2, rfl, hn2, ho2, hb2⟩)
                have HI := Lib.hid ho2.isB
                have hnb : n2 ≤ 1000000000 := by omega
                have hBq := hBq.trans (hb2.mono hBq.size)
                have r3 := r3.below hb2 r3.lt
                clear HP
                clear c1 hwu ho2 hb2
                have c1 := HK6.out _ hBq
                have hwu := wrapU64 (x := off) (by omega)
                have HP := Lib.hid (rput4 _ _ c2 _ off _ HI.out hnb (by omega))
                go_upto_region 32 with (go_at_call 37; (with_reducible refine Calls.mono HP.out ?_); rintro en w2 ⟨A2, n2, c2, rfl, hn2, ho2, hb2⟩)
                have HI := Lib.hid ho2.isB
                have hnb : n2 ≤ 1000000000 := by omega
                have hBq := hBq.trans (hb2.mono hBq.size)
                have r3 := r3.below hb2 r3.lt
                clear HP
                clear c1 hwu ho2 hb2
                obtain ⟨-, -, -, -, c1⟩ := md_cells r3
                have hwu := wrapU64 (x := m.data.length) (by omega)
                have HP := Lib.hid (rput4 _ _ c2 _ m.data.length _ HI.out hnb (by omega))
                go_upto_region 33 with (go_at_call 37; (with_reducible refine Calls.mono HP.out ?_); rintro en w2 ⟨A2, n2, c2, rfl, hn2, ho2, hb2⟩)
                have HI := Lib.hid ho2.isB
                have hnb : n2 ≤ 1000000000 := by omega
                have hBq := hBq.trans (hb2.mono hBq.size)
                have r3 := r3.below hb2 r3.lt
                clear HP
                clear c1 hwu ho2 hb2
                obtain ⟨-, -, -, -, c1⟩ := md_cells r3
                have hcl := crc_lt m.data
                have hwu := wrapU64 (x := crc m.data) (by omega)
                have HC := Lib.hid (crc_ref D m.data.length dc m.data w2 (HID.out.below hBq) hdl1)
                have HP := Lib.hid (rput4 _ _ c2 _ (crc m.data) _ HI.out hnb (by omega))
                go_upto_region 34 with (first | (go_at_call 38; (with_reducible refine Calls.mono HC.out ?_); rintro en3 w5 ⟨rfl, rfl⟩) | (go_at_call 37; (with_reducible refine Calls.mono HP.out ?_); rintro en w2 ⟨A2, n2, c2, rfl, hn2, ho2, hb2⟩))
                have HI := Lib.hid ho2.isB
                have hnb : n2 ≤ 1000000000 := by omega
                have hBq := hBq.trans (hb2.mono hBq.size)
                have r3 := r3.below hb2 r3.lt
                clear HP
                clear c1 hwu ho2 hb2 hcl HC
                have HP := Lib.hid (rput04 _ _ c2 _ _ HI.out hnb)
                go_wp2_with (go_at_call 37; (with_reducible refine Calls.mono HP.out ?_); rintro en w2 ⟨A2, n2, c2, rfl, hn2, ho2, hb2⟩)
                have ho2 := ho2.base hBq.size
                have hBq := hBq.trans (hb2.mono hBq.size)
                rw [rent_eq m kd wd en off HK.out HW.out HEN.out (by omega) (by omega), ← HTS.out] at ho2
                exact ⟨⟨j + 1, A2, n2, c2, by omega, by go_num, rfl, by omega, ho2, hBq⟩, by simp [intOf]; omega⟩
              · obtain rfl : j = ms.length := by omega
                have d1 : decide (ms.length < ms.length) = false := by simp
                rw [List.take_length] at ho
                have HTL := Lib.hid (imTab_len ms E0 HNN.out)
                have hnl9 : n9 + 16 = E0 := by
                  have h1 := ho.len
                  rw [HTL.out] at h1
                  have h2 := HE0.out
                  omega
                obtain ⟨T0, hT0⟩ : ∃ T0, imTab E0 ms = T0 := ⟨_, rfl⟩
                rw [hT0] at ho
                have HT0 := Lib.hid hT0
                clear hT0 HTL hn9
                go_upto_region 36 with (fail)
                go_loopw [9, 13] (fun v9 v13 wr => ∃ (j : Nat) (A9 : Option Addr) (n9 c9 : Nat), j ≤ ms.length ∧ v13 = .int .i64 (j : Nat) ∧ v9 = .slice A9 n9 c9 ∧ n9 + 16 = imFin E0 (ms.take j) ∧ OwnB wr wo.heap.size 5 A9 n9 c9 (T0 ++ imDat E0 (ms.take j)) ∧ Below wo.heap.size wo wr) (fun _ i _ => ms.length - (intOf i).toNat)
                case atStart => exact ⟨0, A9, n9, c9, by omega, rfl, rfl, by simpa [imFin] using hnl9, by simpa [imDat] using ho, hBq⟩
                case round =>
                  clear ho hBq hnl9
                  obtain ⟨j, A9, n9, c9, hj, rfl, rfl, hn9, ho, hBq⟩ := hrel
                  rcases Nat.lt_or_ge j ms.length with hjl | hjl
                  · have d1 : decide (j < ms.length) = true := decide_eq_true hjl
                    have hji : (j : Int) < ms.length := by omega
                    have hj0 : (0 : Int) ≤ (j : Int) := by omega
                    obtain ⟨b0, o0, rfl, -⟩ := hmz.2 (by omega)
                    obtain ⟨D, dc, -, -, -, -, q4, -, hID⟩ := hmz.cell j hjl
                    have hdl1 := hdl _ (List.getElem_mem hjl)
                    have hog := offs_get ms E0 j hjl
                    have hfin := imFin_snoc (ms.take j) E0 ms[j]
                    have hdat := imDat_snoc (ms.take j) E0 ms[j]
                    rw [← List.take_succ_eq_append_getElem hjl] at hfin hdat
                    have hle : imFin E0 (ms.take (j + 1)) ≤ 16777216 := by
                      have h3 : imFin E0 (ms.take (j + 1)) ≤ imFin E0 ms := by
                        have h8 := imFin_ge (ms.drop (j + 1)) (imFin E0 (ms.take (j + 1)))
                        have h7 := imFin_app (ms.take (j + 1)) (ms.drop (j + 1)) E0
                        rw [List.take_append_drop] at h7
                        omega
                      have h4 : imFin E0 ms ≤ imSize ms := by rw [← HE0.out]; exact up64_ge _
                      have h5 := (bld_ok HBE.out).2.2
                      omega
                    have hge := up64_ge (imFin E0 (ms.take j))
                    obtain ⟨F, hF⟩ : ∃ F, imFin E0 (ms.take j) = F := ⟨_, rfl⟩
                    rw [hF] at hn9 hog hfin hdat hge
                    obtain ⟨m, hm⟩ : ∃ m, ms[j] = m := ⟨_, rfl⟩
                    rw [hm] at q4 hID hdl1 hfin hdat
                    obtain ⟨k0, hk0⟩ : ∃ k0, up64 F = n9 + k0 + 16 := ⟨up64 F - n9 - 16, by omega⟩
                    rw [show up64 F - F = k0 by omega] at hdat
                    rw [hk0] at hog hfin hge
                    have hszl : n9 + k0 + 16 + m.data.length ≤ 16777216 := by omega
                    obtain ⟨bo, oo, hA7, hlo, hco⟩ := HOF.out.at_ (by omega)
                    subst hA7
                    have k6 : wr.cell? ⟨bo, oo + j, none⟩ = some (.int .i64 ((n9 : Int) + (k0 : Int) + 16)) := by
                      obtain ⟨b1, o1, e1, hlb, hco⟩ := (HOF.out.below hBq).at_ (by omega)
                      cases e1
                      have hjo : j < ((imOffs E0 ms).map (fun (x : Nat) => (x : Int))).length := by rw [List.length_map, imOffs_len]; exact hjl
                      rw [hco j hjo]
                      have h9 : ((imOffs E0 ms).map (fun (x : Nat) => (x : Int)))[j]? = some ((n9 : Int) + (k0 : Int) + 16) := by rw [List.getElem?_map, hog]; simp
                      rw [List.getElem?_eq_getElem hjo] at h9
                      exact congrArg (fun z => some (Value.int .i64 z)) (Option.some.inj h9)
                    have HFI := Lib.hid hfin
                    have HDA := Lib.hid hdat
                    have HID := Lib.hid hID
                    have HN9 := Lib.hid hn9
                    have HFE := Lib.hid hF
                    clear hog hfin hdat hID hco hF hm hle hge hk0 hn9
                    have hwx : IntKind.i64.wrap ((n9 : Int) + (k0 : Int) + 16 - 16) = (n9 : Int) + (k0 : Int) := by rw [IntKind.wrap_i64]; omega
                    have hwy : IntKind.i64.wrap ((n9 : Int) + (k0 : Int) - (n9 : Int)) = (k0 : Int) := by rw [IntKind.wrap_i64]; omega
                    have hnk : n9 + k0 ≤ 140737488355328 := by omega
                    have hwg := hBq.size
                    go_upto_region 39 with (at_builtin; (refine wp_append_z (P := Tryd.prog) (k := k0) rfl _ _ 23 3 rfl Tryd.underlying23 Tryd.underlying3 info_u8 ho hnk hwg rfl rfl ?_ ?_); (first | rfl | omega); intro A2 c2 w2 ho2 hb2 hg2)
                    have hBq := hBq.trans hb2
                    have hwg := hBq.size
                    have c4 := (hBq.cell (p := ⟨b0, o0 + j * 5 + 4, none⟩) (block_lt_of_cell q4)).trans q4
                    have hI2 := HID.out.below hBq
                    have hnk2 : n9 + k0 + m.data.length ≤ 140737488355328 := by omega
                    clear ho hb2 hg2 k6 hwx hwy
                    go_wp2_with (at_builtin; (refine wp_append_b (P := Tryd.prog) rfl _ _ 23 rfl Tryd.underlying23 info_u8 ho2 hI2 hnk2 hwg rfl rfl ?_); intro A3 n3 c3 w3 hn3 ho3 hb3 hg3 hat3)
                    refine ⟨⟨j + 1, A3, n3, c3, by omega, by go_num, rfl, by rw [hn3.out, HFI.out]; omega, ?_, hBq.trans hb3⟩, by simp [intOf]; omega⟩
                    rw [HDA.out, ← List.append_assoc, ← List.append_assoc]
                    exact ho3
                  · obtain rfl : j = ms.length := by omega
                    have d1 : decide (ms.length < ms.length) = false := by simp
                    rw [List.take_length] at ho hn9
                    have hge := up64_ge (imFin E0 ms)
                    have hfz : up64 (imFin E0 ms) = sz := by rw [← HE0.out, HSZ.out]; rfl
                    obtain ⟨F9, hF9⟩ : ∃ F9, imFin E0 ms = F9 := ⟨_, rfl⟩
                    rw [hF9] at hn9 hge hfz
                    obtain ⟨k0, hk0⟩ : ∃ k0, sz = n9 + k0 + 16 := ⟨sz - n9 - 16, by omega⟩
                    have HBD := Lib.hid (show T0 ++ imDat E0 ms ++ zer k0 = imBody ms by
                      have e : imSize ms - imFin (16 + 48 * ms.length) ms = k0 := by rw [HE0.out, hF9, ← HSZ.out]; omega
                      unfold imBody
                      rw [e, HE0.out, HT0.out])
                    have hszl : n9 + k0 + 16 ≤ 16777216 := by omega
                    subst hk0
                    clear hn9 hge hfz hF9
                    have hwx : IntKind.i64.wrap ((n9 : Int) + (k0 : Int) + 16 - 16) = (n9 : Int) + (k0 : Int) := by rw [IntKind.wrap_i64]; omega
                    have hwy : IntKind.i64.wrap ((n9 : Int) + (k0 : Int) - (n9 : Int)) = (k0 : Int) := by rw [IntKind.wrap_i64]; omega
                    have hcn : ((n9 + k0 + 16 : Nat) : Int) = (n9 : Int) + (k0 : Int) + 16 := by omega
                    have hnk : n9 + k0 ≤ 140737488355328 := by omega
                    have hwg := hBq.size
                    go_upto_region 41 with (at_builtin; (refine wp_append_z (P := Tryd.prog) (k := k0) rfl _ _ 23 3 rfl Tryd.underlying23 Tryd.underlying3 info_u8 ho hnk hwg rfl rfl ?_ ?_); (first | rfl | omega); intro A2 c2 w2 ho2 hb2 hg2)
                    rw [HBD.out] at ho2
                    have hBq := hBq.trans hb2
                    clear ho hb2 hg2 hwx hwy
                    have hHB := ho2.isB
                    have HOB := Lib.hid (fun (w : World) (hb : Below w2.heap.size w2 w) => ho2.isB.below hb)
                    have hbi := (Below.refl w2.heap.size w2).alloc (Nat.le_refl _) (.cells #[.int .u8 77, .int .u8 75, .int .u8 66, .int .u8 73] 5 (4, 5))
                    have HI := Lib.hid (show IsB (w2.alloc (.cells #[.int .u8 77, .int .u8 75, .int .u8 66, .int .u8 73] 5 (4, 5))) (some ⟨w2.heap.size, 0, none⟩) 4 [77, 75, 66, 73] from IsB.lit w2 5 (4, 5) [77, 75, 66, 73])
                    have kc := fun (w : World) (C : Array Value) (n c : Nat) => Lib.run_convert_bytes_const (P := Tryd.prog) w 23 5 C n c Tryd.underlying23 Tryd.underlying5
                    have HBo := Lib.hid (hB.trans (hBq.mono hB.size))
                    have hBq := hbi
                    clear hHB ho2 hbi
                    go_upto_region 42 with (fail)
                    clear kc
                    generalize w2.alloc (.cells #[.int .u8 77, .int .u8 75, .int .u8 66, .int .u8 73] 5 (4, 5)) = wh at *
                    have HP := Lib.hid (rput12 (some ⟨w2.heap.size, 0, none⟩) 4 4 [77, 75, 66, 73] _ HI.out (by omega))
                    go_upto_region 43 with (go_at_call 37; (with_reducible refine Calls.mono HP.out ?_); rintro en w3 ⟨A3, n3, c3, rfl, hn3, ho3, hb3⟩)
                    have HI := Lib.hid ho3.isB
                    have hnb : n3 ≤ 1000000000 := by omega
                    have hBq := hBq.trans (hb3.mono hBq.size)
                    have hwu := wrapU64 (x := ms.length) (by omega)
                    clear HP ho3 hb3
                    have HP := (rput2 _ _ c3 _ ms.length _ HI.out hnb (by omega))
                    have HP := Lib.hid HP
                    have hbs0 := hBq.size
                    go_upto_region 44 with (go_at_call 37; (with_reducible refine Calls.mono HP.out ?_); rintro en w3 ⟨A3, n3, c3, rfl, hn3, ho3, hb3⟩)
                    have HI := Lib.hid ho3.isB
                    have hnb : n3 ≤ 1000000000 := by omega
                    have hBq := hBq.trans (hb3.mono hBq.size)
                    clear HP
                    clear hwu ho3 hb3
                    have hwu : IntKind.u64.wrap ((n9 : Int) + (k0 : Int) + 16) = (n9 : Int) + (k0 : Int) + 16 := by rw [IntKind.wrap_u64]; omega
                    have HP := (rput4 _ _ c3 _ (n9 + k0 + 16) _ HI.out hnb (by omega))
                    rw [hcn] at HP
                    have HP := Lib.hid HP
                    have hbs0 := hBq.size
                    go_upto_region 45 with (go_at_call 37; (with_reducible refine Calls.mono HP.out ?_); rintro en w3 ⟨A3, n3, c3, rfl, hn3, ho3, hb3⟩)
                    have HI := Lib.hid ho3.isB
                    have hnb : n3 ≤ 1000000000 := by omega
                    have hBq := hBq.trans (hb3.mono hBq.size)
                    clear HP
                    clear hwu ho3 hb3
                    have hcl := crc_lt (imBody ms)
                    have hwu := wrapU64 (x := crc (imBody ms)) (by omega)
                    have HC := Lib.hid (crc_ref A2 (n9 + k0) c2 (imBody ms) w3 (HOB.out _ hBq) (by omega))
                    have HP := (rput4 _ _ c3 _ (crc (imBody ms)) _ HI.out hnb (by omega))
                    have HP := Lib.hid HP
                    have hbs0 := hBq.size
                    go_upto_region 46 with (first | (go_at_call 38; (with_reducible refine Calls.mono HC.out ?_); rintro en3 w5 ⟨rfl, rfl⟩) | (go_at_call 37; (with_reducible refine Calls.mono HP.out ?_); rintro en w3 ⟨A3, n3, c3, rfl, hn3, ho3, hb3⟩))
                    have HI := Lib.hid ho3.isB
                    have hnb : n3 ≤ 1000000000 := by omega
                    have hBq := hBq.trans (hb3.mono hBq.size)
                    clear HP
                    clear hwu hb3 hcl HC
                    have hI2 := HOB.out _ hBq
                    have hW2 := HBo.out.size
                    have hsz2 := hBq.size
                    have hwg : W.heap.size ≤ w3.heap.size := Nat.le_trans hW2 hsz2
                    have ho4 := ho3.base (Nat.le_trans hW2 hbs0)
                    have HIM := Lib.hid (show (((([77, 75, 66, 73] ++ fixB 1 2) ++ fixB ms.length 2) ++ fixB (n9 + k0 + 16) 4) ++ fixB (crc (imBody ms)) 4) ++ imBody ms = imImg ms by unfold imImg imHead; rw [HSZ.out])
                    have hlen : n3 + (n9 + k0) ≤ 140737488355328 := by omega
                    have HBW := Lib.hid (HBo.out.trans (hBq.mono hW2))
                    clear ho3
                    go_wp2_with (at_builtin; (refine wp_append_b (P := Tryd.prog) rfl _ _ 23 rfl Tryd.underlying23 info_u8 ho4 hI2 hlen hwg rfl rfl ?_); intro A5 n5 c5 w5 hn5 ho5 hb5 hg5 hat5)
                    go_ret2
                    rw [HIM.out] at ho5
                    have hl5 := ho5.len
                    subst hl5
                    exact .inr ⟨HBE.out, A5, c5, rfl, ho5, HBW.out.trans hb5⟩
end Go.Proofs.YtigbmlgllgcbhaaDoor
