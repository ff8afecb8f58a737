/- Image: ImageLayout. -/
import Derived.Test.YtigbmlgllgcbhaaDoorIw
import Derived.Deep.RegionHeld3
namespace Go.Proofs.YtigbmlgllgcbhaaDoor
open Go.RowKit
set_option linter.unusedVariables false
set_option linter.unusedSimpArgs false
/-- Where the first k modules end. -/
def finK (ms : List Md) (k : Nat) : Nat := imFin (16 + 48 * ms.length) (ms.take k)
theorem finK_succ (ms : List Md) (k : Nat) (h : k < ms.length) : finK ms (k + 1) = up64 (finK ms k) + (ms[k]).data.length := by
  unfold finK
  rw [List.take_succ_eq_append_getElem h, imFin_snoc]
theorem finK_all (ms : List Md) : finK ms ms.length = imFin (16 + 48 * ms.length) ms := by unfold finK; rw [List.take_length]
theorem finK_le (ms : List Md) : ∀ k, k ≤ ms.length → finK ms k ≤ imSize ms := by
  intro k hk
  rcases Nat.lt_or_ge k ms.length with h | h
  · have h1 := imFin_take ms (16 + 48 * ms.length) k h
    have h2 : imFin (16 + 48 * ms.length) ms ≤ imSize ms := up64_ge _
    have h3 := up64_ge (finK ms k)
    unfold finK at *
    omega
  · obtain rfl : k = ms.length := by omega
    rw [finK_all]
    exact up64_ge _
theorem get_mid {X A B C : List UInt8} (h : X = A ++ (B ++ C)) {p : Nat} (i : Nat) (hp : p = A.length + i) (hi : i < B.length) (hx : p < X.length) : X[p] = B[i] := by
  subst h
  subst hp
  rw [List.getElem_append_right (by omega)]
  simp only [Nat.add_sub_cancel_left]
  rw [List.getElem_append_left hi]
theorem img_zer (ms : List Md) (hn : ∀ m ∈ ms, m.name.length ≤ 24) (k : Nat) (h : k ≤ ms.length) : ∃ P Q, imImg ms = P ++ (zer (up64 (finK ms k) - finK ms k) ++ Q) ∧ P.length = finK ms k := by
  rcases Nat.lt_or_ge k ms.length with h | h
  · have h1 : ms = ms.take k ++ (ms[k] :: ms.drop (k + 1)) := by simp
    unfold finK
    obtain ⟨E, hE⟩ : ∃ E, 16 + 48 * ms.length = E := ⟨_, rfl⟩
    obtain ⟨F, hF⟩ : ∃ F, imFin E (ms.take k) = F := ⟨_, rfl⟩
    have h2 : imDat E ms = imDat E (ms.take k ++ (ms[k] :: ms.drop (k + 1))) := by rw [← h1]
    rw [imDat_app, hF] at h2
    rw [hE, hF]
    have hge := imFin_ge (ms.take k) E
    rw [hF] at hge
    refine ⟨imHead ms ++ imTab E ms ++ imDat E (ms.take k), (ms[k]).data ++ imDat (up64 F + (ms[k]).data.length) (ms.drop (k + 1)) ++ zer (imSize ms - imFin E ms), ?_, ?_⟩
    · unfold imImg imBody
      rw [hE, h2]
      simp only [imDat, List.append_assoc]
    · rw [List.length_append, List.length_append, imHead_len, imTab_len _ _ hn, imDat_len, hF]
      omega
  · obtain rfl : k = ms.length := by omega
    rw [finK_all]
    have hge := imFin_ge ms (16 + 48 * ms.length)
    refine ⟨imHead ms ++ imTab (16 + 48 * ms.length) ms ++ imDat (16 + 48 * ms.length) ms, [], ?_, ?_⟩
    · unfold imImg imBody imSize
      simp only [List.append_assoc, List.append_nil]
    · rw [List.length_append, List.length_append, imHead_len, imTab_len _ _ hn, imDat_len]
      omega
theorem lay_zero {ms : List Md} (hn : ∀ m ∈ ms, m.name.length ≤ 24) {k : Nat} (h : k ≤ ms.length) {p : Nat} (h1 : finK ms k ≤ p) (h2 : p < up64 (finK ms k)) : ∃ hx : p < (imImg ms).length, (imImg ms)[p] = 0 := by
  obtain ⟨P, Q, hX, hP⟩ := img_zer ms hn k h
  have hx : p < (imImg ms).length := by rw [hX]; simp only [List.length_append, zer_len, hP]; omega
  refine ⟨hx, ?_⟩
  rw [get_mid hX (p - finK ms k) (by omega) (by rw [zer_len]; omega) hx]
  simp [zer]
theorem lay_data {ms : List Md} (hn : ∀ m ∈ ms, m.name.length ≤ 24) {k : Nat} (h : k < ms.length) : up64 (finK ms k) + (ms[k]).data.length ≤ (imImg ms).length ∧ seg (imImg ms) (up64 (finK ms k)) (ms[k]).data.length = (ms[k]).data := by
  obtain ⟨P, Q, hX, hP⟩ := img_dat ms hn k h
  refine ⟨?_, seg_of hX hP.symm rfl⟩
  rw [hX]
  simp only [List.length_append, hP]
  unfold finK
  omega
theorem byte_mod (v : Nat) : (UInt8.ofNat (v % 256)).toNat = v % 256 := by rw [UInt8.toNat_ofNat']; exact Nat.mod_eq_of_lt (by omega)
theorem lay_ent {ms : List Md} (hn : ∀ m ∈ ms, m.name.length ≤ 24) {k : Nat} (h : k < ms.length) (h16 : up64 (finK ms k) < 65536) (hd : (ms[k]).data.length < 65536) : 16 + 48 * k + 48 ≤ (imImg ms).length ∧ seg (imImg ms) (16 + 48 * k) (ms[k]).name.length = (ms[k]).name ∧ (∀ (a : 16 + 48 * k + 32 < (imImg ms).length) (b : 16 + 48 * k + 33 < (imImg ms).length), ((imImg ms)[16 + 48 * k + 32]).toNat + 256 * ((imImg ms)[16 + 48 * k + 33]).toNat = up64 (finK ms k)) ∧ ∀ (a : 16 + 48 * k + 36 < (imImg ms).length) (b : 16 + 48 * k + 37 < (imImg ms).length), ((imImg ms)[16 + 48 * k + 36]).toNat + 256 * ((imImg ms)[16 + 48 * k + 37]).toNat = (ms[k]).data.length := by
  obtain ⟨P, Q, hX, hP⟩ := img_ent ms hn k h
  have hnl := hn _ (List.getElem_mem h)
  have hl := imEnt_len ms[k] (up64 (finK ms k)) hnl
  unfold finK at *
  refine ⟨by rw [hX]; simp only [List.length_append, hl, hP]; omega, ?_, fun a b => ?_, fun a b => ?_⟩
  · unfold imEnt at hX
    exact seg_of (B := (ms[k]).name) (by rw [hX]; simp only [List.append_assoc]; rfl) hP.symm rfl
  · have e : ∀ i (hi : i < 4) (hx : 16 + 48 * k + 32 + i < (imImg ms).length), (imImg ms)[16 + 48 * k + 32 + i] = (fixB (up64 (imFin (16 + 48 * ms.length) (ms.take k))) 4)[i]'(by rw [fixB_len]; exact hi) := fun i hi hx => by
      unfold imEnt at hX
      exact get_mid (A := P ++ ((ms[k]).name ++ zer (24 - (ms[k]).name.length) ++ [UInt8.ofNat (ms[k]).kind.toNat, UInt8.ofNat (ms[k]).width.toNat, 0, 0] ++ fixB (ms[k]).entry.toNat 4)) (by rw [hX]; simp only [List.append_assoc]; rfl) i (by simp only [List.length_append, List.length_cons, List.length_nil, zer_len, fixB_len, hP]; omega) _ hx
    have e0 := e 0 (by decide) a
    have e1 := e 1 (by decide) b
    simp only [Nat.add_zero] at e0
    rw [e0, e1]
    simp only [fixB, List.getElem_map, List.getElem_range, byte_mod]
    omega
  · have e : ∀ i (hi : i < 4) (hx : 16 + 48 * k + 36 + i < (imImg ms).length), (imImg ms)[16 + 48 * k + 36 + i] = (fixB (ms[k]).data.length 4)[i]'(by rw [fixB_len]; exact hi) := fun i hi hx => by
      unfold imEnt at hX
      exact get_mid (A := P ++ ((ms[k]).name ++ zer (24 - (ms[k]).name.length) ++ [UInt8.ofNat (ms[k]).kind.toNat, UInt8.ofNat (ms[k]).width.toNat, 0, 0] ++ fixB (ms[k]).entry.toNat 4 ++ fixB (up64 (imFin (16 + 48 * ms.length) (ms.take k))) 4)) (by rw [hX]; simp only [List.append_assoc]; rfl) i (by simp only [List.length_append, List.length_cons, List.length_nil, zer_len, fixB_len, hP]; omega) _ hx
    have e0 := e 0 (by decide) a
    have e1 := e 1 (by decide) b
    simp only [Nat.add_zero] at e0
    rw [e0, e1]
    simp only [fixB, List.getElem_map, List.getElem_range, byte_mod]
    omega
theorem up_mid {F p : Nat} (h1 : F ≤ p) (h2 : p < up64 F) : p % 64 ≠ 0 := by unfold up64 at h2; omega
set_option maxRecDepth 100000 in
set_option maxHeartbeats 8000000 in
theorem walk_layout (W : World) (a0 : Option Addr) (len0 cap0 : Nat) (z0 : List Int) (w0 : IsRow .i64 W a0 len0 cap0 z0) : Calls Tryd.prog 4 #[.slice a0 len0 cap0] W (True1 W) := by
  obtain ⟨l, hL, hl9⟩ := w0.isN
  obtain rfl := hL.1
  clear w0
  have AW := Lib.hid (fun (w : World) (hB : Below W.heap.size W w) => (awake w).mono (R' := fun en w' => en = .returned (.bool true) ∧ Below W.heap.size W w') (fun en w' h => ⟨h.1, hB.trans (h.2.mono hB.size)⟩))
  have B0 := Below.refl W.heap.size W
  by_cases hl : 200 < l.length
  · have d0 : decide (200 < l.length) = true := decide_eq_true hl
    have d0i : decide ((200 : Int) < (l.length : Int)) = true := decide_eq_true (by omega)
    clear hl
    go_enter Tryd.func4, Tryd.ntmps4
    go_wp2_with (go_at_call 10; (with_reducible refine (AW.out _ B0).mono ?_); rintro en w9 ⟨rfl, hB9⟩)
    go_ret
    exact ⟨rfl, hB9⟩
  have d0 : decide (200 < l.length) = false := decide_eq_false hl
  have d0i : decide ((200 : Int) < (l.length : Int)) = false := decide_eq_false (by omega)
  have MO := Lib.hid (modules l a0 cap0 W hL (by omega))
  clear hL
  go_enter Tryd.func4, Tryd.ntmps4
  go_upto_region 4 with (go_at_call 11; (with_reducible refine MO.out.mono ?_); rintro en w1 ⟨ms, A, c, qs, hg, rfl, ho, hB⟩)
  clear d0 d0i MO B0
  have B1 := Lib.hid (build_is rfl hg.bld A c w1 ho.isMs ho.cap)
  have hsz := hg.size
  have hil := imImg_len ms hg.names
  have hge := imSize_ge ms
  have hmod : imSize ms % 64 = 0 := up64_mod _
  rw [← hil] at hsz hge hmod
  have hzz := fun (k : Nat) (hk : k ≤ ms.length) (p : Nat) h1 h2 => lay_zero (ms := ms) hg.names (k := k) hk (p := p) h1 h2
  have hdd := fun (k : Nat) (hk : k < ms.length) => lay_data (ms := ms) hg.names (k := k) hk
  have hee := fun (k : Nat) (hk : k < ms.length) h16 hd => lay_ent (ms := ms) hg.names (k := k) hk h16 hd
  have HFE := Lib.hid (show finK ms ms.length ≤ imSize ms ∧ imSize ms = up64 (finK ms ms.length) from ⟨finK_le ms _ (Nat.le_refl _), by rw [finK_all]; rfl⟩)
  rw [← hil] at HFE
  generalize imImg ms = X at *
  have HZ := Lib.hid hzz
  have HD := Lib.hid hdd
  have HE := Lib.hid hee
  clear hzz hdd hee
  obtain ⟨L, hL⟩ : ∃ L, X.length = L := ⟨_, rfl⟩
  rw [hL] at B1 hsz hge hmod
  obtain ⟨n, hn⟩ : ∃ n, ms.length = n := ⟨_, rfl⟩
  have hcp := ho.cap
  have hM := ho.isMs
  rw [hn] at B1 hge hcp hM
  have hn6 := hg.len
  rw [hn] at hn6
  have hm1 : (L : Int).tmod 64 = 0 := by rw [Int.tmod_eq_emod_of_nonneg (by omega)]; omega
  have hw1 : IntKind.i64.wrap (48 * (n : Int)) = 48 * (n : Int) := by rw [IntKind.wrap_i64]; omega
  have hw2 : IntKind.i64.wrap (16 + 48 * (n : Int)) = 16 + 48 * (n : Int) := by rw [IntKind.wrap_i64]; omega
  have d1i : decide ((L : Int) < 16 + 48 * (n : Int)) = false := decide_eq_false (by omega)
  have HL := Lib.hid hL
  have HN := Lib.hid hn
  rw [hL] at HFE
  clear hil hL ho
  simp only [hn]
  clear hn
  go_upto_region 9 with (go_at_call 12; (with_reducible refine B1.out.mono ?_); rintro en w2 ⟨g, rfl, hg2, r2, hb2⟩)
  have hI := IsB.of_row r2
  rw [HL.out] at hI
  have hB := hB.trans (hb2.mono hB.size)
  have hM := hM.below hb2
  clear B1 hb2 hg2 r2 hm1 hw1 hw2 d1i
  have HF0 : (16 : Int) + 48 * (n : Int) = ((finK ms 0 : Nat) : Int) := by unfold finK; rw [List.take_zero]; show _ = ((16 + 48 * ms.length : Nat) : Int); rw [HN.out]; omega
  simp only [HF0]
  clear HF0
  go_loopw [6, 7] (fun v6 v7 wr => ∃ j : Nat, j ≤ n ∧ v7 = .int .i64 j ∧ v6 = .int .i64 ((finK ms j : Nat) : Int) ∧ Below w2.heap.size w2 wr) (fun _ i _ => n - (intOf i).toNat)
  case atStart => exact ⟨0, by omega, rfl, rfl, Below.refl _ _⟩
  case round =>
    obtain ⟨j, hj, rfl, rfl, hbr⟩ := hrel
    rcases Nat.lt_or_ge j n with hjl | hjl
    · have d1 : decide (j < n) = true := decide_eq_true hjl
      have hji : (j : Int) < n := by omega
      have hj0 : (0 : Int) ≤ (j : Int) := by omega
      have hjm : j < ms.length := by rw [HN.out]; exact hjl
      have FS := Lib.hid (finK_succ ms j hjm)
      obtain ⟨hd1, hd2⟩ := HD.out j hjm
      have hXL := HL.out
      obtain ⟨he0, hes, heo, hez⟩ := HE.out j hjm (by omega) (by omega)
      have hdt := hg.dat ms[j] (List.getElem_mem hjm)
      have hnm := hg.names ms[j] (List.getElem_mem hjm)
      obtain ⟨b0, o0, rfl, -⟩ := hM.2 (by omega)
      obtain ⟨D, dc, q0, -, -, -, q4, hdc, hID⟩ := hM.cell j hjm
      have HZJ := Lib.hid (fun p => HZ.out j (by omega) p)
      have hFu := up64_ge (finK ms j)
      have HUM := Lib.hid (fun p => up_mid (F := finK ms j) (p := p))
      have hUmod := up64_mod (finK ms j)
      obtain ⟨F, hF⟩ : ∃ F, finK ms j = F := ⟨_, rfl⟩
      rw [hF] at FS hd1 hd2 heo HZJ hFu HUM hUmod
      simp only [hF]
      obtain ⟨off, hoff⟩ : ∃ off, up64 F = off := ⟨_, rfl⟩
      rw [hoff] at FS hd1 hd2 heo HZJ hFu HUM hUmod
      obtain ⟨y, hy⟩ : ∃ y, ms[j] = y := ⟨_, rfl⟩
      rw [hy] at FS hd1 hd2 hes hez q0 q4 hdc hID hdt hnm
      obtain ⟨nm, hnme⟩ : ∃ nm, y.name = nm := ⟨_, rfl⟩
      obtain ⟨dat, hdat⟩ : ∃ dat, y.data = dat := ⟨_, rfl⟩
      rw [hnme] at hes q0 hnm
      rw [hdat] at FS hd1 hd2 hez q4 hdc hID hdt
      clear hy hnme hdat hoff hF
      rw [HL.out] at hd1 he0
      clear hXL
      go_upto_region 11 with (fail)
      go_loopw [6] (fun v6 wq => ∃ p : Nat, F ≤ p ∧ p ≤ off ∧ v6 = .int .i64 (p : Int) ∧ Below w2.heap.size w2 wq) (fun i _ => off - (intOf i).toNat)
      case atStart => exact ⟨F, Nat.le_refl _, hFu, rfl, hbr⟩
      case round =>
        clear hbr
        obtain ⟨p, hp1, hp2, rfl, hbr⟩ := hrel
        obtain ⟨r, hr⟩ : ∃ r, (p : Int).tmod 64 = r := ⟨_, rfl⟩
        have hr2 := hr
        rw [Int.tmod_eq_emod_of_nonneg (by omega)] at hr2
        have hrw : IntKind.i64.wrap r = r := by rw [IntKind.wrap_i64]; omega
        rcases Nat.lt_or_ge p off with hpl | hpl
        · have hpm := HUM.out p hp1 hpl
          have e1 : (r != 0) = true := by simp; omega
          obtain ⟨hx, hx0⟩ := HZJ.out p hp1 hpl
          obtain ⟨b', o', e', -, hcel⟩ := (hI.below hbr).at_ (by omega)
          cases e'
          have c0 := hcel p hx
          rw [hx0, Nat.zero_add] at c0
          have c0 : _ = some (Value.int .u8 0) := c0
          have hpL : p < L := by rw [← HL.out]; exact hx
          have i0 : (0 : Int) ≤ (p : Int) := by omega
          have i1 : (p : Int) < (L : Int) := by omega
          clear hcel hx hx0 hpm
          go_wp2
          exact ⟨⟨p + 1, by omega, by omega, by go_num, hbr⟩, by simp [intOf]; omega⟩
        · obtain rfl : p = off := by omega
          have e1 : (r != 0) = false := by simp; omega
          clear hUmod HUM HZJ
          have c4 := (hbr.cell (p := ⟨b0, o0 + j * 5 + 4, none⟩) (block_lt_of_cell q4)).trans q4
          have hw1 : IntKind.i64.wrap ((L : Int) - (p : Int)) = (L : Int) - (p : Int) := by rw [IntKind.wrap_i64]; omega
          have hw2 : IntKind.i64.wrap ((p : Int) + (dat.length : Int)) = (p : Int) + (dat.length : Int) := by rw [IntKind.wrap_i64]; omega
          have d2 : decide ((L : Int) - (p : Int) < (dat.length : Int)) = false := decide_eq_false (by omega)
          go_upto_region 16 with (fail)
          have i0 : (0 : Int) ≤ (p : Int) := by omega
          have i1 : (p : Int) ≤ (p : Int) + (dat.length : Int) := by omega
          have i2 : (p : Int) + (dat.length : Int) ≤ (L : Int) := by omega
          have t2 : ((p : Int) + (dat.length : Int)).toNat = p + dat.length := by omega
          have t3 : p + dat.length - p = dat.length := by omega
          by_cases hpl : L = p
          · obtain rfl : dat = [] := List.eq_nil_of_length_eq_zero (by omega)
            clear i0 i1 i2 t2 t3 hw1 hw2 d2
            subst hpl
            have c4 : wr.cell? ⟨b0, o0 + j * 5 + 4, none⟩ = some (.slice D 0 dc) := c4
            have hw3 : IntKind.i64.wrap (L : Int) = (L : Int) := by rw [IntKind.wrap_i64]; omega
            have tL : (L : Int).toNat = L := by omega
            have j1 : (0 : Int) ≤ (L : Int) := by omega
            have hI6 := IsB.nil wr (some ⟨g, 0, none⟩)
            have HK := Lib.hid (fun (w' : World) (hb : Below wr.heap.size wr w') => (show w'.cell? ⟨b0, o0 + j * 5 + 4, none⟩ = some (.slice D 0 dc) ∧ (convert 23 9 (.slice (some ⟨g, 0, none⟩) 0 0)).run Tryd.prog w' = .ok (.string ⟨#[]⟩) w' ∧ (convert 23 9 (.slice D 0 dc)).run Tryd.prog w' = .ok (.string ⟨#[]⟩) w' from ⟨(hb.cell (p := ⟨b0, o0 + j * 5 + 4, none⟩) (block_lt_of_cell c4)).trans c4, run_str Tryd.underlying23 Tryd.underlying5 Tryd.underlying9 _ (hI6.below hb), run_str Tryd.underlying23 Tryd.underlying5 Tryd.underlying9 _ ((hID.below hbr).below hb)⟩))
            have HKW := HK.out wr.drew (Below.refl _ _).drew
            go_region_held3 (fun w' => w'.cell? ⟨b0, o0 + j * 5 + 4, none⟩ = some (.slice D 0 dc) ∧ (convert 23 9 (.slice (some ⟨g, 0, none⟩) 0 0)).run Tryd.prog w' = .ok (.string ⟨#[]⟩) w' ∧ (convert 23 9 (.slice D 0 dc)).run Tryd.prog w' = .ok (.string ⟨#[]⟩) w') (first | exact HK.out _ (Below.refl _ _) | exact HK.out _ (Below.refl _ _).drew) (fail)
            clear HK HKW hI6
            have hbr := (show Below w2.heap.size w2 wr.drew from hbr.drew)
            generalize wr.drew = wq at *
            have c0 := (hbr.cell (p := ⟨b0, o0 + j * 5, none⟩) (block_lt_of_cell q0)).trans q0
            have m1 : IntKind.i64.wrap (48 * (j : Int)) = 48 * (j : Int) := by rw [IntKind.wrap_i64]; omega
            have m2 : IntKind.i64.wrap (16 + 48 * (j : Int)) = 16 + 48 * (j : Int) := by rw [IntKind.wrap_i64]; omega
            go_upto_region 19 with (fail)
            obtain ⟨b', o', e', -, hcel⟩ := (hI.below hbr).at_ (by omega)
            cases e'
            have hXL := HL.out
            have c32 := hcel (16 + 48 * j + 32) (by omega)
            rw [Nat.zero_add] at c32
            have c33 := hcel (16 + 48 * j + 33) (by omega)
            rw [Nat.zero_add] at c33
            have c36 := hcel (16 + 48 * j + 36) (by omega)
            rw [Nat.zero_add] at c36
            have c37 := hcel (16 + 48 * j + 37) (by omega)
            rw [Nat.zero_add] at c37
            have h32 := heo (by omega) (by omega)
            have h36 := hez (by omega) (by omega)
            obtain ⟨x32, hx32⟩ : ∃ x, X[16 + 48 * j + 32]'(by omega) = x := ⟨_, rfl⟩
            have hl32 := x32.toNat_lt
            rw [hx32] at c32 h32
            clear hx32
            have hw32 : IntKind.i64.wrap (x32.toNat : Int) = (x32.toNat : Int) := by rw [IntKind.wrap_i64]; omega
            have ha32 : IntKind.i64.wrap (16 + 48 * (j : Int) + 32) = 16 + 48 * (j : Int) + 32 := by rw [IntKind.wrap_i64]; omega
            have hb32 : (16 + 48 * (j : Int) + 32).toNat = 16 + 48 * j + 32 := by omega
            have hc32 : (0 : Int) ≤ 16 + 48 * (j : Int) + 32 := by omega
            have hd32 : 16 + 48 * (j : Int) + 32 < (L : Int) := by omega
            obtain ⟨x33, hx33⟩ : ∃ x, X[16 + 48 * j + 33]'(by omega) = x := ⟨_, rfl⟩
            have hl33 := x33.toNat_lt
            rw [hx33] at c33 h32
            clear hx33
            have hw33 : IntKind.i64.wrap (x33.toNat : Int) = (x33.toNat : Int) := by rw [IntKind.wrap_i64]; omega
            have ha33 : IntKind.i64.wrap (16 + 48 * (j : Int) + 33) = 16 + 48 * (j : Int) + 33 := by rw [IntKind.wrap_i64]; omega
            have hb33 : (16 + 48 * (j : Int) + 33).toNat = 16 + 48 * j + 33 := by omega
            have hc33 : (0 : Int) ≤ 16 + 48 * (j : Int) + 33 := by omega
            have hd33 : 16 + 48 * (j : Int) + 33 < (L : Int) := by omega
            obtain ⟨x36, hx36⟩ : ∃ x, X[16 + 48 * j + 36]'(by omega) = x := ⟨_, rfl⟩
            have hl36 := x36.toNat_lt
            rw [hx36] at c36 h36
            clear hx36
            have hw36 : IntKind.i64.wrap (x36.toNat : Int) = (x36.toNat : Int) := by rw [IntKind.wrap_i64]; omega
            have ha36 : IntKind.i64.wrap (16 + 48 * (j : Int) + 36) = 16 + 48 * (j : Int) + 36 := by rw [IntKind.wrap_i64]; omega
            have hb36 : (16 + 48 * (j : Int) + 36).toNat = 16 + 48 * j + 36 := by omega
            have hc36 : (0 : Int) ≤ 16 + 48 * (j : Int) + 36 := by omega
            have hd36 : 16 + 48 * (j : Int) + 36 < (L : Int) := by omega
            obtain ⟨x37, hx37⟩ : ∃ x, X[16 + 48 * j + 37]'(by omega) = x := ⟨_, rfl⟩
            have hl37 := x37.toNat_lt
            rw [hx37] at c37 h36
            clear hx37
            have hw37 : IntKind.i64.wrap (x37.toNat : Int) = (x37.toNat : Int) := by rw [IntKind.wrap_i64]; omega
            have ha37 : IntKind.i64.wrap (16 + 48 * (j : Int) + 37) = 16 + 48 * (j : Int) + 37 := by rw [IntKind.wrap_i64]; omega
            have hb37 : (16 + 48 * (j : Int) + 37).toNat = 16 + 48 * j + 37 := by omega
            have hc37 : (0 : Int) ≤ 16 + 48 * (j : Int) + 37 := by omega
            have hd37 : 16 + 48 * (j : Int) + 37 < (L : Int) := by omega
            have hm33 : IntKind.i64.wrap (256 * (x33.toNat : Int)) = 256 * (x33.toNat : Int) := by rw [IntKind.wrap_i64]; omega
            have hs33 : IntKind.i64.wrap ((x32.toNat : Int) + 256 * (x33.toNat : Int)) = (x32.toNat : Int) + 256 * (x33.toNat : Int) := by rw [IntKind.wrap_i64]; omega
            have hm37 : IntKind.i64.wrap (256 * (x37.toNat : Int)) = 256 * (x37.toNat : Int) := by rw [IntKind.wrap_i64]; omega
            have hs37 : IntKind.i64.wrap ((x36.toNat : Int) + 256 * (x37.toNat : Int)) = (x36.toNat : Int) + 256 * (x37.toNat : Int) := by rw [IntKind.wrap_i64]; omega
            have e32 : ((x32.toNat : Int) + 256 * (x33.toNat : Int)) = (L : Int) := by omega
            have e36 : ((x36.toNat : Int) + 256 * (x37.toNat : Int)) = 0 := by simp only [List.length_nil] at h36; omega
            have np1 : IntKind.i64.wrap (L : Int) = (L : Int) := by rw [IntKind.wrap_i64]; omega
            have n1 : IntKind.i64.wrap (16 + 48 * (j : Int) + (nm.length : Int)) = 16 + 48 * (j : Int) + (nm.length : Int) := by rw [IntKind.wrap_i64]; omega
            have n2 : (16 + 48 * (j : Int) + (nm.length : Int)).toNat = 16 + 48 * j + nm.length := by omega
            have n3 : (16 + 48 * (j : Int)).toNat = 16 + 48 * j := by omega
            have n4 : (0 : Int) ≤ 16 + 48 * (j : Int) := by omega
            have n5 : 16 + 48 * (j : Int) ≤ 16 + 48 * (j : Int) + (nm.length : Int) := by omega
            have n6 : 16 + 48 * (j : Int) + (nm.length : Int) ≤ (L : Int) := by omega
            have n7 : (L = 16 + 48 * j) = False := eq_false (by omega)
            have n8 : (L - (16 + 48 * j) = 0) = False := eq_false (by omega)
            have n9 : 16 + 48 * j + nm.length - (16 + 48 * j) = nm.length := by omega
            have ns : (⟨nm.toArray⟩ : ByteArray).size = nm.length := by simp [ByteArray.size]
            have hpart := (hI.below hbr).part (16 + 48 * j) nm.length (by omega)
            rw [hes, Nat.zero_add] at hpart
            have HK := Lib.hid (fun (w' : World) (hb : Below wq.heap.size wq w') => (show w'.cell? ⟨b0, o0 + j * 5, none⟩ = some (.string ⟨nm.toArray⟩) ∧ w'.cell? ⟨g, 16 + 48 * j + 32, none⟩ = some (.int .u8 x32.toNat) ∧ w'.cell? ⟨g, 16 + 48 * j + 33, none⟩ = some (.int .u8 x33.toNat) ∧ w'.cell? ⟨g, 16 + 48 * j + 36, none⟩ = some (.int .u8 x36.toNat) ∧ w'.cell? ⟨g, 16 + 48 * j + 37, none⟩ = some (.int .u8 x37.toNat) ∧ (convert 23 9 (.slice (some ⟨g, 16 + 48 * j, none⟩) nm.length (L - (16 + 48 * j)))).run Tryd.prog w' = .ok (.string ⟨nm.toArray⟩) w' from ⟨(hb.cell (p := ⟨b0, o0 + j * 5, none⟩) (block_lt_of_cell c0)).trans c0, (hb.cell (p := ⟨g, 16 + 48 * j + 32, none⟩) (block_lt_of_cell c32)).trans c32, (hb.cell (p := ⟨g, 16 + 48 * j + 33, none⟩) (block_lt_of_cell c33)).trans c33, (hb.cell (p := ⟨g, 16 + 48 * j + 36, none⟩) (block_lt_of_cell c36)).trans c36, (hb.cell (p := ⟨g, 16 + 48 * j + 37, none⟩) (block_lt_of_cell c37)).trans c37, run_str Tryd.underlying23 Tryd.underlying5 Tryd.underlying9 _ (hpart.below hb)⟩))
            have HKW := HK.out wq.drew (Below.refl _ _).drew
            clear hcel heo hez hpart
            go_region_held3 (fun w' => w'.cell? ⟨b0, o0 + j * 5, none⟩ = some (.string ⟨nm.toArray⟩) ∧ w'.cell? ⟨g, 16 + 48 * j + 32, none⟩ = some (.int .u8 x32.toNat) ∧ w'.cell? ⟨g, 16 + 48 * j + 33, none⟩ = some (.int .u8 x33.toNat) ∧ w'.cell? ⟨g, 16 + 48 * j + 36, none⟩ = some (.int .u8 x36.toNat) ∧ w'.cell? ⟨g, 16 + 48 * j + 37, none⟩ = some (.int .u8 x37.toNat) ∧ (convert 23 9 (.slice (some ⟨g, 16 + 48 * j, none⟩) nm.length (L - (16 + 48 * j)))).run Tryd.prog w' = .ok (.string ⟨nm.toArray⟩) w') (first | exact HK.out _ (Below.refl _ _) | exact HK.out _ (Below.refl _ _).drew) (fail)
            clear HK HKW
            go_wp2
            exact ⟨⟨j + 1, by omega, by go_num, by rw [FS.out]; simp, hbr.drew⟩, by simp [intOf]; omega⟩
          have hp1 : (L = p) = False := eq_false hpl
          have hp3 : (L - p = 0) = False := eq_false (by omega)
          have hpart := (hI.below hbr).part p dat.length (by omega)
          rw [hd2, Nat.zero_add] at hpart
          have hI6 := hpart
          have HK := Lib.hid (fun (w' : World) (hb : Below wr.heap.size wr w') => (show w'.cell? ⟨b0, o0 + j * 5 + 4, none⟩ = some (.slice D dat.length dc) ∧ (convert 23 9 (.slice (some ⟨g, p, none⟩) dat.length (L - p))).run Tryd.prog w' = .ok (.string ⟨dat.toArray⟩) w' ∧ (convert 23 9 (.slice D dat.length dc)).run Tryd.prog w' = .ok (.string ⟨dat.toArray⟩) w' from ⟨(hb.cell (p := ⟨b0, o0 + j * 5 + 4, none⟩) (block_lt_of_cell c4)).trans c4, run_str Tryd.underlying23 Tryd.underlying5 Tryd.underlying9 _ (hI6.below hb), run_str Tryd.underlying23 Tryd.underlying5 Tryd.underlying9 _ ((hID.below hbr).below hb)⟩))
          have HKW := HK.out wr.drew (Below.refl _ _).drew
          go_region_held3 (fun w' => w'.cell? ⟨b0, o0 + j * 5 + 4, none⟩ = some (.slice D dat.length dc) ∧ (convert 23 9 (.slice (some ⟨g, p, none⟩) dat.length (L - p))).run Tryd.prog w' = .ok (.string ⟨dat.toArray⟩) w' ∧ (convert 23 9 (.slice D dat.length dc)).run Tryd.prog w' = .ok (.string ⟨dat.toArray⟩) w') (first | exact HK.out _ (Below.refl _ _) | exact HK.out _ (Below.refl _ _).drew) (fail)
          clear HK HKW hI6
          have hbr := (show Below w2.heap.size w2 wr.drew from hbr.drew)
          generalize wr.drew = wq at *
          have c0 := (hbr.cell (p := ⟨b0, o0 + j * 5, none⟩) (block_lt_of_cell q0)).trans q0
          have m1 : IntKind.i64.wrap (48 * (j : Int)) = 48 * (j : Int) := by rw [IntKind.wrap_i64]; omega
          have m2 : IntKind.i64.wrap (16 + 48 * (j : Int)) = 16 + 48 * (j : Int) := by rw [IntKind.wrap_i64]; omega
          go_upto_region 19 with (fail)
          obtain ⟨b', o', e', -, hcel⟩ := (hI.below hbr).at_ (by omega)
          cases e'
          have hXL := HL.out
          have c32 := hcel (16 + 48 * j + 32) (by omega)
          rw [Nat.zero_add] at c32
          have c33 := hcel (16 + 48 * j + 33) (by omega)
          rw [Nat.zero_add] at c33
          have c36 := hcel (16 + 48 * j + 36) (by omega)
          rw [Nat.zero_add] at c36
          have c37 := hcel (16 + 48 * j + 37) (by omega)
          rw [Nat.zero_add] at c37
          have h32 := heo (by omega) (by omega)
          have h36 := hez (by omega) (by omega)
          obtain ⟨x32, hx32⟩ : ∃ x, X[16 + 48 * j + 32]'(by omega) = x := ⟨_, rfl⟩
          have hl32 := x32.toNat_lt
          rw [hx32] at c32 h32
          clear hx32
          have hw32 : IntKind.i64.wrap (x32.toNat : Int) = (x32.toNat : Int) := by rw [IntKind.wrap_i64]; omega
          have ha32 : IntKind.i64.wrap (16 + 48 * (j : Int) + 32) = 16 + 48 * (j : Int) + 32 := by rw [IntKind.wrap_i64]; omega
          have hb32 : (16 + 48 * (j : Int) + 32).toNat = 16 + 48 * j + 32 := by omega
          have hc32 : (0 : Int) ≤ 16 + 48 * (j : Int) + 32 := by omega
          have hd32 : 16 + 48 * (j : Int) + 32 < (L : Int) := by omega
          obtain ⟨x33, hx33⟩ : ∃ x, X[16 + 48 * j + 33]'(by omega) = x := ⟨_, rfl⟩
          have hl33 := x33.toNat_lt
          rw [hx33] at c33 h32
          clear hx33
          have hw33 : IntKind.i64.wrap (x33.toNat : Int) = (x33.toNat : Int) := by rw [IntKind.wrap_i64]; omega
          have ha33 : IntKind.i64.wrap (16 + 48 * (j : Int) + 33) = 16 + 48 * (j : Int) + 33 := by rw [IntKind.wrap_i64]; omega
          have hb33 : (16 + 48 * (j : Int) + 33).toNat = 16 + 48 * j + 33 := by omega
          have hc33 : (0 : Int) ≤ 16 + 48 * (j : Int) + 33 := by omega
          have hd33 : 16 + 48 * (j : Int) + 33 < (L : Int) := by omega
          obtain ⟨x36, hx36⟩ : ∃ x, X[16 + 48 * j + 36]'(by omega) = x := ⟨_, rfl⟩
          have hl36 := x36.toNat_lt
          rw [hx36] at c36 h36
          clear hx36
          have hw36 : IntKind.i64.wrap (x36.toNat : Int) = (x36.toNat : Int) := by rw [IntKind.wrap_i64]; omega
          have ha36 : IntKind.i64.wrap (16 + 48 * (j : Int) + 36) = 16 + 48 * (j : Int) + 36 := by rw [IntKind.wrap_i64]; omega
          have hb36 : (16 + 48 * (j : Int) + 36).toNat = 16 + 48 * j + 36 := by omega
          have hc36 : (0 : Int) ≤ 16 + 48 * (j : Int) + 36 := by omega
          have hd36 : 16 + 48 * (j : Int) + 36 < (L : Int) := by omega
          obtain ⟨x37, hx37⟩ : ∃ x, X[16 + 48 * j + 37]'(by omega) = x := ⟨_, rfl⟩
          have hl37 := x37.toNat_lt
          rw [hx37] at c37 h36
          clear hx37
          have hw37 : IntKind.i64.wrap (x37.toNat : Int) = (x37.toNat : Int) := by rw [IntKind.wrap_i64]; omega
          have ha37 : IntKind.i64.wrap (16 + 48 * (j : Int) + 37) = 16 + 48 * (j : Int) + 37 := by rw [IntKind.wrap_i64]; omega
          have hb37 : (16 + 48 * (j : Int) + 37).toNat = 16 + 48 * j + 37 := by omega
          have hc37 : (0 : Int) ≤ 16 + 48 * (j : Int) + 37 := by omega
          have hd37 : 16 + 48 * (j : Int) + 37 < (L : Int) := by omega
          have hm33 : IntKind.i64.wrap (256 * (x33.toNat : Int)) = 256 * (x33.toNat : Int) := by rw [IntKind.wrap_i64]; omega
          have hs33 : IntKind.i64.wrap ((x32.toNat : Int) + 256 * (x33.toNat : Int)) = (x32.toNat : Int) + 256 * (x33.toNat : Int) := by rw [IntKind.wrap_i64]; omega
          have hm37 : IntKind.i64.wrap (256 * (x37.toNat : Int)) = 256 * (x37.toNat : Int) := by rw [IntKind.wrap_i64]; omega
          have hs37 : IntKind.i64.wrap ((x36.toNat : Int) + 256 * (x37.toNat : Int)) = (x36.toNat : Int) + 256 * (x37.toNat : Int) := by rw [IntKind.wrap_i64]; omega
          have e32 : ((x32.toNat : Int) + 256 * (x33.toNat : Int)) = (p : Int) := by omega
          have e36 : ((x36.toNat : Int) + 256 * (x37.toNat : Int)) = (dat.length : Int) := by omega
          have np1 : IntKind.i64.wrap (p : Int) = (p : Int) := by rw [IntKind.wrap_i64]; omega
          have np2 : IntKind.i64.wrap (dat.length : Int) = (dat.length : Int) := by rw [IntKind.wrap_i64]; omega
          have n1 : IntKind.i64.wrap (16 + 48 * (j : Int) + (nm.length : Int)) = 16 + 48 * (j : Int) + (nm.length : Int) := by rw [IntKind.wrap_i64]; omega
          have n2 : (16 + 48 * (j : Int) + (nm.length : Int)).toNat = 16 + 48 * j + nm.length := by omega
          have n3 : (16 + 48 * (j : Int)).toNat = 16 + 48 * j := by omega
          have n4 : (0 : Int) ≤ 16 + 48 * (j : Int) := by omega
          have n5 : 16 + 48 * (j : Int) ≤ 16 + 48 * (j : Int) + (nm.length : Int) := by omega
          have n6 : 16 + 48 * (j : Int) + (nm.length : Int) ≤ (L : Int) := by omega
          have n7 : (L = 16 + 48 * j) = False := eq_false (by omega)
          have n8 : (L - (16 + 48 * j) = 0) = False := eq_false (by omega)
          have n9 : 16 + 48 * j + nm.length - (16 + 48 * j) = nm.length := by omega
          have ns : (⟨nm.toArray⟩ : ByteArray).size = nm.length := by simp [ByteArray.size]
          have hpart := (hI.below hbr).part (16 + 48 * j) nm.length (by omega)
          rw [hes, Nat.zero_add] at hpart
          have HK := Lib.hid (fun (w' : World) (hb : Below wq.heap.size wq w') => (show w'.cell? ⟨b0, o0 + j * 5, none⟩ = some (.string ⟨nm.toArray⟩) ∧ w'.cell? ⟨g, 16 + 48 * j + 32, none⟩ = some (.int .u8 x32.toNat) ∧ w'.cell? ⟨g, 16 + 48 * j + 33, none⟩ = some (.int .u8 x33.toNat) ∧ w'.cell? ⟨g, 16 + 48 * j + 36, none⟩ = some (.int .u8 x36.toNat) ∧ w'.cell? ⟨g, 16 + 48 * j + 37, none⟩ = some (.int .u8 x37.toNat) ∧ (convert 23 9 (.slice (some ⟨g, 16 + 48 * j, none⟩) nm.length (L - (16 + 48 * j)))).run Tryd.prog w' = .ok (.string ⟨nm.toArray⟩) w' from ⟨(hb.cell (p := ⟨b0, o0 + j * 5, none⟩) (block_lt_of_cell c0)).trans c0, (hb.cell (p := ⟨g, 16 + 48 * j + 32, none⟩) (block_lt_of_cell c32)).trans c32, (hb.cell (p := ⟨g, 16 + 48 * j + 33, none⟩) (block_lt_of_cell c33)).trans c33, (hb.cell (p := ⟨g, 16 + 48 * j + 36, none⟩) (block_lt_of_cell c36)).trans c36, (hb.cell (p := ⟨g, 16 + 48 * j + 37, none⟩) (block_lt_of_cell c37)).trans c37, run_str Tryd.underlying23 Tryd.underlying5 Tryd.underlying9 _ (hpart.below hb)⟩))
          have HKW := HK.out wq.drew (Below.refl _ _).drew
          clear hcel heo hez hpart
          go_region_held3 (fun w' => w'.cell? ⟨b0, o0 + j * 5, none⟩ = some (.string ⟨nm.toArray⟩) ∧ w'.cell? ⟨g, 16 + 48 * j + 32, none⟩ = some (.int .u8 x32.toNat) ∧ w'.cell? ⟨g, 16 + 48 * j + 33, none⟩ = some (.int .u8 x33.toNat) ∧ w'.cell? ⟨g, 16 + 48 * j + 36, none⟩ = some (.int .u8 x36.toNat) ∧ w'.cell? ⟨g, 16 + 48 * j + 37, none⟩ = some (.int .u8 x37.toNat) ∧ (convert 23 9 (.slice (some ⟨g, 16 + 48 * j, none⟩) nm.length (L - (16 + 48 * j)))).run Tryd.prog w' = .ok (.string ⟨nm.toArray⟩) w') (first | exact HK.out _ (Below.refl _ _) | exact HK.out _ (Below.refl _ _).drew) (fail)
          clear HK HKW
          go_wp2
          exact ⟨⟨j + 1, by omega, by go_num, by rw [FS.out]; go_num, hbr.drew⟩, by simp [intOf]; omega⟩
    · obtain rfl : j = n := by omega
      have d1 : decide (j < j) = false := by simp
      have HZJ := Lib.hid (fun p => HZ.out j (by rw [HN.out]; exact Nat.le_refl _) p)
      have hfe := HFE.out
      rw [HN.out] at hfe
      have hFu := up64_ge (finK ms j)
      have HUM := Lib.hid (fun p => up_mid (F := finK ms j) (p := p))
      obtain ⟨F, hF⟩ : ∃ F, finK ms j = F := ⟨_, rfl⟩
      rw [hF] at HZJ hFu HUM hfe
      simp only [hF]
      rw [← hfe.2] at HZJ hFu HUM
      clear hF hfe
      go_upto_region 22 with (fail)
      go_loopw [6] (fun v6 wq => ∃ p : Nat, F ≤ p ∧ p ≤ L ∧ v6 = .int .i64 (p : Int) ∧ Below w2.heap.size w2 wq) (fun i _ => L - (intOf i).toNat)
      case atStart => exact ⟨F, Nat.le_refl _, hFu, rfl, hbr⟩
      case round =>
        clear hbr
        obtain ⟨p, hp1, hp2, rfl, hbr⟩ := hrel
        obtain ⟨r, hr⟩ : ∃ r, (p : Int).tmod 64 = r := ⟨_, rfl⟩
        have hr2 := hr
        rw [Int.tmod_eq_emod_of_nonneg (by omega)] at hr2
        have hrw : IntKind.i64.wrap r = r := by rw [IntKind.wrap_i64]; omega
        rcases Nat.lt_or_ge p L with hpl | hpl
        · have hpm := HUM.out p hp1 hpl
          have e1 : (r != 0) = true := by simp; omega
          obtain ⟨hx, hx0⟩ := HZJ.out p hp1 hpl
          obtain ⟨b', o', e', -, hcel⟩ := (hI.below hbr).at_ (by omega)
          cases e'
          have c0 := hcel p hx
          rw [hx0, Nat.zero_add] at c0
          have c0 : _ = some (Value.int .u8 0) := c0
          have i0 : (0 : Int) ≤ (p : Int) := by omega
          have i1 : (p : Int) < (L : Int) := by omega
          have g1 : decide (L ≤ p) = false := decide_eq_false (by omega)
          have g1i : decide ((L : Int) ≤ (p : Int)) = false := decide_eq_false (by omega)
          clear hcel hx hx0 hpm
          go_wp2
          exact ⟨⟨p + 1, by omega, by omega, by go_num, hbr⟩, by simp [intOf]; omega⟩
        · obtain rfl : p = L := by omega
          have e1 : (r != 0) = false := by simp; omega
          have hBr := hB.trans (hbr.mono hB.size)
          go_wp2_with (go_at_call 10; (with_reducible refine Calls.mono (AW.out _ hBr) ?_); rintro en w9 ⟨rfl, hBF⟩)
          go_ret
          exact ⟨rfl, hBF⟩
end Go.Proofs.YtigbmlgllgcbhaaDoor
