/- Image, in plain words: a header with one byte changed. -/
import Derived.Test.YtigbmlgllgcbhaaDoorJa
import Derived.Test.YtigbmlgllgcbhaaDoorIz
namespace Go.Proofs.YtigbmlgllgcbhaaDoor
open Go.RowKit
set_option linter.unusedVariables false
set_option linter.unusedSimpArgs false
theorem leN_inj : ∀ a b : List UInt8, a.length = b.length → leN a = leN b → a = b
  | [], [], _, _ => rfl
  | [], _ :: _, h, _ => by simp at h
  | _ :: _, [], h, _ => by simp at h
  | x :: r, y :: s, h, e => by
    have h1 : leN (x :: r) = x.toNat + 256 * leN r := rfl
    have h2 : leN (y :: s) = y.toNat + 256 * leN s := rfl
    have l1 := x.toNat_lt
    have l2 := y.toNat_lt
    rw [h1, h2] at e
    have e1 : x = y := UInt8.toNat_inj.1 (by omega)
    have e2 := leN_inj r s (by simpa using h) (by omega)
    rw [e1, e2]
theorem set_far {X : List UInt8} {k : Nat} {v : UInt8} (i : Nat) (h : i ≠ k) : (X.set k v)[i]? = X[i]? := by
  rw [List.getElem?_set_ne (fun e => h e.symm)]
theorem set_seg {X : List UInt8} {k : Nat} {v : UInt8} {o s : Nat} (h : o + s ≤ k ∨ k < o) (hk : k < X.length) : seg (X.set k v) o s = seg X o s := by
  apply List.ext_getElem?
  intro i
  unfold seg
  rw [List.getElem?_take, List.getElem?_take]
  split
  · rw [List.getElem?_drop, List.getElem?_drop]
    exact set_far _ (by omega)
  · rfl
theorem set_seg_ne {X : List UInt8} {k : Nat} {v : UInt8} {o s : Nat} (h1 : o ≤ k) (h2 : k < o + s) (hk : k < X.length) (hv : v ≠ X[k]) : seg (X.set k v) o s ≠ seg X o s := by
  intro e
  have h : (seg (X.set k v) o s)[k - o]? = (seg X o s)[k - o]? := by rw [e]
  unfold seg at h
  rw [List.getElem?_take, List.getElem?_take, if_pos (show k - o < s by omega), if_pos (show k - o < s by omega), List.getElem?_drop, List.getElem?_drop, show o + (k - o) = k by omega, List.getElem?_set_self hk, List.getElem?_eq_getElem hk] at h
  exact hv (Option.some.inj h)
theorem set_drop {X : List UInt8} {k : Nat} {v : UInt8} (h : k < 16) (hk : k < X.length) : (X.set k v).drop 16 = X.drop 16 := by
  apply List.ext_getElem?
  intro i
  rw [List.getElem?_drop, List.getElem?_drop]
  exact set_far _ (by omega)
theorem seg04 (X : List UInt8) : X.take 4 = seg X 0 4 := by simp [seg]
theorem leN_ne {X : List UInt8} {k : Nat} {v : UInt8} {o s : Nat} (h1 : o ≤ k) (h2 : k < o + s) (hk : k < X.length) (hv : v ≠ X[k]) (hos : o + s ≤ X.length) : leN (seg (X.set k v) o s) ≠ leN (seg X o s) := fun e =>
  set_seg_ne h1 h2 hk hv (leN_inj _ _ (by rw [seg_len (by rw [List.length_set]; exact hos), seg_len hos]) e)
theorem hdr_magic {X : List UInt8} (h : hdrE X = 0) {k : Nat} {v : UInt8} (h1 : k < 4) (hk : k < X.length) (hv : v ≠ X[k]) : hdrE (X.set k v) = 68 := by
  obtain ⟨l16, l24, t4, v4, v8, v12⟩ := hdr_ok h
  unfold hdrE
  rw [List.length_set, if_neg (by omega), if_pos (by rw [seg04, ← t4, seg04]; exact set_seg_ne (by omega) (by omega) hk hv)]
theorem hdr_version {X : List UInt8} (h : hdrE X = 0) {k : Nat} {v : UInt8} (h0 : 4 ≤ k) (h1 : k < 6) (hk : k < X.length) (hv : v ≠ X[k]) : hdrE (X.set k v) = 69 := by
  obtain ⟨l16, l24, t4, v4, v8, v12⟩ := hdr_ok h
  have hne := leN_ne (o := 4) (s := 2) (by omega) (by omega) hk hv (by omega)
  rw [v4] at hne
  unfold hdrE
  rw [List.length_set, if_neg (by omega), if_neg (by rw [seg04, set_seg (by omega) hk, ← seg04, t4]; simp), if_pos hne]
theorem hdr_count {X : List UInt8} (h : hdrE X = 0) {k : Nat} {v : UInt8} (h0 : 6 ≤ k) (h1 : k < 8) (hk : k < X.length) : hdrE (X.set k v) = 0 := by
  obtain ⟨l16, l24, t4, v4, v8, v12⟩ := hdr_ok h
  unfold hdrE
  rw [List.length_set, set_seg (o := 4) (by omega) hk, set_seg (o := 8) (by omega) hk, set_seg (o := 12) (by omega) hk, set_drop (by omega) hk, v4, v8, v12, if_neg (by omega), if_neg (by rw [seg04, set_seg (by omega) hk, ← seg04, t4]; simp), if_neg (by omega), if_neg (by omega), if_neg (by omega), if_neg (by omega), if_neg (by omega)]
theorem hdr_size {X : List UInt8} (h : hdrE X = 0) {k : Nat} {v : UInt8} (h0 : 8 ≤ k) (h1 : k < 12) (hk : k < X.length) (hv : v ≠ X[k]) : hdrE (X.set k v) = if X.length < leN (seg (X.set k v) 8 4) then 52 else 53 := by
  obtain ⟨l16, l24, t4, v4, v8, v12⟩ := hdr_ok h
  have hne := leN_ne (o := 8) (s := 4) (by omega) (by omega) hk hv (by omega)
  rw [v8] at hne
  unfold hdrE
  rw [List.length_set, set_seg (o := 4) (by omega) hk, v4, if_neg (by omega), if_neg (by rw [seg04, set_seg (by omega) hk, ← seg04, t4]; simp), if_neg (by omega)]
  by_cases hlt : X.length < leN (seg (X.set k v) 8 4)
  · rw [if_pos hlt, if_pos hlt]
  · rw [if_neg hlt, if_neg hlt, if_pos (by omega)]
theorem hdr_sum {X : List UInt8} (h : hdrE X = 0) {k : Nat} {v : UInt8} (h0 : 12 ≤ k) (h1 : k < 16) (hk : k < X.length) (hv : v ≠ X[k]) : hdrE (X.set k v) = 55 := by
  obtain ⟨l16, l24, t4, v4, v8, v12⟩ := hdr_ok h
  have hne := leN_ne (o := 12) (s := 4) (by omega) (by omega) hk hv (by omega)
  rw [v12] at hne
  unfold hdrE
  rw [List.length_set, set_seg (o := 4) (by omega) hk, set_seg (o := 8) (by omega) hk, set_drop (by omega) hk, v4, v8, if_neg (by omega), if_neg (by rw [seg04, set_seg (by omega) hk, ← seg04, t4]; simp), if_neg (by omega), if_neg (by omega), if_neg (by omega), if_neg (by omega), if_pos hne]
theorem seg_eq2 {X Y : List UInt8} {o s : Nat} (h : ∀ i, o ≤ i → i < o + s → X[i]? = Y[i]?) : seg X o s = seg Y o s := by
  apply List.ext_getElem?
  intro i
  unfold seg
  rw [List.getElem?_take, List.getElem?_take]
  split
  · rw [List.getElem?_drop, List.getElem?_drop]
    exact h _ (by omega) (by omega)
  · rfl
theorem lay_off {ms : List Md} (h : bldE ms = 0) (hn : ∀ m ∈ ms, m.name.length ≤ 24) (h0 : 0 < ms.length) : offN (imImg ms) 0 = up64 (16 + 48 * ms.length) := by
  obtain ⟨P, Q, hX, hP⟩ := img_ent ms hn 0 h0
  obtain ⟨b1, b2, b3⟩ := bld_ok h
  have hft := imFin_take ms (16 + 48 * ms.length) 0 h0
  have hfs : imFin (16 + 48 * ms.length) ms ≤ imSize ms := up64_ge _
  have hnl := hn _ (List.getElem_mem h0)
  rw [List.take_zero] at hX hft
  have e : imFin (16 + 48 * ms.length) [] = 16 + 48 * ms.length := rfl
  rw [e] at hX hft
  unfold offN
  unfold imEnt at hX
  rw [seg_of (A := P ++ ((ms[0]).name ++ zer (24 - (ms[0]).name.length) ++ [UInt8.ofNat (ms[0]).kind.toNat, UInt8.ofNat (ms[0]).width.toNat, 0, 0] ++ fixB (ms[0]).entry.toNat 4)) (B := fixB (up64 (16 + 48 * ms.length)) 4) (by rw [hX]; simp only [List.append_assoc]; rfl) (by simp only [List.length_append, List.length_cons, List.length_nil, zer_len, fixB_len, hP]; omega) (by rw [fixB_len])]
  exact leN_fix (by show up64 (16 + 48 * ms.length) < 4294967296; omega)
/-- Two images that agree behind the header have as many modules. -/
theorem img_differ {A B : List Md} (hA : bldE A = 0) (hB : bldE B = 0) (hab : A.length < B.length) (he : ∀ i, 16 ≤ i → (imImg A)[i]? = (imImg B)[i]?) : False := by
  have hnA := bld_names hA
  have hnB := bld_names hB
  obtain ⟨b1, b2, b3⟩ := bld_ok hB
  obtain ⟨P, Q, hX, hP⟩ := img_ent B hnB A.length hab
  obtain ⟨cn, -⟩ := chk_all (fstG_all B [] b2 A.length hab)
  obtain ⟨nl, nn, nz⟩ := name_nz cn
  obtain ⟨y, r, hy⟩ : ∃ y r, (B[A.length]).name = y :: r := by
    cases h : (B[A.length]).name with
    | nil => exact absurd h nn
    | cons y r => exact ⟨y, r, rfl⟩
  have hyz : y ≠ 0 := nz y (by rw [hy]; simp)
  have hBy : (imImg B)[16 + 48 * A.length]? = some y := by
    rw [hX, List.getElem?_append_right (by omega), hP, Nat.sub_self]
    unfold imEnt
    rw [hy]
    rfl
  have hF0 : finK A 0 = 16 + 48 * A.length := by unfold finK; rfl
  rcases Nat.lt_or_ge (16 + 48 * A.length) (up64 (16 + 48 * A.length)) with hlt | hge
  · obtain ⟨hx, h0⟩ := lay_zero hnA (k := 0) (by omega) (p := 16 + 48 * A.length) (by rw [hF0]; omega) (by rw [hF0]; exact hlt)
    have := he (16 + 48 * A.length) (by omega)
    rw [hBy, List.getElem?_eq_getElem hx, h0] at this
    exact hyz (Option.some.inj this).symm
  · have hup := up64_ge (16 + 48 * A.length)
    have hmd := up64_mod (16 + 48 * A.length)
    have ha0 : 0 < A.length := by omega
    have h1 := (lay_off hA hnA ha0)
    have h2 := (lay_off hB hnB (show 0 < B.length by omega))
    have h3 : offN (imImg A) 0 = offN (imImg B) 0 := by
      unfold offN
      rw [seg_eq2 (fun i h1 h2 => he i (by omega))]
    have h4 := up64_ge (16 + 48 * B.length)
    omega
theorem hdr_canon {ms : List Md} (hb : bldE ms = 0) {k : Nat} {v : UInt8} (h0 : 6 ≤ k) (h1 : k < 8) (hk : k < (imImg ms).length) (hv : v ≠ (imImg ms)[k]) : parE ((imImg ms).set k v) = 54 := by
  obtain ⟨c1, c2, c3⟩ := bld_ok hb
  obtain ⟨hh, hc⟩ := img_hdr (bld_names hb) c3 c1
  obtain ⟨l16, -⟩ := hdr_ok hh
  have h2 := hdr_count hh h0 h1 (v := v) hk
  have hne := leN_ne (o := 6) (s := 2) (by omega) (by omega) hk hv (by omega)
  have hcY : cntN ((imImg ms).set k v) ≠ cntN (imImg ms) := hne
  by_cases h3 : parE ((imImg ms).set k v) = 0
  · obtain ⟨p1, p2, -⟩ := par_back h3
    have hl := rdMs_len ((imImg ms).set k v) (cntN ((imImg ms).set k v))
    have hag : ∀ i, 16 ≤ i → (imImg (rdMs ((imImg ms).set k v) (cntN ((imImg ms).set k v))))[i]? = (imImg ms)[i]? := fun i hi => by rw [p2]; exact set_far _ (by omega)
    rw [hc] at hcY
    rcases Nat.lt_or_ge (cntN ((imImg ms).set k v)) ms.length with hlt | hge
    · exact (img_differ p1 hb (by rw [hl]; exact hlt) hag).elim
    · exact (img_differ hb p1 (by rw [hl]; omega) (fun i hi => (hag i hi).symm)).elim
  · unfold parE at h3 ⊢
    rw [if_neg (by rw [h2]; exact fun h => h rfl)] at h3 ⊢
    split
    · rfl
    · next h4 =>
      rw [if_neg h4] at h3
      split
      · rfl
      · next h5 =>
        rw [if_neg h5] at h3
        split
        · rfl
        · next h6 =>
          rw [if_neg h6] at h3
          exact absurd rfl h3
end Go.Proofs.YtigbmlgllgcbhaaDoor
