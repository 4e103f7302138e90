/- The document's Blue: Put. -/
import Derived.Test.YtcgabjjdffcjbaaRbG
namespace Go.Proofs.Ytcgabjjdffcjbaa
open Go.RowKit
set_option linter.unusedVariables false
set_option linter.unusedSimpArgs false

def rputF (v : Int) (b : Bn) : Bn := if 0 ≤ v then putF v b else if 0 < b.n + v then { b with n := b.n + v } else { b with n := 0 }
theorem take_rput (v : Int) (hv : 0 ≤ v ∧ v ≤ 1073741824) (b : Bn) (h : okBn b) : takeF v b = rputF (-v) b := by
  obtain ⟨bn, bc, bp⟩ := b
  obtain ⟨⟨h1, h2⟩, _⟩ := h
  simp only at h1 h2
  have e1 : cnt bn = bn := by unfold cnt; split <;> (try split) <;> omega
  have e2 : cnt v = v := by unfold cnt; split <;> (try split) <;> omega
  have hl : subC bn v = if v < bn then bn - v else 0 := by unfold subC; rw [e1, e2]
  by_cases h0 : v = 0
  · subst h0
    have e3 : cnt (-0) = 0 := by decide
    have h3 : subC bn 0 = bn := by rw [hl]; split <;> omega
    have h4 : plus (cnt bn) (-0) = bn := by unfold plus; rw [e3, e1]; split <;> omega
    have h5 : rputF (-0) ⟨bn, bc, bp⟩ = putF (-0) ⟨bn, bc, bp⟩ := if_pos (by omega)
    rw [h5]
    unfold takeF putF
    simp only [h3, h4]
  · have h5 : rputF (-v) ⟨bn, bc, bp⟩ = if 0 < bn + -v then { (⟨bn, bc, bp⟩ : Bn) with n := bn + -v } else { (⟨bn, bc, bp⟩ : Bn) with n := 0 } := if_neg (by omega)
    rw [h5]
    unfold takeF
    simp only [hl]
    by_cases h3 : v < bn
    · rw [if_pos h3, if_pos (show 0 < bn + -v by omega)]
      rfl
    · rw [if_neg h3, if_neg (show ¬ 0 < bn + -v by omega)]
/-- The first k of them changed. -/
def updR (f : Bn → Bn) (l : List Bn) : Nat → List Bn
  | 0 => l
  | k + 1 => (updR f l k).modify k f
theorem updR_at (f : Bn → Bn) (l : List Bn) : ∀ (k j : Nat), (updR f l k)[j]? = if j < k then (l[j]?).map f else l[j]?
  | 0, j => by simp [updR]
  | k + 1, j => by
    rw [updR, List.getElem?_modify, updR_at f l k j]
    by_cases h : k = j
    · subst h; simp
    · by_cases h2 : j < k
      · have : j < k + 1 := by omega
        simp [h, h2, this]
      · have : ¬ j < k + 1 := by omega
        simp [h, h2, this]
theorem updR_all (f : Bn → Bn) (l : List Bn) : updR f l l.length = l.map f := by
  apply List.ext_getElem?
  intro j
  rw [updR_at, List.getElem?_map]
  by_cases h : j < l.length
  · rw [if_pos h]
  · rw [if_neg h, List.getElem?_eq_none (by omega)]; rfl
theorem updR_length (f : Bn → Bn) (l : List Bn) : ∀ k, (updR f l k).length = l.length
  | 0 => rfl
  | k + 1 => by rw [updR, List.length_modify, updR_length f l k]
theorem updR_step (f : Bn → Bn) (l : List Bn) {k : Nat} {x : Bn} (h : l[k]? = some x) : updR f l (k + 1) = (updR f l k).set k (f x) := by
  rw [updR, modify_at f (b := x) (by rw [updR_at, if_neg (by omega)]; exact h)]
theorem bn_set0 {l : List Bn} {k : Nat} {x : Bn} (h : l[k]? = some x) (y : Int) : (fl bnC l).set (k * 3) (.int .i64 y) = fl bnC (l.set k { x with n := y }) := by
  have := fl_put (f := bnC) (k := 3) (bnC_len l) h (q := 0) (v := .int .i64 y) (y := { x with n := y }) (by omega) rfl
  simpa using this
theorem RoomO.bn {w : World} {g n cap : Nat} {l : List Bn} {t : TypeId} (h : RoomO w g n cap 3 (fl bnC l) t) {k : Nat} {x : Bn} (hk : l[k]? = some x) : w.cell? ⟨g, k * 3, none⟩ = some (.int .i64 x.n) ∧ w.cell? ⟨g, k * 3 + 1, none⟩ = some (.int .i64 x.c) ∧ w.cell? ⟨g, k * 3 + 2, none⟩ = some (.int .i64 x.p) := by
  have h0 := fl_at (f := bnC) (k := 3) (bnC_len l) hk (q := 0) (by omega)
  have h1 := fl_at (f := bnC) (k := 3) (bnC_len l) hk (q := 1) (by omega)
  have h2 := fl_at (f := bnC) (k := 3) (bnC_len l) hk (q := 2) (by omega)
  exact ⟨h.cell (by simpa [bnC] using h0), h.cell (by simpa [bnC] using h1), h.cell (by simpa [bnC] using h2)⟩

set_option maxRecDepth 100000 in
set_option maxHeartbeats 2000000 in
theorem rput_w (target hold up down v : Int) (A A1 : Option Addr) (nl c n c1 nb lo : Nat) (ls : List (List Bn)) (ks : List Int) (hnl : 1 ≤ nl ∧ nl ≤ 4) (hnb : 1 ≤ nb ∧ nb ≤ 64) (hf : flowsB nl nb ks = true) (w : World) (h : SlB lo w A nl c ls) (hs : SlI .i64 w A1 n c1 ks) (hr : ∀ l ∈ ls, l.length = nb) (hv : -1073741824 ≤ v ∧ v ≤ 1073741824) (hok : ∀ j, j < nl → okBn (binAt ls ks j)) :
    Calls Try.prog 29 #[.agg (rbC A nl c target hold up down), .slice A1 n c1, .int .i64 v] w fun e w' => ∃ A' c', e = .returned (.agg (rbC A' nl c' target hold up down)) ∧ SlB w.heap.size w' A' nl c' (changeN ls ks ((ofN ls ks nl).map (rputF v)) nl) ∧ Below w.heap.size w w' := by
  have HS := Lib.hid h
  have HI := Lib.hid hs
  have HR := Lib.hid hr
  have HF := Lib.hid hf
  have HOK := Lib.hid hok
  obtain ⟨W, hW⟩ : ∃ W, W = (w.alloc (.cells (rbC A nl c target hold up down) 65)).alloc (.cells #[.slice none 0 0, .int .i64 0, .int .i64 0, .int .i64 0, .int .i64 0] 65) := ⟨_, rfl⟩
  have HB := Lib.hid (show Below w.heap.size w W by rw [hW]; exact bl_alloc (bl_alloc (Below.refl w.heap.size w) _) _)
  have HO := Lib.hid (show Obj1 W w.heap.size (rbC A nl c target hold up down) 65 by rw [hW]; exact (Obj1.new w _ _).alloc _)
  have HZ := Lib.hid (show Obj1 W (w.heap.size + 1) #[.slice none 0 0, .int .i64 0, .int .i64 0, .int .i64 0, .int .i64 0] 65 by
    rw [hW]
    have := Obj1.new (w.alloc (.cells (rbC A nl c target hold up down) 65)) #[.slice none 0 0, .int .i64 0, .int .i64 0, .int .i64 0, .int .i64 0] 65
    rwa [World.size_alloc] at this)
  have HW := Lib.hid hW
  clear hW h hs hr hf hok
  go_enter Try.func29, Try.ntmps29
  go_upto_region 1 with (fail)
  rw [← HW.out]
  clear HW
  go_wp2_with (refine load_obj rfl 65 (.tmp 3) rfl w.heap.size 65 (rbC A nl c target hold up down) _ rfl HO.out Try.underlying65 rfl rfl ?_)
  refine (rflows_w target hold up down A A1 nl c n c1 nb lo ls ks hnl hnb _ (HS.out.below HB.out) (HI.out.below HB.out) HR.out).mono ?_
  rw [HF.out]
  rintro e w2 ⟨rfl, hb2⟩
  have HB2 := Lib.hid (bl_next HB.out hb2)
  have HO2 := Lib.hid (HO.out.below hb2)
  have HZ2 := Lib.hid (HZ.out.below hb2)
  clear hb2 HB HO HZ
  go_wp2_with (refine load_obj rfl 65 (.tmp 3) rfl w.heap.size 65 (rbC A nl c target hold up down) _ rfl HO2.out Try.underlying65 rfl rfl ?_)
  refine (rof_w target hold up down A A1 nl c n c1 nb lo ls ks hnl hnb HF.out _ (HS.out.below HB2.out) (HI.out.below HB2.out) HR.out).mono ?_
  rintro e w3 ⟨v3, rfl, hown, hb3⟩
  obtain ⟨g, cap, rfl, hg, hcap, hroom⟩ : ∃ g cap, v3 = .slice (some ⟨g, 0, none⟩) nl cap ∧ w2.heap.size ≤ g ∧ cap ≤ 9223372036854775807 ∧ RoomO w3 g nl cap 3 (fl bnC (ofN ls ks nl)) 87 := by
    rcases own_room hown with ⟨h0, _, _⟩ | h0
    · omega
    · exact h0
  have HG := Lib.hid (show w.heap.size + 2 ≤ g by have := HZ2.out.lt; omega)
  have HC := Lib.hid hcap
  have HRM := Lib.hid hroom
  have HB3 := Lib.hid (bl_next HB2.out hb3)
  have HO3 := Lib.hid (HO2.out.below hb3)
  have HZ3 := Lib.hid (HZ2.out.below hb3)
  clear hown hg hcap hroom hb3 HB2 HO2 HZ2
  go_wp2_with fail
  go_loopw [19] (fun i wr => ∃ (k : Nat), k ≤ nl ∧ i = .int .i64 k ∧ RoomO wr g nl cap 3 (fl bnC (updR (rputF v) (ofN ls ks nl) k)) 87 ∧ Below w.heap.size w wr ∧ Obj1 wr w.heap.size (rbC A nl c target hold up down) 65 ∧ Obj1 wr (w.heap.size + 1) #[.slice none 0 0, .int .i64 0, .int .i64 0, .int .i64 0, .int .i64 0] 65) (fun i _ => nl - (intOf i).toNat)
  case atStart => exact ⟨0, Nat.zero_le _, rfl, HRM.out, HB3.out, HO3.out, HZ3.out⟩
  case round =>
    obtain ⟨k, hk, rfl, hRM, hB, hO, hZ⟩ := hrel
    clear HRM HB3 HO3 HZ3
    have HRM := Lib.hid hRM
    have HB := Lib.hid hB
    have HO := Lib.hid hO
    have HZ := Lib.hid hZ
    clear hRM hB hO hZ
    by_cases hlt : k < nl
    · have hk0 : (0 : Int) ≤ (k : Int) := Int.natCast_nonneg k
      have hk1 : (k : Int) < (nl : Int) := by omega
      have hx := ofN_at ls ks nl k hlt
      have hx2 : (updR (rputF v) (ofN ls ks nl) k)[k]? = some (binAt ls ks k) := by rw [updR_at, if_neg (by omega)]; exact hx
      have hokx := HOK.out k hlt
      obtain ⟨x, hxx⟩ : ∃ x, x = binAt ls ks k := ⟨_, rfl⟩
      rw [← hxx] at hx hx2 hokx
      have HST := Lib.hid (updR_step (rputF v) (ofN ls ks nl) hx)
      have c0 := (HRM.out.bn hx2).1
      have f0 : wr.frozen? ⟨g, k * 3, none⟩ = false := HRM.out.free _
      have hxn := hokx.1
      have HPUT := Lib.hid (fun (y : Int) (hy : rputF v x = { x with n := y }) => show fl bnC (updR (rputF v) (ofN ls ks nl) (k + 1)) = (fl bnC (updR (rputF v) (ofN ls ks nl) k)).set (k * 3) (.int .i64 y) by rw [HST.out, hy, bn_set0 hx2])
      have hj : k * 3 < nl * 3 := by omega
      have hgne : w.heap.size ≠ g := by have := HG.out; omega
      have hgne1 : w.heap.size + 1 ≠ g := by have := HG.out; omega
      clear hx hx2 hokx hxx
      by_cases hv0 : 0 ≤ v
      · have HY := Lib.hid (HPUT.out (plus (cnt x.n) v) (by unfold rputF; rw [if_pos hv0]; rfl))
        go_wp2_with fail
        refine (rAdd_w x.n v _).mono ?_
        rintro e w' ⟨rfl, rfl⟩
        go_wp2_with fail
        go_roundw
        case rel => exact ⟨k + 1, by omega, by go_num, by rw [HY.out]; exact HRM.out.set _ hj _, bl_upd HB.out ((Upd.refl g wr).set _ _) (by have := HG.out; omega), HO.out.of_grown ((Upd.refl g wr).set _ _) (by simpa using hgne), HZ.out.of_grown ((Upd.refl g wr).set _ _) (by simpa using hgne1)⟩
        case measure => simp [intOf]; omega
      · have hw1 : IntKind.i64.wrap (x.n + v) = x.n + v := IntWalk.i64_in _ (by omega)
        by_cases hp : 0 < x.n + v
        · have HY := Lib.hid (HPUT.out (x.n + v) (by unfold rputF; rw [if_neg hv0, if_pos hp]))
          go_wp2_with fail
          go_roundw
          case rel => exact ⟨k + 1, by omega, by go_num, by rw [HY.out]; exact HRM.out.set _ hj _, bl_upd HB.out ((Upd.refl g wr).set _ _) (by have := HG.out; omega), HO.out.of_grown ((Upd.refl g wr).set _ _) (by simpa using hgne), HZ.out.of_grown ((Upd.refl g wr).set _ _) (by simpa using hgne1)⟩
          case measure => simp [intOf]; omega
        · have HY := Lib.hid (HPUT.out 0 (by unfold rputF; rw [if_neg hv0, if_neg hp]))
          go_wp2_with fail
          go_roundw
          case rel => exact ⟨k + 1, by omega, by go_num, by rw [HY.out]; exact HRM.out.set _ hj _, bl_upd HB.out ((Upd.refl g wr).set _ _) (by have := HG.out; omega), HO.out.of_grown ((Upd.refl g wr).set _ _) (by simpa using hgne), HZ.out.of_grown ((Upd.refl g wr).set _ _) (by simpa using hgne1)⟩
          case measure => simp [intOf]; omega
    · obtain rfl : k = nl := by omega
      have hall : updR (rputF v) (ofN ls ks k) k = (ofN ls ks k).map (rputF v) := by
        have := updR_all (rputF v) (ofN ls ks k)
        rwa [ofN_length] at this
      have HT := Lib.hid (show SlR bnC wr (some ⟨g, 0, none⟩) k cap ((ofN ls ks k).map (rputF v)) from ⟨by rw [List.length_map, ofN_length], HRM.out.2.1, HC.out, (fun _ h => by cases h; rfl), by rw [← hall]; exact HRM.out.rd⟩)
      clear hall
      go_wp2_with (refine load_obj rfl 65 (.tmp 3) rfl w.heap.size 65 (rbC A k c target hold up down) _ rfl HO.out Try.underlying65 rfl rfl ?_)
      refine (rchange_w target hold up down A A1 (some ⟨g, 0, none⟩) k c n c1 cap nb lo ls ks _ hnl hnb HF.out _ (HS.out.below HB.out) (HI.out.below HB.out) HT.out HR.out).mono ?_
      rintro e w5 ⟨A9, c9, rfl, hs9, hb9⟩
      have HS9 := Lib.hid (hs9.mono (show w.heap.size + 2 ≤ _ from HZ.out.lt))
      have HB9 := Lib.hid (bl_next HB.out hb9)
      have HZ9 := Lib.hid (HZ.out.below hb9)
      clear hs9 hb9 HZ HO
      go_wp2_with (refine store_obj rfl 65 (.tmp 6) (.tmp 62) rfl (w.heap.size + 1) 65 _ (rbC A9 k c9 target hold up down) rfl rfl HZ9.out rfl rfl (by simp [rbC, Value.oneCell']) ?_; intro w6 ho6 hu6; have HZ6 := Lib.hid ho6; have HB6 := Lib.hid (bl_upd HB9.out hu6 (by omega)); have HS6 := Lib.hid (HS9.out.upd hu6 (by omega)); clear ho6 hu6)
      refine bodyPost_ret (results_cell_row rfl _ _ (w.heap.size + 1) 65 (rbC A9 k c9 target hold up down) (0, 0) _ rfl HZ6.out Try.underlying65 rfl rfl) rfl ?_
      exact ⟨A9, c9, rfl, HS6.out.mono (by omega), HB6.out⟩
end Go.Proofs.Ytcgabjjdffcjbaa
