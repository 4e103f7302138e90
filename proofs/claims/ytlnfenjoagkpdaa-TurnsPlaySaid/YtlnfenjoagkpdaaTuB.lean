/- A line is cloned, searched, one of it is taken out; Awake; Sleep. -/
import Derived.Test.YtlnfenjoagkpdaaTuA
import Derived.Deep.RegionLaw
import Derived.Shelf.RegionOpenPlain
namespace Go.Proofs.Ytlnfenjoagkpdaa
open Go.RowKit
set_option linter.unusedVariables false
set_option linter.unusedSimpArgs false

set_option maxHeartbeats 1000000 in
theorem iclone_w (L n cap : Nat) (l : List Nat) (w : World) (h : RoomO w L n cap 1 (lineV l) 3) (hcap : cap ≤ 129) :
    Calls Try.prog 34 #[.slice (some ⟨L, 0, none⟩) n cap] w fun e w' => ∃ v, e = .returned v ∧ w'.ownsRow w.heap.size 3 1 v n (lineV l) ∧ Below w.heap.size w w' := by
  have hn : n ≤ 129 := Nat.le_trans h.2.1 hcap
  have hz := World.ownsRow_lit (base := w.heap.size) (e := 3) (size := 1) w #[] 0 (Nat.le_refl _) (by simp [maxLen]) rfl
  have hb := bl_alloc (Below.refl w.heap.size w) (.cells #[] 3)
  have HZ := Lib.hid hz
  have HB := Lib.hid hb
  have HS := Lib.hid (h.below hb)
  have hnil : ∀ W : World, (binOp .eql 32 (.slice (some ⟨L, 0, none⟩) n cap) (.slice none 0 0)).run Try.prog W = .ok (.bool false) W := fun W => Lib.run_eql_slice_nil W _ 3 (some ⟨L, 0, none⟩) n cap 0 0 Try.underlying32
  clear h hz hb
  go_enter Try.func34, Try.ntmps34
  go_wp2_with (at_builtin; refine app_list w.heap.size rfl (.tmp 5) (.tmp 6) 32 3 (.int .i64 0) 1 8 rfl Try.underlying32 (by kernel_rfl) rfl (by omega) (by omega) _ 0 [] (some ⟨L, 0, none⟩) n cap (lineV l) rfl rfl HZ.out HS.out.1 HS.out.rd (lineV_one l) (by omega) (by simp) ?_; intro v1 w6 hown6 hg6; have HO := Lib.hid hown6; have HG := Lib.hid hg6; clear hown6 hg6)
  go_ret
  have ho := HO.out
  rw [Nat.zero_add, List.nil_append] at ho
  exact ⟨_, rfl, ho, bl_grown HB.out HZ.out HG.out (Nat.le_refl _)⟩
theorem tawake_w (T C L N m : Nat) (t : Tn) (hN : N ≤ 129) (w : World) (h : TnO w T C L N m t) :
    Calls Try.prog 16 #[.pointer (some ⟨T, 0, none⟩)] w fun e w' => ∃ v, e = .returned v ∧ w'.ownsRow w.heap.size 3 1 v m (lineV t.line) ∧ Below w.heap.size w w' := by
  have c2 : w.cell? ⟨T, 2, none⟩ = some (.slice (some ⟨L, 0, none⟩) m N) := h.2.1.cell 2
  have H := Lib.hid h
  clear h
  go_enter Try.func16, Try.ntmps16
  go_wp2_with fail
  refine (iclone_w L m N t.line _ H.out.2.2.2 hN).mono ?_
  rintro e w2 ⟨v, rfl, ho, hb2⟩
  have HO := Lib.hid ho
  have HB2 := Lib.hid hb2
  clear ho hb2
  go_wp2
  go_ret
  exact ⟨_, rfl, HO.out, HB2.out⟩
theorem idx_before {l : List Nat} {c j d : Nat} (hj : j < l.idxOf c) (h : l[j]? = some d) : d ≠ c := by
  obtain ⟨hlt, rfl⟩ := List.getElem?_eq_some_iff.1 h
  have := List.not_of_lt_findIdx (p := (· == c)) (xs := l) (i := j) hj
  simpa using this
theorem idx_at {l : List Nat} {c : Nat} (h : c ∈ l) : l[l.idxOf c]? = some c := by
  have hlt := List.idxOf_lt_length_of_mem h
  rw [List.getElem?_eq_getElem hlt, List.getElem_idxOf hlt]
theorem iindex_w (L n cap : Nat) (l : List Nat) (c : Nat) (hc : c ∈ l) (w : World) (h : RoomO w L n cap 1 (lineV l) 3) (hn : l.length = n) (hcap : cap ≤ 129) :
    Calls Try.prog 37 #[.slice (some ⟨L, 0, none⟩) n cap, .int .i64 c] w fun e w' => e = .returned (.int .i64 (l.idxOf c : Nat)) ∧ w = w' := by
  have hnc : n ≤ cap := h.2.1
  have H := Lib.hid h
  have HN := Lib.hid hn
  have HAT := Lib.hid (idx_at hc)
  have hkn : l.idxOf c < n := by rw [← hn]; exact List.idxOf_lt_length_of_mem hc
  have HBF := Lib.hid (show ∀ j d, j < l.idxOf c → l[j]? = some d → d ≠ c from fun j d hj hd => idx_before hj hd)
  generalize l.idxOf c = k at *
  clear h hn hc
  go_enter Try.func37, Try.ntmps37
  go_wp2_with fail
  go_loopw [8] (fun i wr => ∃ j : Nat, j ≤ k ∧ i = .int .i64 j ∧ w = wr) (fun i _ => n - (intOf i).toNat)
  case atStart => exact ⟨0, Nat.zero_le _, rfl, rfl⟩
  case round =>
    obtain ⟨j, hj, rfl, rfl⟩ := hrel
    have hj0 : (0 : Int) ≤ (j : Int) := Int.natCast_nonneg j
    have hj1 : (j : Int) < (n : Int) := by omega
    obtain ⟨d, hd⟩ : ∃ d, l[j]? = some d := ⟨_, List.getElem?_eq_getElem (by have := HN.out; omega)⟩
    have r0 : w.cell? ⟨L, j, none⟩ = some (.int .i64 (d : Int)) := H.out.cell (lineV_at hd)
    by_cases hjk : j = k
    · have hdc : d = c := by
        have := HAT.out
        rw [← hjk, hd] at this
        exact Option.some.inj this
      rw [hdc] at r0
      have HJK := Lib.hid hjk
      clear hjk hdc hd
      go_wp2
      go_ret
      exact ⟨by rw [← HJK.out]; rfl, rfl⟩
    · have hdc : d ≠ c := HBF.out j d (by omega) hd
      have e1 : ¬ (c : Int) = (d : Int) := by omega
      have e2 : decide ((c : Int) = (d : Int)) = false := decide_eq_false e1
      have e3 : ((c : Int) == (d : Int)) = false := by simpa using e1
      have e4 : ¬ c = d := fun h => hdc h.symm
      have HJK := Lib.hid hjk
      clear hd hjk
      go_wp2_with fail
      go_roundw
      case rel => exact ⟨j + 1, by have := HJK.out; omega, by go_num, trivial⟩
      case measure => simp [intOf]; omega
theorem lineV_take (l : List Nat) (k : Nat) : (lineV l).take k = lineV (l.take k) := by simp [lineV, List.map_take]
theorem lineV_drop (l : List Nat) (k : Nat) : (lineV l).drop k = lineV (l.drop k) := by simp [lineV, List.map_drop]
theorem lineV_append (l m : List Nat) : lineV (l ++ m) = lineV l ++ lineV m := by simp [lineV]

set_option maxRecDepth 100000 in
set_option maxHeartbeats 4000000 in
theorem idelete_w (L m N i j : Nat) (l : List Nat) (hl : l.length = m) (hi : i < m) (hj : j = i + 1) (hN : N ≤ 129) (w : World) (h : RoomO w L m N 1 (lineV l) 3) :
    Calls Try.prog 38 #[.slice (some ⟨L, 0, none⟩) m N, .int .i64 i, .int .i64 j] w fun e w' => e = .returned (.slice (some ⟨L, 0, none⟩) (m - 1) N) ∧ RoomO w' L (m - 1) N 1 (lineV (l.eraseIdx i)) 3 ∧ Upd L w w' := by
  have hmN : m ≤ N := h.2.1
  have hijm : i < j ∧ j ≤ m := by omega
  obtain ⟨i0, hi0, hsz0⟩ : ∃ i0, Try.prog.info? 3 = some i0 ∧ i0.size = 1 := by
    have hinfo : (Try.prog.info? 3).map (·.size) = some 1 := by kernel_rfl
    obtain ⟨i0, h1, h2⟩ := Option.map_eq_some_iff.1 hinfo
    exact ⟨i0, h1, h2⟩
  have hnl : (lineV (l.drop j)).length = m - j := by rw [lineV_length, List.length_drop, hl]
  obtain ⟨A, hA, hsrc⟩ : ∃ A : Addr, (if N = j then some (⟨L, 0, none⟩ : Addr) else some ⟨L, j, none⟩) = some A ∧ (∀ (t : Nat) (u : Value), (lineV (l.drop j))[t]? = some u → w.drew.cell? (A.add t) = some u) := by
    by_cases hq : N = j
    · refine ⟨⟨L, 0, none⟩, by simp [hq], fun t u hu => ?_⟩
      have h0 : (lineV (l.drop j)).length = 0 := by rw [hnl]; omega
      rw [List.length_eq_zero_iff.1 h0] at hu
      simp at hu
    · refine ⟨⟨L, j, none⟩, by simp [hq], fun t u hu => ?_⟩
      rw [add_flat]
      rw [← lineV_drop, List.getElem?_drop] at hu
      exact h.cell hu
  have s3 : ∀ t, t < (lineV (l.drop j)).length → (w.drew.cell? ⟨L, 0 + i * 1 + t, none⟩).isSome = true ∧ w.drew.frozen? ⟨L, 0 + i * 1 + t, none⟩ = false := by
    intro t ht
    rw [hnl] at ht
    rw [Nat.zero_add, Nat.mul_one]
    refine ⟨?_, h.free _⟩
    have : (lineV l)[i + t]? = some ((lineV l)[i + t]'(by rw [lineV_length]; omega)) := List.getElem?_eq_getElem _
    show (w.cell? _).isSome = true
    rw [h.cell this]
    rfl
  have hmid := RoomO.midAt (w := w.drew) (show RoomO w.drew L m N 1 (lineV l) 3 from h) (i := 0 + i * 1) (cs := lineV (l.drop j)) (by rw [hnl]; omega)
  obtain ⟨W1, hW1⟩ : ∃ W1, W1 = w.drew.setCells L (0 + i * 1) (lineV (l.drop j)) := ⟨_, rfl⟩
  rw [← hW1] at hmid
  have HM := Lib.hid hmid.1
  have HU1 := Lib.hid (show Upd L w W1 from ((Upd.refl L w).drewN 1).trans hmid.2)
  have hp0 : m - (i + (m - j)) = 1 := by omega
  have hcl : ∀ ty, (Builtin.clear_ #[32] ty #[.slice (some ⟨L, i + (m - j), none⟩) 1 (N - (i + (m - j)))]).run Try.prog W1 = .ok (.tuple #[]) (W1.setCells L (i + (m - j)) (List.replicate 1 (.int .i64 0))) :=
    fun ty => Lib.run_clear_slice W1 _ 3 ty (.int .i64 0) Try.underlying32 (fun w => by kernel_rfl) rfl rfl L (i + (m - j)) _ _ (by omega) (fun t ht => ((HM.out.thereAt (i := i + (m - j)) (k := 1) (by omega)) t (by omega)).1) (fun t ht => HM.out.free _)
  have hfin := RoomO.midAt HM.out (i := i + (m - j)) (cs := List.replicate 1 (.int .i64 0)) (by simp; omega)
  have HFIN := Lib.hid hfin
  have hic : i ≤ N := by omega
  have hjc : j ≤ N := by omega
  have hW := Lib.hid hW1
  have S3 := Lib.hid s3
  have hi0' : (0 : Int) ≤ (i : Int) := Int.natCast_nonneg i
  have hne : ¬ (i : Int) = (j : Int) := by omega
  have hneb : ((i : Int) == (j : Int)) = false := by simpa using hne
  have mixed : Try.prog.follows Departure.mixedOrders = true := by kernel_rfl
  have HNL := Lib.hid hnl
  have HL := Lib.hid hl
  have HSRC := Lib.hid hsrc
  have HJ := Lib.hid hj
  clear hmid hfin hW1 h s3 hnl hl hsrc hj
  go_enter Try.func38, Try.ntmps38
  go_wp2_with fail
  go_region_law_o (refine step_append_room rfl (.tmp 22) (.tmp 25) 32 rfl 3 i0 1 Try.underlying32 hi0 hsz0 L 0 i N (by simp [Act.eval, Act.put]) A (m - j) (N - j) (lineV (l.drop j)) (by simp [Act.eval, Act.put, hA]) (by rw [HNL.out, Nat.mul_one]) HSRC.out (lineV_one _) (by omega) S3.out ?_; rw [← hW.out])
  go_wp2
  go_ret
  refine ⟨by rw [show m - 1 = i + (m - j) by have := HJ.out; omega]; rfl, ?_, HU1.out.trans HFIN.out.2⟩
  have hc := HFIN.out.1.cut (m - 1) (by omega)
  have e : List.take ((m - 1) * 1) (((lineV l).take (0 + i * 1) ++ (lineV (l.drop j) ++ (lineV l).drop (0 + i * 1 + (lineV (l.drop j)).length))).take (i + (m - j)) ++ (List.replicate 1 (.int .i64 0) ++ ((lineV l).take (0 + i * 1) ++ (lineV (l.drop j) ++ (lineV l).drop (0 + i * 1 + (lineV (l.drop j)).length))).drop (i + (m - j) + (List.replicate 1 (Value.int .i64 0)).length))) = lineV (l.eraseIdx i) := by
    have hlen1 : ((lineV l).take (0 + i * 1)).length = i := by rw [List.length_take, lineV_length, HL.out]; omega
    have hlen2 := HNL.out
    rw [List.take_append_of_le_length (by simp [lineV_length, HL.out]; omega), List.take_take, show min ((m - 1) * 1) (i + (m - j)) = i + (m - j) by omega, ← List.append_assoc, List.take_append_of_le_length (by rw [List.length_append, hlen1, hlen2]; omega), List.take_of_length_le (by rw [List.length_append, hlen1, hlen2]; omega)]
    rw [List.eraseIdx_eq_take_drop_succ, lineV_append, lineV_take, show 0 + i * 1 = i by omega, HJ.out]
  rw [e] at hc
  exact hc
end Go.Proofs.Ytlnfenjoagkpdaa
