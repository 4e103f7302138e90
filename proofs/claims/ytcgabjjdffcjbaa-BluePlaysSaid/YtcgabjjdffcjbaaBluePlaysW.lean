/- The walk of BluePlays: it answers true. -/
import Derived.Test.YtcgabjjdffcjbaaBlueAloneW
import Derived.Test.YtcgabjjdffcjbaaBlueI
import Derived.Test.YtcgabjjdffcjbaaBpB
import Derived.Deep.Cut
import Derived.Deep.CutRange
import Derived.Deep.CutBlock
import Derived.OwnWalk
namespace Go.Proofs.Ytcgabjjdffcjbaa
open Go.RowKit
set_option linter.unusedVariables false
set_option linter.unusedSimpArgs false

/-- The program's Put, Take or Touch that changes nothing. -/
theorem BpSt.quiet {w wr w1 : World} {D R nl nb : Nat} {hold target up down : Int} {A : Option Addr} {c : Nat} {ls : List (List Bn)} (h : BpSt w wr D R nl nb hold target up down A c ls) (hD : Obj1 w1 D (binsC ls.flatten) 82) (hu : Upd D wr w1) : BpSt w w1 D R nl nb hold target up down A c ls :=
  ⟨h.1, h.2.1, hD, h.2.2.2.1.of_grown hu (by simp), h.2.2.2.2.1.of_grown hu (by have := h.2.2.2.2.2.2.2.2; simp; omega), fun w' hw => h.2.2.2.2.2.1 w' ((UpdS.of_upd hu (Or.inl rfl)).trans hw), bl_upd h.2.2.2.2.2.2.1 hu h.2.2.2.2.2.2.2.1, h.2.2.2.2.2.2.2⟩
theorem BpSt.okf {w wr : World} {D R nl nb : Nat} {hold target up down : Int} {A : Option Addr} {c : Nat} {ls : List (List Bn)} (h : BpSt w wr D R nl nb hold target up down A c ls) : ∀ b ∈ ls.flatten, okBn b := h.1.2.2
theorem BpSt.flen {w wr : World} {D R nl nb : Nat} {hold target up down : Int} {A : Option Addr} {c : Nat} {ls : List (List Bn)} (h : BpSt w wr D R nl nb hold target up down A c ls) : ls.flatten.length = nl * nb := by rw [flat_len h.1.2.1, h.1.1]
theorem BpSt.ref {w wr : World} {D R nl nb : Nat} {hold target up down : Int} {A : Option Addr} {c : Nat} {ls : List (List Bn)} (h : BpSt w wr D R nl nb hold target up down A c ls) : Obj1 wr R (rbC A nl c target hold up down) 65 := h.2.2.2.2.1
theorem BpSt.bel {w wr : World} {D R nl nb : Nat} {hold target up down : Int} {A : Option Addr} {c : Nat} {ls : List (List Bn)} (h : BpSt w wr D R nl nb hold target up down A c ls) : Below w.heap.size w wr := h.2.2.2.2.2.2.1
theorem BpSt.bl {w wr : World} {D R nl nb : Nat} {hold target up down : Int} {A : Option Addr} {c : Nat} {ls : List (List Bn)} (h : BpSt w wr D R nl nb hold target up down A c ls) : Obj1 wr (D + 1) (blueC D (nl * nb) nl nb target hold up down) 77 := h.2.2.2.1
theorem BpSt.bd {w wr : World} {D R nl nb : Nat} {hold target up down : Int} {A : Option Addr} {c : Nat} {ls : List (List Bn)} (h : BpSt w wr D R nl nb hold target up down A c ls) : Obj1 wr D (binsC ls.flatten) 82 := h.2.2.1
/-- What is stored again is as it was. -/
theorem BpSt.again {w wr w2 : World} {D R nl nb : Nat} {hold target up down : Int} {A : Option Addr} {c : Nat} {ls : List (List Bn)} (h : BpSt w wr D R nl nb hold target up down A c ls)
    (hR : Obj1 w2 R (rbC A nl c target hold up down) 65) (hu2 : Upd R wr w2) : BpSt w w2 D R nl nb hold target up down A c ls := by
  obtain ⟨h1, h2, h3, h4, h5, h6, h7, h8, h9⟩ := h
  exact ⟨h1, h2, h3.of_grown hu2 (by simp; omega), h4.of_grown hu2 (by simp; omega), hR, fun w' hw => h6 w' ((UpdS.of_upd hu2 (Or.inr (Or.inr rfl))).trans hw), bl_upd h7 hu2 (by omega), h8, h9⟩
theorem ofN_mem {ls : List (List Bn)} {ks : List Int} {b : Bn} : ∀ {n : Nat}, b ∈ ofN ls ks n → ∃ j, j < n ∧ b = binAt ls ks j
  | 0, h => by simp [ofN] at h
  | n + 1, h => by
    rw [ofN, List.mem_append] at h
    rcases h with h | h
    · obtain ⟨j, hj, e⟩ := ofN_mem h
      exact ⟨j, by omega, e⟩
    · simp at h
      exact ⟨n, by omega, h⟩
theorem RowsN.binp {nl nb : Nat} {ls : List (List Bn)} (h : RowsN nl nb ls) (ks : List Int) (j : Nat) : (binAt ls ks j).p ≤ 65536 := by
  unfold binAt
  cases hl : ls[j]? with
  | none => simp
  | some l =>
    simp only [Option.getD_some]
    cases hb : l[(nth ks j).toNat]? with
    | none => simp
    | some b =>
      simp only [Option.getD_some]
      exact (h.2.2 b (List.mem_flatten.2 ⟨l, List.mem_of_getElem? hl, List.mem_of_getElem? hb⟩)).2.2.2
theorem may_range {v : Int} (h : mayV v = true) : 0 ≤ v ∧ v ≤ 1073741824 := by
  simp [mayV] at h; exact h
theorem RowsN.put {nl nb : Nat} {ls : List (List Bn)} (h : RowsN nl nb ls) {v : Int} (hv : mayV v = true) {ks : List Int} (hk : flowsB nl nb ks = true) : RowsN nl nb (changeN ls ks ((ofN ls ks nl).map (rputF v)) nl) ∧ updN (putF v) nb ks nl ls.flatten = (changeN ls ks ((ofN ls ks nl).map (rputF v)) nl).flatten := by
  have e : rputF v = putF v := by funext b; simp [rputF, (may_range hv).1]
  rw [e]
  exact h.upd (ok_put v) hk
theorem RowsN.take {nl nb : Nat} {ls : List (List Bn)} (h : RowsN nl nb ls) {v : Int} (hv : mayV v = true) {ks : List Int} (hk : flowsB nl nb ks = true) : RowsN nl nb (changeN ls ks ((ofN ls ks nl).map (rputF (-v))) nl) ∧ updN (takeF v) nb ks nl ls.flatten = (changeN ls ks ((ofN ls ks nl).map (rputF (-v))) nl).flatten := by
  have e : (ofN ls ks nl).map (rputF (-v)) = (ofN ls ks nl).map (takeF v) := List.map_congr_left (fun b hb => by
    obtain ⟨j, hj, e⟩ := ofN_mem hb
    exact (take_rput v (may_range hv) b (by rw [e]; exact h.bin hk j hj)).symm)
  rw [e]
  exact h.upd (ok_take v) hk
theorem RowsN.touch {nl nb : Nat} {ls : List (List Bn)} (h : RowsN nl nb ls) {now t hold u d : Int} (ht : TunedP t u d) {ks : List Int} (hk : flowsB nl nb ks = true) : RowsN nl nb (changeN ls ks ((ofN ls ks nl).map (touchF now t hold u d)) nl) ∧ updN (touchF now t hold u d) nb ks nl ls.flatten = (changeN ls ks ((ofN ls ks nl).map (touchF now t hold u d)) nl).flatten :=
  h.upd (ok_touch now t hold u d ht.2.2.1 ht.2.2.2.2.1) hk
/-- The first state. -/
theorem BpSt.first {w w2 w3 w4 : World} {D R nl nb : Nat} {hold target up down : Int} {A : Option Addr} {c : Nat} (ht : TunedP target up down)
    (hB : Obj1 w2 (D + 1) (blueC D (nl * nb) nl nb target hold up down) 77) (hD : Obj1 w2 D (binsC (List.replicate (nl * nb) ⟨0, 0, 0⟩)) 82) (hw : Below w.heap.size w w2) (hwD : w.heap.size ≤ D)
    (hs : SlB w2.heap.size w3 A nl c (List.replicate nl (List.replicate nb (⟨0, 0, 0⟩ : Bn)))) (hb : Below w2.heap.size w2 w3) (hR : R = w3.heap.size) (hb4 : Below w3.heap.size w3 w4) (ho : Obj1 w4 R (rbC A nl c target hold up down) 65) : BpSt w w4 D R nl nb hold target up down A c (List.replicate nl (List.replicate nb ⟨0, 0, 0⟩)) := by
  have h2 : D + 1 < w2.heap.size := hB.lt
  have h3 := hb.size
  refine ⟨RowsN.new nl nb, ht, by rw [flat_new]; exact (hD.below hb).below hb4, (hB.below hb).below hb4, ho, fun w' hw' => ?_, bl_next (bl_next hw hb) hb4, hwD, by omega⟩
  exact (hs.updS (S := Sx D R) ((UpdS.of_below hb4).trans hw') (fun k hk hlt hS => by rcases hS with e | e | e <;> omega)).mono (by omega)

set_option maxRecDepth 100000 in
set_option maxHeartbeats 16000000 in
theorem BluePlays_x (levels bins up down target hold : Int) (A : Option Addr) (n c : Nat) (rows : List (List Value)) (w : World)
    (r0 : -9223372036854775808 ≤ levels ∧ levels ≤ 9223372036854775807) (r1 : -9223372036854775808 ≤ bins ∧ bins ≤ 9223372036854775807) (hs : SlQ [.i .u8, .sl .i64, .i .i64] w A n c rows) :
    Calls Try.prog 10 #[.agg (setC levels bins up down target hold), .slice A n c] w fun e w' => e = .returned (.bool true) ∧ Below w.heap.size w w' := by
  have hn : n ≤ 9223372036854775807 := Nat.le_trans hs.2.1 hs.2.2.1
  have HS := Lib.hid hs
  clear hs
  unfold setC
  have hE := Lib.hid (Obj1.new w #[.int .i64 levels, .int .i64 bins, .int .i64 up, .int .i64 down, .int .i64 target, .int .i64 hold] 46)
  have hBE := Lib.hid (bl_alloc (Below.refl w.heap.size w) (.cells #[.int .i64 levels, .int .i64 bins, .int .i64 up, .int .i64 down, .int .i64 target, .int .i64 hold] 46))
  go_enter Try.func10, Try.ntmps10
  go_wp2_with fail
  refine (awake20_w _).mono ?_
  rintro e w1 ⟨rfl, hb1⟩
  have HE1 := Lib.hid (hE.out.below hb1)
  have HW1 := Lib.hid (bl_next hBE.out hb1)
  clear hb1
  go_wp2_with fail
  refine (few_w A n c rows _ (HS.out.below HW1.out)).mono ?_
  rintro e w' ⟨⟨fw, rfl, hfw⟩, rfl⟩
  clear hfw
  cases fw
  · go_wp2_with fail
    refine (awake20_w _).mono ?_
    rintro e w2 ⟨rfl, hb2⟩
    have HW2 := Lib.hid (bl_next HW1.out hb2)
    clear hb2
    go_wp2
    go_ret
    exact ⟨rfl, HW2.out⟩
  · have e0 : w1.cell? ⟨w.heap.size, 0, none⟩ = some (.int .i64 levels) := HE1.out.cell 0
    have e1 : w1.cell? ⟨w.heap.size, 1, none⟩ = some (.int .i64 bins) := HE1.out.cell 1
    have e2 : w1.cell? ⟨w.heap.size, 2, none⟩ = some (.int .i64 up) := HE1.out.cell 2
    have e3 : w1.cell? ⟨w.heap.size, 3, none⟩ = some (.int .i64 down) := HE1.out.cell 3
    have e4 : w1.cell? ⟨w.heap.size, 4, none⟩ = some (.int .i64 target) := HE1.out.cell 4
    have e5 : w1.cell? ⟨w.heap.size, 5, none⟩ = some (.int .i64 hold) := HE1.out.cell 5
    by_cases hok : setOk levels bins up down target hold
    · have HSOK := Lib.hid hok
      obtain ⟨o1, o2, o3, o4, o5, o6, o7, o8, o9, o10, o11, o12⟩ := hok
      obtain ⟨nl, rfl⟩ := Int.eq_ofNat_of_zero_le (show 0 ≤ levels by omega)
      obtain ⟨nb, rfl⟩ := Int.eq_ofNat_of_zero_le (show 0 ≤ bins by omega)
      have hnl : 1 ≤ nl ∧ nl ≤ 4 := by omega
      have hnb : 1 ≤ nb ∧ nb ≤ 64 := by omega
      go_wp2_with fail
      refine (blueNew_w nl nb target hold up down _ (by omega) (by omega) (by omega) (by omega) (by omega) (by omega)).mono ?_
      rintro e w2 ⟨rfl, ho1, ho2, hb2⟩
      obtain ⟨D, hD⟩ : ∃ D, D = w1.heap.size := ⟨_, rfl⟩
      rw [← hD] at ho1 ho2
      rw [← hD]
      have hwD : w.heap.size ≤ D := by have := HW1.out.size; omega
      have HO1 := Lib.hid ho1
      have HO2 := Lib.hid ho2
      have HW2 := Lib.hid (bl_next HW1.out hb2)
      have HE2 := Lib.hid (HE1.out.below hb2)
      clear ho1 ho2 hb2 hD e0 e1 e2 e3 e4 e5
      have e0 : w2.cell? ⟨w.heap.size, 0, none⟩ = some (.int .i64 nl) := HE2.out.cell 0
      have e1 : w2.cell? ⟨w.heap.size, 1, none⟩ = some (.int .i64 nb) := HE2.out.cell 1
      have e2 : w2.cell? ⟨w.heap.size, 2, none⟩ = some (.int .i64 up) := HE2.out.cell 2
      have e3 : w2.cell? ⟨w.heap.size, 3, none⟩ = some (.int .i64 down) := HE2.out.cell 3
      have e4 : w2.cell? ⟨w.heap.size, 4, none⟩ = some (.int .i64 target) := HE2.out.cell 4
      have e5 : w2.cell? ⟨w.heap.size, 5, none⟩ = some (.int .i64 hold) := HE2.out.cell 5
      have p1 : decide ((nl : Int) < 1) = false := decide_eq_false (by omega)
      have p1n : ¬ (nl : Int) < 1 := by omega
      have p1m : 0 < nl := by omega
      have p1k : ¬ nl = 0 := by omega
      have p2 : decide (4 < (nl : Int)) = false := decide_eq_false (by omega)
      have p2n : ¬ 4 < nl := by omega
      have p3 : decide ((nb : Int) < 1) = false := decide_eq_false (by omega)
      have p3n : ¬ (nb : Int) < 1 := by omega
      have p3m : 0 < nb := by omega
      have p3k : ¬ nb = 0 := by omega
      have p4 : decide (64 < (nb : Int)) = false := decide_eq_false (by omega)
      have p4n : ¬ 64 < nb := by omega
      have p5 : decide (hold < 0) = false := decide_eq_false (by omega)
      have p5n : ¬ hold < 0 := by omega
      have p6 : decide (4611686018427387903 < hold) = false := decide_eq_false (by omega)
      have p6n : ¬ 4611686018427387903 < hold := by omega
      have HTU := Lib.hid (show decide (0 ≤ target ∧ target ≤ 1073741824 ∧ 0 ≤ up ∧ up ≤ 65536 ∧ 0 ≤ down ∧ down ≤ 65536) = true from decide_eq_true (by omega))
      go_wp2_with fail
      refine (lawTuned_w target up down _).mono ?_
      rintro e w' ⟨rfl, rfl⟩
      rw [HTU.out]
      go_wp2_with fail
      refine (rnew_w target hold up down nl nb hnl hnb _).mono ?_
      rintro e w3 ⟨A0, c0, rfl, hs0, hb3⟩
      have HS0 := Lib.hid hs0
      have HB3 := Lib.hid hb3
      clear hs0 hb3
      go_wp2_with (refine store_obj rfl 65 (.tmp 7) (.tmp 105) rfl w3.heap.size 65 _ (rbC A0 nl c0 target hold up down) rfl rfl (Obj1.new _ _ _) rfl rfl (by simp [rbC, Value.oneCell']) ?_; intro w4 hob hup; have hbb := bl_upd (bl_alloc (Below.refl w3.heap.size w3) _) hup (Nat.le_refl _); have HB4 := Lib.hid hbb; have HX4 := Lib.hid hob; clear hob hup hbb)
      obtain ⟨R, hR⟩ : ∃ R, R = w3.heap.size := ⟨_, rfl⟩
      rw [← hR] at HX4
      have HST := Lib.hid (BpSt.first (w := w) (by unfold TunedP; omega) HO1.out HO2.out HW2.out hwD HS0.out HB3.out hR HB4.out HX4.out)
      (try rw [← hR])
      clear hR HO1 HO2 HW2 HE2 HS0 HB3 HB4 HX4 HW1 HE1 hE hBE e0 e1 e2 e3 e4 e5 p1 p1n p1k p2 p2n p3 p3n p3k p4 p4n p5 p5n p6 p6n HTU p1m p3m
      go_wp2_with fail
      go_loopw [108] (fun i wr => ∃ (k : Nat) (t u dn : Int) (A1 : Option Addr) (c1 : Nat) (ls : List (List Bn)), k ≤ n ∧ i = .int .i64 k ∧ BpSt w wr D R nl nb hold t u dn A1 c1 ls) (fun i _ => n - (intOf i).toNat)
      case atStart => exact ⟨0, _, _, _, _, _, _, Nat.zero_le _, rfl, HST.out⟩
      case round =>
        obtain ⟨k, t, u, dn, A1, c1, ls, hk, rfl, hst⟩ := hrel
        clear HST
        have HST := Lib.hid hst
        clear hst
        by_cases hlt : k < n
        · obtain ⟨sb, so, kd, a, m, d, ks, nn, rfl, c0', c1', c2', hsa0, wkd, wnn⟩ := HS.out.act k hlt
          have c0 := bl_keeps HST.out.bel c0'
          have c1 := bl_keeps HST.out.bel c1'
          have c2 := bl_keeps HST.out.bel c2'
          have hkd := u8_range wkd
          have hnn := i64_range wnn
          have hk0 : (0 : Int) ≤ (k : Int) := Int.natCast_nonneg k
          have hk1 : (k : Int) < (n : Int) := by omega
          have hneA : 0 < m → ∀ ad, a = some ad → ad.block ≠ D := fun h ad e => by
            obtain ⟨ad', e', hc, _⟩ := hsa0.at 0 h
            rw [e] at e'
            cases e'
            have hc := cell_lt hc
            have hbl : (ad.add 0).block = ad.block := by unfold Addr.add; split <;> rfl
            rw [hbl] at hc
            omega
          have HNEA := Lib.hid hneA
          have hltA : 0 < m → ∀ ad, a = some ad → ad.block < w.heap.size := fun h ad e => by
            obtain ⟨ad', e', hc, _⟩ := hsa0.at 0 h
            rw [e] at e'
            cases e'
            have hc := cell_lt hc
            have hbl : (ad.add 0).block = ad.block := by unfold Addr.add; split <;> rfl
            rwa [hbl] at hc
          have HLTA := Lib.hid hltA
          have HSA0 := Lib.hid hsa0
          obtain ⟨WA, hWA⟩ : ∃ WA, WA = wr.alloc (.cells #[.int .u8 kd, .slice a m d, .int .i64 nn] 55) := ⟨_, rfl⟩
          obtain ⟨F, hF⟩ : ∃ F, F = wr.heap.size := ⟨_, rfl⟩
          have HFA := Lib.hid (Obj1.new wr #[.int .u8 kd, .slice a m d, .int .i64 nn] 55)
          have HSTA := Lib.hid (HST.out.below (bl_alloc (Below.refl wr.heap.size wr) (.cells #[.int .u8 kd, .slice a m d, .int .i64 nn] 55)))
          have hRF : R < F := by have := HST.out.2.2.2.2.1.lt; omega
          have hDR : D + 1 < R := HST.out.2.2.2.2.2.2.2.2
          clear wkd wnn hsa0 c0' c1' c2' hneA hltA HST
          go_upto_region 11 with (refine load_cells rfl 55 (.tmp 55) rfl ⟨sb, so + k * 3, none⟩ [.int .u8 kd, .slice a m d, .int .i64 nn] _ rfl (three_cells c0 c1 c2) Try.underlying55 rfl (by kernel_rfl) ?_)
          rw [← hWA, ← hF] at HFA
          rw [← hWA] at HSTA
          rw [← hWA, ← hF]
          clear hWA hF c0 c1 c2
          have f0 : WA.cell? ⟨F, 0, none⟩ = some (.int .u8 kd) := HFA.out.cell 0
          have f1 : WA.cell? ⟨F, 1, none⟩ = some (.slice a m d) := HFA.out.cell 1
          have f2 : WA.cell? ⟨F, 2, none⟩ = some (.int .i64 nn) := HFA.out.cell 2
          go_wp2_with (refine load_obj rfl 65 (.tmp 7) rfl R 65 (rbC A1 nl c1 t hold u dn) _ rfl HSTA.out.ref Try.underlying65 rfl rfl ?_)
          refine (rflows_w t hold u dn A1 a nl c1 m d nb (D + 2) ls ks hnl hnb _ HSTA.out.slb (HSA0.out.below HSTA.out.bel) HSTA.out.1.2.1).mono ?_
          rintro e WB ⟨rfl, hb⟩
          have HSTB := Lib.hid (HSTA.out.below hb)
          have HFB := Lib.hid (HFA.out.below hb)
          clear f0 f1 f2 hb HSTA HFA
          have f0 : WB.cell? ⟨F, 0, none⟩ = some (.int .u8 kd) := HFB.out.cell 0
          have f1 : WB.cell? ⟨F, 1, none⟩ = some (.slice a m d) := HFB.out.cell 1
          have f2 : WB.cell? ⟨F, 2, none⟩ = some (.int .i64 nn) := HFB.out.cell 2
          go_upto_region 12 with (fail)
          go_cut [12] from 119 to 126 (fun s12 wx => s12 = .bool (mayV nn) ∧ WB = wx)
          case first =>
            by_cases h0 : 0 ≤ nn
            · have q0 : decide (0 ≤ nn) = true := decide_eq_true h0
              by_cases h1 : nn ≤ 1073741824
              · have q1 : decide (nn ≤ 1073741824) = true := decide_eq_true h1
                have hm : mayV nn = true := by simp [mayV, h0, h1]
                go_wp2_with fail
                go_meet
                case rel => exact ⟨by rw [hm], rfl⟩
              · have q1 : decide (nn ≤ 1073741824) = false := decide_eq_false h1
                have hm : mayV nn = false := by simp [mayV, h1]
                go_wp2_with fail
                go_meet
                case rel => exact ⟨by rw [hm], rfl⟩
            · have q0 : decide (0 ≤ nn) = false := decide_eq_false h0
              have hm : mayV nn = false := by simp [mayV, h0]
              go_wp2_with fail
              go_meet
              case rel => exact ⟨by rw [hm], rfl⟩
          case rest =>
            obtain ⟨rfl, rfl⟩ := hcut
            refine (‹∀ (a : Act) (w : World), Code.wp _ _ _ a w → _›) _ _ ?_
            refine wp_seq_k (fun Kc hKc => ?_)
            go_cut [10, 11, 12, 13, 14, 108] from 108 to 242 (fun s10 s11 s12 s13 s14 s108 wx => s108 = .int .i64 k ∧ ∃ (b : Bool) (t' u' dn' : Int) (A' : Option Addr) (c' : Nat) (ls' : List (List Bn)), s10 = .bool b ∧ s11 = .bool b ∧ BpSt w wx D R nl nb hold t' u' dn' A' c' ls' ∧ Obj1 wx F #[.int .u8 kd, .slice a m d, .int .i64 nn] 55)
            case first =>
              have HT0 := Lib.hid HSTB.out.2.1
              have hFD : F ≠ D := by omega
              have hFR : F ≠ R := by omega
              have hRD : R ≠ D := by omega
              have hk7 : kd % 7 = 0 ∨ kd % 7 = 1 ∨ kd % 7 = 2 ∨ kd % 7 = 3 ∨ kd % 7 = 4 ∨ kd % 7 = 5 ∨ kd % 7 = 6 := by omega
              rcases hk7 with h7 | h7 | h7 | h7 | h7 | h7 | h7
              · as_aux_lemma =>
                  cases hf : flowsB nl nb ks with
                  | false =>
                    cases hm : mayV nn with
                    | false =>
                      have HF := Lib.hid hf
                      have HM := Lib.hid hm
                      clear hf hm
                      go_wp2_with fail
                      refine (bluePut_w (D + 1) D (nl * nb) nl nb t hold u dn nn a m d ks ls.flatten _ HSTB.out.bl HSTB.out.bd (HSA0.out.below HSTB.out.bel) HSTB.out.flen rfl (by omega) (by omega) (by omega) HNEA.out hnn).mono ?_
                      rw [HM.out, HF.out]
                      rintro e w5 ⟨rfl, hd5, hu5⟩
                      have hd5' : Obj1 w5 D (binsC ls.flatten) 82 := hd5
                      have HST5 := Lib.hid (HSTB.out.quiet hd5' hu5)
                      have HF5 := Lib.hid (HFB.out.of_grown hu5 (by simpa using hFD))
                      clear f0 f1 f2 hd5 hd5' hu5
                      (try dsimp only [Bool.and_self, Bool.and_false, Bool.false_and])
                      go_wp2_with fail
                      go_meet
                      case rel => exact ⟨rfl, false, t, u, dn, A1, c1, ls, rfl, rfl, HST5.out, HF5.out⟩
                    | true =>
                      have HF := Lib.hid hf
                      have HM := Lib.hid hm
                      clear hf hm
                      go_wp2_with fail
                      refine (bluePut_w (D + 1) D (nl * nb) nl nb t hold u dn nn a m d ks ls.flatten _ HSTB.out.bl HSTB.out.bd (HSA0.out.below HSTB.out.bel) HSTB.out.flen rfl (by omega) (by omega) (by omega) HNEA.out hnn).mono ?_
                      rw [HM.out, HF.out]
                      rintro e w5 ⟨rfl, hd5, hu5⟩
                      have hd5' : Obj1 w5 D (binsC ls.flatten) 82 := hd5
                      have HST5 := Lib.hid (HSTB.out.quiet hd5' hu5)
                      have HF5 := Lib.hid (HFB.out.of_grown hu5 (by simpa using hFD))
                      clear f0 f1 f2 hd5 hd5' hu5
                      (try dsimp only [Bool.and_self, Bool.and_false, Bool.false_and])
                      go_wp2_with fail
                      go_meet
                      case rel => exact ⟨rfl, false, t, u, dn, A1, c1, ls, rfl, rfl, HST5.out, HF5.out⟩
                  | true =>
                    cases hm : mayV nn with
                    | false =>
                      have HF := Lib.hid hf
                      have HM := Lib.hid hm
                      clear hf hm
                      go_wp2_with fail
                      refine (bluePut_w (D + 1) D (nl * nb) nl nb t hold u dn nn a m d ks ls.flatten _ HSTB.out.bl HSTB.out.bd (HSA0.out.below HSTB.out.bel) HSTB.out.flen rfl (by omega) (by omega) (by omega) HNEA.out hnn).mono ?_
                      rw [HM.out, HF.out]
                      rintro e w5 ⟨rfl, hd5, hu5⟩
                      have hd5' : Obj1 w5 D (binsC ls.flatten) 82 := hd5
                      have HST5 := Lib.hid (HSTB.out.quiet hd5' hu5)
                      have HF5 := Lib.hid (HFB.out.of_grown hu5 (by simpa using hFD))
                      clear f0 f1 f2 hd5 hd5' hu5
                      (try dsimp only [Bool.and_self, Bool.and_false, Bool.false_and])
                      go_wp2_with fail
                      go_meet
                      case rel => exact ⟨rfl, false, t, u, dn, A1, c1, ls, rfl, rfl, HST5.out, HF5.out⟩
                    | true =>
                      have HF := Lib.hid hf
                      have HM := Lib.hid hm
                      clear hf hm
                      go_wp2_with fail
                      refine (bluePut_w (D + 1) D (nl * nb) nl nb t hold u dn nn a m d ks ls.flatten _ HSTB.out.bl HSTB.out.bd (HSA0.out.below HSTB.out.bel) HSTB.out.flen rfl (by omega) (by omega) (by omega) HNEA.out hnn).mono ?_
                      rw [HM.out, HF.out]
                      rintro e w5 ⟨rfl, hd5, hu5⟩
                      have hd5' : Obj1 w5 D (binsC (updN (putF nn) nb ks nl ls.flatten)) 82 := hd5
                      have hrw := HSTB.out.1.put HM.out HF.out
                      rw [hrw.2] at hd5'
                      have HD5 := Lib.hid hd5'
                      have HRW := Lib.hid hrw.1
                      have HU5 := Lib.hid hu5
                      have HR5 := Lib.hid (HSTB.out.ref.of_grown hu5 (by simpa using hRD))
                      have HF5 := Lib.hid (HFB.out.of_grown hu5 (by simpa using hFD))
                      have HSL5 := Lib.hid (HSTB.out.2.2.2.2.2.1 w5 (UpdS.of_upd hu5 (Or.inl rfl)))
                      have HSA5 := Lib.hid (HSA0.out.below (bl_upd HSTB.out.bel hu5 hwD))
                      have hv := may_range HM.out
                      clear f0 f1 f2 hd5 hd5' hrw hu5
                      have f1 : w5.cell? ⟨F, 1, none⟩ = some (.slice a m d) := HF5.out.cell 1
                      have f2 : w5.cell? ⟨F, 2, none⟩ = some (.int .i64 nn) := HF5.out.cell 2

                      (try dsimp only [Bool.and_self])
                      go_wp2_with (refine load_obj rfl 65 (.tmp 7) rfl R 65 (rbC A1 nl c1 t hold u dn) _ rfl HR5.out Try.underlying65 rfl rfl ?_)
                      refine (rput_w t hold u dn (nn) A1 a nl c1 m d nb (D + 2) ls ks hnl hnb HF.out _ HSL5.out HSA5.out HSTB.out.1.2.1 (by omega) (HSTB.out.1.bin HF.out)).mono ?_
                      rintro e w6 ⟨A2, c2, rfl, hs6, hb6⟩
                      have HS6 := Lib.hid hs6
                      have HB6 := Lib.hid hb6
                      have HR6 := Lib.hid (HR5.out.below hb6)
                      have HF6 := Lib.hid (HF5.out.below hb6)
                      clear hs6 hb6 f1 f2
                      go_wp2_with (refine store_obj rfl 65 (.tmp 7) (.tmp 180) rfl R 65 _ (rbC A2 nl c2 t hold u dn) rfl rfl HR6.out rfl rfl (by simp [rbC, Value.oneCell']) ?_; intro w7 hob hup; have HX7 := Lib.hid hob; have HU7 := Lib.hid hup; clear hob hup)
                      go_meet
                      case rel => exact ⟨rfl, true, t, u, dn, A2, c2, _, rfl, rfl, HSTB.out.step HRW.out HD5.out HU5.out HS6.out HB6.out HX7.out HU7.out, HF6.out.of_grown HU7.out (by simpa using hFR)⟩
              · as_aux_lemma =>
                  cases hf : flowsB nl nb ks with
                  | false =>
                    cases hm : mayV nn with
                    | false =>
                      have HF := Lib.hid hf
                      have HM := Lib.hid hm
                      clear hf hm
                      go_wp2_with fail
                      refine (bluePut_w (D + 1) D (nl * nb) nl nb t hold u dn nn a m d ks ls.flatten _ HSTB.out.bl HSTB.out.bd (HSA0.out.below HSTB.out.bel) HSTB.out.flen rfl (by omega) (by omega) (by omega) HNEA.out hnn).mono ?_
                      rw [HM.out, HF.out]
                      rintro e w5 ⟨rfl, hd5, hu5⟩
                      have hd5' : Obj1 w5 D (binsC ls.flatten) 82 := hd5
                      have HST5 := Lib.hid (HSTB.out.quiet hd5' hu5)
                      have HF5 := Lib.hid (HFB.out.of_grown hu5 (by simpa using hFD))
                      clear f0 f1 f2 hd5 hd5' hu5
                      (try dsimp only [Bool.and_self, Bool.and_false, Bool.false_and])
                      go_wp2_with fail
                      go_meet
                      case rel => exact ⟨rfl, false, t, u, dn, A1, c1, ls, rfl, rfl, HST5.out, HF5.out⟩
                    | true =>
                      have HF := Lib.hid hf
                      have HM := Lib.hid hm
                      clear hf hm
                      go_wp2_with fail
                      refine (bluePut_w (D + 1) D (nl * nb) nl nb t hold u dn nn a m d ks ls.flatten _ HSTB.out.bl HSTB.out.bd (HSA0.out.below HSTB.out.bel) HSTB.out.flen rfl (by omega) (by omega) (by omega) HNEA.out hnn).mono ?_
                      rw [HM.out, HF.out]
                      rintro e w5 ⟨rfl, hd5, hu5⟩
                      have hd5' : Obj1 w5 D (binsC ls.flatten) 82 := hd5
                      have HST5 := Lib.hid (HSTB.out.quiet hd5' hu5)
                      have HF5 := Lib.hid (HFB.out.of_grown hu5 (by simpa using hFD))
                      clear f0 f1 f2 hd5 hd5' hu5
                      (try dsimp only [Bool.and_self, Bool.and_false, Bool.false_and])
                      go_wp2_with fail
                      go_meet
                      case rel => exact ⟨rfl, false, t, u, dn, A1, c1, ls, rfl, rfl, HST5.out, HF5.out⟩
                  | true =>
                    cases hm : mayV nn with
                    | false =>
                      have HF := Lib.hid hf
                      have HM := Lib.hid hm
                      clear hf hm
                      go_wp2_with fail
                      refine (bluePut_w (D + 1) D (nl * nb) nl nb t hold u dn nn a m d ks ls.flatten _ HSTB.out.bl HSTB.out.bd (HSA0.out.below HSTB.out.bel) HSTB.out.flen rfl (by omega) (by omega) (by omega) HNEA.out hnn).mono ?_
                      rw [HM.out, HF.out]
                      rintro e w5 ⟨rfl, hd5, hu5⟩
                      have hd5' : Obj1 w5 D (binsC ls.flatten) 82 := hd5
                      have HST5 := Lib.hid (HSTB.out.quiet hd5' hu5)
                      have HF5 := Lib.hid (HFB.out.of_grown hu5 (by simpa using hFD))
                      clear f0 f1 f2 hd5 hd5' hu5
                      (try dsimp only [Bool.and_self, Bool.and_false, Bool.false_and])
                      go_wp2_with fail
                      go_meet
                      case rel => exact ⟨rfl, false, t, u, dn, A1, c1, ls, rfl, rfl, HST5.out, HF5.out⟩
                    | true =>
                      have HF := Lib.hid hf
                      have HM := Lib.hid hm
                      clear hf hm
                      go_wp2_with fail
                      refine (bluePut_w (D + 1) D (nl * nb) nl nb t hold u dn nn a m d ks ls.flatten _ HSTB.out.bl HSTB.out.bd (HSA0.out.below HSTB.out.bel) HSTB.out.flen rfl (by omega) (by omega) (by omega) HNEA.out hnn).mono ?_
                      rw [HM.out, HF.out]
                      rintro e w5 ⟨rfl, hd5, hu5⟩
                      have hd5' : Obj1 w5 D (binsC (updN (putF nn) nb ks nl ls.flatten)) 82 := hd5
                      have hrw := HSTB.out.1.put HM.out HF.out
                      rw [hrw.2] at hd5'
                      have HD5 := Lib.hid hd5'
                      have HRW := Lib.hid hrw.1
                      have HU5 := Lib.hid hu5
                      have HR5 := Lib.hid (HSTB.out.ref.of_grown hu5 (by simpa using hRD))
                      have HF5 := Lib.hid (HFB.out.of_grown hu5 (by simpa using hFD))
                      have HSL5 := Lib.hid (HSTB.out.2.2.2.2.2.1 w5 (UpdS.of_upd hu5 (Or.inl rfl)))
                      have HSA5 := Lib.hid (HSA0.out.below (bl_upd HSTB.out.bel hu5 hwD))
                      have hv := may_range HM.out
                      clear f0 f1 f2 hd5 hd5' hrw hu5
                      have f1 : w5.cell? ⟨F, 1, none⟩ = some (.slice a m d) := HF5.out.cell 1
                      have f2 : w5.cell? ⟨F, 2, none⟩ = some (.int .i64 nn) := HF5.out.cell 2

                      (try dsimp only [Bool.and_self])
                      go_wp2_with (refine load_obj rfl 65 (.tmp 7) rfl R 65 (rbC A1 nl c1 t hold u dn) _ rfl HR5.out Try.underlying65 rfl rfl ?_)
                      refine (rput_w t hold u dn (nn) A1 a nl c1 m d nb (D + 2) ls ks hnl hnb HF.out _ HSL5.out HSA5.out HSTB.out.1.2.1 (by omega) (HSTB.out.1.bin HF.out)).mono ?_
                      rintro e w6 ⟨A2, c2, rfl, hs6, hb6⟩
                      have HS6 := Lib.hid hs6
                      have HB6 := Lib.hid hb6
                      have HR6 := Lib.hid (HR5.out.below hb6)
                      have HF6 := Lib.hid (HF5.out.below hb6)
                      clear hs6 hb6 f1 f2
                      go_wp2_with (refine store_obj rfl 65 (.tmp 7) (.tmp 180) rfl R 65 _ (rbC A2 nl c2 t hold u dn) rfl rfl HR6.out rfl rfl (by simp [rbC, Value.oneCell']) ?_; intro w7 hob hup; have HX7 := Lib.hid hob; have HU7 := Lib.hid hup; clear hob hup)
                      go_meet
                      case rel => exact ⟨rfl, true, t, u, dn, A2, c2, _, rfl, rfl, HSTB.out.step HRW.out HD5.out HU5.out HS6.out HB6.out HX7.out HU7.out, HF6.out.of_grown HU7.out (by simpa using hFR)⟩
              · as_aux_lemma =>
                  cases hf : flowsB nl nb ks with
                  | false =>
                    cases hm : mayV nn with
                    | false =>
                      have HF := Lib.hid hf
                      have HM := Lib.hid hm
                      clear hf hm
                      go_wp2_with fail
                      refine (blueTake_w (D + 1) D (nl * nb) nl nb t hold u dn nn a m d ks ls.flatten _ HSTB.out.bl HSTB.out.bd (HSA0.out.below HSTB.out.bel) HSTB.out.flen rfl (by omega) (by omega) (by omega) HNEA.out hnn).mono ?_
                      rw [HM.out, HF.out]
                      rintro e w5 ⟨rfl, hd5, hu5⟩
                      have hd5' : Obj1 w5 D (binsC ls.flatten) 82 := hd5
                      have HST5 := Lib.hid (HSTB.out.quiet hd5' hu5)
                      have HF5 := Lib.hid (HFB.out.of_grown hu5 (by simpa using hFD))
                      clear f0 f1 f2 hd5 hd5' hu5
                      (try dsimp only [Bool.and_self, Bool.and_false, Bool.false_and])
                      go_wp2_with fail
                      go_meet
                      case rel => exact ⟨rfl, false, t, u, dn, A1, c1, ls, rfl, rfl, HST5.out, HF5.out⟩
                    | true =>
                      have HF := Lib.hid hf
                      have HM := Lib.hid hm
                      clear hf hm
                      go_wp2_with fail
                      refine (blueTake_w (D + 1) D (nl * nb) nl nb t hold u dn nn a m d ks ls.flatten _ HSTB.out.bl HSTB.out.bd (HSA0.out.below HSTB.out.bel) HSTB.out.flen rfl (by omega) (by omega) (by omega) HNEA.out hnn).mono ?_
                      rw [HM.out, HF.out]
                      rintro e w5 ⟨rfl, hd5, hu5⟩
                      have hd5' : Obj1 w5 D (binsC ls.flatten) 82 := hd5
                      have HST5 := Lib.hid (HSTB.out.quiet hd5' hu5)
                      have HF5 := Lib.hid (HFB.out.of_grown hu5 (by simpa using hFD))
                      clear f0 f1 f2 hd5 hd5' hu5
                      (try dsimp only [Bool.and_self, Bool.and_false, Bool.false_and])
                      go_wp2_with fail
                      go_meet
                      case rel => exact ⟨rfl, false, t, u, dn, A1, c1, ls, rfl, rfl, HST5.out, HF5.out⟩
                  | true =>
                    cases hm : mayV nn with
                    | false =>
                      have HF := Lib.hid hf
                      have HM := Lib.hid hm
                      clear hf hm
                      go_wp2_with fail
                      refine (blueTake_w (D + 1) D (nl * nb) nl nb t hold u dn nn a m d ks ls.flatten _ HSTB.out.bl HSTB.out.bd (HSA0.out.below HSTB.out.bel) HSTB.out.flen rfl (by omega) (by omega) (by omega) HNEA.out hnn).mono ?_
                      rw [HM.out, HF.out]
                      rintro e w5 ⟨rfl, hd5, hu5⟩
                      have hd5' : Obj1 w5 D (binsC ls.flatten) 82 := hd5
                      have HST5 := Lib.hid (HSTB.out.quiet hd5' hu5)
                      have HF5 := Lib.hid (HFB.out.of_grown hu5 (by simpa using hFD))
                      clear f0 f1 f2 hd5 hd5' hu5
                      (try dsimp only [Bool.and_self, Bool.and_false, Bool.false_and])
                      go_wp2_with fail
                      go_meet
                      case rel => exact ⟨rfl, false, t, u, dn, A1, c1, ls, rfl, rfl, HST5.out, HF5.out⟩
                    | true =>
                      have HF := Lib.hid hf
                      have HM := Lib.hid hm
                      clear hf hm
                      go_wp2_with fail
                      refine (blueTake_w (D + 1) D (nl * nb) nl nb t hold u dn nn a m d ks ls.flatten _ HSTB.out.bl HSTB.out.bd (HSA0.out.below HSTB.out.bel) HSTB.out.flen rfl (by omega) (by omega) (by omega) HNEA.out hnn).mono ?_
                      rw [HM.out, HF.out]
                      rintro e w5 ⟨rfl, hd5, hu5⟩
                      have hd5' : Obj1 w5 D (binsC (updN (takeF nn) nb ks nl ls.flatten)) 82 := hd5
                      have hrw := HSTB.out.1.take HM.out HF.out
                      rw [hrw.2] at hd5'
                      have HD5 := Lib.hid hd5'
                      have HRW := Lib.hid hrw.1
                      have HU5 := Lib.hid hu5
                      have HR5 := Lib.hid (HSTB.out.ref.of_grown hu5 (by simpa using hRD))
                      have HF5 := Lib.hid (HFB.out.of_grown hu5 (by simpa using hFD))
                      have HSL5 := Lib.hid (HSTB.out.2.2.2.2.2.1 w5 (UpdS.of_upd hu5 (Or.inl rfl)))
                      have HSA5 := Lib.hid (HSA0.out.below (bl_upd HSTB.out.bel hu5 hwD))
                      have hv := may_range HM.out
                      clear f0 f1 f2 hd5 hd5' hrw hu5
                      have f1 : w5.cell? ⟨F, 1, none⟩ = some (.slice a m d) := HF5.out.cell 1
                      have f2 : w5.cell? ⟨F, 2, none⟩ = some (.int .i64 nn) := HF5.out.cell 2
                      have qneg : IntKind.i64.wrap (-nn) = -nn := IntWalk.i64_in _ (by omega)
                      have qneg2 : IntKind.i64.wrap (0 - nn) = -nn := by rw [show (0 : Int) - nn = -nn by omega]; exact qneg
                      (try dsimp only [Bool.and_self])
                      go_wp2_with (refine load_obj rfl 65 (.tmp 7) rfl R 65 (rbC A1 nl c1 t hold u dn) _ rfl HR5.out Try.underlying65 rfl rfl ?_)
                      refine (rput_w t hold u dn (-nn) A1 a nl c1 m d nb (D + 2) ls ks hnl hnb HF.out _ HSL5.out HSA5.out HSTB.out.1.2.1 (by omega) (HSTB.out.1.bin HF.out)).mono ?_
                      rintro e w6 ⟨A2, c2, rfl, hs6, hb6⟩
                      have HS6 := Lib.hid hs6
                      have HB6 := Lib.hid hb6
                      have HR6 := Lib.hid (HR5.out.below hb6)
                      have HF6 := Lib.hid (HF5.out.below hb6)
                      clear hs6 hb6 f1 f2
                      go_wp2_with (refine store_obj rfl 65 (.tmp 7) (.tmp 200) rfl R 65 _ (rbC A2 nl c2 t hold u dn) rfl rfl HR6.out rfl rfl (by simp [rbC, Value.oneCell']) ?_; intro w7 hob hup; have HX7 := Lib.hid hob; have HU7 := Lib.hid hup; clear hob hup)
                      go_meet
                      case rel => exact ⟨rfl, true, t, u, dn, A2, c2, _, rfl, rfl, HSTB.out.step HRW.out HD5.out HU5.out HS6.out HB6.out HX7.out HU7.out, HF6.out.of_grown HU7.out (by simpa using hFR)⟩
              · as_aux_lemma =>
                  cases hf : flowsB nl nb ks with
                  | false =>
                    have HF := Lib.hid hf
                    clear hf
                    obtain ⟨x1, x2, x3, x4, x5, x6⟩ := HT0.out
                    go_wp2_with fail
                    refine (blueTouch_w (D + 1) D (nl * nb) nl nb t hold u dn nn a m d ks ls.flatten _ HSTB.out.bl HSTB.out.bd (HSA0.out.below HSTB.out.bel) HSTB.out.flen rfl (by omega) (by omega) (by omega) HNEA.out HSTB.out.okf hnn ⟨o5, o6⟩ ⟨x1, x2⟩ ⟨x3, x4⟩ ⟨x5, x6⟩).mono ?_
                    rw [HF.out]
                    rintro e w5 ⟨rfl, hd5, hu5⟩
                    have HR5 := Lib.hid (HSTB.out.ref.of_grown hu5 (by simpa using hRD))
                    have HF5 := Lib.hid (HFB.out.of_grown hu5 (by simpa using hFD))
                    have HSA5 := Lib.hid (HSA0.out.below (bl_upd HSTB.out.bel hu5 hwD))
                    have HSL5 := Lib.hid (HSTB.out.2.2.2.2.2.1 w5 (UpdS.of_upd hu5 (Or.inl rfl)))
                    clear f0 f1 f2
                    have f1 : w5.cell? ⟨F, 1, none⟩ = some (.slice a m d) := HF5.out.cell 1
                    have f2 : w5.cell? ⟨F, 2, none⟩ = some (.int .i64 nn) := HF5.out.cell 2
                    have hd5' : Obj1 w5 D (binsC ls.flatten) 82 := hd5
                    have HST5 := Lib.hid (HSTB.out.quiet hd5' hu5)
                    clear hd5 hd5' hu5
                    go_wp2_with (refine load_obj rfl 65 (.tmp 7) rfl R 65 (rbC A1 nl c1 t hold u dn) _ rfl HR5.out Try.underlying65 rfl rfl ?_)
                    refine (rtouchNo_w t hold u dn nn A1 a nl c1 m d nb (D + 2) ls ks hnl hnb HF.out _ HSL5.out HSA5.out HSTB.out.1.2.1).mono ?_
                    rintro e w6 ⟨rfl, hb6⟩
                    have HST6 := Lib.hid (HST5.out.below hb6)
                    have HR6 := Lib.hid (HR5.out.below hb6)
                    have HF6 := Lib.hid (HF5.out.below hb6)
                    clear hb6 f1 f2
                    go_wp2_with (refine store_obj rfl 65 (.tmp 7) (.tmp 215) rfl R 65 _ (rbC A1 nl c1 t hold u dn) rfl rfl HR6.out rfl rfl (by simp [rbC, Value.oneCell']) ?_; intro w7 hob hup; have HX7 := Lib.hid hob; have HU7 := Lib.hid hup; clear hob hup)
                    go_meet
                    case rel => exact ⟨rfl, false, t, u, dn, A1, c1, ls, rfl, rfl, HST6.out.again HX7.out HU7.out, HF6.out.of_grown HU7.out (by simpa using hFR)⟩
                  | true =>
                    have HF := Lib.hid hf
                    clear hf
                    obtain ⟨x1, x2, x3, x4, x5, x6⟩ := HT0.out
                    go_wp2_with fail
                    refine (blueTouch_w (D + 1) D (nl * nb) nl nb t hold u dn nn a m d ks ls.flatten _ HSTB.out.bl HSTB.out.bd (HSA0.out.below HSTB.out.bel) HSTB.out.flen rfl (by omega) (by omega) (by omega) HNEA.out HSTB.out.okf hnn ⟨o5, o6⟩ ⟨x1, x2⟩ ⟨x3, x4⟩ ⟨x5, x6⟩).mono ?_
                    rw [HF.out]
                    rintro e w5 ⟨rfl, hd5, hu5⟩
                    have HR5 := Lib.hid (HSTB.out.ref.of_grown hu5 (by simpa using hRD))
                    have HF5 := Lib.hid (HFB.out.of_grown hu5 (by simpa using hFD))
                    have HSA5 := Lib.hid (HSA0.out.below (bl_upd HSTB.out.bel hu5 hwD))
                    have HSL5 := Lib.hid (HSTB.out.2.2.2.2.2.1 w5 (UpdS.of_upd hu5 (Or.inl rfl)))
                    clear f0 f1 f2
                    have f1 : w5.cell? ⟨F, 1, none⟩ = some (.slice a m d) := HF5.out.cell 1
                    have f2 : w5.cell? ⟨F, 2, none⟩ = some (.int .i64 nn) := HF5.out.cell 2
                    have hd5' : Obj1 w5 D (binsC (updN (touchF nn t hold u dn) nb ks nl ls.flatten)) 82 := hd5
                    have hrw := HSTB.out.1.touch (now := nn) (hold := hold) HT0.out HF.out
                    rw [hrw.2] at hd5'
                    have HD5 := Lib.hid hd5'
                    have HRW := Lib.hid hrw.1
                    have HU5 := Lib.hid hu5
                    clear hd5 hd5' hrw hu5
                    go_wp2_with (refine load_obj rfl 65 (.tmp 7) rfl R 65 (rbC A1 nl c1 t hold u dn) _ rfl HR5.out Try.underlying65 rfl rfl ?_)
                    refine (rtouch_w t hold u dn nn A1 a nl c1 m d nb (D + 2) ls ks hnl hnb HF.out _ HSL5.out HSA5.out HSTB.out.1.2.1 hnn ⟨o5, o6⟩ ⟨x3, x4⟩ ⟨x5, x6⟩ (HSTB.out.1.bin HF.out)).mono ?_
                    rintro e w6 ⟨A2, c2, rfl, hs6, hb6⟩
                    have HS6 := Lib.hid hs6
                    have HB6 := Lib.hid hb6
                    have HR6 := Lib.hid (HR5.out.below hb6)
                    have HF6 := Lib.hid (HF5.out.below hb6)
                    clear hs6 hb6 f1 f2
                    go_wp2_with (refine store_obj rfl 65 (.tmp 7) (.tmp 215) rfl R 65 _ (rbC A2 nl c2 t hold u dn) rfl rfl HR6.out rfl rfl (by simp [rbC, Value.oneCell']) ?_; intro w7 hob hup; have HX7 := Lib.hid hob; have HU7 := Lib.hid hup; clear hob hup)
                    go_meet
                    case rel => exact ⟨rfl, true, t, u, dn, A2, c2, _, rfl, rfl, HSTB.out.step HRW.out HD5.out HU5.out HS6.out HB6.out HX7.out HU7.out, HF6.out.of_grown HU7.out (by simpa using hFR)⟩
              · as_aux_lemma =>
                  cases hf : flowsB nl nb ks with
                  | false =>
                    have HF := Lib.hid hf
                    clear hf
                    obtain ⟨x1, x2, x3, x4, x5, x6⟩ := HT0.out
                    go_wp2_with fail
                    refine (blueTouch_w (D + 1) D (nl * nb) nl nb t hold u dn nn a m d ks ls.flatten _ HSTB.out.bl HSTB.out.bd (HSA0.out.below HSTB.out.bel) HSTB.out.flen rfl (by omega) (by omega) (by omega) HNEA.out HSTB.out.okf hnn ⟨o5, o6⟩ ⟨x1, x2⟩ ⟨x3, x4⟩ ⟨x5, x6⟩).mono ?_
                    rw [HF.out]
                    rintro e w5 ⟨rfl, hd5, hu5⟩
                    have HR5 := Lib.hid (HSTB.out.ref.of_grown hu5 (by simpa using hRD))
                    have HF5 := Lib.hid (HFB.out.of_grown hu5 (by simpa using hFD))
                    have HSA5 := Lib.hid (HSA0.out.below (bl_upd HSTB.out.bel hu5 hwD))
                    have HSL5 := Lib.hid (HSTB.out.2.2.2.2.2.1 w5 (UpdS.of_upd hu5 (Or.inl rfl)))
                    clear f0 f1 f2
                    have f1 : w5.cell? ⟨F, 1, none⟩ = some (.slice a m d) := HF5.out.cell 1
                    have f2 : w5.cell? ⟨F, 2, none⟩ = some (.int .i64 nn) := HF5.out.cell 2
                    have hd5' : Obj1 w5 D (binsC ls.flatten) 82 := hd5
                    have HST5 := Lib.hid (HSTB.out.quiet hd5' hu5)
                    clear hd5 hd5' hu5
                    go_wp2_with (refine load_obj rfl 65 (.tmp 7) rfl R 65 (rbC A1 nl c1 t hold u dn) _ rfl HR5.out Try.underlying65 rfl rfl ?_)
                    refine (rtouchNo_w t hold u dn nn A1 a nl c1 m d nb (D + 2) ls ks hnl hnb HF.out _ HSL5.out HSA5.out HSTB.out.1.2.1).mono ?_
                    rintro e w6 ⟨rfl, hb6⟩
                    have HST6 := Lib.hid (HST5.out.below hb6)
                    have HR6 := Lib.hid (HR5.out.below hb6)
                    have HF6 := Lib.hid (HF5.out.below hb6)
                    clear hb6 f1 f2
                    go_wp2_with (refine store_obj rfl 65 (.tmp 7) (.tmp 215) rfl R 65 _ (rbC A1 nl c1 t hold u dn) rfl rfl HR6.out rfl rfl (by simp [rbC, Value.oneCell']) ?_; intro w7 hob hup; have HX7 := Lib.hid hob; have HU7 := Lib.hid hup; clear hob hup)
                    go_meet
                    case rel => exact ⟨rfl, false, t, u, dn, A1, c1, ls, rfl, rfl, HST6.out.again HX7.out HU7.out, HF6.out.of_grown HU7.out (by simpa using hFR)⟩
                  | true =>
                    have HF := Lib.hid hf
                    clear hf
                    obtain ⟨x1, x2, x3, x4, x5, x6⟩ := HT0.out
                    go_wp2_with fail
                    refine (blueTouch_w (D + 1) D (nl * nb) nl nb t hold u dn nn a m d ks ls.flatten _ HSTB.out.bl HSTB.out.bd (HSA0.out.below HSTB.out.bel) HSTB.out.flen rfl (by omega) (by omega) (by omega) HNEA.out HSTB.out.okf hnn ⟨o5, o6⟩ ⟨x1, x2⟩ ⟨x3, x4⟩ ⟨x5, x6⟩).mono ?_
                    rw [HF.out]
                    rintro e w5 ⟨rfl, hd5, hu5⟩
                    have HR5 := Lib.hid (HSTB.out.ref.of_grown hu5 (by simpa using hRD))
                    have HF5 := Lib.hid (HFB.out.of_grown hu5 (by simpa using hFD))
                    have HSA5 := Lib.hid (HSA0.out.below (bl_upd HSTB.out.bel hu5 hwD))
                    have HSL5 := Lib.hid (HSTB.out.2.2.2.2.2.1 w5 (UpdS.of_upd hu5 (Or.inl rfl)))
                    clear f0 f1 f2
                    have f1 : w5.cell? ⟨F, 1, none⟩ = some (.slice a m d) := HF5.out.cell 1
                    have f2 : w5.cell? ⟨F, 2, none⟩ = some (.int .i64 nn) := HF5.out.cell 2
                    have hd5' : Obj1 w5 D (binsC (updN (touchF nn t hold u dn) nb ks nl ls.flatten)) 82 := hd5
                    have hrw := HSTB.out.1.touch (now := nn) (hold := hold) HT0.out HF.out
                    rw [hrw.2] at hd5'
                    have HD5 := Lib.hid hd5'
                    have HRW := Lib.hid hrw.1
                    have HU5 := Lib.hid hu5
                    clear hd5 hd5' hrw hu5
                    go_wp2_with (refine load_obj rfl 65 (.tmp 7) rfl R 65 (rbC A1 nl c1 t hold u dn) _ rfl HR5.out Try.underlying65 rfl rfl ?_)
                    refine (rtouch_w t hold u dn nn A1 a nl c1 m d nb (D + 2) ls ks hnl hnb HF.out _ HSL5.out HSA5.out HSTB.out.1.2.1 hnn ⟨o5, o6⟩ ⟨x3, x4⟩ ⟨x5, x6⟩ (HSTB.out.1.bin HF.out)).mono ?_
                    rintro e w6 ⟨A2, c2, rfl, hs6, hb6⟩
                    have HS6 := Lib.hid hs6
                    have HB6 := Lib.hid hb6
                    have HR6 := Lib.hid (HR5.out.below hb6)
                    have HF6 := Lib.hid (HF5.out.below hb6)
                    clear hs6 hb6 f1 f2
                    go_wp2_with (refine store_obj rfl 65 (.tmp 7) (.tmp 215) rfl R 65 _ (rbC A2 nl c2 t hold u dn) rfl rfl HR6.out rfl rfl (by simp [rbC, Value.oneCell']) ?_; intro w7 hob hup; have HX7 := Lib.hid hob; have HU7 := Lib.hid hup; clear hob hup)
                    go_meet
                    case rel => exact ⟨rfl, true, t, u, dn, A2, c2, _, rfl, rfl, HSTB.out.step HRW.out HD5.out HU5.out HS6.out HB6.out HX7.out HU7.out, HF6.out.of_grown HU7.out (by simpa using hFR)⟩
              · as_aux_lemma =>
                  go_wp2_with fail
                  refine (blueClear_w (D + 1) D (nl * nb) nl nb t hold u dn ls.flatten _ HSTB.out.bl HSTB.out.bd HSTB.out.flen (Nat.mul_pos (by omega) (by omega))).mono ?_
                  rintro e w5 ⟨rfl, hd5, hu5⟩
                  rw [← flat_new] at hd5
                  have HD5 := Lib.hid hd5
                  have HU5 := Lib.hid hu5
                  have HR5 := Lib.hid (HSTB.out.ref.of_grown hu5 (by simpa using hRD))
                  have HF5 := Lib.hid (HFB.out.of_grown hu5 (by simpa using hFD))
                  have HSL5 := Lib.hid (HSTB.out.2.2.2.2.2.1 w5 (UpdS.of_upd hu5 (Or.inl rfl)))
                  clear f0 f1 f2 hd5 hu5
                  go_wp2_with (refine load_obj rfl 65 (.tmp 7) rfl R 65 (rbC A1 nl c1 t hold u dn) _ rfl HR5.out Try.underlying65 rfl rfl ?_)
                  refine (rclear_w t hold u dn A1 nl c1 nb (D + 2) ls hnl hnb _ HSL5.out HSTB.out.1.2.1).mono ?_
                  rintro e w6 ⟨A2, c2, rfl, hs6, hb6⟩
                  have HS6 := Lib.hid hs6
                  have HB6 := Lib.hid hb6
                  have HR6 := Lib.hid (HR5.out.below hb6)
                  have HF6 := Lib.hid (HF5.out.below hb6)
                  clear hs6 hb6
                  go_wp2_with (refine store_obj rfl 65 (.tmp 7) (.tmp 221) rfl R 65 _ (rbC A2 nl c2 t hold u dn) rfl rfl HR6.out rfl rfl (by simp [rbC, Value.oneCell']) ?_; intro w7 hob hup; have HX7 := Lib.hid hob; have HU7 := Lib.hid hup; clear hob hup)
                  go_meet
                  case rel => exact ⟨rfl, true, t, u, dn, A2, c2, _, rfl, rfl, HSTB.out.step (RowsN.new nl nb) HD5.out HU5.out HS6.out HB6.out HX7.out HU7.out, HF6.out.of_grown HU7.out (by simpa using hFR)⟩
              · as_aux_lemma =>
                  obtain ⟨x1, x2, x3, x4, x5, x6⟩ := HT0.out
                  go_upto_if 133 with (fail)
                  go_cut [13, 14] from 134 to 141 (fun s13 s14 wx => ∃ uu dd : Int, s13 = .int .i64 uu ∧ s14 = .int .i64 dd ∧ BpSt w wx D R nl nb hold t u dn A1 c1 ls ∧ Obj1 wx F #[.int .u8 kd, .slice a m d, .int .i64 nn] 55)
                  case first =>
                    by_cases hm1 : 1 < m
                    · have q1 : decide (1 < (m : Int)) = true := decide_eq_true (by omega)
                      have q2 : decide (1 < m) = true := decide_eq_true hm1
                      have q3 : (1 : Int) < (m : Int) := by omega
                      have q4 : (0 : Int) < (m : Int) := by omega
                      have q5 : 0 < m := by omega
                      obtain ⟨ad, rfl, hc0, _⟩ := (HSA0.out.below HSTB.out.bel).at 0 (by omega)
                      obtain ⟨ad', e', hc1, _⟩ := (HSA0.out.below HSTB.out.bel).at 1 (by omega)
                      cases e'
                      have hz0 : WB.cell? ad = some (.int .i64 (nth ks 0)) := hc0
                      have hz1 : WB.cell? ⟨ad.block, ad.off + 1, none⟩ = some (.int .i64 (nth ks 1)) := hc1
                      clear hc0 hc1
                      go_wp2_with fail
                      go_region
                      all_goals (go_wp2_with fail; go_meet; exact ⟨_, _, rfl, rfl, HSTB.out.below (Below.refl _ _).drew, HFB.out⟩)
                    · have q1 : decide (1 < (m : Int)) = false := decide_eq_false (by omega)
                      have q2 : decide (1 < m) = false := decide_eq_false hm1
                      go_wp2_with fail
                      go_meet
                      case rel => exact ⟨0, 0, rfl, rfl, HSTB.out, HFB.out⟩
                  case rest =>
                    obtain ⟨uu, dd, rfl, rfl, hst, hfc⟩ := hcut
                    clear f0 f1 f2 HSTB HFB
                    have HSTB := Lib.hid hst
                    have HFB := Lib.hid hfc
                    have f2 : wc.cell? ⟨F, 2, none⟩ = some (.int .i64 nn) := hfc.cell 2
                    clear hst hfc
                    by_cases htn : 0 ≤ nn ∧ nn ≤ 1073741824 ∧ 0 ≤ uu ∧ uu ≤ 65536 ∧ 0 ≤ dd ∧ dd ≤ 65536
                    · have HTD := Lib.hid (decide_eq_true htn)
                      have HTN := Lib.hid htn
                      clear htn
                      go_wp2_with fail
                      refine wp_region_held_drew (S := fun w' => w'.cell? ⟨F, 2, none⟩ = some (.int .i64 nn)) (by kernel_rfl) (f2) (fun hHeld => ?_)
                      have HX := Lib.hid hHeld
                      clear hHeld
                      generalize hWd : World.drew _ = W0 at HX ⊢
                      have hst0 : BpSt w W0 D R nl nb hold t u dn A1 c1 ls := by rw [← hWd]; exact HSTB.out.below (Below.refl _ _).drew
                      have hf0 : Obj1 W0 F #[.int .u8 kd, .slice a m d, .int .i64 nn] 55 := by rw [← hWd]; exact HFB.out
                      clear hWd
                      have HST0 := Lib.hid hst0
                      have HF0 := Lib.hid hf0
                      clear hst0 hf0
                      refine wpAnyH_take (i := 0) (v := ?_) rfl (by kernel_rfl) (by kernel_rfl) (by kernel_rfl) (fun _ _ _ h => h) (Or.inl ⟨by rfl, ?_⟩) HX.out ?_
                      rotate_left
                      · intro w' hSw; go_simp
                        try with_reducible rfl
                      go_simp
                      refine wpAnyH_take (i := 1) (v := ?_) rfl (by kernel_rfl) (by kernel_rfl) (by kernel_rfl) (fun _ _ _ h => h) (Or.inl ⟨by rfl, ?_⟩) HX.out ?_
                      rotate_left
                      · intro w' hSw; go_simp
                        try with_reducible rfl
                      go_simp
                      refine wpAnyH_take (i := 2) (v := ?_) rfl (by kernel_rfl) (by kernel_rfl) (by kernel_rfl) (fun _ _ _ h => h) (Or.inl ⟨by rfl, ?_⟩) HX.out ?_
                      rotate_left
                      · intro w' hSw; go_simp
                        try with_reducible rfl
                      go_simp
                      refine wpAnyH_take (i := 3) (v := ?_) rfl (by kernel_rfl) (by kernel_rfl) (by kernel_rfl) (fun _ _ _ h => h) (Or.inl ⟨by rfl, ?_⟩) HX.out ?_
                      rotate_left
                      · intro w' hSw; go_simp
                        try with_reducible rfl
                      go_simp
                      refine wpAnyH_take (i := 4) (v := ?_) rfl (by kernel_rfl) (by kernel_rfl) (by kernel_rfl) (fun _ _ _ h => h) (Or.inl ⟨by rfl, ?_⟩) HX.out ?_
                      rotate_left
                      · intro w' hSw; go_simp
                        try with_reducible rfl
                      go_simp
                      refine wpAnyH_take (i := 6) (v := ?_) rfl (by kernel_rfl) (by kernel_rfl) (by kernel_rfl) (fun _ _ _ h => h) (Or.inl ⟨by rfl, ?_⟩) HX.out ?_
                      rotate_left
                      · intro w' hSw; go_simp
                        try with_reducible rfl
                      go_simp
                      refine wpAnyH_take (i := 7) (v := ?_) rfl (by kernel_rfl) (by kernel_rfl) (by kernel_rfl) (fun _ _ _ h => h) (Or.inl ⟨by rfl, ?_⟩) HX.out ?_
                      rotate_left
                      · intro w' hSw; go_simp
                        try with_reducible rfl
                      go_simp
                      refine wpAnyH_take (i := 8) (v := ?_) rfl (by kernel_rfl) (by kernel_rfl) (by kernel_rfl) (fun _ _ _ h => h) (Or.inl ⟨by rfl, ?_⟩) HX.out ?_
                      rotate_left
                      · intro w' hSw; go_simp
                        try with_reducible rfl
                      go_simp
                      refine wpAnyH_take (i := 9) (v := ?_) rfl (by kernel_rfl) (by kernel_rfl) (by kernel_rfl) (fun _ _ _ h => h) (Or.inl ⟨by rfl, ?_⟩) HX.out ?_
                      rotate_left
                      · intro w' hSw; go_simp
                        try with_reducible rfl
                      go_simp
                      refine wpAnyH_ready (rs := [5]) (by kernel_rfl) (by simp) ?_
                      refine AllReadyH.cons rfl (fun K hK => ?_) AllReadyH.nil
                      go_simp
                      refine (blueTune_w (D + 1) D (nl * nb) nl nb t hold u dn nn uu dd _ HST0.out.bl HTN.out).mono ?_
                      rintro e W1 ⟨rfl, hb1, hu1⟩
                      have hX : W1.cell? ⟨F, 2, none⟩ = some (.int .i64 nn) := keep_upd hu1 HX.out (by show F ≠ D + 1; omega)
                      have HB1 := Lib.hid hb1
                      have HU1 := Lib.hid hu1
                      clear hb1 hu1
                      (try dsimp only)
                      refine hK.out _ _ (hX) (fun hHeld => ?_)
                      clear HX hK K
                      have HX := Lib.hid hHeld
                      clear hHeld
                      go_simp
                      refine wpAnyH_ready (rs := [10]) (by kernel_rfl) (by simp) ?_
                      refine AllReadyH.cons rfl (fun K hK => ?_) AllReadyH.nil
                      go_simp
                      refine (lawTuned_w nn uu dd _).mono ?_
                      rw [HTD.out]
                      rintro e W2 ⟨rfl, rfl⟩
                      have hX := HX.out
                      (try dsimp only)
                      refine hK.out _ _ (hX) (fun hHeld => ?_)
                      clear HX hK K
                      have HX := Lib.hid hHeld
                      clear hHeld
                      go_simp
                      refine wpAnyH_take (i := 11) (v := ?_) rfl (by kernel_rfl) (by kernel_rfl) (by kernel_rfl) (fun _ _ _ h => h) (Or.inl ⟨by rfl, ?_⟩) HX.out ?_
                      rotate_left
                      · intro w' hSw; go_simp
                        try with_reducible rfl
                      go_simp
                      refine wpAnyH_take (i := 12) (v := ?_) rfl (by kernel_rfl) (by kernel_rfl) (by kernel_rfl) (fun _ _ _ h => h) (Or.inl ⟨by rfl, ?_⟩) HX.out ?_
                      rotate_left
                      · intro w' hSw; go_simp
                        try with_reducible rfl
                      go_simp
                      refine wpAnyH_done (by kernel_rfl) ?_ _
                      have HR1 := Lib.hid (HST0.out.ref.of_grown HU1.out (by simp; omega))
                      have HF1 := Lib.hid (HF0.out.of_grown HU1.out (by simp; omega))
                      have f2 := HF1.out.cell 2
                      have hset := (((Upd.refl R W1).set 1 (.int .i64 nn)).trans ((Upd.refl R _).set 3 (.int .i64 uu))).trans ((Upd.refl R _).set 4 (.int .i64 dd))
                      have HSET := Lib.hid hset
                      have HRS := Lib.hid (((HR1.out.set 1 (.int .i64 nn)).set 3 (.int .i64 uu)).set 4 (.int .i64 dd))
                      clear hset
                      have z1 : W1.cell? ⟨R, 1, none⟩ = some (.int .i64 t) := HR1.out.cell 1
                      have z3 : W1.cell? ⟨R, 3, none⟩ = some (.int .i64 u) := HR1.out.cell 3
                      have z4 : W1.cell? ⟨R, 4, none⟩ = some (.int .i64 dn) := HR1.out.cell 4
                      have g1 : W1.frozen? ⟨R, 1, none⟩ = false := HR1.out.free 1
                      have g3 : W1.frozen? ⟨R, 3, none⟩ = false := HR1.out.free 3
                      have g4 : W1.frozen? ⟨R, 4, none⟩ = false := HR1.out.free 4
                      go_wp2_with fail
                      go_meet
                      case rel => exact ⟨rfl, true, nn, uu, dd, A1, c1, ls, rfl, rfl, HST0.out.tune HTN.out HB1.out HU1.out HRS.out HSET.out, HF1.out.of_grown HSET.out (by simp; omega)⟩
                    · have HTD := Lib.hid (decide_eq_false htn)
                      have HTN := Lib.hid htn
                      clear htn
                      go_wp2_with fail
                      refine wp_region_held_drew (S := fun w' => w'.cell? ⟨F, 2, none⟩ = some (.int .i64 nn)) (by kernel_rfl) (f2) (fun hHeld => ?_)
                      have HX := Lib.hid hHeld
                      clear hHeld
                      generalize hWd : World.drew _ = W0 at HX ⊢
                      have hst0 : BpSt w W0 D R nl nb hold t u dn A1 c1 ls := by rw [← hWd]; exact HSTB.out.below (Below.refl _ _).drew
                      have hf0 : Obj1 W0 F #[.int .u8 kd, .slice a m d, .int .i64 nn] 55 := by rw [← hWd]; exact HFB.out
                      clear hWd
                      have HST0 := Lib.hid hst0
                      have HF0 := Lib.hid hf0
                      clear hst0 hf0
                      refine wpAnyH_take (i := 0) (v := ?_) rfl (by kernel_rfl) (by kernel_rfl) (by kernel_rfl) (fun _ _ _ h => h) (Or.inl ⟨by rfl, ?_⟩) HX.out ?_
                      rotate_left
                      · intro w' hSw; go_simp
                        try with_reducible rfl
                      go_simp
                      refine wpAnyH_take (i := 1) (v := ?_) rfl (by kernel_rfl) (by kernel_rfl) (by kernel_rfl) (fun _ _ _ h => h) (Or.inl ⟨by rfl, ?_⟩) HX.out ?_
                      rotate_left
                      · intro w' hSw; go_simp
                        try with_reducible rfl
                      go_simp
                      refine wpAnyH_take (i := 2) (v := ?_) rfl (by kernel_rfl) (by kernel_rfl) (by kernel_rfl) (fun _ _ _ h => h) (Or.inl ⟨by rfl, ?_⟩) HX.out ?_
                      rotate_left
                      · intro w' hSw; go_simp
                        try with_reducible rfl
                      go_simp
                      refine wpAnyH_take (i := 3) (v := ?_) rfl (by kernel_rfl) (by kernel_rfl) (by kernel_rfl) (fun _ _ _ h => h) (Or.inl ⟨by rfl, ?_⟩) HX.out ?_
                      rotate_left
                      · intro w' hSw; go_simp
                        try with_reducible rfl
                      go_simp
                      refine wpAnyH_take (i := 4) (v := ?_) rfl (by kernel_rfl) (by kernel_rfl) (by kernel_rfl) (fun _ _ _ h => h) (Or.inl ⟨by rfl, ?_⟩) HX.out ?_
                      rotate_left
                      · intro w' hSw; go_simp
                        try with_reducible rfl
                      go_simp
                      refine wpAnyH_take (i := 6) (v := ?_) rfl (by kernel_rfl) (by kernel_rfl) (by kernel_rfl) (fun _ _ _ h => h) (Or.inl ⟨by rfl, ?_⟩) HX.out ?_
                      rotate_left
                      · intro w' hSw; go_simp
                        try with_reducible rfl
                      go_simp
                      refine wpAnyH_take (i := 7) (v := ?_) rfl (by kernel_rfl) (by kernel_rfl) (by kernel_rfl) (fun _ _ _ h => h) (Or.inl ⟨by rfl, ?_⟩) HX.out ?_
                      rotate_left
                      · intro w' hSw; go_simp
                        try with_reducible rfl
                      go_simp
                      refine wpAnyH_take (i := 8) (v := ?_) rfl (by kernel_rfl) (by kernel_rfl) (by kernel_rfl) (fun _ _ _ h => h) (Or.inl ⟨by rfl, ?_⟩) HX.out ?_
                      rotate_left
                      · intro w' hSw; go_simp
                        try with_reducible rfl
                      go_simp
                      refine wpAnyH_take (i := 9) (v := ?_) rfl (by kernel_rfl) (by kernel_rfl) (by kernel_rfl) (fun _ _ _ h => h) (Or.inl ⟨by rfl, ?_⟩) HX.out ?_
                      rotate_left
                      · intro w' hSw; go_simp
                        try with_reducible rfl
                      go_simp
                      refine wpAnyH_ready (rs := [5]) (by kernel_rfl) (by simp) ?_
                      refine AllReadyH.cons rfl (fun K hK => ?_) AllReadyH.nil
                      go_simp
                      refine (blueTune_no_w (D + 1) D (nl * nb) nl nb t hold u dn nn uu dd _ HTN.out).mono ?_
                      rintro e W1 ⟨rfl, rfl⟩
                      have hX := HX.out
                      (try dsimp only)
                      refine hK.out _ _ (hX) (fun hHeld => ?_)
                      clear HX hK K
                      have HX := Lib.hid hHeld
                      clear hHeld
                      go_simp
                      refine wpAnyH_ready (rs := [10]) (by kernel_rfl) (by simp) ?_
                      refine AllReadyH.cons rfl (fun K hK => ?_) AllReadyH.nil
                      go_simp
                      refine (lawTuned_w nn uu dd _).mono ?_
                      rw [HTD.out]
                      rintro e W2 ⟨rfl, rfl⟩
                      have hX := HX.out
                      (try dsimp only)
                      refine hK.out _ _ (hX) (fun hHeld => ?_)
                      clear HX hK K
                      have HX := Lib.hid hHeld
                      clear hHeld
                      go_simp
                      refine wpAnyH_take (i := 11) (v := ?_) rfl (by kernel_rfl) (by kernel_rfl) (by kernel_rfl) (fun _ _ _ h => h) (Or.inl ⟨by rfl, ?_⟩) HX.out ?_
                      rotate_left
                      · intro w' hSw; go_simp
                        try with_reducible rfl
                      go_simp
                      refine wpAnyH_take (i := 12) (v := ?_) rfl (by kernel_rfl) (by kernel_rfl) (by kernel_rfl) (fun _ _ _ h => h) (Or.inl ⟨by rfl, ?_⟩) HX.out ?_
                      rotate_left
                      · intro w' hSw; go_simp
                        try with_reducible rfl
                      go_simp
                      refine wpAnyH_done (by kernel_rfl) ?_ _
                      go_wp2_with fail
                      go_meet
                      case rel => exact ⟨rfl, false, t, u, dn, A1, c1, ls, rfl, rfl, HST0.out, HF0.out⟩
            case rest =>
              obtain ⟨rfl, b, t, u, dn, A1, c1, ls, rfl, rfl, hst, hfc⟩ := hcut
              clear HSTB HFB f0 f1 f2
              have HSTC := Lib.hid hst
              have HFC := Lib.hid hfc
              obtain ⟨MK, hMK⟩ : ∃ MK : Int, MK = (if flowsB nl nb ks = true then markN nb ks ls.flatten nl else 0) := ⟨_, rfl⟩
              have HMK := Lib.hid hMK
              clear hst hfc hMK
              cases b
              · as_aux_lemma =>
                  go_wp2_with fail
                  refine wp_region_held_drew (S := fun w' => Below wc.heap.size wc w') (by kernel_rfl) ((Below.refl _ _).drew) (fun hHeld => ?_)
                  have HX := Lib.hid hHeld
                  clear hHeld
                  refine wpAnyH_take (i := 0) (v := ?_) rfl (by kernel_rfl) (by kernel_rfl) (by kernel_rfl) (fun _ _ _ h => h) (Or.inl ⟨by rfl, ?_⟩) HX.out ?_
                  rotate_left
                  · intro w' hSw; go_simp
                    try with_reducible rfl
                  go_simp
                  refine wpAnyH_take (i := 1) (v := ?_) rfl (by kernel_rfl) (by kernel_rfl) (by kernel_rfl) (fun _ _ _ h => h) (Or.inl ⟨by rfl, ?_⟩) HX.out ?_
                  rotate_left
                  · intro w' hSw; go_simp
                    try with_reducible rfl
                  go_simp
                  refine wpAnyH_take (i := 2) (v := ?_) rfl (by kernel_rfl) (by kernel_rfl) (by kernel_rfl) (fun _ _ _ h => h) (Or.inl ⟨by rfl, ?_⟩) HX.out ?_
                  rotate_left
                  · intro w' hSw; go_simp
                    try with_reducible rfl
                  go_simp
                  refine wpAnyH_take (i := 3) (v := ?_) rfl (by kernel_rfl) (by kernel_rfl) (by kernel_rfl) (fun _ _ _ h => h) (Or.inl ⟨by rfl, ?_⟩) HX.out ?_
                  rotate_left
                  · intro w' hSw; go_simp
                    try with_reducible rfl
                  go_simp
                  refine wpAnyH_take (i := 4) (v := ?_) rfl (by kernel_rfl) (by kernel_rfl) (by kernel_rfl) (fun _ _ _ h => h) (Or.inl ⟨by rfl, ?_⟩) HX.out ?_
                  rotate_left
                  · intro w' hSw; go_simp
                    try with_reducible rfl
                  go_simp
                  refine wpAnyH_take (i := 5) (v := ?_) rfl (by kernel_rfl) (by kernel_rfl) (by kernel_rfl) (fun _ _ _ h => h) (Or.inl ⟨by rfl, ?_⟩) HX.out ?_
                  rotate_left
                  · intro w' hSw; go_simp
                    try with_reducible rfl
                  go_simp
                  refine wpAnyH_take (i := 6) (v := ?_) rfl (by kernel_rfl) (by kernel_rfl) (by kernel_rfl) (fun _ _ _ h => h) (Or.inl ⟨by rfl, ?_⟩) HX.out ?_
                  rotate_left
                  · intro w' hSw; have hSw2 := (HFC.out.below hSw).cell 1; go_simp
                    try with_reducible rfl
                  go_simp
                  refine wpAnyH_take (i := 8) (v := .agg (rbC A1 nl c1 t hold u dn)) rfl (by kernel_rfl) (by kernel_rfl) (by kernel_rfl) (fun _ _ _ h => h) (Or.inl ⟨by rfl, ?_⟩) HX.out ?_
                  · intro w' hSw
                    have hld := run_loadVar_row (P := Try.prog) w' R 65 65 (rbC A1 nl c1 t hold u dn) (0, 0) _ (HSTC.out.below hSw).ref Try.underlying65 rfl rfl
                    simp [execOp, Act.eval, Instr.loadAt, Instr.sureAddr, Sem.run_bind, hld, Result.andThen]
                  go_simp
                  refine wpAnyH_take (i := 9) (v := ?_) rfl (by kernel_rfl) (by kernel_rfl) (by kernel_rfl) (fun _ _ _ h => h) (Or.inl ⟨by rfl, ?_⟩) HX.out ?_
                  rotate_left
                  · intro w' hSw; go_simp
                    try with_reducible rfl
                  go_simp
                  refine wpAnyH_take (i := 10) (v := ?_) rfl (by kernel_rfl) (by kernel_rfl) (by kernel_rfl) (fun _ _ _ h => h) (Or.inl ⟨by rfl, ?_⟩) HX.out ?_
                  rotate_left
                  · intro w' hSw; have hSw2 := (HFC.out.below hSw).cell 1; go_simp
                    try with_reducible rfl
                  go_simp
                  refine wpAnyH_ready (rs := [7]) (by kernel_rfl) (by simp) ?_
                  refine AllReadyH.cons rfl (fun K hK => ?_) AllReadyH.nil
                  go_simp
                  refine (blueMark_w (D + 1) D (nl * nb) nl nb t hold u dn a m d ks ls.flatten _ (HSTC.out.below HX.out).bl (HSTC.out.below HX.out).bd (HSA0.out.below (HSTC.out.below HX.out).bel) HSTC.out.flen rfl (by omega) (by omega) (by omega) HNEA.out (fun h ad e => Nat.lt_of_lt_of_le (HLTA.out h ad e) (HSTC.out.below HX.out).bel.size)).mono ?_
                  rw [← HMK.out]
                  rintro e W1 ⟨rfl, hb⟩
                  have hX : Below wc.heap.size wc W1 := bl_next HX.out hb
                  clear hb
                  (try dsimp only)
                  refine hK.out _ _ (hX) (fun hHeld => ?_)
                  clear HX hK K
                  have HX := Lib.hid hHeld
                  clear hHeld
                  go_simp
                  refine wpAnyH_ready (rs := [11]) (by kernel_rfl) (by simp) ?_
                  refine AllReadyH.cons rfl (fun K hK => ?_) AllReadyH.nil
                  go_simp
                  refine (rmark_w t hold u dn A1 a nl c1 m d nb (D + 2) ls ks hnl hnb _ (HSTC.out.below HX.out).slb (HSA0.out.below (HSTC.out.below HX.out).bel) HSTC.out.1.2.1 (fun j _ => HSTC.out.1.binp ks j)).mono ?_
                  rw [← HMK.out]
                  rintro e W2 ⟨rfl, hb⟩
                  have hX : Below wc.heap.size wc W2 := bl_next HX.out hb
                  clear hb
                  (try dsimp only)
                  refine hK.out _ _ (hX) (fun hHeld => ?_)
                  clear HX hK K
                  have HX := Lib.hid hHeld
                  clear hHeld
                  go_simp
                  refine wpAnyH_take (i := 12) (v := ?_) rfl (by kernel_rfl) (by kernel_rfl) (by kernel_rfl) (fun _ _ _ h => h) (Or.inl ⟨by rfl, ?_⟩) HX.out ?_
                  rotate_left
                  · intro w' hSw; go_simp
                    try with_reducible rfl
                  go_simp
                  refine wpAnyH_take (i := 13) (v := ?_) rfl (by kernel_rfl) (by kernel_rfl) (by kernel_rfl) (fun _ _ _ h => h) (Or.inl ⟨by rfl, ?_⟩) HX.out ?_
                  rotate_left
                  · intro w' hSw; go_simp
                    try with_reducible rfl
                  go_simp
                  refine wpAnyH_take (i := 14) (v := ?_) rfl (by kernel_rfl) (by kernel_rfl) (by kernel_rfl) (fun _ _ _ h => h) (Or.inl ⟨by rfl, ?_⟩) HX.out ?_
                  rotate_left
                  · intro w' hSw; go_simp
                    try with_reducible rfl
                  go_simp
                  refine wpAnyH_take (i := 15) (v := ?_) rfl (by kernel_rfl) (by kernel_rfl) (by kernel_rfl) (fun _ _ _ h => h) (Or.inl ⟨by rfl, ?_⟩) HX.out ?_
                  rotate_left
                  · intro w' hSw; go_simp
                    try with_reducible rfl
                  go_simp
                  refine wpAnyH_take (i := 16) (v := .agg (rbC A1 nl c1 t hold u dn)) rfl (by kernel_rfl) (by kernel_rfl) (by kernel_rfl) (fun _ _ _ h => h) (Or.inl ⟨by rfl, ?_⟩) HX.out ?_
                  · intro w' hSw
                    have hld := run_loadVar_row (P := Try.prog) w' R 65 65 (rbC A1 nl c1 t hold u dn) (0, 0) _ (HSTC.out.below hSw).ref Try.underlying65 rfl rfl
                    simp [execOp, Act.eval, Instr.loadAt, Instr.sureAddr, Sem.run_bind, hld, Result.andThen]
                  go_simp
                  refine wpAnyH_ready (rs := [17]) (by kernel_rfl) (by simp) ?_
                  refine AllReadyH.cons rfl (fun K hK => ?_) AllReadyH.nil
                  go_simp
                  refine (same_w (D + 1) D (nl * nb) nl nb t hold u dn t hold u dn A1 c1 (D + 2) ls hnl hnb _ (HSTC.out.below HX.out).bl (HSTC.out.below HX.out).bd rfl (HSTC.out.below HX.out).slb HSTC.out.1.2.1).mono ?_
                  rintro e W3 ⟨rfl, hb⟩
                  have hX : Below wc.heap.size wc W3 := bl_next HX.out hb
                  clear hb
                  (try dsimp only)
                  refine hK.out _ _ (hX) (fun hHeld => ?_)
                  clear HX hK K
                  have HX := Lib.hid hHeld
                  clear hHeld
                  go_simp
                  refine wpAnyH_take (i := 18) (v := ?_) rfl (by kernel_rfl) (by kernel_rfl) (by kernel_rfl) (fun _ _ _ h => h) (Or.inl ⟨by rfl, ?_⟩) HX.out ?_
                  rotate_left
                  · intro w' hSw; go_simp
                    try with_reducible rfl
                  go_simp
                  refine wpAnyH_take (i := 19) (v := ?_) rfl (by kernel_rfl) (by kernel_rfl) (by kernel_rfl) (fun _ _ _ h => h) (Or.inl ⟨by rfl, ?_⟩) HX.out ?_
                  rotate_left
                  · intro w' hSw; go_simp
                    try with_reducible rfl
                  go_simp
                  refine wpAnyH_done (by kernel_rfl) ?_ _
                  go_wp2_with fail
                  go_roundw
                  case rel => exact ⟨k + 1, t, u, dn, A1, c1, ls, by omega, by go_num, HSTC.out.below HX.out⟩
                  case measure => simp [intOf]; omega
              · as_aux_lemma =>
                  go_wp2_with fail
                  refine wp_region_held_drew (S := fun w' => Below wc.heap.size wc w') (by kernel_rfl) ((Below.refl _ _).drew) (fun hHeld => ?_)
                  have HX := Lib.hid hHeld
                  clear hHeld
                  refine wpAnyH_take (i := 0) (v := ?_) rfl (by kernel_rfl) (by kernel_rfl) (by kernel_rfl) (fun _ _ _ h => h) (Or.inl ⟨by rfl, ?_⟩) HX.out ?_
                  rotate_left
                  · intro w' hSw; go_simp
                    try with_reducible rfl
                  go_simp
                  refine wpAnyH_take (i := 1) (v := ?_) rfl (by kernel_rfl) (by kernel_rfl) (by kernel_rfl) (fun _ _ _ h => h) (Or.inl ⟨by rfl, ?_⟩) HX.out ?_
                  rotate_left
                  · intro w' hSw; go_simp
                    try with_reducible rfl
                  go_simp
                  refine wpAnyH_take (i := 2) (v := ?_) rfl (by kernel_rfl) (by kernel_rfl) (by kernel_rfl) (fun _ _ _ h => h) (Or.inl ⟨by rfl, ?_⟩) HX.out ?_
                  rotate_left
                  · intro w' hSw; go_simp
                    try with_reducible rfl
                  go_simp
                  refine wpAnyH_take (i := 3) (v := ?_) rfl (by kernel_rfl) (by kernel_rfl) (by kernel_rfl) (fun _ _ _ h => h) (Or.inl ⟨by rfl, ?_⟩) HX.out ?_
                  rotate_left
                  · intro w' hSw; go_simp
                    try with_reducible rfl
                  go_simp
                  refine wpAnyH_take (i := 4) (v := ?_) rfl (by kernel_rfl) (by kernel_rfl) (by kernel_rfl) (fun _ _ _ h => h) (Or.inl ⟨by rfl, ?_⟩) HX.out ?_
                  rotate_left
                  · intro w' hSw; go_simp
                    try with_reducible rfl
                  go_simp
                  refine wpAnyH_take (i := 5) (v := ?_) rfl (by kernel_rfl) (by kernel_rfl) (by kernel_rfl) (fun _ _ _ h => h) (Or.inl ⟨by rfl, ?_⟩) HX.out ?_
                  rotate_left
                  · intro w' hSw; go_simp
                    try with_reducible rfl
                  go_simp
                  refine wpAnyH_take (i := 6) (v := ?_) rfl (by kernel_rfl) (by kernel_rfl) (by kernel_rfl) (fun _ _ _ h => h) (Or.inl ⟨by rfl, ?_⟩) HX.out ?_
                  rotate_left
                  · intro w' hSw; have hSw2 := (HFC.out.below hSw).cell 1; go_simp
                    try with_reducible rfl
                  go_simp
                  refine wpAnyH_take (i := 8) (v := .agg (rbC A1 nl c1 t hold u dn)) rfl (by kernel_rfl) (by kernel_rfl) (by kernel_rfl) (fun _ _ _ h => h) (Or.inl ⟨by rfl, ?_⟩) HX.out ?_
                  · intro w' hSw
                    have hld := run_loadVar_row (P := Try.prog) w' R 65 65 (rbC A1 nl c1 t hold u dn) (0, 0) _ (HSTC.out.below hSw).ref Try.underlying65 rfl rfl
                    simp [execOp, Act.eval, Instr.loadAt, Instr.sureAddr, Sem.run_bind, hld, Result.andThen]
                  go_simp
                  refine wpAnyH_take (i := 9) (v := ?_) rfl (by kernel_rfl) (by kernel_rfl) (by kernel_rfl) (fun _ _ _ h => h) (Or.inl ⟨by rfl, ?_⟩) HX.out ?_
                  rotate_left
                  · intro w' hSw; go_simp
                    try with_reducible rfl
                  go_simp
                  refine wpAnyH_take (i := 10) (v := ?_) rfl (by kernel_rfl) (by kernel_rfl) (by kernel_rfl) (fun _ _ _ h => h) (Or.inl ⟨by rfl, ?_⟩) HX.out ?_
                  rotate_left
                  · intro w' hSw; have hSw2 := (HFC.out.below hSw).cell 1; go_simp
                    try with_reducible rfl
                  go_simp
                  refine wpAnyH_ready (rs := [7]) (by kernel_rfl) (by simp) ?_
                  refine AllReadyH.cons rfl (fun K hK => ?_) AllReadyH.nil
                  go_simp
                  refine (blueMark_w (D + 1) D (nl * nb) nl nb t hold u dn a m d ks ls.flatten _ (HSTC.out.below HX.out).bl (HSTC.out.below HX.out).bd (HSA0.out.below (HSTC.out.below HX.out).bel) HSTC.out.flen rfl (by omega) (by omega) (by omega) HNEA.out (fun h ad e => Nat.lt_of_lt_of_le (HLTA.out h ad e) (HSTC.out.below HX.out).bel.size)).mono ?_
                  rw [← HMK.out]
                  rintro e W1 ⟨rfl, hb⟩
                  have hX : Below wc.heap.size wc W1 := bl_next HX.out hb
                  clear hb
                  (try dsimp only)
                  refine hK.out _ _ (hX) (fun hHeld => ?_)
                  clear HX hK K
                  have HX := Lib.hid hHeld
                  clear hHeld
                  go_simp
                  refine wpAnyH_ready (rs := [11]) (by kernel_rfl) (by simp) ?_
                  refine AllReadyH.cons rfl (fun K hK => ?_) AllReadyH.nil
                  go_simp
                  refine (rmark_w t hold u dn A1 a nl c1 m d nb (D + 2) ls ks hnl hnb _ (HSTC.out.below HX.out).slb (HSA0.out.below (HSTC.out.below HX.out).bel) HSTC.out.1.2.1 (fun j _ => HSTC.out.1.binp ks j)).mono ?_
                  rw [← HMK.out]
                  rintro e W2 ⟨rfl, hb⟩
                  have hX : Below wc.heap.size wc W2 := bl_next HX.out hb
                  clear hb
                  (try dsimp only)
                  refine hK.out _ _ (hX) (fun hHeld => ?_)
                  clear HX hK K
                  have HX := Lib.hid hHeld
                  clear hHeld
                  go_simp
                  refine wpAnyH_take (i := 12) (v := ?_) rfl (by kernel_rfl) (by kernel_rfl) (by kernel_rfl) (fun _ _ _ h => h) (Or.inl ⟨by rfl, ?_⟩) HX.out ?_
                  rotate_left
                  · intro w' hSw; go_simp
                    try with_reducible rfl
                  go_simp
                  refine wpAnyH_take (i := 13) (v := ?_) rfl (by kernel_rfl) (by kernel_rfl) (by kernel_rfl) (fun _ _ _ h => h) (Or.inl ⟨by rfl, ?_⟩) HX.out ?_
                  rotate_left
                  · intro w' hSw; go_simp
                    try with_reducible rfl
                  go_simp
                  refine wpAnyH_take (i := 14) (v := ?_) rfl (by kernel_rfl) (by kernel_rfl) (by kernel_rfl) (fun _ _ _ h => h) (Or.inl ⟨by rfl, ?_⟩) HX.out ?_
                  rotate_left
                  · intro w' hSw; go_simp
                    try with_reducible rfl
                  go_simp
                  refine wpAnyH_take (i := 15) (v := ?_) rfl (by kernel_rfl) (by kernel_rfl) (by kernel_rfl) (fun _ _ _ h => h) (Or.inl ⟨by rfl, ?_⟩) HX.out ?_
                  rotate_left
                  · intro w' hSw; go_simp
                    try with_reducible rfl
                  go_simp
                  refine wpAnyH_take (i := 16) (v := .agg (rbC A1 nl c1 t hold u dn)) rfl (by kernel_rfl) (by kernel_rfl) (by kernel_rfl) (fun _ _ _ h => h) (Or.inl ⟨by rfl, ?_⟩) HX.out ?_
                  · intro w' hSw
                    have hld := run_loadVar_row (P := Try.prog) w' R 65 65 (rbC A1 nl c1 t hold u dn) (0, 0) _ (HSTC.out.below hSw).ref Try.underlying65 rfl rfl
                    simp [execOp, Act.eval, Instr.loadAt, Instr.sureAddr, Sem.run_bind, hld, Result.andThen]
                  go_simp
                  refine wpAnyH_ready (rs := [17]) (by kernel_rfl) (by simp) ?_
                  refine AllReadyH.cons rfl (fun K hK => ?_) AllReadyH.nil
                  go_simp
                  refine (same_w (D + 1) D (nl * nb) nl nb t hold u dn t hold u dn A1 c1 (D + 2) ls hnl hnb _ (HSTC.out.below HX.out).bl (HSTC.out.below HX.out).bd rfl (HSTC.out.below HX.out).slb HSTC.out.1.2.1).mono ?_
                  rintro e W3 ⟨rfl, hb⟩
                  have hX : Below wc.heap.size wc W3 := bl_next HX.out hb
                  clear hb
                  (try dsimp only)
                  refine hK.out _ _ (hX) (fun hHeld => ?_)
                  clear HX hK K
                  have HX := Lib.hid hHeld
                  clear hHeld
                  go_simp
                  refine wpAnyH_take (i := 18) (v := ?_) rfl (by kernel_rfl) (by kernel_rfl) (by kernel_rfl) (fun _ _ _ h => h) (Or.inl ⟨by rfl, ?_⟩) HX.out ?_
                  rotate_left
                  · intro w' hSw; go_simp
                    try with_reducible rfl
                  go_simp
                  refine wpAnyH_take (i := 19) (v := ?_) rfl (by kernel_rfl) (by kernel_rfl) (by kernel_rfl) (fun _ _ _ h => h) (Or.inl ⟨by rfl, ?_⟩) HX.out ?_
                  rotate_left
                  · intro w' hSw; go_simp
                    try with_reducible rfl
                  go_simp
                  refine wpAnyH_done (by kernel_rfl) ?_ _
                  go_wp2_with fail
                  go_roundw
                  case rel => exact ⟨k + 1, t, u, dn, A1, c1, ls, by omega, by go_num, HSTC.out.below HX.out⟩
                  case measure => simp [intOf]; omega
        · obtain rfl : k = n := by omega
          go_wp2_with fail

          go_ret
          exact ⟨rfl, HST.out.bel⟩
    · as_aux_lemma =>
        have HOK := Lib.hid hok
        clear hok
        go_wp2_with fail
        refine (blueNew_no_w levels bins target hold up down _ HOK.out).mono ?_
        rintro e w' ⟨rfl, rfl⟩
        have e0 : w1.cell? ⟨w.heap.size, 0, none⟩ = some (.int .i64 levels) := HE1.out.cell 0
        have e1 : w1.cell? ⟨w.heap.size, 1, none⟩ = some (.int .i64 bins) := HE1.out.cell 1
        have e2 : w1.cell? ⟨w.heap.size, 2, none⟩ = some (.int .i64 up) := HE1.out.cell 2
        have e3 : w1.cell? ⟨w.heap.size, 3, none⟩ = some (.int .i64 down) := HE1.out.cell 3
        have e4 : w1.cell? ⟨w.heap.size, 4, none⟩ = some (.int .i64 target) := HE1.out.cell 4
        have e5 : w1.cell? ⟨w.heap.size, 5, none⟩ = some (.int .i64 hold) := HE1.out.cell 5
        go_upto_region 4 with (fail)
        go_cut [76] from 39 to 76 (fun s76 wx => s76 = .bool true ∧ w1 = wx)
        case first =>
          by_cases h0 : levels < 1
          · have q0 : decide (levels < 1) = true := decide_eq_true h0
            go_wp2_with fail
            go_meet
            case rel => exact ⟨rfl, rfl⟩
          · have q0 : decide (levels < 1) = false := decide_eq_false h0
            by_cases h1 : 4 < levels
            · have q1 : decide (4 < levels) = true := decide_eq_true h1
              go_wp2_with fail
              go_meet
              case rel => exact ⟨rfl, rfl⟩
            · have q1 : decide (4 < levels) = false := decide_eq_false h1
              by_cases h2 : bins < 1
              · have q2 : decide (bins < 1) = true := decide_eq_true h2
                go_wp2_with fail
                go_meet
                case rel => exact ⟨rfl, rfl⟩
              · have q2 : decide (bins < 1) = false := decide_eq_false h2
                by_cases h3 : 64 < bins
                · have q3 : decide (64 < bins) = true := decide_eq_true h3
                  go_wp2_with fail
                  go_meet
                  case rel => exact ⟨rfl, rfl⟩
                · have q3 : decide (64 < bins) = false := decide_eq_false h3
                  by_cases h4 : hold < 0
                  · have q4 : decide (hold < 0) = true := decide_eq_true h4
                    go_wp2_with fail
                    go_meet
                    case rel => exact ⟨rfl, rfl⟩
                  · have q4 : decide (hold < 0) = false := decide_eq_false h4
                    by_cases h5 : 4611686018427387903 < hold
                    · have q5 : decide (4611686018427387903 < hold) = true := decide_eq_true h5
                      go_wp2_with fail
                      go_meet
                      case rel => exact ⟨rfl, rfl⟩
                    · have q5 : decide (4611686018427387903 < hold) = false := decide_eq_false h5
                      have HTU := Lib.hid (show decide (0 ≤ target ∧ target ≤ 1073741824 ∧ 0 ≤ up ∧ up ≤ 65536 ∧ 0 ≤ down ∧ down ≤ 65536) = false from decide_eq_false (fun hh => HOK.out (by unfold setOk; omega)))
                      go_wp2_with fail
                      refine (lawTuned_w target up down _).mono ?_
                      rintro e w' ⟨rfl, rfl⟩
                      rw [HTU.out]
                      go_wp2_with fail
                      go_meet
                      case rel => exact ⟨rfl, rfl⟩
        case rest =>
          obtain ⟨rfl, rfl⟩ := hcut
          go_wp2_with fail
          refine (putNil_w _).mono ?_
          rintro e w2 ⟨rfl, hb2⟩
          have HW2 := Lib.hid (bl_next HW1.out hb2)
          clear hb2
          go_wp2_with fail
          refine (markNil_w _).mono ?_
          rintro e w3 ⟨rfl, hb3⟩
          have HW3 := Lib.hid (bl_next HW2.out hb3)
          clear hb3
          go_wp2
          go_ret
          exact ⟨rfl, HW3.out⟩
end Go.Proofs.Ytcgabjjdffcjbaa
