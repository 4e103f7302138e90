/- The walk of AuditSums: it answers true. -/
import Derived.Test.YtlnfenjoagkpdaaAuC
namespace Go.Proofs.Ytlnfenjoagkpdaa
open Go.RowKit
set_option linter.unusedVariables false
set_option linter.unusedSimpArgs false

set_option maxRecDepth 100000 in
set_option maxHeartbeats 8000000 in
theorem AuditSums_w (A : Option Addr) (n cp : Nat) (rows : List (List Value)) (c : Int) (w : World) (hs : SlQ (List.replicate 5 (.i .i64)) w A n cp rows) (hw1 : (Lit.int .i64 c).wf = true) :
    Calls Try.prog 10 #[.slice A n cp, .int .i64 c] w fun e w' => e = .returned (.bool true) ∧ Below w.heap.size w w' := by
  have hn63 : n ≤ 9223372036854775807 := Nat.le_trans hs.2.1 hs.2.2.1
  obtain ⟨l, hsl, hl⟩ := hs.dps
  have HS := Lib.hid hsl
  clear hs hsl
  go_enter Try.func10, Try.ntmps10
  go_wp2_with fail
  refine (awake32_w _).mono ?_
  rintro e w1 ⟨rfl, hb1⟩
  have HB1 := Lib.hid hb1
  have HS1 := Lib.hid (HS.out.below hb1)
  clear hb1
  by_cases h40 : 40 < n
  · have h40' : (40 : Int) < (n : Int) := by omega
    go_wp2_with fail
    refine (awake32_w _).mono ?_
    rintro e w2 ⟨rfl, hb2⟩
    have HB2 := Lib.hid (bl_next HB1.out hb2)
    clear hb2
    go_wp2
    go_ret
    exact ⟨rfl, HB2.out⟩
  · have h40' : ¬ (40 : Int) < (n : Int) := by omega
    go_wp2_with fail
    go_loopw [5, 6, 7, 21] (fun sa sb sm i wr => ∃ (k : Nat) (mb : Bool), k ≤ n ∧ i = .int .i64 k ∧ sa = .int .i64 (lenS (l.take k)) ∧ sb = .int .i64 (byV l k) ∧ sm = .bool mb ∧ (mb = true ↔ ∃ d ∈ l.take k, d.cl = c) ∧ okLen (l.take k) ∧ SlD wr A n cp l ∧ Below w.heap.size w wr) (fun _ _ _ i _ => n - (intOf i).toNat)
    case atStart => exact ⟨0, false, Nat.zero_le _, rfl, rfl, rfl, rfl, by simp, (by intro d hd; simp at hd), HS1.out, HB1.out⟩
    case round =>
      obtain ⟨k, mb, hk, rfl, rfl, rfl, rfl, hmb, hok, hsd, hbl⟩ := hrel
      have HMB := Lib.hid hmb
      have HOK := Lib.hid hok
      have HSD := Lib.hid hsd
      have HBL := Lib.hid hbl
      clear hmb hok hsd hbl
      obtain ⟨sa, hsa⟩ : ∃ sa, sa = lenS (l.take k) := ⟨_, rfl⟩
      obtain ⟨sb, hsb⟩ : ∃ sb, sb = byV l k := ⟨_, rfl⟩
      have hbd := lenS_bound HOK.out
      have htl : (l.take k).length ≤ 40 := by rw [List.length_take]; omega
      rw [← hsa] at hbd
      rw [← hsa, ← hsb]
      have HSA := Lib.hid hsa
      have HSB := Lib.hid hsb
      clear hsa hsb
      by_cases hlt : k < n
      · obtain ⟨d, hd⟩ : ∃ d, l[k]? = some d := ⟨_, List.getElem?_eq_getElem (by rw [HSD.out.1]; exact hlt)⟩
        obtain ⟨b, o, rfl, _, r1, r2, _, _⟩ := HSD.out.dp hd
        have hk0 : (0 : Int) ≤ (k : Int) := Int.natCast_nonneg k
        have hk1 : (k : Int) < (n : Int) := by omega
        have HD := Lib.hid hd
        clear hd
        by_cases h1 : d.ln < 0
        · have d1 : decide (d.ln < 0) = true := decide_eq_true h1
          go_wp2
          go_ret
          exact ⟨rfl, HBL.out⟩
        · have d1 : decide (d.ln < 0) = false := decide_eq_false h1
          by_cases h2 : 9216 < d.ln
          · have d2 : decide (9216 < d.ln) = true := decide_eq_true h2
            go_wp2
            go_ret
            exact ⟨rfl, HBL.out⟩
          · have d2 : decide (9216 < d.ln) = false := decide_eq_false h2
            have a1 : IntKind.i64.wrap (sa + d.ln) = sa + d.ln := IntWalk.i64_in _ (by omega)
            have HLT := Lib.hid (show lenS (l.take (k + 1)) = sa + d.ln by rw [lenS_take HD.out, HSA.out])
            have HOK1 := Lib.hid (show okLen (l.take (k + 1)) from fun x hx => by
              obtain ⟨h3, h4⟩ := List.getElem?_eq_some_iff.1 HD.out
              rw [List.take_succ_eq_append_getElem h3, h4] at hx
              rcases List.mem_append.1 hx with hx | hx
              · exact HOK.out x hx
              · simp at hx; subst hx; omega)
            obtain ⟨mb2, hmb2⟩ : ∃ mb2, mb2 = (mb || decide (d.cl = c)) := ⟨_, rfl⟩
            have HM2 := Lib.hid (show mb2 = true ↔ ∃ x ∈ l.take (k + 1), x.cl = c by
              obtain ⟨h3, h4⟩ := List.getElem?_eq_some_iff.1 HD.out
              rw [List.take_succ_eq_append_getElem h3, h4, hmb2]
              simp only [Bool.or_eq_true, decide_eq_true_eq, HMB.out]
              constructor
              · rintro (⟨x, hx, hc⟩ | h)
                · exact ⟨x, by simp [hx], hc⟩
                · exact ⟨d, by simp, h⟩
              · rintro ⟨x, hx, hc⟩
                rcases List.mem_append.1 hx with hx | hx
                · exact .inl ⟨x, hx, hc⟩
                · simp at hx; subst hx; exact .inr hc)
            have HMM := Lib.hid hmb2
            clear hmb2
            cases mb with
            | true =>
              have HM3 := Lib.hid (show mb2 = true by rw [HMM.out]; rfl)
              go_upto_region 12 with (fail)
              go_wp2_with fail
              go_loopw [9, 56] (fun sf i wq => ∃ (j : Nat) (fb : Bool), j ≤ k ∧ i = .int .i64 j ∧ sf = .bool fb ∧ (fb = true ↔ d.cl ∉ clsT l j) ∧ SlD wq (some ⟨b, o, none⟩) n cp l ∧ Below w.heap.size w wq) (fun _ i _ => k - (intOf i).toNat)
              case atStart => exact ⟨0, true, Nat.zero_le _, rfl, rfl, by simp [clsT], HSD.out, HBL.out⟩
              case round =>
                obtain ⟨j, fb, hj, rfl, rfl, hfb, hsd, hbl⟩ := hrel
                clear HSD HBL
                have HFB := Lib.hid hfb
                have HSD := Lib.hid hsd
                have HBL := Lib.hid hbl
                clear hfb hsd hbl r1 r2
                obtain ⟨b', o', e', _, r1, r2, _, _⟩ := HSD.out.dp HD.out
                cases e'
                by_cases hjk : j < k
                · obtain ⟨x, hx⟩ : ∃ x, l[j]? = some x := ⟨_, List.getElem?_eq_getElem (by rw [HSD.out.1]; omega)⟩
                  obtain ⟨b3, o3, e3, _, x1, _, _, _⟩ := HSD.out.dp hx
                  cases e3
                  have hj0 : (0 : Int) ≤ (j : Int) := Int.natCast_nonneg j
                  have hj1 : (j : Int) < (k : Int) := by omega
                  have hj2 : (j : Int) < (n : Int) := by omega
                  have HXJ := Lib.hid (clsT_step hx)
                  clear hx
                  cases fb with
                  | false =>
                    have HN := Lib.hid (show ¬ d.cl ∉ clsT l j from fun h => by have := HFB.out.2 h; cases this)
                    go_wp2_with fail
                    go_quiet (fail)
                    go_wp2_with fail
                    go_roundw
                    case rel => exact ⟨j + 1, false, by omega, by go_num, rfl, ⟨(fun h => by cases h), (fun h => absurd (fun hm => h (by rw [HXJ.out]; simp [hm])) HN.out)⟩, (by first | exact HSD.out.below (bl_drewN (Below.refl _ _) _) | exact HSD.out), (by first | exact bl_drewN HBL.out _ | exact HBL.out)⟩
                    case measure => simp [intOf]; omega
                  | true =>
                    have HN := Lib.hid (HFB.out.1 rfl)
                    by_cases hcc : x.cl = d.cl
                    · have d5 : decide (x.cl = d.cl) = true := decide_eq_true hcc
                      have d6 : (x.cl == d.cl) = true := by simp [hcc]
                      have d7 : (x.cl != d.cl) = false := by simp [hcc]
                      have HCC := Lib.hid hcc
                      clear hcc
                      go_wp2_with fail
                      go_quiet (fail)
                      go_wp2_with fail
                      go_roundw
                      case rel => exact ⟨j + 1, false, by omega, by go_num, rfl, ⟨(fun h => by cases h), (fun h => absurd (by rw [HXJ.out, HCC.out]; simp) h)⟩, (by first | exact HSD.out.below (bl_drewN (Below.refl _ _) _) | exact HSD.out), (by first | exact bl_drewN HBL.out _ | exact HBL.out)⟩
                      case measure => simp [intOf]; omega
                    · have d5 : decide (x.cl = d.cl) = false := decide_eq_false hcc
                      have d6 : (x.cl == d.cl) = false := by simp [hcc]
                      have d7 : (x.cl != d.cl) = true := by simp [hcc]
                      have HCC := Lib.hid hcc
                      clear hcc
                      go_wp2_with fail
                      go_quiet (fail)
                      go_wp2_with fail
                      go_roundw
                      case rel => exact ⟨j + 1, true, by omega, by go_num, rfl, ⟨(fun _ hm => by
                        rw [HXJ.out] at hm
                        rcases List.mem_append.1 hm with hm | hm
                        · exact HN.out hm
                        · simp at hm
                          exact HCC.out hm.symm), (fun _ => rfl)⟩, (by first | exact HSD.out.below (bl_drewN (Below.refl _ _) _) | exact HSD.out), (by first | exact bl_drewN HBL.out _ | exact HBL.out)⟩
                      case measure => simp [intOf]; omega
                · have hjk' : j = k := by omega
                  have hj1 : ¬ (j : Int) < (k : Int) := by omega
                  have hj3 : ¬ j < k := hjk
                  rw [hjk'] at HFB
                  have HJK := Lib.hid hjk'
                  clear hjk'
                  have HST := Lib.hid (byV_step HD.out)
                  cases fb with
                  | true =>
                    have HN := Lib.hid (HFB.out.1 rfl)
                    go_wp2_with fail
                    refine (served_w _ n cp l hl d.cl _ HSD.out).mono ?_
                    rintro e w5 ⟨rfl, h5⟩
                    have HS5 := Lib.hid (HSD.out.below h5)
                    have HB5 := Lib.hid (bl_next HBL.out h5)
                    clear h5
                    obtain ⟨sw, hsw⟩ : ∃ sw, sw = IntKind.i64.wrap (sb + servedV l d.cl) := ⟨_, rfl⟩
                    have a2 : IntKind.i64.wrap (sb + servedV l d.cl) = sw := hsw.symm
                    have HBV := Lib.hid (show byV l (k + 1) = sw by rw [HST.out, if_neg HN.out, ← HSB.out, hsw])
                    clear hsw
                    go_wp2_with fail
                    go_roundw
                    case rel => exact ⟨k + 1, mb2, by omega, by go_num, by rw [HLT.out], by rw [HBV.out], by rw [HM3.out], HM2.out, HOK1.out, HS5.out, HB5.out⟩
                    case measure => simp [intOf]; omega
                  | false =>
                    have HN := Lib.hid (show d.cl ∈ clsT l k from Classical.byContradiction fun h => by have := HFB.out.2 h; cases this)
                    have HBV := Lib.hid (show byV l (k + 1) = sb by rw [HST.out, if_pos HN.out, ← HSB.out])
                    go_wp2_with fail
                    go_roundw
                    case rel => exact ⟨k + 1, mb2, by omega, by go_num, by rw [HLT.out], by rw [HBV.out], by rw [HM3.out], HM2.out, HOK1.out, HSD.out, HBL.out⟩
                    case measure => simp [intOf]; omega
            | false =>
              by_cases hc : d.cl = c
              · have d3 : decide (d.cl = c) = true := decide_eq_true hc
                have d4 : (d.cl == c) = true := by simp [hc]
                have HM3 := Lib.hid (show mb2 = true by rw [HMM.out, d3]; rfl)
                clear hc
                go_upto_region 12 with (fail)
                go_wp2_with fail
                go_loopw [9, 56] (fun sf i wq => ∃ (j : Nat) (fb : Bool), j ≤ k ∧ i = .int .i64 j ∧ sf = .bool fb ∧ (fb = true ↔ d.cl ∉ clsT l j) ∧ SlD wq (some ⟨b, o, none⟩) n cp l ∧ Below w.heap.size w wq) (fun _ i _ => k - (intOf i).toNat)
                case atStart => exact ⟨0, true, Nat.zero_le _, rfl, rfl, by simp [clsT], HSD.out, HBL.out⟩
                case round =>
                  obtain ⟨j, fb, hj, rfl, rfl, hfb, hsd, hbl⟩ := hrel
                  clear HSD HBL
                  have HFB := Lib.hid hfb
                  have HSD := Lib.hid hsd
                  have HBL := Lib.hid hbl
                  clear hfb hsd hbl r1 r2
                  obtain ⟨b', o', e', _, r1, r2, _, _⟩ := HSD.out.dp HD.out
                  cases e'
                  by_cases hjk : j < k
                  · obtain ⟨x, hx⟩ : ∃ x, l[j]? = some x := ⟨_, List.getElem?_eq_getElem (by rw [HSD.out.1]; omega)⟩
                    obtain ⟨b3, o3, e3, _, x1, _, _, _⟩ := HSD.out.dp hx
                    cases e3
                    have hj0 : (0 : Int) ≤ (j : Int) := Int.natCast_nonneg j
                    have hj1 : (j : Int) < (k : Int) := by omega
                    have hj2 : (j : Int) < (n : Int) := by omega
                    have HXJ := Lib.hid (clsT_step hx)
                    clear hx
                    cases fb with
                    | false =>
                      have HN := Lib.hid (show ¬ d.cl ∉ clsT l j from fun h => by have := HFB.out.2 h; cases this)
                      go_wp2_with fail
                      go_quiet (fail)
                      go_wp2_with fail
                      go_roundw
                      case rel => exact ⟨j + 1, false, by omega, by go_num, rfl, ⟨(fun h => by cases h), (fun h => absurd (fun hm => h (by rw [HXJ.out]; simp [hm])) HN.out)⟩, (by first | exact HSD.out.below (bl_drewN (Below.refl _ _) _) | exact HSD.out), (by first | exact bl_drewN HBL.out _ | exact HBL.out)⟩
                      case measure => simp [intOf]; omega
                    | true =>
                      have HN := Lib.hid (HFB.out.1 rfl)
                      by_cases hcc : x.cl = d.cl
                      · have d5 : decide (x.cl = d.cl) = true := decide_eq_true hcc
                        have d6 : (x.cl == d.cl) = true := by simp [hcc]
                        have d7 : (x.cl != d.cl) = false := by simp [hcc]
                        have HCC := Lib.hid hcc
                        clear hcc
                        go_wp2_with fail
                        go_quiet (fail)
                        go_wp2_with fail
                        go_roundw
                        case rel => exact ⟨j + 1, false, by omega, by go_num, rfl, ⟨(fun h => by cases h), (fun h => absurd (by rw [HXJ.out, HCC.out]; simp) h)⟩, (by first | exact HSD.out.below (bl_drewN (Below.refl _ _) _) | exact HSD.out), (by first | exact bl_drewN HBL.out _ | exact HBL.out)⟩
                        case measure => simp [intOf]; omega
                      · have d5 : decide (x.cl = d.cl) = false := decide_eq_false hcc
                        have d6 : (x.cl == d.cl) = false := by simp [hcc]
                        have d7 : (x.cl != d.cl) = true := by simp [hcc]
                        have HCC := Lib.hid hcc
                        clear hcc
                        go_wp2_with fail
                        go_quiet (fail)
                        go_wp2_with fail
                        go_roundw
                        case rel => exact ⟨j + 1, true, by omega, by go_num, rfl, ⟨(fun _ hm => by
                          rw [HXJ.out] at hm
                          rcases List.mem_append.1 hm with hm | hm
                          · exact HN.out hm
                          · simp at hm
                            exact HCC.out hm.symm), (fun _ => rfl)⟩, (by first | exact HSD.out.below (bl_drewN (Below.refl _ _) _) | exact HSD.out), (by first | exact bl_drewN HBL.out _ | exact HBL.out)⟩
                        case measure => simp [intOf]; omega
                  · have hjk' : j = k := by omega
                    have hj1 : ¬ (j : Int) < (k : Int) := by omega
                    have hj3 : ¬ j < k := hjk
                    rw [hjk'] at HFB
                    have HJK := Lib.hid hjk'
                    clear hjk'
                    have HST := Lib.hid (byV_step HD.out)
                    cases fb with
                    | true =>
                      have HN := Lib.hid (HFB.out.1 rfl)
                      go_wp2_with fail
                      refine (served_w _ n cp l hl d.cl _ HSD.out).mono ?_
                      rintro e w5 ⟨rfl, h5⟩
                      have HS5 := Lib.hid (HSD.out.below h5)
                      have HB5 := Lib.hid (bl_next HBL.out h5)
                      clear h5
                      obtain ⟨sw, hsw⟩ : ∃ sw, sw = IntKind.i64.wrap (sb + servedV l d.cl) := ⟨_, rfl⟩
                      have a2 : IntKind.i64.wrap (sb + servedV l d.cl) = sw := hsw.symm
                      have HBV := Lib.hid (show byV l (k + 1) = sw by rw [HST.out, if_neg HN.out, ← HSB.out, hsw])
                      clear hsw
                      go_wp2_with fail
                      go_roundw
                      case rel => exact ⟨k + 1, mb2, by omega, by go_num, by rw [HLT.out], by rw [HBV.out], by rw [HM3.out], HM2.out, HOK1.out, HS5.out, HB5.out⟩
                      case measure => simp [intOf]; omega
                    | false =>
                      have HN := Lib.hid (show d.cl ∈ clsT l k from Classical.byContradiction fun h => by have := HFB.out.2 h; cases this)
                      have HBV := Lib.hid (show byV l (k + 1) = sb by rw [HST.out, if_pos HN.out, ← HSB.out])
                      go_wp2_with fail
                      go_roundw
                      case rel => exact ⟨k + 1, mb2, by omega, by go_num, by rw [HLT.out], by rw [HBV.out], by rw [HM3.out], HM2.out, HOK1.out, HSD.out, HBL.out⟩
                      case measure => simp [intOf]; omega
              · have d3 : decide (d.cl = c) = false := decide_eq_false hc
                have d4 : (d.cl == c) = false := by simp [hc]
                have HM3 := Lib.hid (show mb2 = false by rw [HMM.out, d3]; rfl)
                clear hc
                go_upto_region 12 with (fail)
                go_wp2_with fail
                go_loopw [9, 56] (fun sf i wq => ∃ (j : Nat) (fb : Bool), j ≤ k ∧ i = .int .i64 j ∧ sf = .bool fb ∧ (fb = true ↔ d.cl ∉ clsT l j) ∧ SlD wq (some ⟨b, o, none⟩) n cp l ∧ Below w.heap.size w wq) (fun _ i _ => k - (intOf i).toNat)
                case atStart => exact ⟨0, true, Nat.zero_le _, rfl, rfl, by simp [clsT], HSD.out, HBL.out⟩
                case round =>
                  obtain ⟨j, fb, hj, rfl, rfl, hfb, hsd, hbl⟩ := hrel
                  clear HSD HBL
                  have HFB := Lib.hid hfb
                  have HSD := Lib.hid hsd
                  have HBL := Lib.hid hbl
                  clear hfb hsd hbl r1 r2
                  obtain ⟨b', o', e', _, r1, r2, _, _⟩ := HSD.out.dp HD.out
                  cases e'
                  by_cases hjk : j < k
                  · obtain ⟨x, hx⟩ : ∃ x, l[j]? = some x := ⟨_, List.getElem?_eq_getElem (by rw [HSD.out.1]; omega)⟩
                    obtain ⟨b3, o3, e3, _, x1, _, _, _⟩ := HSD.out.dp hx
                    cases e3
                    have hj0 : (0 : Int) ≤ (j : Int) := Int.natCast_nonneg j
                    have hj1 : (j : Int) < (k : Int) := by omega
                    have hj2 : (j : Int) < (n : Int) := by omega
                    have HXJ := Lib.hid (clsT_step hx)
                    clear hx
                    cases fb with
                    | false =>
                      have HN := Lib.hid (show ¬ d.cl ∉ clsT l j from fun h => by have := HFB.out.2 h; cases this)
                      go_wp2_with fail
                      go_quiet (fail)
                      go_wp2_with fail
                      go_roundw
                      case rel => exact ⟨j + 1, false, by omega, by go_num, rfl, ⟨(fun h => by cases h), (fun h => absurd (fun hm => h (by rw [HXJ.out]; simp [hm])) HN.out)⟩, (by first | exact HSD.out.below (bl_drewN (Below.refl _ _) _) | exact HSD.out), (by first | exact bl_drewN HBL.out _ | exact HBL.out)⟩
                      case measure => simp [intOf]; omega
                    | true =>
                      have HN := Lib.hid (HFB.out.1 rfl)
                      by_cases hcc : x.cl = d.cl
                      · have d5 : decide (x.cl = d.cl) = true := decide_eq_true hcc
                        have d6 : (x.cl == d.cl) = true := by simp [hcc]
                        have d7 : (x.cl != d.cl) = false := by simp [hcc]
                        have HCC := Lib.hid hcc
                        clear hcc
                        go_wp2_with fail
                        go_quiet (fail)
                        go_wp2_with fail
                        go_roundw
                        case rel => exact ⟨j + 1, false, by omega, by go_num, rfl, ⟨(fun h => by cases h), (fun h => absurd (by rw [HXJ.out, HCC.out]; simp) h)⟩, (by first | exact HSD.out.below (bl_drewN (Below.refl _ _) _) | exact HSD.out), (by first | exact bl_drewN HBL.out _ | exact HBL.out)⟩
                        case measure => simp [intOf]; omega
                      · have d5 : decide (x.cl = d.cl) = false := decide_eq_false hcc
                        have d6 : (x.cl == d.cl) = false := by simp [hcc]
                        have d7 : (x.cl != d.cl) = true := by simp [hcc]
                        have HCC := Lib.hid hcc
                        clear hcc
                        go_wp2_with fail
                        go_quiet (fail)
                        go_wp2_with fail
                        go_roundw
                        case rel => exact ⟨j + 1, true, by omega, by go_num, rfl, ⟨(fun _ hm => by
                          rw [HXJ.out] at hm
                          rcases List.mem_append.1 hm with hm | hm
                          · exact HN.out hm
                          · simp at hm
                            exact HCC.out hm.symm), (fun _ => rfl)⟩, (by first | exact HSD.out.below (bl_drewN (Below.refl _ _) _) | exact HSD.out), (by first | exact bl_drewN HBL.out _ | exact HBL.out)⟩
                        case measure => simp [intOf]; omega
                  · have hjk' : j = k := by omega
                    have hj1 : ¬ (j : Int) < (k : Int) := by omega
                    have hj3 : ¬ j < k := hjk
                    rw [hjk'] at HFB
                    have HJK := Lib.hid hjk'
                    clear hjk'
                    have HST := Lib.hid (byV_step HD.out)
                    cases fb with
                    | true =>
                      have HN := Lib.hid (HFB.out.1 rfl)
                      go_wp2_with fail
                      refine (served_w _ n cp l hl d.cl _ HSD.out).mono ?_
                      rintro e w5 ⟨rfl, h5⟩
                      have HS5 := Lib.hid (HSD.out.below h5)
                      have HB5 := Lib.hid (bl_next HBL.out h5)
                      clear h5
                      obtain ⟨sw, hsw⟩ : ∃ sw, sw = IntKind.i64.wrap (sb + servedV l d.cl) := ⟨_, rfl⟩
                      have a2 : IntKind.i64.wrap (sb + servedV l d.cl) = sw := hsw.symm
                      have HBV := Lib.hid (show byV l (k + 1) = sw by rw [HST.out, if_neg HN.out, ← HSB.out, hsw])
                      clear hsw
                      go_wp2_with fail
                      go_roundw
                      case rel => exact ⟨k + 1, mb2, by omega, by go_num, by rw [HLT.out], by rw [HBV.out], by rw [HM3.out], HM2.out, HOK1.out, HS5.out, HB5.out⟩
                      case measure => simp [intOf]; omega
                    | false =>
                      have HN := Lib.hid (show d.cl ∈ clsT l k from Classical.byContradiction fun h => by have := HFB.out.2 h; cases this)
                      have HBV := Lib.hid (show byV l (k + 1) = sb by rw [HST.out, if_pos HN.out, ← HSB.out])
                      go_wp2_with fail
                      go_roundw
                      case rel => exact ⟨k + 1, mb2, by omega, by go_num, by rw [HLT.out], by rw [HBV.out], by rw [HM3.out], HM2.out, HOK1.out, HSD.out, HBL.out⟩
                      case measure => simp [intOf]; omega
      · have hk1 : ¬ (k : Int) < (n : Int) := by omega
        have hkn : k = l.length := by rw [HSD.out.1]; omega
        have HE := Lib.hid (show l.take k = l from List.take_of_length_le (by omega))
        rw [HE.out] at HSA HMB HOK
        have HEQ := Lib.hid (show sa = sb by rw [HSA.out, HSB.out, hkn, byV_all HOK.out (by rw [HSD.out.1]; omega)])
        have q1 : (sa == sb) = true := by simp [HEQ.out]
        have q2 : decide (sa = sb) = true := decide_eq_true HEQ.out
        clear hkn
        cases mb with
        | true =>
          go_wp2
          go_ret
          exact ⟨rfl, HBL.out⟩
        | false =>
          go_wp2_with fail
          refine (served_w A n cp l hl c _ HSD.out).mono ?_
          rintro e w5 ⟨rfl, h5⟩
          rw [served_zero (fun x hx hc => by
            have := HMB.out.2 ⟨x, hx, hc⟩
            cases this)]
          have HB5 := Lib.hid (bl_next HBL.out h5)
          clear h5
          go_wp2
          go_ret
          exact ⟨rfl, HB5.out⟩
end Go.Proofs.Ytlnfenjoagkpdaa
