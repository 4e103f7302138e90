/- The walk of AuditParts: it answers true. -/
import Derived.Test.YtlnfenjoagkpdaaAuC
namespace Go.Proofs.Ytlnfenjoagkpdaa
open Go.RowKit
set_option linter.unusedVariables false
set_option linter.unusedSimpArgs false

/-- The log and its two parts are read. -/
def St4 (w : World) (A : Option Addr) (n cp : Nat) (l : List Dp) (m : Nat) (A2 : Option Addr) (W : World) : Prop := SlD W A n cp l ∧ SlD W A m cp (l.take m) ∧ SlD W A2 (n - m) (cp - m) (l.drop m) ∧ Below w.heap.size w W
theorem St4.below {w : World} {A : Option Addr} {n cp : Nat} {l : List Dp} {m : Nat} {A2 : Option Addr} {W W' : World} (h : St4 w A n cp l m A2 W) (hb : Below W.heap.size W W') : St4 w A n cp l m A2 W' := ⟨h.1.below hb, h.2.1.below hb, h.2.2.1.below hb, bl_next h.2.2.2 hb⟩

set_option maxRecDepth 100000 in
set_option maxHeartbeats 8000000 in
theorem AuditParts_w (A : Option Addr) (n cp : Nat) (rows : List (List Value)) (ns at0 : Int) (w : World) (hs : SlQ (List.replicate 5 (.i .i64)) w A n cp rows) (hw1 : (Lit.int .i64 ns).wf = true) (hw2 : (Lit.int .u8 at0).wf = true) :
    Calls Try.prog 9 #[.slice A n cp, .int .i64 ns, .int .u8 at0] w fun e w' => e = .returned (.bool true) ∧ Below w.heap.size w w' := by
  have ha8 := u8_range hw2
  have hn63 : n ≤ 9223372036854775807 := Nat.le_trans hs.2.1 hs.2.2.1
  obtain ⟨l, hsl, hl⟩ := hs.dps
  have HS := Lib.hid hsl
  clear hs hsl
  go_enter Try.func9, Try.ntmps9
  go_wp2_with fail
  refine (awake32_w _).mono ?_
  rintro e w1 ⟨rfl, hb1⟩
  have HB1 := Lib.hid hb1
  have HS1 := Lib.hid (HS.out.below hb1)
  clear hb1
  by_cases h40 : 40 < n
  · have h40' : (40 : Int) < (n : Int) := by omega
    go_wp2_with fail
    refine (awake32_w _).mono ?_
    rintro e w2 ⟨rfl, hb2⟩
    have HB2 := Lib.hid (bl_next HB1.out hb2)
    clear hb2
    go_wp2
    go_ret
    exact ⟨rfl, HB2.out⟩
  · have h40' : ¬ (40 : Int) < (n : Int) := by omega
    obtain ⟨a, rfl⟩ := Int.eq_ofNat_of_zero_le ha8.1
    obtain ⟨m, hm⟩ : ∃ m, m = a % (n + 1) := ⟨_, rfl⟩
    have hmn : m ≤ n := by have := Nat.mod_lt a (show 0 < n + 1 by omega); omega
    have b1 : IntKind.i64.wrap (a : Int) = (a : Int) := IntWalk.i64_in _ (by omega)
    have b2 : IntKind.i64.wrap ((n : Int) + 1) = (n : Int) + 1 := IntWalk.i64_in _ (by omega)
    have b3 : (a : Int).tmod ((n : Int) + 1) = (m : Int) := by
      rw [Int.tmod_eq_emod_of_nonneg (by omega), hm]
      rfl
    have b3' : (a : Int) % ((n : Int) + 1) = (m : Int) := by rw [hm]; rfl
    have b4 : IntKind.i64.wrap (m : Int) = (m : Int) := IntWalk.i64_in _ (by omega)
    have n0 : ¬ (n : Int) + 1 = 0 := by omega
    have n1 : ¬ (n : Int) + 1 = -1 := by omega
    have hm0 : (0 : Int) ≤ (m : Int) := Int.natCast_nonneg m
    have hm1 : (m : Int) ≤ (cp : Int) := by have := HS.out.2.1; omega
    have hm2 : (m : Int) ≤ (n : Int) := by omega
    obtain ⟨A2, hcut2, hrd2⟩ := cut_from (P := Try.prog) 60 62 5 Try.underlying60 (by kernel_rfl) A n cp m hmn HS.out.2.1
    have hcutB : ∀ W : World, (Instr.slice 60 (.slice A n cp) (some (.int .i64 (m : Int))) none none).run Try.prog W = .ok (.slice A2 (n - m) (cp - m)) W := fun W => hcut2 W .i64
    have hcutA : ∀ W : World, (Instr.slice 60 (.slice A n cp) none (some (.int .i64 (m : Int))) none).run Try.prog W = .ok (.slice A m cp) W := fun W => cut_to 60 62 5 Try.underlying60 (by kernel_rfl) A n cp m (by have := HS.out.2.1; omega) W .i64
    have HPA := Lib.hid (show SlD w1 A m cp (l.take m) from ⟨by rw [List.length_take, HS1.out.1]; omega, by have := HS.out.2.1; omega, HS.out.2.2.1, by rw [← fl_take l (dpC_len l) m (by rw [HS1.out.1]; omega)]; exact HS1.out.2.2.2.take _⟩)
    have HPB := Lib.hid (show SlD w1 A2 (n - m) (cp - m) (l.drop m) from ⟨by rw [List.length_drop, HS1.out.1], by have := HS.out.2.1; omega, by have := HS.out.2.2.1; omega, by rw [← fl_drop l (dpC_len l) m (by rw [HS1.out.1]; omega)]; exact hrd2 w1 _ (by rw [fl_length l (dpC_len l), HS1.out.1]) HS1.out.2.2.2⟩)
    have hla : ∀ d ∈ l.take m, okDp d := fun d hd => hl d (List.mem_of_mem_take hd)
    have hlb : ∀ d ∈ l.drop m, okDp d := fun d hd => hl d (List.mem_of_mem_drop hd)
    have HTD := Lib.hid (show l.take m ++ l.drop m = l from List.take_append_drop m l)
    clear hm hcut2 hrd2
    go_upto_region 4 with (fail)
    go_region
    all_goals
      clear hcutA hcutB
      generalize hWd : World.drew w1 = W0
      have HB0 := Lib.hid (show Below w1.heap.size w1 W0 by rw [← hWd]; exact (Below.refl _ _).drew)
      clear hWd
      have ST := Lib.hid (show St4 w A n cp l m A2 W0 from ⟨HS1.out.below HB0.out, HPA.out.below HB0.out, HPB.out.below HB0.out, bl_next HB1.out HB0.out⟩)
      clear HB0 HS1 HPA HPB
      go_wp2_with fail
      by_cases hap : apartP l
      · refine (apart_w _ n cp l hl _ ST.out.1).mono ?_
        rintro e W1 ⟨rfl, hb⟩
        rw [pb_true hap]
        have ST2 := Lib.hid (ST.out.below hb)
        clear ST hb
        have ST := ST2
        clear ST2
        go_wp2_with fail
        refine (apart_w _ m cp (l.take m) hla _ ST.out.2.1).mono ?_
        rintro e W1 ⟨rfl, hb⟩
        rw [pb_true (apart_take hap m)]
        have ST2 := Lib.hid (ST.out.below hb)
        clear ST hb
        have ST := ST2
        clear ST2
        go_wp2_with fail
        refine (apart_w A2 (n - m) (cp - m) (l.drop m) hlb _ ST.out.2.2.1).mono ?_
        rintro e W1 ⟨rfl, hb⟩
        rw [pb_true (apart_drop hap m)]
        have ST2 := Lib.hid (ST.out.below hb)
        clear ST hb
        have ST := ST2
        clear ST2
        go_wp2_with fail
        by_cases hon : onceP l
        · have hab2 : onceP (l.take m) ∧ onceP (l.drop m) := once_parts (by rw [HTD.out]; exact hon)
          refine (once_w _ n cp l hl (by omega) _ ST.out.1).mono ?_
          rintro e W1 ⟨rfl, hb⟩
          rw [pb_true hon]
          have ST2 := Lib.hid (ST.out.below hb)
          clear ST hb
          have ST := ST2
          clear ST2
          go_wp2_with fail
          refine (once_w _ m cp (l.take m) hla (by omega) _ ST.out.2.1).mono ?_
          rintro e W1 ⟨rfl, hb⟩
          rw [pb_true hab2.1]
          have ST2 := Lib.hid (ST.out.below hb)
          clear ST hb
          have ST := ST2
          clear ST2
          go_wp2_with fail
          refine (once_w A2 (n - m) (cp - m) (l.drop m) hlb (by omega) _ ST.out.2.2.1).mono ?_
          rintro e W1 ⟨rfl, hb⟩
          rw [pb_true hab2.2]
          have ST2 := Lib.hid (ST.out.below hb)
          clear ST hb
          have ST := ST2
          clear ST2
          go_wp2_with fail
          by_cases hex : exactP l ns
          · have hab : exactP (l.take m) ns ∧ exactP (l.drop m) ns := (exact_parts _ _ ns).1 (by rw [HTD.out]; exact hex)
            refine (exact_w _ n cp l hl ns _ ST.out.1).mono ?_
            rintro e W1 ⟨rfl, hb⟩
            rw [pb_true hex]
            have ST2 := Lib.hid (ST.out.below hb)
            clear ST hb
            have ST := ST2
            clear ST2
            go_wp2_with fail
            refine (exact_w _ m cp (l.take m) hla ns _ ST.out.2.1).mono ?_
            rintro e W1 ⟨rfl, hb⟩
            rw [pb_true hab.1]
            have ST2 := Lib.hid (ST.out.below hb)
            clear ST hb
            have ST := ST2
            clear ST2
            go_wp2_with fail
            refine (exact_w A2 (n - m) (cp - m) (l.drop m) hlb ns _ ST.out.2.2.1).mono ?_
            rintro e W1 ⟨rfl, hb⟩
            rw [pb_true hab.2]
            have ST2 := Lib.hid (ST.out.below hb)
            clear ST hb
            have ST := ST2
            clear ST2
            go_wp2_with fail
            go_loopw [72] (fun i wr => ∃ (k : Nat), k ≤ n ∧ i = .int .i64 k ∧ St4 w A n cp l m A2 wr) (fun i _ => n - (intOf i).toNat)
            case atStart => exact ⟨0, Nat.zero_le _, rfl, ST.out⟩
            case round =>
              obtain ⟨k, hk, rfl, hst⟩ := hrel
              clear ST
              have ST := Lib.hid hst
              clear hst
              by_cases hlt : k < n
              · obtain ⟨d, hd⟩ : ∃ d, l[k]? = some d := ⟨_, List.getElem?_eq_getElem (by rw [ST.out.1.1]; exact hlt)⟩
                obtain ⟨b, o, rfl, _, r1, _, _, _⟩ := ST.out.1.dp hd
                have hk0 : (0 : Int) ≤ (k : Int) := Int.natCast_nonneg k
                have hk1 : (k : Int) < (n : Int) := by omega
                clear hd
                obtain ⟨cc, hcc⟩ : ∃ cc, cc = d.cl := ⟨_, rfl⟩
                rw [← hcc] at r1
                clear hcc
                have HSP := Lib.hid (show servedV l cc = plus (cnt (servedV (l.take m) cc)) (servedV (l.drop m) cc) by rw [← served_parts, HTD.out])
                obtain ⟨sl, hsl⟩ : ∃ sl, sl = servedV l cc := ⟨_, rfl⟩
                have HSL := Lib.hid hsl
                clear hsl
                have q1 : (sl != sl) = false := by simp
                go_wp2_with fail
                refine (served_w _ n cp l hl cc _ ST.out.1).mono ?_
                rintro e W1 ⟨rfl, hb⟩
                rw [← HSL.out]
                have ST2 := Lib.hid (ST.out.below hb)
                clear ST hb
                have ST := ST2
                clear ST2
                go_wp2_with fail
                refine (served_w _ m cp (l.take m) hla cc _ ST.out.2.1).mono ?_
                rintro e W1 ⟨rfl, hb⟩
                have ST2 := Lib.hid (ST.out.below hb)
                clear ST hb
                have ST := ST2
                clear ST2
                go_wp2_with fail
                refine (served_w A2 (n - m) (cp - m) (l.drop m) hlb cc _ ST.out.2.2.1).mono ?_
                rintro e W1 ⟨rfl, hb⟩
                have ST2 := Lib.hid (ST.out.below hb)
                clear ST hb
                have ST := ST2
                clear ST2
                go_wp2_with fail
                refine (rAdd_w _ _ _).mono ?_
                rintro e w' ⟨rfl, rfl⟩
                rw [← HSP.out, ← HSL.out]
                go_wp2_with fail
                go_roundw
                case rel => exact ⟨k + 1, by omega, by go_num, ST.out⟩
                case measure => simp [intOf]; omega
              · have hk1 : ¬ (k : Int) < (n : Int) := by omega
                go_wp2
                go_ret
                exact ⟨rfl, ST.out.2.2.2⟩
          · by_cases hexa : exactP (l.take m) ns
            · have hexb : ¬ exactP (l.drop m) ns := fun h => hex (by rw [← HTD.out]; exact (exact_parts _ _ ns).2 ⟨hexa, h⟩)
              refine (exact_w _ n cp l hl ns _ ST.out.1).mono ?_
              rintro e W1 ⟨rfl, hb⟩
              rw [pb_false hex]
              have ST2 := Lib.hid (ST.out.below hb)
              clear ST hb
              have ST := ST2
              clear ST2
              go_wp2_with fail
              refine (exact_w _ m cp (l.take m) hla ns _ ST.out.2.1).mono ?_
              rintro e W1 ⟨rfl, hb⟩
              rw [pb_true hexa]
              have ST2 := Lib.hid (ST.out.below hb)
              clear ST hb
              have ST := ST2
              clear ST2
              go_wp2_with fail
              refine (exact_w A2 (n - m) (cp - m) (l.drop m) hlb ns _ ST.out.2.2.1).mono ?_
              rintro e W1 ⟨rfl, hb⟩
              rw [pb_false hexb]
              have ST2 := Lib.hid (ST.out.below hb)
              clear ST hb
              have ST := ST2
              clear ST2
              go_wp2_with fail
              go_loopw [72] (fun i wr => ∃ (k : Nat), k ≤ n ∧ i = .int .i64 k ∧ St4 w A n cp l m A2 wr) (fun i _ => n - (intOf i).toNat)
              case atStart => exact ⟨0, Nat.zero_le _, rfl, ST.out⟩
              case round =>
                obtain ⟨k, hk, rfl, hst⟩ := hrel
                clear ST
                have ST := Lib.hid hst
                clear hst
                by_cases hlt : k < n
                · obtain ⟨d, hd⟩ : ∃ d, l[k]? = some d := ⟨_, List.getElem?_eq_getElem (by rw [ST.out.1.1]; exact hlt)⟩
                  obtain ⟨b, o, rfl, _, r1, _, _, _⟩ := ST.out.1.dp hd
                  have hk0 : (0 : Int) ≤ (k : Int) := Int.natCast_nonneg k
                  have hk1 : (k : Int) < (n : Int) := by omega
                  clear hd
                  obtain ⟨cc, hcc⟩ : ∃ cc, cc = d.cl := ⟨_, rfl⟩
                  rw [← hcc] at r1
                  clear hcc
                  have HSP := Lib.hid (show servedV l cc = plus (cnt (servedV (l.take m) cc)) (servedV (l.drop m) cc) by rw [← served_parts, HTD.out])
                  obtain ⟨sl, hsl⟩ : ∃ sl, sl = servedV l cc := ⟨_, rfl⟩
                  have HSL := Lib.hid hsl
                  clear hsl
                  have q1 : (sl != sl) = false := by simp
                  go_wp2_with fail
                  refine (served_w _ n cp l hl cc _ ST.out.1).mono ?_
                  rintro e W1 ⟨rfl, hb⟩
                  rw [← HSL.out]
                  have ST2 := Lib.hid (ST.out.below hb)
                  clear ST hb
                  have ST := ST2
                  clear ST2
                  go_wp2_with fail
                  refine (served_w _ m cp (l.take m) hla cc _ ST.out.2.1).mono ?_
                  rintro e W1 ⟨rfl, hb⟩
                  have ST2 := Lib.hid (ST.out.below hb)
                  clear ST hb
                  have ST := ST2
                  clear ST2
                  go_wp2_with fail
                  refine (served_w A2 (n - m) (cp - m) (l.drop m) hlb cc _ ST.out.2.2.1).mono ?_
                  rintro e W1 ⟨rfl, hb⟩
                  have ST2 := Lib.hid (ST.out.below hb)
                  clear ST hb
                  have ST := ST2
                  clear ST2
                  go_wp2_with fail
                  refine (rAdd_w _ _ _).mono ?_
                  rintro e w' ⟨rfl, rfl⟩
                  rw [← HSP.out, ← HSL.out]
                  go_wp2_with fail
                  go_roundw
                  case rel => exact ⟨k + 1, by omega, by go_num, ST.out⟩
                  case measure => simp [intOf]; omega
                · have hk1 : ¬ (k : Int) < (n : Int) := by omega
                  go_wp2
                  go_ret
                  exact ⟨rfl, ST.out.2.2.2⟩
            · refine (exact_w _ n cp l hl ns _ ST.out.1).mono ?_
              rintro e W1 ⟨rfl, hb⟩
              rw [pb_false hex]
              have ST2 := Lib.hid (ST.out.below hb)
              clear ST hb
              have ST := ST2
              clear ST2
              go_wp2_with fail
              refine (exact_w _ m cp (l.take m) hla ns _ ST.out.2.1).mono ?_
              rintro e W1 ⟨rfl, hb⟩
              rw [pb_false hexa]
              have ST2 := Lib.hid (ST.out.below hb)
              clear ST hb
              have ST := ST2
              clear ST2
              go_wp2_with fail
              go_loopw [72] (fun i wr => ∃ (k : Nat), k ≤ n ∧ i = .int .i64 k ∧ St4 w A n cp l m A2 wr) (fun i _ => n - (intOf i).toNat)
              case atStart => exact ⟨0, Nat.zero_le _, rfl, ST.out⟩
              case round =>
                obtain ⟨k, hk, rfl, hst⟩ := hrel
                clear ST
                have ST := Lib.hid hst
                clear hst
                by_cases hlt : k < n
                · obtain ⟨d, hd⟩ : ∃ d, l[k]? = some d := ⟨_, List.getElem?_eq_getElem (by rw [ST.out.1.1]; exact hlt)⟩
                  obtain ⟨b, o, rfl, _, r1, _, _, _⟩ := ST.out.1.dp hd
                  have hk0 : (0 : Int) ≤ (k : Int) := Int.natCast_nonneg k
                  have hk1 : (k : Int) < (n : Int) := by omega
                  clear hd
                  obtain ⟨cc, hcc⟩ : ∃ cc, cc = d.cl := ⟨_, rfl⟩
                  rw [← hcc] at r1
                  clear hcc
                  have HSP := Lib.hid (show servedV l cc = plus (cnt (servedV (l.take m) cc)) (servedV (l.drop m) cc) by rw [← served_parts, HTD.out])
                  obtain ⟨sl, hsl⟩ : ∃ sl, sl = servedV l cc := ⟨_, rfl⟩
                  have HSL := Lib.hid hsl
                  clear hsl
                  have q1 : (sl != sl) = false := by simp
                  go_wp2_with fail
                  refine (served_w _ n cp l hl cc _ ST.out.1).mono ?_
                  rintro e W1 ⟨rfl, hb⟩
                  rw [← HSL.out]
                  have ST2 := Lib.hid (ST.out.below hb)
                  clear ST hb
                  have ST := ST2
                  clear ST2
                  go_wp2_with fail
                  refine (served_w _ m cp (l.take m) hla cc _ ST.out.2.1).mono ?_
                  rintro e W1 ⟨rfl, hb⟩
                  have ST2 := Lib.hid (ST.out.below hb)
                  clear ST hb
                  have ST := ST2
                  clear ST2
                  go_wp2_with fail
                  refine (served_w A2 (n - m) (cp - m) (l.drop m) hlb cc _ ST.out.2.2.1).mono ?_
                  rintro e W1 ⟨rfl, hb⟩
                  have ST2 := Lib.hid (ST.out.below hb)
                  clear ST hb
                  have ST := ST2
                  clear ST2
                  go_wp2_with fail
                  refine (rAdd_w _ _ _).mono ?_
                  rintro e w' ⟨rfl, rfl⟩
                  rw [← HSP.out, ← HSL.out]
                  go_wp2_with fail
                  go_roundw
                  case rel => exact ⟨k + 1, by omega, by go_num, ST.out⟩
                  case measure => simp [intOf]; omega
                · have hk1 : ¬ (k : Int) < (n : Int) := by omega
                  go_wp2
                  go_ret
                  exact ⟨rfl, ST.out.2.2.2⟩
        · refine (once_w _ n cp l hl (by omega) _ ST.out.1).mono ?_
          rintro e W1 ⟨rfl, hb⟩
          rw [pb_false hon]
          have ST2 := Lib.hid (ST.out.below hb)
          clear ST hb
          have ST := ST2
          clear ST2
          go_wp2_with fail
          by_cases hex : exactP l ns
          · have hab : exactP (l.take m) ns ∧ exactP (l.drop m) ns := (exact_parts _ _ ns).1 (by rw [HTD.out]; exact hex)
            refine (exact_w _ n cp l hl ns _ ST.out.1).mono ?_
            rintro e W1 ⟨rfl, hb⟩
            rw [pb_true hex]
            have ST2 := Lib.hid (ST.out.below hb)
            clear ST hb
            have ST := ST2
            clear ST2
            go_wp2_with fail
            refine (exact_w _ m cp (l.take m) hla ns _ ST.out.2.1).mono ?_
            rintro e W1 ⟨rfl, hb⟩
            rw [pb_true hab.1]
            have ST2 := Lib.hid (ST.out.below hb)
            clear ST hb
            have ST := ST2
            clear ST2
            go_wp2_with fail
            refine (exact_w A2 (n - m) (cp - m) (l.drop m) hlb ns _ ST.out.2.2.1).mono ?_
            rintro e W1 ⟨rfl, hb⟩
            rw [pb_true hab.2]
            have ST2 := Lib.hid (ST.out.below hb)
            clear ST hb
            have ST := ST2
            clear ST2
            go_wp2_with fail
            go_loopw [72] (fun i wr => ∃ (k : Nat), k ≤ n ∧ i = .int .i64 k ∧ St4 w A n cp l m A2 wr) (fun i _ => n - (intOf i).toNat)
            case atStart => exact ⟨0, Nat.zero_le _, rfl, ST.out⟩
            case round =>
              obtain ⟨k, hk, rfl, hst⟩ := hrel
              clear ST
              have ST := Lib.hid hst
              clear hst
              by_cases hlt : k < n
              · obtain ⟨d, hd⟩ : ∃ d, l[k]? = some d := ⟨_, List.getElem?_eq_getElem (by rw [ST.out.1.1]; exact hlt)⟩
                obtain ⟨b, o, rfl, _, r1, _, _, _⟩ := ST.out.1.dp hd
                have hk0 : (0 : Int) ≤ (k : Int) := Int.natCast_nonneg k
                have hk1 : (k : Int) < (n : Int) := by omega
                clear hd
                obtain ⟨cc, hcc⟩ : ∃ cc, cc = d.cl := ⟨_, rfl⟩
                rw [← hcc] at r1
                clear hcc
                have HSP := Lib.hid (show servedV l cc = plus (cnt (servedV (l.take m) cc)) (servedV (l.drop m) cc) by rw [← served_parts, HTD.out])
                obtain ⟨sl, hsl⟩ : ∃ sl, sl = servedV l cc := ⟨_, rfl⟩
                have HSL := Lib.hid hsl
                clear hsl
                have q1 : (sl != sl) = false := by simp
                go_wp2_with fail
                refine (served_w _ n cp l hl cc _ ST.out.1).mono ?_
                rintro e W1 ⟨rfl, hb⟩
                rw [← HSL.out]
                have ST2 := Lib.hid (ST.out.below hb)
                clear ST hb
                have ST := ST2
                clear ST2
                go_wp2_with fail
                refine (served_w _ m cp (l.take m) hla cc _ ST.out.2.1).mono ?_
                rintro e W1 ⟨rfl, hb⟩
                have ST2 := Lib.hid (ST.out.below hb)
                clear ST hb
                have ST := ST2
                clear ST2
                go_wp2_with fail
                refine (served_w A2 (n - m) (cp - m) (l.drop m) hlb cc _ ST.out.2.2.1).mono ?_
                rintro e W1 ⟨rfl, hb⟩
                have ST2 := Lib.hid (ST.out.below hb)
                clear ST hb
                have ST := ST2
                clear ST2
                go_wp2_with fail
                refine (rAdd_w _ _ _).mono ?_
                rintro e w' ⟨rfl, rfl⟩
                rw [← HSP.out, ← HSL.out]
                go_wp2_with fail
                go_roundw
                case rel => exact ⟨k + 1, by omega, by go_num, ST.out⟩
                case measure => simp [intOf]; omega
              · have hk1 : ¬ (k : Int) < (n : Int) := by omega
                go_wp2
                go_ret
                exact ⟨rfl, ST.out.2.2.2⟩
          · by_cases hexa : exactP (l.take m) ns
            · have hexb : ¬ exactP (l.drop m) ns := fun h => hex (by rw [← HTD.out]; exact (exact_parts _ _ ns).2 ⟨hexa, h⟩)
              refine (exact_w _ n cp l hl ns _ ST.out.1).mono ?_
              rintro e W1 ⟨rfl, hb⟩
              rw [pb_false hex]
              have ST2 := Lib.hid (ST.out.below hb)
              clear ST hb
              have ST := ST2
              clear ST2
              go_wp2_with fail
              refine (exact_w _ m cp (l.take m) hla ns _ ST.out.2.1).mono ?_
              rintro e W1 ⟨rfl, hb⟩
              rw [pb_true hexa]
              have ST2 := Lib.hid (ST.out.below hb)
              clear ST hb
              have ST := ST2
              clear ST2
              go_wp2_with fail
              refine (exact_w A2 (n - m) (cp - m) (l.drop m) hlb ns _ ST.out.2.2.1).mono ?_
              rintro e W1 ⟨rfl, hb⟩
              rw [pb_false hexb]
              have ST2 := Lib.hid (ST.out.below hb)
              clear ST hb
              have ST := ST2
              clear ST2
              go_wp2_with fail
              go_loopw [72] (fun i wr => ∃ (k : Nat), k ≤ n ∧ i = .int .i64 k ∧ St4 w A n cp l m A2 wr) (fun i _ => n - (intOf i).toNat)
              case atStart => exact ⟨0, Nat.zero_le _, rfl, ST.out⟩
              case round =>
                obtain ⟨k, hk, rfl, hst⟩ := hrel
                clear ST
                have ST := Lib.hid hst
                clear hst
                by_cases hlt : k < n
                · obtain ⟨d, hd⟩ : ∃ d, l[k]? = some d := ⟨_, List.getElem?_eq_getElem (by rw [ST.out.1.1]; exact hlt)⟩
                  obtain ⟨b, o, rfl, _, r1, _, _, _⟩ := ST.out.1.dp hd
                  have hk0 : (0 : Int) ≤ (k : Int) := Int.natCast_nonneg k
                  have hk1 : (k : Int) < (n : Int) := by omega
                  clear hd
                  obtain ⟨cc, hcc⟩ : ∃ cc, cc = d.cl := ⟨_, rfl⟩
                  rw [← hcc] at r1
                  clear hcc
                  have HSP := Lib.hid (show servedV l cc = plus (cnt (servedV (l.take m) cc)) (servedV (l.drop m) cc) by rw [← served_parts, HTD.out])
                  obtain ⟨sl, hsl⟩ : ∃ sl, sl = servedV l cc := ⟨_, rfl⟩
                  have HSL := Lib.hid hsl
                  clear hsl
                  have q1 : (sl != sl) = false := by simp
                  go_wp2_with fail
                  refine (served_w _ n cp l hl cc _ ST.out.1).mono ?_
                  rintro e W1 ⟨rfl, hb⟩
                  rw [← HSL.out]
                  have ST2 := Lib.hid (ST.out.below hb)
                  clear ST hb
                  have ST := ST2
                  clear ST2
                  go_wp2_with fail
                  refine (served_w _ m cp (l.take m) hla cc _ ST.out.2.1).mono ?_
                  rintro e W1 ⟨rfl, hb⟩
                  have ST2 := Lib.hid (ST.out.below hb)
                  clear ST hb
                  have ST := ST2
                  clear ST2
                  go_wp2_with fail
                  refine (served_w A2 (n - m) (cp - m) (l.drop m) hlb cc _ ST.out.2.2.1).mono ?_
                  rintro e W1 ⟨rfl, hb⟩
                  have ST2 := Lib.hid (ST.out.below hb)
                  clear ST hb
                  have ST := ST2
                  clear ST2
                  go_wp2_with fail
                  refine (rAdd_w _ _ _).mono ?_
                  rintro e w' ⟨rfl, rfl⟩
                  rw [← HSP.out, ← HSL.out]
                  go_wp2_with fail
                  go_roundw
                  case rel => exact ⟨k + 1, by omega, by go_num, ST.out⟩
                  case measure => simp [intOf]; omega
                · have hk1 : ¬ (k : Int) < (n : Int) := by omega
                  go_wp2
                  go_ret
                  exact ⟨rfl, ST.out.2.2.2⟩
            · refine (exact_w _ n cp l hl ns _ ST.out.1).mono ?_
              rintro e W1 ⟨rfl, hb⟩
              rw [pb_false hex]
              have ST2 := Lib.hid (ST.out.below hb)
              clear ST hb
              have ST := ST2
              clear ST2
              go_wp2_with fail
              refine (exact_w _ m cp (l.take m) hla ns _ ST.out.2.1).mono ?_
              rintro e W1 ⟨rfl, hb⟩
              rw [pb_false hexa]
              have ST2 := Lib.hid (ST.out.below hb)
              clear ST hb
              have ST := ST2
              clear ST2
              go_wp2_with fail
              go_loopw [72] (fun i wr => ∃ (k : Nat), k ≤ n ∧ i = .int .i64 k ∧ St4 w A n cp l m A2 wr) (fun i _ => n - (intOf i).toNat)
              case atStart => exact ⟨0, Nat.zero_le _, rfl, ST.out⟩
              case round =>
                obtain ⟨k, hk, rfl, hst⟩ := hrel
                clear ST
                have ST := Lib.hid hst
                clear hst
                by_cases hlt : k < n
                · obtain ⟨d, hd⟩ : ∃ d, l[k]? = some d := ⟨_, List.getElem?_eq_getElem (by rw [ST.out.1.1]; exact hlt)⟩
                  obtain ⟨b, o, rfl, _, r1, _, _, _⟩ := ST.out.1.dp hd
                  have hk0 : (0 : Int) ≤ (k : Int) := Int.natCast_nonneg k
                  have hk1 : (k : Int) < (n : Int) := by omega
                  clear hd
                  obtain ⟨cc, hcc⟩ : ∃ cc, cc = d.cl := ⟨_, rfl⟩
                  rw [← hcc] at r1
                  clear hcc
                  have HSP := Lib.hid (show servedV l cc = plus (cnt (servedV (l.take m) cc)) (servedV (l.drop m) cc) by rw [← served_parts, HTD.out])
                  obtain ⟨sl, hsl⟩ : ∃ sl, sl = servedV l cc := ⟨_, rfl⟩
                  have HSL := Lib.hid hsl
                  clear hsl
                  have q1 : (sl != sl) = false := by simp
                  go_wp2_with fail
                  refine (served_w _ n cp l hl cc _ ST.out.1).mono ?_
                  rintro e W1 ⟨rfl, hb⟩
                  rw [← HSL.out]
                  have ST2 := Lib.hid (ST.out.below hb)
                  clear ST hb
                  have ST := ST2
                  clear ST2
                  go_wp2_with fail
                  refine (served_w _ m cp (l.take m) hla cc _ ST.out.2.1).mono ?_
                  rintro e W1 ⟨rfl, hb⟩
                  have ST2 := Lib.hid (ST.out.below hb)
                  clear ST hb
                  have ST := ST2
                  clear ST2
                  go_wp2_with fail
                  refine (served_w A2 (n - m) (cp - m) (l.drop m) hlb cc _ ST.out.2.2.1).mono ?_
                  rintro e W1 ⟨rfl, hb⟩
                  have ST2 := Lib.hid (ST.out.below hb)
                  clear ST hb
                  have ST := ST2
                  clear ST2
                  go_wp2_with fail
                  refine (rAdd_w _ _ _).mono ?_
                  rintro e w' ⟨rfl, rfl⟩
                  rw [← HSP.out, ← HSL.out]
                  go_wp2_with fail
                  go_roundw
                  case rel => exact ⟨k + 1, by omega, by go_num, ST.out⟩
                  case measure => simp [intOf]; omega
                · have hk1 : ¬ (k : Int) < (n : Int) := by omega
                  go_wp2
                  go_ret
                  exact ⟨rfl, ST.out.2.2.2⟩
      · refine (apart_w _ n cp l hl _ ST.out.1).mono ?_
        rintro e W1 ⟨rfl, hb⟩
        rw [pb_false hap]
        have ST2 := Lib.hid (ST.out.below hb)
        clear ST hb
        have ST := ST2
        clear ST2
        go_wp2_with fail
        by_cases hon : onceP l
        · have hab2 : onceP (l.take m) ∧ onceP (l.drop m) := once_parts (by rw [HTD.out]; exact hon)
          refine (once_w _ n cp l hl (by omega) _ ST.out.1).mono ?_
          rintro e W1 ⟨rfl, hb⟩
          rw [pb_true hon]
          have ST2 := Lib.hid (ST.out.below hb)
          clear ST hb
          have ST := ST2
          clear ST2
          go_wp2_with fail
          refine (once_w _ m cp (l.take m) hla (by omega) _ ST.out.2.1).mono ?_
          rintro e W1 ⟨rfl, hb⟩
          rw [pb_true hab2.1]
          have ST2 := Lib.hid (ST.out.below hb)
          clear ST hb
          have ST := ST2
          clear ST2
          go_wp2_with fail
          refine (once_w A2 (n - m) (cp - m) (l.drop m) hlb (by omega) _ ST.out.2.2.1).mono ?_
          rintro e W1 ⟨rfl, hb⟩
          rw [pb_true hab2.2]
          have ST2 := Lib.hid (ST.out.below hb)
          clear ST hb
          have ST := ST2
          clear ST2
          go_wp2_with fail
          by_cases hex : exactP l ns
          · have hab : exactP (l.take m) ns ∧ exactP (l.drop m) ns := (exact_parts _ _ ns).1 (by rw [HTD.out]; exact hex)
            refine (exact_w _ n cp l hl ns _ ST.out.1).mono ?_
            rintro e W1 ⟨rfl, hb⟩
            rw [pb_true hex]
            have ST2 := Lib.hid (ST.out.below hb)
            clear ST hb
            have ST := ST2
            clear ST2
            go_wp2_with fail
            refine (exact_w _ m cp (l.take m) hla ns _ ST.out.2.1).mono ?_
            rintro e W1 ⟨rfl, hb⟩
            rw [pb_true hab.1]
            have ST2 := Lib.hid (ST.out.below hb)
            clear ST hb
            have ST := ST2
            clear ST2
            go_wp2_with fail
            refine (exact_w A2 (n - m) (cp - m) (l.drop m) hlb ns _ ST.out.2.2.1).mono ?_
            rintro e W1 ⟨rfl, hb⟩
            rw [pb_true hab.2]
            have ST2 := Lib.hid (ST.out.below hb)
            clear ST hb
            have ST := ST2
            clear ST2
            go_wp2_with fail
            go_loopw [72] (fun i wr => ∃ (k : Nat), k ≤ n ∧ i = .int .i64 k ∧ St4 w A n cp l m A2 wr) (fun i _ => n - (intOf i).toNat)
            case atStart => exact ⟨0, Nat.zero_le _, rfl, ST.out⟩
            case round =>
              obtain ⟨k, hk, rfl, hst⟩ := hrel
              clear ST
              have ST := Lib.hid hst
              clear hst
              by_cases hlt : k < n
              · obtain ⟨d, hd⟩ : ∃ d, l[k]? = some d := ⟨_, List.getElem?_eq_getElem (by rw [ST.out.1.1]; exact hlt)⟩
                obtain ⟨b, o, rfl, _, r1, _, _, _⟩ := ST.out.1.dp hd
                have hk0 : (0 : Int) ≤ (k : Int) := Int.natCast_nonneg k
                have hk1 : (k : Int) < (n : Int) := by omega
                clear hd
                obtain ⟨cc, hcc⟩ : ∃ cc, cc = d.cl := ⟨_, rfl⟩
                rw [← hcc] at r1
                clear hcc
                have HSP := Lib.hid (show servedV l cc = plus (cnt (servedV (l.take m) cc)) (servedV (l.drop m) cc) by rw [← served_parts, HTD.out])
                obtain ⟨sl, hsl⟩ : ∃ sl, sl = servedV l cc := ⟨_, rfl⟩
                have HSL := Lib.hid hsl
                clear hsl
                have q1 : (sl != sl) = false := by simp
                go_wp2_with fail
                refine (served_w _ n cp l hl cc _ ST.out.1).mono ?_
                rintro e W1 ⟨rfl, hb⟩
                rw [← HSL.out]
                have ST2 := Lib.hid (ST.out.below hb)
                clear ST hb
                have ST := ST2
                clear ST2
                go_wp2_with fail
                refine (served_w _ m cp (l.take m) hla cc _ ST.out.2.1).mono ?_
                rintro e W1 ⟨rfl, hb⟩
                have ST2 := Lib.hid (ST.out.below hb)
                clear ST hb
                have ST := ST2
                clear ST2
                go_wp2_with fail
                refine (served_w A2 (n - m) (cp - m) (l.drop m) hlb cc _ ST.out.2.2.1).mono ?_
                rintro e W1 ⟨rfl, hb⟩
                have ST2 := Lib.hid (ST.out.below hb)
                clear ST hb
                have ST := ST2
                clear ST2
                go_wp2_with fail
                refine (rAdd_w _ _ _).mono ?_
                rintro e w' ⟨rfl, rfl⟩
                rw [← HSP.out, ← HSL.out]
                go_wp2_with fail
                go_roundw
                case rel => exact ⟨k + 1, by omega, by go_num, ST.out⟩
                case measure => simp [intOf]; omega
              · have hk1 : ¬ (k : Int) < (n : Int) := by omega
                go_wp2
                go_ret
                exact ⟨rfl, ST.out.2.2.2⟩
          · by_cases hexa : exactP (l.take m) ns
            · have hexb : ¬ exactP (l.drop m) ns := fun h => hex (by rw [← HTD.out]; exact (exact_parts _ _ ns).2 ⟨hexa, h⟩)
              refine (exact_w _ n cp l hl ns _ ST.out.1).mono ?_
              rintro e W1 ⟨rfl, hb⟩
              rw [pb_false hex]
              have ST2 := Lib.hid (ST.out.below hb)
              clear ST hb
              have ST := ST2
              clear ST2
              go_wp2_with fail
              refine (exact_w _ m cp (l.take m) hla ns _ ST.out.2.1).mono ?_
              rintro e W1 ⟨rfl, hb⟩
              rw [pb_true hexa]
              have ST2 := Lib.hid (ST.out.below hb)
              clear ST hb
              have ST := ST2
              clear ST2
              go_wp2_with fail
              refine (exact_w A2 (n - m) (cp - m) (l.drop m) hlb ns _ ST.out.2.2.1).mono ?_
              rintro e W1 ⟨rfl, hb⟩
              rw [pb_false hexb]
              have ST2 := Lib.hid (ST.out.below hb)
              clear ST hb
              have ST := ST2
              clear ST2
              go_wp2_with fail
              go_loopw [72] (fun i wr => ∃ (k : Nat), k ≤ n ∧ i = .int .i64 k ∧ St4 w A n cp l m A2 wr) (fun i _ => n - (intOf i).toNat)
              case atStart => exact ⟨0, Nat.zero_le _, rfl, ST.out⟩
              case round =>
                obtain ⟨k, hk, rfl, hst⟩ := hrel
                clear ST
                have ST := Lib.hid hst
                clear hst
                by_cases hlt : k < n
                · obtain ⟨d, hd⟩ : ∃ d, l[k]? = some d := ⟨_, List.getElem?_eq_getElem (by rw [ST.out.1.1]; exact hlt)⟩
                  obtain ⟨b, o, rfl, _, r1, _, _, _⟩ := ST.out.1.dp hd
                  have hk0 : (0 : Int) ≤ (k : Int) := Int.natCast_nonneg k
                  have hk1 : (k : Int) < (n : Int) := by omega
                  clear hd
                  obtain ⟨cc, hcc⟩ : ∃ cc, cc = d.cl := ⟨_, rfl⟩
                  rw [← hcc] at r1
                  clear hcc
                  have HSP := Lib.hid (show servedV l cc = plus (cnt (servedV (l.take m) cc)) (servedV (l.drop m) cc) by rw [← served_parts, HTD.out])
                  obtain ⟨sl, hsl⟩ : ∃ sl, sl = servedV l cc := ⟨_, rfl⟩
                  have HSL := Lib.hid hsl
                  clear hsl
                  have q1 : (sl != sl) = false := by simp
                  go_wp2_with fail
                  refine (served_w _ n cp l hl cc _ ST.out.1).mono ?_
                  rintro e W1 ⟨rfl, hb⟩
                  rw [← HSL.out]
                  have ST2 := Lib.hid (ST.out.below hb)
                  clear ST hb
                  have ST := ST2
                  clear ST2
                  go_wp2_with fail
                  refine (served_w _ m cp (l.take m) hla cc _ ST.out.2.1).mono ?_
                  rintro e W1 ⟨rfl, hb⟩
                  have ST2 := Lib.hid (ST.out.below hb)
                  clear ST hb
                  have ST := ST2
                  clear ST2
                  go_wp2_with fail
                  refine (served_w A2 (n - m) (cp - m) (l.drop m) hlb cc _ ST.out.2.2.1).mono ?_
                  rintro e W1 ⟨rfl, hb⟩
                  have ST2 := Lib.hid (ST.out.below hb)
                  clear ST hb
                  have ST := ST2
                  clear ST2
                  go_wp2_with fail
                  refine (rAdd_w _ _ _).mono ?_
                  rintro e w' ⟨rfl, rfl⟩
                  rw [← HSP.out, ← HSL.out]
                  go_wp2_with fail
                  go_roundw
                  case rel => exact ⟨k + 1, by omega, by go_num, ST.out⟩
                  case measure => simp [intOf]; omega
                · have hk1 : ¬ (k : Int) < (n : Int) := by omega
                  go_wp2
                  go_ret
                  exact ⟨rfl, ST.out.2.2.2⟩
            · refine (exact_w _ n cp l hl ns _ ST.out.1).mono ?_
              rintro e W1 ⟨rfl, hb⟩
              rw [pb_false hex]
              have ST2 := Lib.hid (ST.out.below hb)
              clear ST hb
              have ST := ST2
              clear ST2
              go_wp2_with fail
              refine (exact_w _ m cp (l.take m) hla ns _ ST.out.2.1).mono ?_
              rintro e W1 ⟨rfl, hb⟩
              rw [pb_false hexa]
              have ST2 := Lib.hid (ST.out.below hb)
              clear ST hb
              have ST := ST2
              clear ST2
              go_wp2_with fail
              go_loopw [72] (fun i wr => ∃ (k : Nat), k ≤ n ∧ i = .int .i64 k ∧ St4 w A n cp l m A2 wr) (fun i _ => n - (intOf i).toNat)
              case atStart => exact ⟨0, Nat.zero_le _, rfl, ST.out⟩
              case round =>
                obtain ⟨k, hk, rfl, hst⟩ := hrel
                clear ST
                have ST := Lib.hid hst
                clear hst
                by_cases hlt : k < n
                · obtain ⟨d, hd⟩ : ∃ d, l[k]? = some d := ⟨_, List.getElem?_eq_getElem (by rw [ST.out.1.1]; exact hlt)⟩
                  obtain ⟨b, o, rfl, _, r1, _, _, _⟩ := ST.out.1.dp hd
                  have hk0 : (0 : Int) ≤ (k : Int) := Int.natCast_nonneg k
                  have hk1 : (k : Int) < (n : Int) := by omega
                  clear hd
                  obtain ⟨cc, hcc⟩ : ∃ cc, cc = d.cl := ⟨_, rfl⟩
                  rw [← hcc] at r1
                  clear hcc
                  have HSP := Lib.hid (show servedV l cc = plus (cnt (servedV (l.take m) cc)) (servedV (l.drop m) cc) by rw [← served_parts, HTD.out])
                  obtain ⟨sl, hsl⟩ : ∃ sl, sl = servedV l cc := ⟨_, rfl⟩
                  have HSL := Lib.hid hsl
                  clear hsl
                  have q1 : (sl != sl) = false := by simp
                  go_wp2_with fail
                  refine (served_w _ n cp l hl cc _ ST.out.1).mono ?_
                  rintro e W1 ⟨rfl, hb⟩
                  rw [← HSL.out]
                  have ST2 := Lib.hid (ST.out.below hb)
                  clear ST hb
                  have ST := ST2
                  clear ST2
                  go_wp2_with fail
                  refine (served_w _ m cp (l.take m) hla cc _ ST.out.2.1).mono ?_
                  rintro e W1 ⟨rfl, hb⟩
                  have ST2 := Lib.hid (ST.out.below hb)
                  clear ST hb
                  have ST := ST2
                  clear ST2
                  go_wp2_with fail
                  refine (served_w A2 (n - m) (cp - m) (l.drop m) hlb cc _ ST.out.2.2.1).mono ?_
                  rintro e W1 ⟨rfl, hb⟩
                  have ST2 := Lib.hid (ST.out.below hb)
                  clear ST hb
                  have ST := ST2
                  clear ST2
                  go_wp2_with fail
                  refine (rAdd_w _ _ _).mono ?_
                  rintro e w' ⟨rfl, rfl⟩
                  rw [← HSP.out, ← HSL.out]
                  go_wp2_with fail
                  go_roundw
                  case rel => exact ⟨k + 1, by omega, by go_num, ST.out⟩
                  case measure => simp [intOf]; omega
                · have hk1 : ¬ (k : Int) < (n : Int) := by omega
                  go_wp2
                  go_ret
                  exact ⟨rfl, ST.out.2.2.2⟩
        · refine (once_w _ n cp l hl (by omega) _ ST.out.1).mono ?_
          rintro e W1 ⟨rfl, hb⟩
          rw [pb_false hon]
          have ST2 := Lib.hid (ST.out.below hb)
          clear ST hb
          have ST := ST2
          clear ST2
          go_wp2_with fail
          by_cases hex : exactP l ns
          · have hab : exactP (l.take m) ns ∧ exactP (l.drop m) ns := (exact_parts _ _ ns).1 (by rw [HTD.out]; exact hex)
            refine (exact_w _ n cp l hl ns _ ST.out.1).mono ?_
            rintro e W1 ⟨rfl, hb⟩
            rw [pb_true hex]
            have ST2 := Lib.hid (ST.out.below hb)
            clear ST hb
            have ST := ST2
            clear ST2
            go_wp2_with fail
            refine (exact_w _ m cp (l.take m) hla ns _ ST.out.2.1).mono ?_
            rintro e W1 ⟨rfl, hb⟩
            rw [pb_true hab.1]
            have ST2 := Lib.hid (ST.out.below hb)
            clear ST hb
            have ST := ST2
            clear ST2
            go_wp2_with fail
            refine (exact_w A2 (n - m) (cp - m) (l.drop m) hlb ns _ ST.out.2.2.1).mono ?_
            rintro e W1 ⟨rfl, hb⟩
            rw [pb_true hab.2]
            have ST2 := Lib.hid (ST.out.below hb)
            clear ST hb
            have ST := ST2
            clear ST2
            go_wp2_with fail
            go_loopw [72] (fun i wr => ∃ (k : Nat), k ≤ n ∧ i = .int .i64 k ∧ St4 w A n cp l m A2 wr) (fun i _ => n - (intOf i).toNat)
            case atStart => exact ⟨0, Nat.zero_le _, rfl, ST.out⟩
            case round =>
              obtain ⟨k, hk, rfl, hst⟩ := hrel
              clear ST
              have ST := Lib.hid hst
              clear hst
              by_cases hlt : k < n
              · obtain ⟨d, hd⟩ : ∃ d, l[k]? = some d := ⟨_, List.getElem?_eq_getElem (by rw [ST.out.1.1]; exact hlt)⟩
                obtain ⟨b, o, rfl, _, r1, _, _, _⟩ := ST.out.1.dp hd
                have hk0 : (0 : Int) ≤ (k : Int) := Int.natCast_nonneg k
                have hk1 : (k : Int) < (n : Int) := by omega
                clear hd
                obtain ⟨cc, hcc⟩ : ∃ cc, cc = d.cl := ⟨_, rfl⟩
                rw [← hcc] at r1
                clear hcc
                have HSP := Lib.hid (show servedV l cc = plus (cnt (servedV (l.take m) cc)) (servedV (l.drop m) cc) by rw [← served_parts, HTD.out])
                obtain ⟨sl, hsl⟩ : ∃ sl, sl = servedV l cc := ⟨_, rfl⟩
                have HSL := Lib.hid hsl
                clear hsl
                have q1 : (sl != sl) = false := by simp
                go_wp2_with fail
                refine (served_w _ n cp l hl cc _ ST.out.1).mono ?_
                rintro e W1 ⟨rfl, hb⟩
                rw [← HSL.out]
                have ST2 := Lib.hid (ST.out.below hb)
                clear ST hb
                have ST := ST2
                clear ST2
                go_wp2_with fail
                refine (served_w _ m cp (l.take m) hla cc _ ST.out.2.1).mono ?_
                rintro e W1 ⟨rfl, hb⟩
                have ST2 := Lib.hid (ST.out.below hb)
                clear ST hb
                have ST := ST2
                clear ST2
                go_wp2_with fail
                refine (served_w A2 (n - m) (cp - m) (l.drop m) hlb cc _ ST.out.2.2.1).mono ?_
                rintro e W1 ⟨rfl, hb⟩
                have ST2 := Lib.hid (ST.out.below hb)
                clear ST hb
                have ST := ST2
                clear ST2
                go_wp2_with fail
                refine (rAdd_w _ _ _).mono ?_
                rintro e w' ⟨rfl, rfl⟩
                rw [← HSP.out, ← HSL.out]
                go_wp2_with fail
                go_roundw
                case rel => exact ⟨k + 1, by omega, by go_num, ST.out⟩
                case measure => simp [intOf]; omega
              · have hk1 : ¬ (k : Int) < (n : Int) := by omega
                go_wp2
                go_ret
                exact ⟨rfl, ST.out.2.2.2⟩
          · by_cases hexa : exactP (l.take m) ns
            · have hexb : ¬ exactP (l.drop m) ns := fun h => hex (by rw [← HTD.out]; exact (exact_parts _ _ ns).2 ⟨hexa, h⟩)
              refine (exact_w _ n cp l hl ns _ ST.out.1).mono ?_
              rintro e W1 ⟨rfl, hb⟩
              rw [pb_false hex]
              have ST2 := Lib.hid (ST.out.below hb)
              clear ST hb
              have ST := ST2
              clear ST2
              go_wp2_with fail
              refine (exact_w _ m cp (l.take m) hla ns _ ST.out.2.1).mono ?_
              rintro e W1 ⟨rfl, hb⟩
              rw [pb_true hexa]
              have ST2 := Lib.hid (ST.out.below hb)
              clear ST hb
              have ST := ST2
              clear ST2
              go_wp2_with fail
              refine (exact_w A2 (n - m) (cp - m) (l.drop m) hlb ns _ ST.out.2.2.1).mono ?_
              rintro e W1 ⟨rfl, hb⟩
              rw [pb_false hexb]
              have ST2 := Lib.hid (ST.out.below hb)
              clear ST hb
              have ST := ST2
              clear ST2
              go_wp2_with fail
              go_loopw [72] (fun i wr => ∃ (k : Nat), k ≤ n ∧ i = .int .i64 k ∧ St4 w A n cp l m A2 wr) (fun i _ => n - (intOf i).toNat)
              case atStart => exact ⟨0, Nat.zero_le _, rfl, ST.out⟩
              case round =>
                obtain ⟨k, hk, rfl, hst⟩ := hrel
                clear ST
                have ST := Lib.hid hst
                clear hst
                by_cases hlt : k < n
                · obtain ⟨d, hd⟩ : ∃ d, l[k]? = some d := ⟨_, List.getElem?_eq_getElem (by rw [ST.out.1.1]; exact hlt)⟩
                  obtain ⟨b, o, rfl, _, r1, _, _, _⟩ := ST.out.1.dp hd
                  have hk0 : (0 : Int) ≤ (k : Int) := Int.natCast_nonneg k
                  have hk1 : (k : Int) < (n : Int) := by omega
                  clear hd
                  obtain ⟨cc, hcc⟩ : ∃ cc, cc = d.cl := ⟨_, rfl⟩
                  rw [← hcc] at r1
                  clear hcc
                  have HSP := Lib.hid (show servedV l cc = plus (cnt (servedV (l.take m) cc)) (servedV (l.drop m) cc) by rw [← served_parts, HTD.out])
                  obtain ⟨sl, hsl⟩ : ∃ sl, sl = servedV l cc := ⟨_, rfl⟩
                  have HSL := Lib.hid hsl
                  clear hsl
                  have q1 : (sl != sl) = false := by simp
                  go_wp2_with fail
                  refine (served_w _ n cp l hl cc _ ST.out.1).mono ?_
                  rintro e W1 ⟨rfl, hb⟩
                  rw [← HSL.out]
                  have ST2 := Lib.hid (ST.out.below hb)
                  clear ST hb
                  have ST := ST2
                  clear ST2
                  go_wp2_with fail
                  refine (served_w _ m cp (l.take m) hla cc _ ST.out.2.1).mono ?_
                  rintro e W1 ⟨rfl, hb⟩
                  have ST2 := Lib.hid (ST.out.below hb)
                  clear ST hb
                  have ST := ST2
                  clear ST2
                  go_wp2_with fail
                  refine (served_w A2 (n - m) (cp - m) (l.drop m) hlb cc _ ST.out.2.2.1).mono ?_
                  rintro e W1 ⟨rfl, hb⟩
                  have ST2 := Lib.hid (ST.out.below hb)
                  clear ST hb
                  have ST := ST2
                  clear ST2
                  go_wp2_with fail
                  refine (rAdd_w _ _ _).mono ?_
                  rintro e w' ⟨rfl, rfl⟩
                  rw [← HSP.out, ← HSL.out]
                  go_wp2_with fail
                  go_roundw
                  case rel => exact ⟨k + 1, by omega, by go_num, ST.out⟩
                  case measure => simp [intOf]; omega
                · have hk1 : ¬ (k : Int) < (n : Int) := by omega
                  go_wp2
                  go_ret
                  exact ⟨rfl, ST.out.2.2.2⟩
            · refine (exact_w _ n cp l hl ns _ ST.out.1).mono ?_
              rintro e W1 ⟨rfl, hb⟩
              rw [pb_false hex]
              have ST2 := Lib.hid (ST.out.below hb)
              clear ST hb
              have ST := ST2
              clear ST2
              go_wp2_with fail
              refine (exact_w _ m cp (l.take m) hla ns _ ST.out.2.1).mono ?_
              rintro e W1 ⟨rfl, hb⟩
              rw [pb_false hexa]
              have ST2 := Lib.hid (ST.out.below hb)
              clear ST hb
              have ST := ST2
              clear ST2
              go_wp2_with fail
              go_loopw [72] (fun i wr => ∃ (k : Nat), k ≤ n ∧ i = .int .i64 k ∧ St4 w A n cp l m A2 wr) (fun i _ => n - (intOf i).toNat)
              case atStart => exact ⟨0, Nat.zero_le _, rfl, ST.out⟩
              case round =>
                obtain ⟨k, hk, rfl, hst⟩ := hrel
                clear ST
                have ST := Lib.hid hst
                clear hst
                by_cases hlt : k < n
                · obtain ⟨d, hd⟩ : ∃ d, l[k]? = some d := ⟨_, List.getElem?_eq_getElem (by rw [ST.out.1.1]; exact hlt)⟩
                  obtain ⟨b, o, rfl, _, r1, _, _, _⟩ := ST.out.1.dp hd
                  have hk0 : (0 : Int) ≤ (k : Int) := Int.natCast_nonneg k
                  have hk1 : (k : Int) < (n : Int) := by omega
                  clear hd
                  obtain ⟨cc, hcc⟩ : ∃ cc, cc = d.cl := ⟨_, rfl⟩
                  rw [← hcc] at r1
                  clear hcc
                  have HSP := Lib.hid (show servedV l cc = plus (cnt (servedV (l.take m) cc)) (servedV (l.drop m) cc) by rw [← served_parts, HTD.out])
                  obtain ⟨sl, hsl⟩ : ∃ sl, sl = servedV l cc := ⟨_, rfl⟩
                  have HSL := Lib.hid hsl
                  clear hsl
                  have q1 : (sl != sl) = false := by simp
                  go_wp2_with fail
                  refine (served_w _ n cp l hl cc _ ST.out.1).mono ?_
                  rintro e W1 ⟨rfl, hb⟩
                  rw [← HSL.out]
                  have ST2 := Lib.hid (ST.out.below hb)
                  clear ST hb
                  have ST := ST2
                  clear ST2
                  go_wp2_with fail
                  refine (served_w _ m cp (l.take m) hla cc _ ST.out.2.1).mono ?_
                  rintro e W1 ⟨rfl, hb⟩
                  have ST2 := Lib.hid (ST.out.below hb)
                  clear ST hb
                  have ST := ST2
                  clear ST2
                  go_wp2_with fail
                  refine (served_w A2 (n - m) (cp - m) (l.drop m) hlb cc _ ST.out.2.2.1).mono ?_
                  rintro e W1 ⟨rfl, hb⟩
                  have ST2 := Lib.hid (ST.out.below hb)
                  clear ST hb
                  have ST := ST2
                  clear ST2
                  go_wp2_with fail
                  refine (rAdd_w _ _ _).mono ?_
                  rintro e w' ⟨rfl, rfl⟩
                  rw [← HSP.out, ← HSL.out]
                  go_wp2_with fail
                  go_roundw
                  case rel => exact ⟨k + 1, by omega, by go_num, ST.out⟩
                  case measure => simp [intOf]; omega
                · have hk1 : ¬ (k : Int) < (n : Int) := by omega
                  go_wp2
                  go_ret
                  exact ⟨rfl, ST.out.2.2.2⟩
end Go.Proofs.Ytlnfenjoagkpdaa
