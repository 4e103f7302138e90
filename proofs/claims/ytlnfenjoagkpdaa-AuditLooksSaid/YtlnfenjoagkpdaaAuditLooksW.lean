/- The walk of AuditLooks: it answers true. -/
import Derived.Test.YtlnfenjoagkpdaaAuC
namespace Go.Proofs.Ytlnfenjoagkpdaa
open Go.RowKit
set_option linter.unusedVariables false
set_option linter.unusedSimpArgs false

theorem take_get {α : Type} {l : List α} {k j : Nat} {x : α} : (l.take k)[j]? = some x ↔ j < k ∧ l[j]? = some x := by
  rw [List.getElem?_take]
  split
  · next h => exact Iff.intro (fun e => And.intro h e) (fun e => e.2)
  · next h => exact Iff.intro (fun e => by cases e) (fun e => absurd e.1 h)
theorem apart_step {l : List Dp} {k : Nat} {y : Dp} (hy : l[k]? = some y) : apartP (l.take (k + 1)) ↔ apartP (l.take k) ∧ ∀ m x, k = m + 1 → l[m]? = some x → x.fi ≤ y.st := by
  constructor
  · intro h
    refine ⟨fun j a b ha hb => h j a b ?_ ?_, fun m x hm hx => h m x y ?_ ?_⟩
    · rw [take_get] at *; exact ⟨by omega, ha.2⟩
    · rw [take_get] at *; exact ⟨by omega, hb.2⟩
    · rw [take_get]; exact ⟨by omega, hx⟩
    · rw [take_get]; exact ⟨by omega, by rw [← hm]; exact hy⟩
  · rintro ⟨h1, h2⟩ j a b ha hb
    rw [take_get] at ha hb
    by_cases hj : j + 1 < k
    · exact h1 j a b (take_get.2 ⟨by omega, ha.2⟩) (take_get.2 ⟨hj, hb.2⟩)
    · have e : j + 1 = k := by omega
      rw [e, hy] at hb
      have := hb.2
      cases this
      exact h2 j a e.symm ha.2
theorem exact_step {l : List Dp} {k : Nat} {d : Dp} {ns : Int} (hd : l[k]? = some d) : exactP (l.take (k + 1)) ns ↔ exactP (l.take k) ns ∧ d.fi = plus (cnt d.st) (mulC d.ln ns) := by
  obtain ⟨hk, rfl⟩ := List.getElem?_eq_some_iff.1 hd
  rw [List.take_succ_eq_append_getElem hk, exact_parts]
  unfold exactP
  simp
theorem once_step {l : List Dp} {k : Nat} {d : Dp} (hd : l[k]? = some d) : onceP (l.take (k + 1)) ↔ onceP (l.take k) ∧ ∀ i x, i < k → l[i]? = some x → x.sq ≠ d.sq := by
  obtain ⟨hk, rfl⟩ := List.getElem?_eq_some_iff.1 hd
  unfold onceP
  rw [List.take_succ_eq_append_getElem hk, List.map_append, List.nodup_append]
  simp only [List.map_cons, List.map_nil]
  constructor
  · rintro ⟨h1, _, h3⟩
    refine ⟨h1, fun i x hi hx e => ?_⟩
    have hm : x.sq ∈ (l.take k).map (·.sq) := List.mem_map.2 ⟨x, List.mem_of_getElem? (take_get.2 ⟨hi, hx⟩), rfl⟩
    exact h3 _ hm _ (by simp) e
  · rintro ⟨h1, h2⟩
    refine ⟨h1, by simp, fun a ha b hb => ?_⟩
    simp at hb
    subst hb
    obtain ⟨x, hx, rfl⟩ := List.mem_map.1 ha
    obtain ⟨i, hi⟩ := List.getElem?_of_mem hx
    rw [take_get] at hi
    exact h2 i x hi.1 hi.2
theorem pb_and {p q r : Prop} (h : p ↔ q ∧ r) (hr : r) : pb p = pb q := by
  by_cases hq : q
  · rw [pb_true hq, pb_true (h.2 ⟨hq, hr⟩)]
  · rw [pb_false hq, pb_false (fun hp => hq (h.1 hp).1)]
theorem pb_not {p q r : Prop} (h : p ↔ q ∧ r) (hr : ¬ r) : pb p = false := pb_false (fun hp => hr (h.1 hp).2)
theorem pb_eq {p : Prop} {b : Bool} (h : p ↔ b = true) : pb p = b := by
  cases b with
  | true => exact pb_true (h.2 rfl)
  | false => exact pb_false (fun hp => by cases h.1 hp)

set_option maxRecDepth 100000 in
set_option maxHeartbeats 8000000 in
theorem AuditLooks_w (A : Option Addr) (n cp : Nat) (rows : List (List Value)) (ns c : Int) (w : World) (hs : SlQ (List.replicate 5 (.i .i64)) w A n cp rows) (hw1 : (Lit.int .i64 ns).wf = true) (hw2 : (Lit.int .i64 c).wf = true) :
    Calls Try.prog 8 #[.slice A n cp, .int .i64 ns, .int .i64 c] w fun e w' => e = .returned (.bool true) ∧ Below w.heap.size w w' := by
  have hn63 : n ≤ 9223372036854775807 := Nat.le_trans hs.2.1 hs.2.2.1
  obtain ⟨l, hsl, hl⟩ := hs.dps
  have HS := Lib.hid hsl
  clear hs hsl
  go_enter Try.func8, Try.ntmps8
  go_wp2_with fail
  refine (awake32_w _).mono ?_
  rintro e w1 ⟨rfl, hb1⟩
  have HB1 := Lib.hid hb1
  have HS1 := Lib.hid (HS.out.below hb1)
  clear hb1
  by_cases h40 : 40 < n
  · have h40' : (40 : Int) < (n : Int) := by omega
    go_wp2_with fail
    refine (awake32_w _).mono ?_
    rintro e w2 ⟨rfl, hb2⟩
    have HB2 := Lib.hid (bl_next HB1.out hb2)
    clear hb2
    go_wp2
    go_ret
    exact ⟨rfl, HB2.out⟩
  · have h40' : ¬ (40 : Int) < (n : Int) := by omega
    go_wp2_with fail
    go_loopw [7, 8, 9, 10, 23] (fun sa se so sv i wr => ∃ (k qd : Nat), k ≤ n ∧ i = .int .i64 k ∧ sa = .bool (pb (apartP (l.take k))) ∧ se = .bool (pb (exactP (l.take k) ns)) ∧ so = .bool (pb (onceP (l.take k))) ∧ sv = .int .i64 (servedV (l.take k) c) ∧ wr = w1.drewN qd) (fun _ _ _ _ i _ => n - (intOf i).toNat)
    case atStart =>
      refine ⟨0, 0, Nat.zero_le _, rfl, ?_, ?_, ?_, rfl, rfl⟩
      · rw [pb_true (p := apartP (l.take 0)) (by intro j x y hx; simp at hx)]
      · rw [pb_true (p := exactP (l.take 0) ns) (by intro x hx; simp at hx)]
      · rw [pb_true (p := onceP (l.take 0)) (by unfold onceP; simp)]
    case round =>
      obtain ⟨k, qd, hk, rfl, rfl, rfl, rfl, rfl, rfl⟩ := hrel
      obtain ⟨aq, haq⟩ : ∃ aq, aq = pb (apartP (l.take k)) := ⟨_, rfl⟩
      obtain ⟨eq, heq⟩ : ∃ eq, eq = pb (exactP (l.take k) ns) := ⟨_, rfl⟩
      obtain ⟨oq, hoq⟩ : ∃ oq, oq = pb (onceP (l.take k)) := ⟨_, rfl⟩
      obtain ⟨sv, hsv⟩ : ∃ sv, sv = servedV (l.take k) c := ⟨_, rfl⟩
      rw [← haq, ← heq, ← hoq, ← hsv]
      have HAQ := Lib.hid haq
      have HEQ := Lib.hid heq
      have HOQ := Lib.hid hoq
      have HSV := Lib.hid hsv
      clear haq heq hoq hsv
      by_cases hlt : k < n
      · have hlt' : k < l.length := by rw [HS1.out.1]; exact hlt
        obtain ⟨y, hy⟩ : ∃ y, l[k]? = some y := ⟨_, List.getElem?_eq_getElem hlt'⟩
        obtain ⟨b, o, rfl, y0, y1, y2, y3, y4⟩ := HS1.out.dp hy
        have hk0 : (0 : Int) ≤ (k : Int) := Int.natCast_nonneg k
        have hk1 : (k : Int) < (n : Int) := by omega
        have HY := Lib.hid hy
        clear hy
        by_cases hkz : k = 0
        · have d0 : decide ((0 : Int) < (k : Int)) = false := decide_eq_false (by omega)
          have d0n : decide (0 < k) = false := decide_eq_false (by omega)
          have HAP := Lib.hid (show pb (apartP (l.take (k + 1))) = aq by rw [HAQ.out]; exact pb_and (apart_step HY.out) (fun m x hm => by omega))
          clear hkz
          go_wp2_with fail
          go_quiet (fail)
          go_upto_region 9 with (fail)
          by_cases hex : y.fi = plus (cnt y.st) (mulC y.ln ns)
          · have d5 : decide (y.fi = plus (cnt y.st) (mulC y.ln ns)) = true := decide_eq_true hex
            have d6 : (y.fi == plus (cnt y.st) (mulC y.ln ns)) = true := by simp [hex]
            have d7 : (y.fi != plus (cnt y.st) (mulC y.ln ns)) = false := by simp [hex]
            have HEX := Lib.hid (show pb (exactP (l.take (k + 1)) ns) = eq by rw [HEQ.out]; exact pb_and (exact_step HY.out) hex)
            clear hex
            generalize hWq : (World.drewN _ _) = Wq
            have HWQ : ∃ q0, Wq = w1.drewN q0 := ⟨_, by rw [← hWq]; first | rfl | (simp only [World.drewN_drewN]; rfl)⟩
            have z4 : Wq.cell? ⟨b, o + k * 5 + 4, none⟩ = some (.int .i64 y.fi) := by obtain ⟨q0, e0⟩ := HWQ; rw [e0]; exact y4
            have z3 : Wq.cell? ⟨b, o + k * 5 + 3, none⟩ = some (.int .i64 y.st) := by obtain ⟨q0, e0⟩ := HWQ; rw [e0]; exact y3
            have z2 : Wq.cell? ⟨b, o + k * 5 + 2, none⟩ = some (.int .i64 y.ln) := by obtain ⟨q0, e0⟩ := HWQ; rw [e0]; exact y2
            have HWR := Lib.hid HWQ
            clear hWq HWQ
            go_quiet ((first | (go_at_call 27; exact quiet_left (rMul_w y.ln ns _)) | (go_at_call 26; exact quiet_left (rAdd_w y.st (mulC y.ln ns) _))))
            clear z4 z3 z2
            go_upto_region 11 with (fail)
            obtain ⟨q0, rfl⟩ := HWR.out
            clear HWR
            go_wp2_with fail
            go_loopw [9, 62] (fun so i wr => ∃ (j qd2 : Nat) (ob : Bool), j ≤ k ∧ i = .int .i64 j ∧ so = .bool ob ∧ (ob = true ↔ oq = true ∧ ∀ (i' : Nat) (x : Dp), i' < j → l[i']? = some x → x.sq ≠ y.sq) ∧ wr = w1.drewN qd2) (fun _ i _ => k - (intOf i).toNat)
            case atStart => exact ⟨0, _, oq, Nat.zero_le _, rfl, rfl, ⟨fun h => ⟨h, fun i' x hi => by omega⟩, fun h => h.1⟩, by first | rfl | (simp only [World.drewN_drewN]; done) | (simp only [World.drewN_drewN]; rfl)⟩
            case round =>
              obtain ⟨j, qd2, ob, hj, rfl, rfl, hob, rfl⟩ := hrel
              have HOB := Lib.hid hob
              clear hob y0 y1 y2 y3 y4
              obtain ⟨y0, y1, y2⟩ : w1.cell? ⟨b, o + k * 5, none⟩ = some (.int .i64 y.sq) ∧ w1.cell? ⟨b, o + k * 5 + 1, none⟩ = some (.int .i64 y.cl) ∧ w1.cell? ⟨b, o + k * 5 + 2, none⟩ = some (.int .i64 y.ln) := by
                obtain ⟨b', o', e', z0, z1, z2, _, _⟩ := HS1.out.dp HY.out
                cases e'
                exact ⟨z0, z1, z2⟩
              by_cases hjk : j < k
              · obtain ⟨x, hx⟩ : ∃ x, l[j]? = some x := ⟨_, List.getElem?_eq_getElem (by omega)⟩
                obtain ⟨b3, o3, e3, x0, _, _, _, _⟩ := HS1.out.dp hx
                cases e3
                have hj0 : (0 : Int) ≤ (j : Int) := Int.natCast_nonneg j
                have hj1 : (j : Int) < (k : Int) := by omega
                have hj2 : (j : Int) < (n : Int) := by omega
                have HXJ := Lib.hid hx
                clear hx
                by_cases heqs : x.sq = y.sq
                · have d8 : decide (x.sq = y.sq) = true := decide_eq_true heqs
                  have d9 : (x.sq == y.sq) = true := by simp [heqs]
                  have HES := Lib.hid heqs
                  clear heqs
                  go_wp2_with fail
                  go_quiet (fail)
                  go_wp2_with fail
                  go_roundw
                  case rel => exact ⟨j + 1, _, false, by omega, by go_num, rfl, ⟨(fun h => by cases h), (fun h => absurd HES.out (h.2 j x (by omega) HXJ.out))⟩, by first | rfl | (simp only [World.drewN_drewN]; done) | (simp only [World.drewN_drewN]; rfl)⟩
                  case measure => simp [intOf]; omega
                · have d8 : decide (x.sq = y.sq) = false := decide_eq_false heqs
                  have d9 : (x.sq == y.sq) = false := by simp [heqs]
                  have HES := Lib.hid heqs
                  clear heqs
                  go_wp2_with fail
                  go_quiet (fail)
                  go_wp2_with fail
                  go_roundw
                  case rel => exact ⟨j + 1, _, ob, by omega, by go_num, rfl, ⟨fun h => ⟨(HOB.out.1 h).1, fun i' x' hi hx' => by
                    rcases Nat.lt_or_ge i' j with h' | h'
                    · exact (HOB.out.1 h).2 i' x' h' hx'
                    · have e : i' = j := by omega
                      rw [e, HXJ.out] at hx'
                      cases hx'
                      exact HES.out⟩, fun h => HOB.out.2 ⟨h.1, fun i' x' hi hx' => h.2 i' x' (by omega) hx'⟩⟩, by first | rfl | (simp only [World.drewN_drewN]; done) | (simp only [World.drewN_drewN]; rfl)⟩
                  case measure => simp [intOf]; omega
              · have hjk' : j = k := by omega
                have hj1 : ¬ (j : Int) < (k : Int) := by omega
                have HON := Lib.hid (show pb (onceP (l.take (k + 1))) = ob from pb_eq ((once_step HY.out).trans (by
                  rw [HOB.out, hjk', HOQ.out]
                  constructor
                  · rintro ⟨h1, h2⟩
                    exact ⟨pb_true h1, h2⟩
                  · rintro ⟨h1, h2⟩
                    exact ⟨of_pb h1, h2⟩)))
                have HST := Lib.hid (servedV_take HY.out c)
                by_cases hc : y.cl = c
                · have d1c : decide (y.cl = c) = true := decide_eq_true hc
                  have d2c : (y.cl == c) = true := by simp [hc]
                  have HAS := Lib.hid (show addS c sv y = plus (cnt sv) y.ln from if_pos hc)
                  clear hc
                  go_wp2_with fail
                  refine (rAdd_w sv y.ln _).mono ?_
                  rintro e w' ⟨rfl, rfl⟩
                  rw [← HAS.out]
                  go_wp2_with fail
                  go_roundw
                  case rel => exact ⟨k + 1, _, by omega, by go_num, by rw [HAP.out], by rw [HEX.out], by rw [HON.out], by rw [HST.out, ← HSV.out], rfl⟩
                  case measure => simp [intOf]; omega
                · have d1c : decide (y.cl = c) = false := decide_eq_false hc
                  have d2c : (y.cl == c) = false := by simp [hc]
                  have HAS := Lib.hid (show addS c sv y = sv from if_neg hc)
                  clear hc
                  go_wp2_with fail
                  go_roundw
                  case rel => exact ⟨k + 1, _, by omega, by go_num, by rw [HAP.out], by rw [HEX.out], by rw [HON.out], by rw [HST.out, ← HSV.out, HAS.out], rfl⟩
                  case measure => simp [intOf]; omega
          · have d5 : decide (y.fi = plus (cnt y.st) (mulC y.ln ns)) = false := decide_eq_false hex
            have d6 : (y.fi == plus (cnt y.st) (mulC y.ln ns)) = false := by simp [hex]
            have d7 : (y.fi != plus (cnt y.st) (mulC y.ln ns)) = true := by simp [hex]
            have HEX := Lib.hid (show pb (exactP (l.take (k + 1)) ns) = false from pb_not (exact_step HY.out) hex)
            clear hex
            generalize hWq : (World.drewN _ _) = Wq
            have HWQ : ∃ q0, Wq = w1.drewN q0 := ⟨_, by rw [← hWq]; first | rfl | (simp only [World.drewN_drewN]; rfl)⟩
            have z4 : Wq.cell? ⟨b, o + k * 5 + 4, none⟩ = some (.int .i64 y.fi) := by obtain ⟨q0, e0⟩ := HWQ; rw [e0]; exact y4
            have z3 : Wq.cell? ⟨b, o + k * 5 + 3, none⟩ = some (.int .i64 y.st) := by obtain ⟨q0, e0⟩ := HWQ; rw [e0]; exact y3
            have z2 : Wq.cell? ⟨b, o + k * 5 + 2, none⟩ = some (.int .i64 y.ln) := by obtain ⟨q0, e0⟩ := HWQ; rw [e0]; exact y2
            have HWR := Lib.hid HWQ
            clear hWq HWQ
            go_quiet ((first | (go_at_call 27; exact quiet_left (rMul_w y.ln ns _)) | (go_at_call 26; exact quiet_left (rAdd_w y.st (mulC y.ln ns) _))))
            clear z4 z3 z2
            go_upto_region 11 with (fail)
            obtain ⟨q0, rfl⟩ := HWR.out
            clear HWR
            go_wp2_with fail
            go_loopw [9, 62] (fun so i wr => ∃ (j qd2 : Nat) (ob : Bool), j ≤ k ∧ i = .int .i64 j ∧ so = .bool ob ∧ (ob = true ↔ oq = true ∧ ∀ (i' : Nat) (x : Dp), i' < j → l[i']? = some x → x.sq ≠ y.sq) ∧ wr = w1.drewN qd2) (fun _ i _ => k - (intOf i).toNat)
            case atStart => exact ⟨0, _, oq, Nat.zero_le _, rfl, rfl, ⟨fun h => ⟨h, fun i' x hi => by omega⟩, fun h => h.1⟩, by first | rfl | (simp only [World.drewN_drewN]; done) | (simp only [World.drewN_drewN]; rfl)⟩
            case round =>
              obtain ⟨j, qd2, ob, hj, rfl, rfl, hob, rfl⟩ := hrel
              have HOB := Lib.hid hob
              clear hob y0 y1 y2 y3 y4
              obtain ⟨y0, y1, y2⟩ : w1.cell? ⟨b, o + k * 5, none⟩ = some (.int .i64 y.sq) ∧ w1.cell? ⟨b, o + k * 5 + 1, none⟩ = some (.int .i64 y.cl) ∧ w1.cell? ⟨b, o + k * 5 + 2, none⟩ = some (.int .i64 y.ln) := by
                obtain ⟨b', o', e', z0, z1, z2, _, _⟩ := HS1.out.dp HY.out
                cases e'
                exact ⟨z0, z1, z2⟩
              by_cases hjk : j < k
              · obtain ⟨x, hx⟩ : ∃ x, l[j]? = some x := ⟨_, List.getElem?_eq_getElem (by omega)⟩
                obtain ⟨b3, o3, e3, x0, _, _, _, _⟩ := HS1.out.dp hx
                cases e3
                have hj0 : (0 : Int) ≤ (j : Int) := Int.natCast_nonneg j
                have hj1 : (j : Int) < (k : Int) := by omega
                have hj2 : (j : Int) < (n : Int) := by omega
                have HXJ := Lib.hid hx
                clear hx
                by_cases heqs : x.sq = y.sq
                · have d8 : decide (x.sq = y.sq) = true := decide_eq_true heqs
                  have d9 : (x.sq == y.sq) = true := by simp [heqs]
                  have HES := Lib.hid heqs
                  clear heqs
                  go_wp2_with fail
                  go_quiet (fail)
                  go_wp2_with fail
                  go_roundw
                  case rel => exact ⟨j + 1, _, false, by omega, by go_num, rfl, ⟨(fun h => by cases h), (fun h => absurd HES.out (h.2 j x (by omega) HXJ.out))⟩, by first | rfl | (simp only [World.drewN_drewN]; done) | (simp only [World.drewN_drewN]; rfl)⟩
                  case measure => simp [intOf]; omega
                · have d8 : decide (x.sq = y.sq) = false := decide_eq_false heqs
                  have d9 : (x.sq == y.sq) = false := by simp [heqs]
                  have HES := Lib.hid heqs
                  clear heqs
                  go_wp2_with fail
                  go_quiet (fail)
                  go_wp2_with fail
                  go_roundw
                  case rel => exact ⟨j + 1, _, ob, by omega, by go_num, rfl, ⟨fun h => ⟨(HOB.out.1 h).1, fun i' x' hi hx' => by
                    rcases Nat.lt_or_ge i' j with h' | h'
                    · exact (HOB.out.1 h).2 i' x' h' hx'
                    · have e : i' = j := by omega
                      rw [e, HXJ.out] at hx'
                      cases hx'
                      exact HES.out⟩, fun h => HOB.out.2 ⟨h.1, fun i' x' hi hx' => h.2 i' x' (by omega) hx'⟩⟩, by first | rfl | (simp only [World.drewN_drewN]; done) | (simp only [World.drewN_drewN]; rfl)⟩
                  case measure => simp [intOf]; omega
              · have hjk' : j = k := by omega
                have hj1 : ¬ (j : Int) < (k : Int) := by omega
                have HON := Lib.hid (show pb (onceP (l.take (k + 1))) = ob from pb_eq ((once_step HY.out).trans (by
                  rw [HOB.out, hjk', HOQ.out]
                  constructor
                  · rintro ⟨h1, h2⟩
                    exact ⟨pb_true h1, h2⟩
                  · rintro ⟨h1, h2⟩
                    exact ⟨of_pb h1, h2⟩)))
                have HST := Lib.hid (servedV_take HY.out c)
                by_cases hc : y.cl = c
                · have d1c : decide (y.cl = c) = true := decide_eq_true hc
                  have d2c : (y.cl == c) = true := by simp [hc]
                  have HAS := Lib.hid (show addS c sv y = plus (cnt sv) y.ln from if_pos hc)
                  clear hc
                  go_wp2_with fail
                  refine (rAdd_w sv y.ln _).mono ?_
                  rintro e w' ⟨rfl, rfl⟩
                  rw [← HAS.out]
                  go_wp2_with fail
                  go_roundw
                  case rel => exact ⟨k + 1, _, by omega, by go_num, by rw [HAP.out], by rw [HEX.out], by rw [HON.out], by rw [HST.out, ← HSV.out], rfl⟩
                  case measure => simp [intOf]; omega
                · have d1c : decide (y.cl = c) = false := decide_eq_false hc
                  have d2c : (y.cl == c) = false := by simp [hc]
                  have HAS := Lib.hid (show addS c sv y = sv from if_neg hc)
                  clear hc
                  go_wp2_with fail
                  go_roundw
                  case rel => exact ⟨k + 1, _, by omega, by go_num, by rw [HAP.out], by rw [HEX.out], by rw [HON.out], by rw [HST.out, ← HSV.out, HAS.out], rfl⟩
                  case measure => simp [intOf]; omega
        · have d0 : decide ((0 : Int) < (k : Int)) = true := decide_eq_true (by omega)
          have d0n : decide (0 < k) = true := decide_eq_true (by omega)
          obtain ⟨m, hm⟩ : ∃ m, k = m + 1 := ⟨k - 1, by omega⟩
          obtain ⟨x, hx⟩ : ∃ x, l[m]? = some x := ⟨_, List.getElem?_eq_getElem (by omega)⟩
          obtain ⟨b2, o2, e2, _, _, _, _, x4⟩ := HS1.out.dp hx
          cases e2
          have hm0 : (0 : Int) ≤ (m : Int) := Int.natCast_nonneg m
          have hm1 : (m : Int) < (n : Int) := by omega
          have hkm : IntKind.i64.wrap ((k : Int) - 1) = (m : Int) := by rw [IntWalk.i64_in _ (by omega)]; omega
          have HX := Lib.hid hx
          have HM := Lib.hid hm
          clear hx hm hkz
          by_cases hlo : y.st < x.fi
          · have d1 : decide (y.st < x.fi) = true := decide_eq_true hlo
            have HAP := Lib.hid (show pb (apartP (l.take (k + 1))) = false from pb_not (apart_step HY.out) (fun h => by have := h m x HM.out HX.out; omega))
            go_wp2_with fail
            go_quiet (fail)
            go_upto_region 9 with (fail)
            by_cases hex : y.fi = plus (cnt y.st) (mulC y.ln ns)
            · have d5 : decide (y.fi = plus (cnt y.st) (mulC y.ln ns)) = true := decide_eq_true hex
              have d6 : (y.fi == plus (cnt y.st) (mulC y.ln ns)) = true := by simp [hex]
              have d7 : (y.fi != plus (cnt y.st) (mulC y.ln ns)) = false := by simp [hex]
              have HEX := Lib.hid (show pb (exactP (l.take (k + 1)) ns) = eq by rw [HEQ.out]; exact pb_and (exact_step HY.out) hex)
              clear hex
              generalize hWq : (World.drewN _ _) = Wq
              have HWQ : ∃ q0, Wq = w1.drewN q0 := ⟨_, by rw [← hWq]; first | rfl | (simp only [World.drewN_drewN]; rfl)⟩
              have z4 : Wq.cell? ⟨b, o + k * 5 + 4, none⟩ = some (.int .i64 y.fi) := by obtain ⟨q0, e0⟩ := HWQ; rw [e0]; exact y4
              have z3 : Wq.cell? ⟨b, o + k * 5 + 3, none⟩ = some (.int .i64 y.st) := by obtain ⟨q0, e0⟩ := HWQ; rw [e0]; exact y3
              have z2 : Wq.cell? ⟨b, o + k * 5 + 2, none⟩ = some (.int .i64 y.ln) := by obtain ⟨q0, e0⟩ := HWQ; rw [e0]; exact y2
              have HWR := Lib.hid HWQ
              clear hWq HWQ
              go_quiet ((first | (go_at_call 27; exact quiet_left (rMul_w y.ln ns _)) | (go_at_call 26; exact quiet_left (rAdd_w y.st (mulC y.ln ns) _))))
              clear z4 z3 z2
              go_upto_region 11 with (fail)
              obtain ⟨q0, rfl⟩ := HWR.out
              clear HWR
              go_wp2_with fail
              go_loopw [9, 62] (fun so i wr => ∃ (j qd2 : Nat) (ob : Bool), j ≤ k ∧ i = .int .i64 j ∧ so = .bool ob ∧ (ob = true ↔ oq = true ∧ ∀ (i' : Nat) (x : Dp), i' < j → l[i']? = some x → x.sq ≠ y.sq) ∧ wr = w1.drewN qd2) (fun _ i _ => k - (intOf i).toNat)
              case atStart => exact ⟨0, _, oq, Nat.zero_le _, rfl, rfl, ⟨fun h => ⟨h, fun i' x hi => by omega⟩, fun h => h.1⟩, by first | rfl | (simp only [World.drewN_drewN]; done) | (simp only [World.drewN_drewN]; rfl)⟩
              case round =>
                obtain ⟨j, qd2, ob, hj, rfl, rfl, hob, rfl⟩ := hrel
                have HOB := Lib.hid hob
                clear hob y0 y1 y2 y3 y4
                obtain ⟨y0, y1, y2⟩ : w1.cell? ⟨b, o + k * 5, none⟩ = some (.int .i64 y.sq) ∧ w1.cell? ⟨b, o + k * 5 + 1, none⟩ = some (.int .i64 y.cl) ∧ w1.cell? ⟨b, o + k * 5 + 2, none⟩ = some (.int .i64 y.ln) := by
                  obtain ⟨b', o', e', z0, z1, z2, _, _⟩ := HS1.out.dp HY.out
                  cases e'
                  exact ⟨z0, z1, z2⟩
                by_cases hjk : j < k
                · obtain ⟨x, hx⟩ : ∃ x, l[j]? = some x := ⟨_, List.getElem?_eq_getElem (by omega)⟩
                  obtain ⟨b3, o3, e3, x0, _, _, _, _⟩ := HS1.out.dp hx
                  cases e3
                  have hj0 : (0 : Int) ≤ (j : Int) := Int.natCast_nonneg j
                  have hj1 : (j : Int) < (k : Int) := by omega
                  have hj2 : (j : Int) < (n : Int) := by omega
                  have HXJ := Lib.hid hx
                  clear hx
                  by_cases heqs : x.sq = y.sq
                  · have d8 : decide (x.sq = y.sq) = true := decide_eq_true heqs
                    have d9 : (x.sq == y.sq) = true := by simp [heqs]
                    have HES := Lib.hid heqs
                    clear heqs
                    go_wp2_with fail
                    go_quiet (fail)
                    go_wp2_with fail
                    go_roundw
                    case rel => exact ⟨j + 1, _, false, by omega, by go_num, rfl, ⟨(fun h => by cases h), (fun h => absurd HES.out (h.2 j x (by omega) HXJ.out))⟩, by first | rfl | (simp only [World.drewN_drewN]; done) | (simp only [World.drewN_drewN]; rfl)⟩
                    case measure => simp [intOf]; omega
                  · have d8 : decide (x.sq = y.sq) = false := decide_eq_false heqs
                    have d9 : (x.sq == y.sq) = false := by simp [heqs]
                    have HES := Lib.hid heqs
                    clear heqs
                    go_wp2_with fail
                    go_quiet (fail)
                    go_wp2_with fail
                    go_roundw
                    case rel => exact ⟨j + 1, _, ob, by omega, by go_num, rfl, ⟨fun h => ⟨(HOB.out.1 h).1, fun i' x' hi hx' => by
                      rcases Nat.lt_or_ge i' j with h' | h'
                      · exact (HOB.out.1 h).2 i' x' h' hx'
                      · have e : i' = j := by omega
                        rw [e, HXJ.out] at hx'
                        cases hx'
                        exact HES.out⟩, fun h => HOB.out.2 ⟨h.1, fun i' x' hi hx' => h.2 i' x' (by omega) hx'⟩⟩, by first | rfl | (simp only [World.drewN_drewN]; done) | (simp only [World.drewN_drewN]; rfl)⟩
                    case measure => simp [intOf]; omega
                · have hjk' : j = k := by omega
                  have hj1 : ¬ (j : Int) < (k : Int) := by omega
                  have HON := Lib.hid (show pb (onceP (l.take (k + 1))) = ob from pb_eq ((once_step HY.out).trans (by
                    rw [HOB.out, hjk', HOQ.out]
                    constructor
                    · rintro ⟨h1, h2⟩
                      exact ⟨pb_true h1, h2⟩
                    · rintro ⟨h1, h2⟩
                      exact ⟨of_pb h1, h2⟩)))
                  have HST := Lib.hid (servedV_take HY.out c)
                  by_cases hc : y.cl = c
                  · have d1c : decide (y.cl = c) = true := decide_eq_true hc
                    have d2c : (y.cl == c) = true := by simp [hc]
                    have HAS := Lib.hid (show addS c sv y = plus (cnt sv) y.ln from if_pos hc)
                    clear hc
                    go_wp2_with fail
                    refine (rAdd_w sv y.ln _).mono ?_
                    rintro e w' ⟨rfl, rfl⟩
                    rw [← HAS.out]
                    go_wp2_with fail
                    go_roundw
                    case rel => exact ⟨k + 1, _, by omega, by go_num, by rw [HAP.out], by rw [HEX.out], by rw [HON.out], by rw [HST.out, ← HSV.out], rfl⟩
                    case measure => simp [intOf]; omega
                  · have d1c : decide (y.cl = c) = false := decide_eq_false hc
                    have d2c : (y.cl == c) = false := by simp [hc]
                    have HAS := Lib.hid (show addS c sv y = sv from if_neg hc)
                    clear hc
                    go_wp2_with fail
                    go_roundw
                    case rel => exact ⟨k + 1, _, by omega, by go_num, by rw [HAP.out], by rw [HEX.out], by rw [HON.out], by rw [HST.out, ← HSV.out, HAS.out], rfl⟩
                    case measure => simp [intOf]; omega
            · have d5 : decide (y.fi = plus (cnt y.st) (mulC y.ln ns)) = false := decide_eq_false hex
              have d6 : (y.fi == plus (cnt y.st) (mulC y.ln ns)) = false := by simp [hex]
              have d7 : (y.fi != plus (cnt y.st) (mulC y.ln ns)) = true := by simp [hex]
              have HEX := Lib.hid (show pb (exactP (l.take (k + 1)) ns) = false from pb_not (exact_step HY.out) hex)
              clear hex
              generalize hWq : (World.drewN _ _) = Wq
              have HWQ : ∃ q0, Wq = w1.drewN q0 := ⟨_, by rw [← hWq]; first | rfl | (simp only [World.drewN_drewN]; rfl)⟩
              have z4 : Wq.cell? ⟨b, o + k * 5 + 4, none⟩ = some (.int .i64 y.fi) := by obtain ⟨q0, e0⟩ := HWQ; rw [e0]; exact y4
              have z3 : Wq.cell? ⟨b, o + k * 5 + 3, none⟩ = some (.int .i64 y.st) := by obtain ⟨q0, e0⟩ := HWQ; rw [e0]; exact y3
              have z2 : Wq.cell? ⟨b, o + k * 5 + 2, none⟩ = some (.int .i64 y.ln) := by obtain ⟨q0, e0⟩ := HWQ; rw [e0]; exact y2
              have HWR := Lib.hid HWQ
              clear hWq HWQ
              go_quiet ((first | (go_at_call 27; exact quiet_left (rMul_w y.ln ns _)) | (go_at_call 26; exact quiet_left (rAdd_w y.st (mulC y.ln ns) _))))
              clear z4 z3 z2
              go_upto_region 11 with (fail)
              obtain ⟨q0, rfl⟩ := HWR.out
              clear HWR
              go_wp2_with fail
              go_loopw [9, 62] (fun so i wr => ∃ (j qd2 : Nat) (ob : Bool), j ≤ k ∧ i = .int .i64 j ∧ so = .bool ob ∧ (ob = true ↔ oq = true ∧ ∀ (i' : Nat) (x : Dp), i' < j → l[i']? = some x → x.sq ≠ y.sq) ∧ wr = w1.drewN qd2) (fun _ i _ => k - (intOf i).toNat)
              case atStart => exact ⟨0, _, oq, Nat.zero_le _, rfl, rfl, ⟨fun h => ⟨h, fun i' x hi => by omega⟩, fun h => h.1⟩, by first | rfl | (simp only [World.drewN_drewN]; done) | (simp only [World.drewN_drewN]; rfl)⟩
              case round =>
                obtain ⟨j, qd2, ob, hj, rfl, rfl, hob, rfl⟩ := hrel
                have HOB := Lib.hid hob
                clear hob y0 y1 y2 y3 y4
                obtain ⟨y0, y1, y2⟩ : w1.cell? ⟨b, o + k * 5, none⟩ = some (.int .i64 y.sq) ∧ w1.cell? ⟨b, o + k * 5 + 1, none⟩ = some (.int .i64 y.cl) ∧ w1.cell? ⟨b, o + k * 5 + 2, none⟩ = some (.int .i64 y.ln) := by
                  obtain ⟨b', o', e', z0, z1, z2, _, _⟩ := HS1.out.dp HY.out
                  cases e'
                  exact ⟨z0, z1, z2⟩
                by_cases hjk : j < k
                · obtain ⟨x, hx⟩ : ∃ x, l[j]? = some x := ⟨_, List.getElem?_eq_getElem (by omega)⟩
                  obtain ⟨b3, o3, e3, x0, _, _, _, _⟩ := HS1.out.dp hx
                  cases e3
                  have hj0 : (0 : Int) ≤ (j : Int) := Int.natCast_nonneg j
                  have hj1 : (j : Int) < (k : Int) := by omega
                  have hj2 : (j : Int) < (n : Int) := by omega
                  have HXJ := Lib.hid hx
                  clear hx
                  by_cases heqs : x.sq = y.sq
                  · have d8 : decide (x.sq = y.sq) = true := decide_eq_true heqs
                    have d9 : (x.sq == y.sq) = true := by simp [heqs]
                    have HES := Lib.hid heqs
                    clear heqs
                    go_wp2_with fail
                    go_quiet (fail)
                    go_wp2_with fail
                    go_roundw
                    case rel => exact ⟨j + 1, _, false, by omega, by go_num, rfl, ⟨(fun h => by cases h), (fun h => absurd HES.out (h.2 j x (by omega) HXJ.out))⟩, by first | rfl | (simp only [World.drewN_drewN]; done) | (simp only [World.drewN_drewN]; rfl)⟩
                    case measure => simp [intOf]; omega
                  · have d8 : decide (x.sq = y.sq) = false := decide_eq_false heqs
                    have d9 : (x.sq == y.sq) = false := by simp [heqs]
                    have HES := Lib.hid heqs
                    clear heqs
                    go_wp2_with fail
                    go_quiet (fail)
                    go_wp2_with fail
                    go_roundw
                    case rel => exact ⟨j + 1, _, ob, by omega, by go_num, rfl, ⟨fun h => ⟨(HOB.out.1 h).1, fun i' x' hi hx' => by
                      rcases Nat.lt_or_ge i' j with h' | h'
                      · exact (HOB.out.1 h).2 i' x' h' hx'
                      · have e : i' = j := by omega
                        rw [e, HXJ.out] at hx'
                        cases hx'
                        exact HES.out⟩, fun h => HOB.out.2 ⟨h.1, fun i' x' hi hx' => h.2 i' x' (by omega) hx'⟩⟩, by first | rfl | (simp only [World.drewN_drewN]; done) | (simp only [World.drewN_drewN]; rfl)⟩
                    case measure => simp [intOf]; omega
                · have hjk' : j = k := by omega
                  have hj1 : ¬ (j : Int) < (k : Int) := by omega
                  have HON := Lib.hid (show pb (onceP (l.take (k + 1))) = ob from pb_eq ((once_step HY.out).trans (by
                    rw [HOB.out, hjk', HOQ.out]
                    constructor
                    · rintro ⟨h1, h2⟩
                      exact ⟨pb_true h1, h2⟩
                    · rintro ⟨h1, h2⟩
                      exact ⟨of_pb h1, h2⟩)))
                  have HST := Lib.hid (servedV_take HY.out c)
                  by_cases hc : y.cl = c
                  · have d1c : decide (y.cl = c) = true := decide_eq_true hc
                    have d2c : (y.cl == c) = true := by simp [hc]
                    have HAS := Lib.hid (show addS c sv y = plus (cnt sv) y.ln from if_pos hc)
                    clear hc
                    go_wp2_with fail
                    refine (rAdd_w sv y.ln _).mono ?_
                    rintro e w' ⟨rfl, rfl⟩
                    rw [← HAS.out]
                    go_wp2_with fail
                    go_roundw
                    case rel => exact ⟨k + 1, _, by omega, by go_num, by rw [HAP.out], by rw [HEX.out], by rw [HON.out], by rw [HST.out, ← HSV.out], rfl⟩
                    case measure => simp [intOf]; omega
                  · have d1c : decide (y.cl = c) = false := decide_eq_false hc
                    have d2c : (y.cl == c) = false := by simp [hc]
                    have HAS := Lib.hid (show addS c sv y = sv from if_neg hc)
                    clear hc
                    go_wp2_with fail
                    go_roundw
                    case rel => exact ⟨k + 1, _, by omega, by go_num, by rw [HAP.out], by rw [HEX.out], by rw [HON.out], by rw [HST.out, ← HSV.out, HAS.out], rfl⟩
                    case measure => simp [intOf]; omega
          · have d1 : decide (y.st < x.fi) = false := decide_eq_false hlo
            have HAP := Lib.hid (show pb (apartP (l.take (k + 1))) = aq by
              rw [HAQ.out]
              refine pb_and (apart_step HY.out) (fun m' x' hm' hx' => ?_)
              have e : m' = m := by have := HM.out; omega
              rw [e, HX.out] at hx'
              cases hx'
              omega)
            go_wp2_with fail
            go_quiet (fail)
            go_upto_region 9 with (fail)
            by_cases hex : y.fi = plus (cnt y.st) (mulC y.ln ns)
            · have d5 : decide (y.fi = plus (cnt y.st) (mulC y.ln ns)) = true := decide_eq_true hex
              have d6 : (y.fi == plus (cnt y.st) (mulC y.ln ns)) = true := by simp [hex]
              have d7 : (y.fi != plus (cnt y.st) (mulC y.ln ns)) = false := by simp [hex]
              have HEX := Lib.hid (show pb (exactP (l.take (k + 1)) ns) = eq by rw [HEQ.out]; exact pb_and (exact_step HY.out) hex)
              clear hex
              generalize hWq : (World.drewN _ _) = Wq
              have HWQ : ∃ q0, Wq = w1.drewN q0 := ⟨_, by rw [← hWq]; first | rfl | (simp only [World.drewN_drewN]; rfl)⟩
              have z4 : Wq.cell? ⟨b, o + k * 5 + 4, none⟩ = some (.int .i64 y.fi) := by obtain ⟨q0, e0⟩ := HWQ; rw [e0]; exact y4
              have z3 : Wq.cell? ⟨b, o + k * 5 + 3, none⟩ = some (.int .i64 y.st) := by obtain ⟨q0, e0⟩ := HWQ; rw [e0]; exact y3
              have z2 : Wq.cell? ⟨b, o + k * 5 + 2, none⟩ = some (.int .i64 y.ln) := by obtain ⟨q0, e0⟩ := HWQ; rw [e0]; exact y2
              have HWR := Lib.hid HWQ
              clear hWq HWQ
              go_quiet ((first | (go_at_call 27; exact quiet_left (rMul_w y.ln ns _)) | (go_at_call 26; exact quiet_left (rAdd_w y.st (mulC y.ln ns) _))))
              clear z4 z3 z2
              go_upto_region 11 with (fail)
              obtain ⟨q0, rfl⟩ := HWR.out
              clear HWR
              go_wp2_with fail
              go_loopw [9, 62] (fun so i wr => ∃ (j qd2 : Nat) (ob : Bool), j ≤ k ∧ i = .int .i64 j ∧ so = .bool ob ∧ (ob = true ↔ oq = true ∧ ∀ (i' : Nat) (x : Dp), i' < j → l[i']? = some x → x.sq ≠ y.sq) ∧ wr = w1.drewN qd2) (fun _ i _ => k - (intOf i).toNat)
              case atStart => exact ⟨0, _, oq, Nat.zero_le _, rfl, rfl, ⟨fun h => ⟨h, fun i' x hi => by omega⟩, fun h => h.1⟩, by first | rfl | (simp only [World.drewN_drewN]; done) | (simp only [World.drewN_drewN]; rfl)⟩
              case round =>
                obtain ⟨j, qd2, ob, hj, rfl, rfl, hob, rfl⟩ := hrel
                have HOB := Lib.hid hob
                clear hob y0 y1 y2 y3 y4
                obtain ⟨y0, y1, y2⟩ : w1.cell? ⟨b, o + k * 5, none⟩ = some (.int .i64 y.sq) ∧ w1.cell? ⟨b, o + k * 5 + 1, none⟩ = some (.int .i64 y.cl) ∧ w1.cell? ⟨b, o + k * 5 + 2, none⟩ = some (.int .i64 y.ln) := by
                  obtain ⟨b', o', e', z0, z1, z2, _, _⟩ := HS1.out.dp HY.out
                  cases e'
                  exact ⟨z0, z1, z2⟩
                by_cases hjk : j < k
                · obtain ⟨x, hx⟩ : ∃ x, l[j]? = some x := ⟨_, List.getElem?_eq_getElem (by omega)⟩
                  obtain ⟨b3, o3, e3, x0, _, _, _, _⟩ := HS1.out.dp hx
                  cases e3
                  have hj0 : (0 : Int) ≤ (j : Int) := Int.natCast_nonneg j
                  have hj1 : (j : Int) < (k : Int) := by omega
                  have hj2 : (j : Int) < (n : Int) := by omega
                  have HXJ := Lib.hid hx
                  clear hx
                  by_cases heqs : x.sq = y.sq
                  · have d8 : decide (x.sq = y.sq) = true := decide_eq_true heqs
                    have d9 : (x.sq == y.sq) = true := by simp [heqs]
                    have HES := Lib.hid heqs
                    clear heqs
                    go_wp2_with fail
                    go_quiet (fail)
                    go_wp2_with fail
                    go_roundw
                    case rel => exact ⟨j + 1, _, false, by omega, by go_num, rfl, ⟨(fun h => by cases h), (fun h => absurd HES.out (h.2 j x (by omega) HXJ.out))⟩, by first | rfl | (simp only [World.drewN_drewN]; done) | (simp only [World.drewN_drewN]; rfl)⟩
                    case measure => simp [intOf]; omega
                  · have d8 : decide (x.sq = y.sq) = false := decide_eq_false heqs
                    have d9 : (x.sq == y.sq) = false := by simp [heqs]
                    have HES := Lib.hid heqs
                    clear heqs
                    go_wp2_with fail
                    go_quiet (fail)
                    go_wp2_with fail
                    go_roundw
                    case rel => exact ⟨j + 1, _, ob, by omega, by go_num, rfl, ⟨fun h => ⟨(HOB.out.1 h).1, fun i' x' hi hx' => by
                      rcases Nat.lt_or_ge i' j with h' | h'
                      · exact (HOB.out.1 h).2 i' x' h' hx'
                      · have e : i' = j := by omega
                        rw [e, HXJ.out] at hx'
                        cases hx'
                        exact HES.out⟩, fun h => HOB.out.2 ⟨h.1, fun i' x' hi hx' => h.2 i' x' (by omega) hx'⟩⟩, by first | rfl | (simp only [World.drewN_drewN]; done) | (simp only [World.drewN_drewN]; rfl)⟩
                    case measure => simp [intOf]; omega
                · have hjk' : j = k := by omega
                  have hj1 : ¬ (j : Int) < (k : Int) := by omega
                  have HON := Lib.hid (show pb (onceP (l.take (k + 1))) = ob from pb_eq ((once_step HY.out).trans (by
                    rw [HOB.out, hjk', HOQ.out]
                    constructor
                    · rintro ⟨h1, h2⟩
                      exact ⟨pb_true h1, h2⟩
                    · rintro ⟨h1, h2⟩
                      exact ⟨of_pb h1, h2⟩)))
                  have HST := Lib.hid (servedV_take HY.out c)
                  by_cases hc : y.cl = c
                  · have d1c : decide (y.cl = c) = true := decide_eq_true hc
                    have d2c : (y.cl == c) = true := by simp [hc]
                    have HAS := Lib.hid (show addS c sv y = plus (cnt sv) y.ln from if_pos hc)
                    clear hc
                    go_wp2_with fail
                    refine (rAdd_w sv y.ln _).mono ?_
                    rintro e w' ⟨rfl, rfl⟩
                    rw [← HAS.out]
                    go_wp2_with fail
                    go_roundw
                    case rel => exact ⟨k + 1, _, by omega, by go_num, by rw [HAP.out], by rw [HEX.out], by rw [HON.out], by rw [HST.out, ← HSV.out], rfl⟩
                    case measure => simp [intOf]; omega
                  · have d1c : decide (y.cl = c) = false := decide_eq_false hc
                    have d2c : (y.cl == c) = false := by simp [hc]
                    have HAS := Lib.hid (show addS c sv y = sv from if_neg hc)
                    clear hc
                    go_wp2_with fail
                    go_roundw
                    case rel => exact ⟨k + 1, _, by omega, by go_num, by rw [HAP.out], by rw [HEX.out], by rw [HON.out], by rw [HST.out, ← HSV.out, HAS.out], rfl⟩
                    case measure => simp [intOf]; omega
            · have d5 : decide (y.fi = plus (cnt y.st) (mulC y.ln ns)) = false := decide_eq_false hex
              have d6 : (y.fi == plus (cnt y.st) (mulC y.ln ns)) = false := by simp [hex]
              have d7 : (y.fi != plus (cnt y.st) (mulC y.ln ns)) = true := by simp [hex]
              have HEX := Lib.hid (show pb (exactP (l.take (k + 1)) ns) = false from pb_not (exact_step HY.out) hex)
              clear hex
              generalize hWq : (World.drewN _ _) = Wq
              have HWQ : ∃ q0, Wq = w1.drewN q0 := ⟨_, by rw [← hWq]; first | rfl | (simp only [World.drewN_drewN]; rfl)⟩
              have z4 : Wq.cell? ⟨b, o + k * 5 + 4, none⟩ = some (.int .i64 y.fi) := by obtain ⟨q0, e0⟩ := HWQ; rw [e0]; exact y4
              have z3 : Wq.cell? ⟨b, o + k * 5 + 3, none⟩ = some (.int .i64 y.st) := by obtain ⟨q0, e0⟩ := HWQ; rw [e0]; exact y3
              have z2 : Wq.cell? ⟨b, o + k * 5 + 2, none⟩ = some (.int .i64 y.ln) := by obtain ⟨q0, e0⟩ := HWQ; rw [e0]; exact y2
              have HWR := Lib.hid HWQ
              clear hWq HWQ
              go_quiet ((first | (go_at_call 27; exact quiet_left (rMul_w y.ln ns _)) | (go_at_call 26; exact quiet_left (rAdd_w y.st (mulC y.ln ns) _))))
              clear z4 z3 z2
              go_upto_region 11 with (fail)
              obtain ⟨q0, rfl⟩ := HWR.out
              clear HWR
              go_wp2_with fail
              go_loopw [9, 62] (fun so i wr => ∃ (j qd2 : Nat) (ob : Bool), j ≤ k ∧ i = .int .i64 j ∧ so = .bool ob ∧ (ob = true ↔ oq = true ∧ ∀ (i' : Nat) (x : Dp), i' < j → l[i']? = some x → x.sq ≠ y.sq) ∧ wr = w1.drewN qd2) (fun _ i _ => k - (intOf i).toNat)
              case atStart => exact ⟨0, _, oq, Nat.zero_le _, rfl, rfl, ⟨fun h => ⟨h, fun i' x hi => by omega⟩, fun h => h.1⟩, by first | rfl | (simp only [World.drewN_drewN]; done) | (simp only [World.drewN_drewN]; rfl)⟩
              case round =>
                obtain ⟨j, qd2, ob, hj, rfl, rfl, hob, rfl⟩ := hrel
                have HOB := Lib.hid hob
                clear hob y0 y1 y2 y3 y4
                obtain ⟨y0, y1, y2⟩ : w1.cell? ⟨b, o + k * 5, none⟩ = some (.int .i64 y.sq) ∧ w1.cell? ⟨b, o + k * 5 + 1, none⟩ = some (.int .i64 y.cl) ∧ w1.cell? ⟨b, o + k * 5 + 2, none⟩ = some (.int .i64 y.ln) := by
                  obtain ⟨b', o', e', z0, z1, z2, _, _⟩ := HS1.out.dp HY.out
                  cases e'
                  exact ⟨z0, z1, z2⟩
                by_cases hjk : j < k
                · obtain ⟨x, hx⟩ : ∃ x, l[j]? = some x := ⟨_, List.getElem?_eq_getElem (by omega)⟩
                  obtain ⟨b3, o3, e3, x0, _, _, _, _⟩ := HS1.out.dp hx
                  cases e3
                  have hj0 : (0 : Int) ≤ (j : Int) := Int.natCast_nonneg j
                  have hj1 : (j : Int) < (k : Int) := by omega
                  have hj2 : (j : Int) < (n : Int) := by omega
                  have HXJ := Lib.hid hx
                  clear hx
                  by_cases heqs : x.sq = y.sq
                  · have d8 : decide (x.sq = y.sq) = true := decide_eq_true heqs
                    have d9 : (x.sq == y.sq) = true := by simp [heqs]
                    have HES := Lib.hid heqs
                    clear heqs
                    go_wp2_with fail
                    go_quiet (fail)
                    go_wp2_with fail
                    go_roundw
                    case rel => exact ⟨j + 1, _, false, by omega, by go_num, rfl, ⟨(fun h => by cases h), (fun h => absurd HES.out (h.2 j x (by omega) HXJ.out))⟩, by first | rfl | (simp only [World.drewN_drewN]; done) | (simp only [World.drewN_drewN]; rfl)⟩
                    case measure => simp [intOf]; omega
                  · have d8 : decide (x.sq = y.sq) = false := decide_eq_false heqs
                    have d9 : (x.sq == y.sq) = false := by simp [heqs]
                    have HES := Lib.hid heqs
                    clear heqs
                    go_wp2_with fail
                    go_quiet (fail)
                    go_wp2_with fail
                    go_roundw
                    case rel => exact ⟨j + 1, _, ob, by omega, by go_num, rfl, ⟨fun h => ⟨(HOB.out.1 h).1, fun i' x' hi hx' => by
                      rcases Nat.lt_or_ge i' j with h' | h'
                      · exact (HOB.out.1 h).2 i' x' h' hx'
                      · have e : i' = j := by omega
                        rw [e, HXJ.out] at hx'
                        cases hx'
                        exact HES.out⟩, fun h => HOB.out.2 ⟨h.1, fun i' x' hi hx' => h.2 i' x' (by omega) hx'⟩⟩, by first | rfl | (simp only [World.drewN_drewN]; done) | (simp only [World.drewN_drewN]; rfl)⟩
                    case measure => simp [intOf]; omega
                · have hjk' : j = k := by omega
                  have hj1 : ¬ (j : Int) < (k : Int) := by omega
                  have HON := Lib.hid (show pb (onceP (l.take (k + 1))) = ob from pb_eq ((once_step HY.out).trans (by
                    rw [HOB.out, hjk', HOQ.out]
                    constructor
                    · rintro ⟨h1, h2⟩
                      exact ⟨pb_true h1, h2⟩
                    · rintro ⟨h1, h2⟩
                      exact ⟨of_pb h1, h2⟩)))
                  have HST := Lib.hid (servedV_take HY.out c)
                  by_cases hc : y.cl = c
                  · have d1c : decide (y.cl = c) = true := decide_eq_true hc
                    have d2c : (y.cl == c) = true := by simp [hc]
                    have HAS := Lib.hid (show addS c sv y = plus (cnt sv) y.ln from if_pos hc)
                    clear hc
                    go_wp2_with fail
                    refine (rAdd_w sv y.ln _).mono ?_
                    rintro e w' ⟨rfl, rfl⟩
                    rw [← HAS.out]
                    go_wp2_with fail
                    go_roundw
                    case rel => exact ⟨k + 1, _, by omega, by go_num, by rw [HAP.out], by rw [HEX.out], by rw [HON.out], by rw [HST.out, ← HSV.out], rfl⟩
                    case measure => simp [intOf]; omega
                  · have d1c : decide (y.cl = c) = false := decide_eq_false hc
                    have d2c : (y.cl == c) = false := by simp [hc]
                    have HAS := Lib.hid (show addS c sv y = sv from if_neg hc)
                    clear hc
                    go_wp2_with fail
                    go_roundw
                    case rel => exact ⟨k + 1, _, by omega, by go_num, by rw [HAP.out], by rw [HEX.out], by rw [HON.out], by rw [HST.out, ← HSV.out, HAS.out], rfl⟩
                    case measure => simp [intOf]; omega
      · have hk1 : ¬ (k : Int) < (n : Int) := by omega
        have HE := Lib.hid (show l.take k = l from List.take_of_length_le (by rw [HS1.out.1]; omega))
        rw [HE.out] at HAQ HEQ HOQ HSV
        have HSW := Lib.hid (HS1.out.below (bl_drewN (Below.refl w1.heap.size w1) qd))
        have HBW := Lib.hid (bl_drewN HB1.out qd)
        go_wp2_with fail
        refine (apart_w A n cp l hl _ HSW.out).mono ?_
        rintro e w2 ⟨rfl, h2⟩
        rw [← HAQ.out]
        have HS2 := Lib.hid (HSW.out.below h2)
        have HB2 := Lib.hid (bl_next HBW.out h2)
        clear h2
        have q1 : (aq == aq) = true := by simp
        go_wp2_with fail
        refine (exact_w A n cp l hl ns _ HS2.out).mono ?_
        rintro e w3 ⟨rfl, h3⟩
        rw [← HEQ.out]
        have HS3 := Lib.hid (HS2.out.below h3)
        have HB3 := Lib.hid (bl_next HB2.out h3)
        clear h3
        go_wp2_with fail
        refine (once_w A n cp l hl (by omega) _ HS3.out).mono ?_
        rintro e w4 ⟨rfl, h4⟩
        rw [← HOQ.out]
        have HS4 := Lib.hid (HS3.out.below h4)
        have HB4 := Lib.hid (bl_next HB3.out h4)
        clear h4
        go_wp2_with fail
        refine (served_w A n cp l hl c _ HS4.out).mono ?_
        rintro e w5 ⟨rfl, h5⟩
        rw [← HSV.out]
        have HB5 := Lib.hid (bl_next HB4.out h5)
        clear h5
        go_wp2
        go_ret
        exact ⟨rfl, HB5.out⟩
end Go.Proofs.Ytlnfenjoagkpdaa
