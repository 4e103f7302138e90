/- The walk of TurnsRound: it answers true. -/
import Derived.Test.YtlnfenjoagkpdaaTuG
namespace Go.Proofs.Ytlnfenjoagkpdaa
open Go.RowKit
set_option linter.unusedVariables false
set_option linter.unusedSimpArgs false

/-- Behind j wakings, from the last class on. -/
def WkI (n : Nat) (q : Int) (j : Nat) (t : Tn) : Prop := t.q = q ∧ t.l.length = n ∧ t.line.length = j ∧ (∀ i, i < j → t.line[i]? = some (n - 1 - i)) ∧ ∀ d, d < n → t.l[d]? = some (if n - j ≤ d then ⟨true, true, 0⟩ else c00)
/-- It is the k-th one's turn, or has been. -/
def RdIn (n : Nat) (q : Int) (s : Bool) (k : Nat) (t : Tn) : Prop := t.q = q ∧ t.l.length = n ∧ t.line.length = n ∧ (∀ i, i < n → t.line[i]? = some (n - 1 - (k + i) % n)) ∧ ∀ d, d < n → t.l[d]? = some ⟨true, !(s && decide (d = n - 1 - k % n)), 0⟩
theorem WkI.start (n : Nat) (q : Int) : WkI n q 0 (tnNew n q) := ⟨rfl, by simp [tnNew], rfl, fun i hi => absurd hi (Nat.not_lt_zero i), fun d hd => by
  rw [if_neg (by omega)]
  simp [tnNew, List.getElem?_replicate, hd]⟩
theorem WkI.step {n : Nat} {q : Int} {j : Nat} {t : Tn} (h : WkI n q j t) (hj : j < n) : t.l[n - 1 - j]? = some c00 ∧ WkI n q (j + 1) (tnWake t (n - 1 - j)) := by
  obtain ⟨h1, h2, h3, h4, h5⟩ := h
  have hx : t.l[n - 1 - j]? = some c00 := by rw [h5 (n - 1 - j) (by omega), if_neg (by omega)]
  refine ⟨hx, h1, by simpa [tnWake] using h2, by simp [tnWake, h3], fun i hi => ?_, fun d hd => ?_⟩
  · show (t.line ++ [n - 1 - j])[i]? = _
    by_cases hij : i < j
    · rw [List.getElem?_append_left (by omega)]
      exact h4 i hij
    · have : i = j := by omega
      subst this
      rw [List.getElem?_append_right (by omega), h3, Nat.sub_self]
      rfl
  · show (t.l.set (n - 1 - j) ⟨true, true, 0⟩)[d]? = _
    by_cases hdj : d = n - 1 - j
    · subst hdj
      rw [List.getElem?_set_self (by omega), if_pos (by omega)]
    · rw [List.getElem?_set_ne (fun e => hdj e.symm), h5 d hd]
      by_cases hq : n - j ≤ d
      · rw [if_pos hq, if_pos (by omega)]
      · rw [if_neg hq, if_neg (by omega)]
theorem WkI.done {n : Nat} {q : Int} {t : Tn} (h : WkI n q n t) : RdIn n q false 0 t := by
  obtain ⟨h1, h2, h3, h4, h5⟩ := h
  refine ⟨h1, h2, h3, fun i hi => ?_, fun d hd => ?_⟩
  · rw [h4 i hi, Nat.zero_add, Nat.mod_eq_of_lt hi]
  · rw [h5 d hd, if_pos (by omega)]
    rfl
theorem RdIn.first {n : Nat} {q : Int} {s : Bool} {k : Nat} {t : Tn} (hn : 1 ≤ n) (h : RdIn n q s k t) : ∃ rest, t.line = (n - 1 - k % n) :: rest ∧ t.l[n - 1 - k % n]? = some ⟨true, !s, 0⟩ := by
  obtain ⟨h1, h2, h3, h4, h5⟩ := h
  have h0 := h4 0 (by omega)
  rw [Nat.add_zero] at h0
  have hx := h5 (n - 1 - k % n) (by omega)
  simp at hx
  cases hl : t.line with
  | nil => rw [hl] at h3; simp at h3; omega
  | cons c rest =>
    rw [hl] at h0
    simp at h0
    exact ⟨rest, by rw [h0], by rw [hx]⟩
theorem RdIn.serve {n : Nat} {q : Int} {k : Nat} {t : Tn} (hn : 1 ≤ n) (h : RdIn n q false k t) : RdIn n q true k (tnSet t (n - 1 - k % n) ⟨true, false, 0⟩) := by
  obtain ⟨h1, h2, h3, h4, h5⟩ := h
  refine ⟨h1, by simpa [tnSet] using h2, h3, h4, fun d hd => ?_⟩
  show (t.l.set (n - 1 - k % n) ⟨true, false, 0⟩)[d]? = _
  by_cases hd2 : d = n - 1 - k % n
  · subst hd2
    rw [List.getElem?_set_self (by omega)]
    simp
  · rw [List.getElem?_set_ne (fun e => hd2 e.symm), h5 d hd]
    simp [hd2]
theorem mod_next {n k i : Nat} (hn : 1 ≤ n) (hi : i = n - 1) : (k + 1 + i) % n = k % n := by
  rw [show k + 1 + i = k + n by omega, Nat.add_mod_right]
theorem RdIn.turn {n : Nat} {q : Int} {k : Nat} {t : Tn} (hn : 1 ≤ n) (h : RdIn n q true k t) {rest : List Nat} (hl : t.line = (n - 1 - k % n) :: rest) : RdIn n q false (k + 1) (tnLast (tnSet t (n - 1 - k % n) ⟨true, false, 0⟩) (n - 1 - k % n) rest ⟨true, false, 0⟩) := by
  obtain ⟨h1, h2, h3, h4, h5⟩ := h
  have hrl : rest.length = n - 1 := by rw [hl] at h3; simp at h3; omega
  refine ⟨h1, by simpa [tnSet, tnLast] using h2, by simp [tnLast, hrl]; omega, fun i hi => ?_, fun d hd => ?_⟩
  · show (rest ++ [n - 1 - k % n])[i]? = _
    by_cases hi2 : i < n - 1
    · rw [List.getElem?_append_left (by omega)]
      have := h4 (i + 1) (by omega)
      rw [hl, List.getElem?_cons_succ] at this
      rw [this, show k + 1 + i = k + (i + 1) by omega]
    · have hie : i = n - 1 := by omega
      rw [List.getElem?_append_right (by omega), hrl, hie, Nat.sub_self, mod_next hn rfl]
      rfl
  · show (((t.l.set (n - 1 - k % n) ⟨true, false, 0⟩).set (n - 1 - k % n) ⟨true, true, 0⟩))[d]? = _
    rw [List.set_set]
    by_cases hd2 : d = n - 1 - k % n
    · subst hd2
      rw [List.getElem?_set_self (by omega)]
      simp
    · rw [List.getElem?_set_ne (fun e => hd2 e.symm), h5 d hd]
      simp [hd2]
theorem Pk.turned {hd : Nat → Int} {t t' : Tn} {r : Option Nat} (h : Pk hd t t' r) {c : Nat} {rest : List Nat} {x : Cl} (hl : t.line = c :: rest) (h1 : 1 ≤ hd c) (hx : t.l[c]? = some x) (hle : ¬ hd c ≤ deNew t x) : Pk hd (tnLast (tnSet t c ⟨x.aw, false, deNew t x⟩) c rest ⟨x.aw, false, deNew t x⟩) t' r := by
  cases h with
  | none h2 => rw [hl] at h2; cases h2
  | sleep h2 h3 => rw [hl] at h2; cases h2; omega
  | serve h2 h3 h4 h5 => rw [hl] at h2; cases h2; rw [hx] at h4; cases h4; exact absurd h5 hle
  | last h2 h3 h4 h5 h6 => rw [hl] at h2; cases h2; rw [hx] at h4; cases h4; exact h6
theorem RdIn.pick0 {n : Nat} {q : Int} {k : Nat} {t t' : Tn} {r : Option Nat} {hd : Nat → Int} (hn : 1 ≤ n) (hq : 1 ≤ q) (h : RdIn n q false k t) (hhd : ∀ c, c < n → hd c = q) (hp : Pk hd t t' r) : r = some (n - 1 - k % n) ∧ RdIn n q true k t' := by
  obtain ⟨rest, hl, hx⟩ := h.first hn
  have hc : n - 1 - k % n < n := by omega
  have hde : deNew t ⟨true, !false, 0⟩ = q := by unfold deNew; rw [h.1]; simp
  obtain ⟨h1, h2⟩ := hp.served hl (by rw [hhd _ hc]; exact hq) hx (by rw [hhd _ hc, hde]; exact Int.le_refl _)
  rw [hde, hhd _ hc, Int.sub_self] at h2
  exact ⟨h1, by rw [h2]; exact h.serve hn⟩
theorem RdIn.pick {n : Nat} {q : Int} {s : Bool} {k : Nat} {t t' : Tn} {r : Option Nat} {hd : Nat → Int} (hn : 1 ≤ n) (hq : 1 ≤ q) (h : RdIn n q s (k - 1) t) (hs : s = decide (1 ≤ k)) (hhd : ∀ c, c < n → hd c = q) (hp : Pk hd t t' r) : r = some (n - 1 - k % n) ∧ RdIn n q true k t' := by
  by_cases hk : 1 ≤ k
  · have hst : s = true := by rw [hs]; simp [hk]
    subst hst
    obtain ⟨rest, hl, hx⟩ := h.first hn
    have hc : n - 1 - (k - 1) % n < n := by omega
    have hde : deNew t ⟨true, !true, 0⟩ = 0 := by unfold deNew; simp
    have h2 := hp.turned hl (by rw [hhd _ hc]; exact hq) hx (by rw [hhd _ hc, hde]; omega)
    rw [hde] at h2
    have h3 := h.turn hn hl
    rw [Nat.sub_add_cancel hk] at h3
    exact h3.pick0 hn hq hhd h2
  · have hst : s = false := by rw [hs]; simp [hk]
    subst hst
    have hk0 : k = 0 := by omega
    subst hk0
    exact RdIn.pick0 hn hq h hhd hp
theorem RdIn.de {n : Nat} {q : Int} {s : Bool} {k : Nat} {t : Tn} (h : RdIn n q s k t) (c : Nat) : deOf t (c : Int) = 0 := by
  unfold deOf
  split
  · rename_i hc
    rw [h.2.1] at hc
    have := h.2.2.2.2 c (by omega)
    rw [show ((c : Int)).toNat = c from rfl, this]
  · rfl
theorem own_keep {w w' : World} {B : Nat} {e : TypeId} {sz : Nat} {v : Value} {n : Nat} {xs : List Value} (h : w.ownsRow B e sz v n xs) (hk : ∀ g, B ≤ g → g < w.heap.size → w'.heap[g]? = w.heap[g]?) (h1 : w.heap.size ≤ w'.heap.size) (h2 : w'.os = w.os) (h3 : w'.tape = w.tape) (h4 : w'.output = w.output) : w'.ownsRow B e sz v n xs := by
  refine ⟨h.1, ?_⟩
  rcases h.2 with hn | ⟨g, cap, cur, e1, hb, hg, hrest⟩
  · exact .inl hn
  · exact .inr ⟨g, cap, cur, e1, hb, (hk g hb (Array.getElem?_eq_some_iff.1 hg).1).trans hg, hrest⟩
theorem own_RdI' {w : World} {base : Nat} {e : TypeId} {v : Value} {n : Nat} {l : List Int} (h : w.ownsRow base e 1 v n (vals l)) : ∃ A c, v = .slice A n c ∧ Rd w A (vals l) := own_Rd h
theorem TnO.own {w w' : World} {T C L N m : Nat} {t : Tn} (h : TnO w T C L N m t) {B : Nat} {row : Option Nat} (hg : w.grownBy w' row) (hB : T < B ∧ C < B ∧ L < B) (hr : ∀ g, row = some g → B ≤ g) : TnO w' T C L N m t := by
  have hne : ∀ X, X < B → some X ≠ row := fun X hX e => by have := hr X e.symm; omega
  exact ⟨h.1, h.2.1.of_grown hg (hne T hB.1), h.2.2.1.grown hg (hne C hB.2.1), h.2.2.2.grown hg (hne L hB.2.2)⟩
theorem vals_rd {w : World} {A : Option Addr} {l : List Int} (hl : l.length ≤ 9223372036854775807) (h : Rd w A (vals l)) : RdI w A l := RdI.of hl h

set_option maxRecDepth 100000 in
set_option maxHeartbeats 4000000 in
theorem TurnsRound_w (cl mn lg : Int) (w : World) (h1 : (Lit.int .u8 cl).wf = true) (h2 : (Lit.int .u8 mn).wf = true) (h3 : (Lit.int .u16 lg).wf = true) :
    Calls Try.prog 6 #[.int .u8 cl, .int .u8 mn, .int .u16 lg] w fun e w' => e = .returned (.bool true) ∧ Below w.heap.size w w' := by
  have hcl := u8_range h1
  have hmn := u8_range h2
  have hlg := u16_range h3
  obtain ⟨c0, rfl⟩ := Int.eq_ofNat_of_zero_le hcl.1
  obtain ⟨mm, rfl⟩ := Int.eq_ofNat_of_zero_le hmn.1
  obtain ⟨l0, rfl⟩ := Int.eq_ofNat_of_zero_le hlg.1
  obtain ⟨r0, hr0⟩ : ∃ r0, r0 = c0 % 100 := ⟨_, rfl⟩
  obtain ⟨n, hn⟩ : ∃ n, n = 1 + r0 := ⟨_, rfl⟩
  have hnb : 1 ≤ n ∧ n ≤ 100 := by omega
  have b1 : IntKind.i64.wrap (c0 : Int) = (c0 : Int) := IntWalk.i64_in _ (by omega)
  have b2 : (c0 : Int).tmod 100 = (r0 : Int) := by rw [Int.tmod_eq_emod_of_nonneg (by omega)]; omega
  have b2' : (c0 : Int) % 100 = (r0 : Int) := by omega
  have b3 : IntKind.i64.wrap (1 + (r0 : Int)) = (n : Int) := by rw [show 1 + (r0 : Int) = (n : Int) by omega]; exact IntWalk.i64_in _ (by omega)
  obtain ⟨q0, hq0⟩ : ∃ q0, q0 = l0 % 9216 := ⟨_, rfl⟩
  obtain ⟨q, hq⟩ : ∃ q : Int, 1 + (q0 : Int) = q := ⟨_, rfl⟩
  have hqb : 1 ≤ q ∧ q ≤ 9216 := by omega
  have b4 : IntKind.i64.wrap (l0 : Int) = (l0 : Int) := IntWalk.i64_in _ (by omega)
  have b5 : (l0 : Int).tmod 9216 = (q0 : Int) := by rw [Int.tmod_eq_emod_of_nonneg (by omega)]; omega
  have b5' : (l0 : Int) % 9216 = (q0 : Int) := by omega
  have b6 : IntKind.i64.wrap (1 + (q0 : Int)) = q := by rw [hq]; exact IntWalk.i64_in _ (by omega)
  have b6' : IntKind.i64.wrap q = q := IntWalk.i64_in _ (by omega)
  have b7 : IntKind.i64.wrap (mm : Int) = (mm : Int) := IntWalk.i64_in _ (by omega)
  obtain ⟨n1, hn1⟩ : ∃ n1, n1 = n - 1 := ⟨_, rfl⟩
  have b8 : IntKind.i64.wrap ((n : Int) - 1) = (n1 : Int) := by rw [show (n : Int) - 1 = (n1 : Int) by omega]; exact IntWalk.i64_in _ (by omega)
  have HN1 := Lib.hid hn1
  clear hr0 hn hq0 hq hn1 h1 h2 h3
  go_enter Try.func6, Try.ntmps6
  go_wp2_with fail
  refine (awake15_w _).mono ?_
  rintro e w1 ⟨rfl, hb1⟩
  have HB1 := Lib.hid hb1
  clear hb1
  go_wp2_with fail
  refine (tnNew_w n q (by omega) (by omega) _).mono ?_
  rintro e w2 ⟨T, C, L, rfl, hT0, hC0, hL0, ht2, hb2⟩
  have hT : w.heap.size ≤ T := Nat.le_trans HB1.out.size hT0
  have hC : w.heap.size ≤ C := Nat.le_trans HB1.out.size hC0
  have hL : w.heap.size ≤ L := Nat.le_trans HB1.out.size hL0
  have H2 := Lib.hid ht2
  have HO2 := Lib.hid (tnNew_ok (n := n) (q := q) (by omega) (by omega))
  have HB2 := Lib.hid (bl_next HB1.out hb2)
  obtain ⟨B, hB⟩ : ∃ B, B = w2.heap.size := ⟨_, rfl⟩
  have HTB := Lib.hid (show T < B ∧ C < B ∧ L < B by rw [hB]; exact ⟨ht2.2.1.lt, ht2.2.2.1.lt, ht2.2.2.2.lt⟩)
  have HBB := Lib.hid (show B ≤ w2.heap.size ∧ w.heap.size ≤ B by rw [hB]; exact ⟨Nat.le_refl _, HB2.out.size⟩)
  clear ht2 hb2 hB
  go_wp2_with fail
  go_loopw [11, 33] (fun v i wr => ∃ (j : Nat) (t : Tn), j ≤ n ∧ i = .int .i64 j ∧ okTn t ∧ TnO wr T C L n j t ∧ WkI n q j t ∧ wr.ownsRow B 3 1 v j (vals (List.replicate j q)) ∧ Below w.heap.size w wr ∧ B ≤ wr.heap.size) (fun _ i _ => n - (intOf i).toNat)
  case atStart => exact ⟨0, _, Nat.zero_le _, rfl, HO2.out, H2.out, WkI.start n q, World.ownsRow_nil _ _ _ _, HB2.out, HBB.out.1⟩
  case round =>
    obtain ⟨j, t, hj, rfl, hok, ht, hwk, hown, hbel, hbo⟩ := hrel
    have H := Lib.hid ht
    have HO := Lib.hid hok
    have HW := Lib.hid hwk
    have HOW := Lib.hid hown
    have HBL := Lib.hid hbel
    have HBO := Lib.hid hbo
    clear hok ht hwk hown hbel hbo
    by_cases hlt : j < n
    · have hk0 : (0 : Int) ≤ (j : Int) := Int.natCast_nonneg j
      have hk1 : (j : Int) < (n : Int) := by omega
      obtain ⟨cc, hcc⟩ : ∃ cc, cc = n - 1 - j := ⟨_, rfl⟩
      have b9 : IntKind.i64.wrap ((n1 : Int) - (j : Int)) = (cc : Int) := by rw [show (n1 : Int) - (j : Int) = (cc : Int) by have := HN1.out; omega]; exact IntWalk.i64_in _ (by omega)
      have HST := Lib.hid (HW.out.step hlt)
      rw [← hcc] at HST
      clear hcc
      go_wp2_with fail
      refine (wakeYes_w T C L n j t HO.out cc c00 HST.out.1 rfl _ H.out).mono ?_
      rintro e w3 ⟨rfl, h3, hu3⟩
      have H3 := Lib.hid h3
      have HO3 := Lib.hid (HO.out.wake HST.out.1 rfl)
      have HB3 := Lib.hid (bl_upd3 HBL.out hu3 hT hC hL)
      have HBO3 := Lib.hid (Nat.le_trans HBO.out hu3.2.2.2.1)
      have HOW3 := Lib.hid (show w3.ownsRow B 3 1 _ j (vals (List.replicate j q)) from own_keep HOW.out (fun g hg hlt => hu3.2.2.2.2 g hlt (by have := HTB.out; omega) (by have := HTB.out; omega) (by have := HTB.out; omega)) hu3.2.2.2.1 hu3.1 hu3.2.1 hu3.2.2.1)
      clear h3 hu3
      go_wp2_with (at_builtin; refine app_list B rfl (.tmp 42) (.tmp 44) 32 3 (.int .i64 0) 1 8 rfl Try.underlying32 (by kernel_rfl) rfl (by omega) (by omega) _ j _ (some ⟨w3.heap.size, 0, none⟩) 1 1 (vals [q]) rfl rfl (HOW3.out.alloc _) rfl (fun i v hv => ⟨_, rfl, obj_cells (Obj1.new w3 #[.int .i64 q] 3) (d := vals [q]) (fun i v h => h) i v hv⟩) (vals_one _) (by omega) (by have := HBO3.out; simp; omega) ?_; intro v1 w6 hown6 hg6; have HO6 := Lib.hid hown6; have HG6 := Lib.hid hg6; have HLT6 := Lib.hid (show ∀ g, (_ : Value).ownBlock = some g → B ≤ g from fun g hg => ((HOW3.out.alloc (.cells #[.int .i64 q] 3)).lt g hg).1); clear hown6 hg6)
      go_roundw
      case rel =>
        refine ⟨j + 1, _, by omega, by go_num, HO3.out, ?_, HST.out.2, ?_, ?_, ?_⟩
        · exact (H3.out.below (bl_alloc (Below.refl _ _) _)).own HG6.out HTB.out HLT6.out
        · rw [List.replicate_succ', show vals (List.replicate j q ++ [q]) = vals (List.replicate j q) ++ vals [q] by simp [vals]]
          exact HO6.out
        · exact (bl_alloc HB3.out _).grown HG6.out (bl_alloc HB3.out _).size (fun g hg => Nat.le_trans HBB.out.2 (HLT6.out g hg))
        · exact Nat.le_trans HBO3.out (Nat.le_trans (bl_alloc (Below.refl w3.heap.size w3) _).size HG6.out.size)
      case measure => simp [intOf]; omega
    · have hk1 : ¬ (j : Int) < (n : Int) := by omega
      have hjn : j = n := by omega
      rw [hjn] at H HW HOW
      obtain ⟨A, ca, rfl, hrd⟩ := own_RdI' HOW.out
      have HRD := Lib.hid (show RdI wr A (List.replicate n q) from vals_rd (by simp; omega) hrd)
      have HAB := Lib.hid (show ∀ ad, A = some ad → ad.block ≠ T ∧ ad.block ≠ C ∧ ad.block ≠ L from fun ad e => by
        subst e
        have h1 := (HOW.out.lt ad.block (by simp [Value.ownBlock])).1
        have h2 := HTB.out
        omega)
      have HR0 := Lib.hid HW.out.done
      have HHD := Lib.hid (show ∀ c, c < n → hdOf (List.replicate n q) c = q from fun c hc => by
        have : headV (List.replicate n q) c = q := by
          unfold headV
          rw [if_pos (by simpa using hc)]
          simp [nth, List.getD_eq_getElem?_getD, List.getElem?_replicate, hc]
        unfold hdOf
        rw [this, if_neg (by omega)])
      obtain ⟨ws, hws⟩ : ∃ ws, ws = wr := ⟨_, rfl⟩
      rw [← hws] at H HRD HBL HBO ⊢
      clear hws hrd hjn hk1
      go_wp2_with fail
      go_loopw [49] (fun i wv => ∃ (k : Nat) (t : Tn), k ≤ mm ∧ i = .int .i64 k ∧ okTn t ∧ TnO wv T C L n n t ∧ RdIn n q (decide (1 ≤ k)) (k - 1) t ∧ RdI wv A (List.replicate n q) ∧ Below w.heap.size w wv) (fun i _ => mm - (intOf i).toNat)
      case atStart => exact ⟨0, _, Nat.zero_le _, rfl, HO.out, H.out, HR0.out, HRD.out, HBL.out⟩
      case round =>
        obtain ⟨k, t2, hk, rfl, hok, ht, hri, hrd, hbel⟩ := hrel
        have HH := Lib.hid ht
        have HOO := Lib.hid hok
        have HRI := Lib.hid hri
        have HRR := Lib.hid hrd
        have HBB2 := Lib.hid hbel
        clear hok ht hri hrd hbel
        by_cases hlt2 : k < mm
        · have hk0 : (0 : Int) ≤ (k : Int) := Int.natCast_nonneg k
          have hk1 : (k : Int) < (mm : Int) := by omega
          obtain ⟨kr, hkr⟩ : ∃ kr, kr = k % n := ⟨_, rfl⟩
          obtain ⟨cc, hcc⟩ : ∃ cc, cc = n - 1 - k % n := ⟨_, rfl⟩
          have hkn : kr < n := by rw [hkr]; exact Nat.mod_lt _ (by omega)
          have e1 : (k : Int).tmod (n : Int) = (kr : Int) := by rw [Int.tmod_eq_emod_of_nonneg (by omega), hkr]; rfl
          have e1' : (k : Int) % (n : Int) = (kr : Int) := by rw [hkr]; rfl
          have e2 : IntKind.i64.wrap (kr : Int) = (kr : Int) := IntWalk.i64_in _ (by omega)
          have e3 : IntKind.i64.wrap ((n1 : Int) - (kr : Int)) = (cc : Int) := by rw [show (n1 : Int) - (kr : Int) = (cc : Int) by have := HN1.out; omega]; exact IntWalk.i64_in _ (by omega)
          have e4 : ¬ (n : Int) = 0 := by omega
          have e5 : ¬ (n : Int) = -1 := by omega
          have HCC := Lib.hid hcc
          clear hkr hcc
          go_wp2_with fail
          refine (pick_w T C L n n t2 HOO.out A n ca (List.replicate n q) (by simp) _ HH.out HRR.out HAB.out).mono ?_
          rintro e w5 ⟨t', r, m', hp, rfl, h5, ho5, hu5⟩
          obtain ⟨hr, hri5⟩ := HRI.out.pick (by omega) (by omega) rfl HHD.out hp
          rw [← HCC.out] at hr
          subst hr
          have hm' : m' = n := by rw [← h5.1.2]; exact hri5.2.2.1
          rw [hm'] at h5
          have H5 := Lib.hid h5
          have HO5 := Lib.hid ho5
          have HRI5 := Lib.hid (show RdIn n q (decide (1 ≤ k + 1)) (k + 1 - 1) t' by simpa using hri5)
          have HRR5 := Lib.hid (HRR.out.upd3 hu5 HAB.out)
          have HB5 := Lib.hid (bl_upd3 HBB2.out hu5 hT hC hL)
          have HDE := Lib.hid (hri5.de cc)
          clear h5 ho5 hu5 hp hri5 hm'
          dsimp only [pickV]
          go_wp2_with fail
          refine (deficit_w T C L n n t' (by omega) cc _ H5.out).mono ?_
          rintro e w' ⟨rfl, rfl⟩
          rw [HDE.out]
          go_wp2_with fail
          go_roundw
          case rel => exact ⟨k + 1, t', by omega, by go_num, HO5.out, H5.out, HRI5.out, HRR5.out, HB5.out⟩
          case measure => simp [intOf]; omega
        · have hk1 : ¬ (k : Int) < (mm : Int) := by omega
          go_wp2_with fail
          refine (tawake_w T C L n n t2 (by omega) _ HH.out).mono ?_
          rintro e w7 ⟨v7, rfl, ho7, hb7⟩
          obtain ⟨A7, c7, rfl, _⟩ := own_Rd ho7
          have HB7 := Lib.hid (bl_next HBB2.out hb7)
          clear ho7 hb7
          go_wp2
          go_ret
          exact ⟨rfl, HB7.out⟩
end Go.Proofs.Ytlnfenjoagkpdaa
