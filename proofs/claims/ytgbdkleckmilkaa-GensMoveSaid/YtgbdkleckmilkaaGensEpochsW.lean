/- The walk of GensEpochs: it answers true. -/
import Derived.Test.YtgbdkleckmilkaaGensWithinW
namespace Go.Proofs.Ytgbdkleckmilkaa
open Go.RowKit
set_option linter.unusedVariables false
set_option linter.unusedSimpArgs false

theorem SlP.bytes16 {W : World} {A : Option Addr} {n c : Nat} {rows : List (List Value)} (h : SlP (List.replicate 16 (.i .u8)) W A n c rows) (j : Nat) (hj : j < n) :
    ∃ b off key, A = some ⟨b, off, none⟩ ∧ okKey key ∧ ∀ q v, (bys key)[q]? = some v → W.cell? ((⟨b, off + j * 16, none⟩ : Addr).add q) = some v := by
  obtain ⟨b, off, rfl⟩ := h.addr (by omega) (by simp)
  obtain ⟨r, hr, ho⟩ := h.row j hj
  obtain ⟨key, rfl, h1, h2⟩ := bytes_of ho
  refine ⟨b, off, key, rfl, ⟨h1, h2⟩, fun q v hq => ?_⟩
  have := h.cell hr hq
  rw [add_flat]
  simpa using this
theorem where_still_w (G : Nat) (g : Gn) (hg : okGn g) (hmv : g.mv = false) (f : Fl) (hf : okFl f) (w : World) (h : Obj1 w G (gnC g).toArray 75) :
    Calls Try.prog 24 #[.pointer (some ⟨G, 0, none⟩), .agg (flC f).toArray] w fun e w' => e = .returned (.tuple #[.int .i64 g.old, .int .i64 (classV g g.old f)]) ∧ Below w.heap.size w w' := by
  have e : gnGen g f = g.old := by unfold gnGen; rw [if_pos (.inl hmv)]
  have h1 := where_w G g hg f hf w h
  rw [e] at h1
  exact h1
/-- Behind all steps of one key. -/
def gnDone (g : Gn) (key : List Int) : Gn := { gnRe g key with mv := false, old := 1 - g.old, md := g.bk, ep := g.ep + 1 }
theorem done_run {g : Gn} (hg : okGn g) (key : List Int) : gnRun (gnRe g key) g.bk = gnDone g key := by
  have e2 : (gnRe g key).bk = g.bk := by unfold gnRe gnWith; split <;> rfl
  have e3 : (gnRe g key).old = g.old := by unfold gnRe gnWith; split <;> rfl
  have e4 : (gnRe g key).ep = g.ep := by unfold gnRe gnWith; split <;> rfl
  have h := run_end (g := gnRe g key) rfl rfl (by rw [e2]; exact hg.1.1)
  rw [e2, e3, e4] at h
  rw [h]
  have e : gnDone g key = { bk := (gnRe g key).bk, k0 := (gnRe g key).k0, k1 := (gnRe g key).k1, old := 1 - g.old, mv := false, md := g.bk, ep := g.ep + 1 } := rfl
  rw [e, e2]
theorem done_ok {g : Gn} (hg : okGn g) (he : g.ep ≤ 1000) {key : List Int} (hk : okKey key) : okGn (gnDone g key) ∧ gnKey (gnDone g key) (1 - g.old) = key ∧ (gnDone g key).bk = g.bk := by
  have h1 := (fresh_re hg he hk).1.1
  have e2 : (gnRe g key).bk = g.bk := (fresh_re hg he hk).2.2
  have hold := hg.2.2.2.1
  refine ⟨⟨h1.1, h1.2.1, h1.2.2.1, by show 1 - g.old ≤ 1; omega, by show g.bk ≤ (gnRe g key).bk; rw [e2]; exact Nat.le_refl _, ⟨by show 0 ≤ g.ep + 1; have := hg.2.2.2.2.2; omega, by show g.ep + 1 ≤ 1000000; omega⟩⟩, ?_, e2⟩
  unfold gnKey gnDone gnRe gnWith
  obtain h0 | h0 : 1 - g.old = 0 ∨ 1 - g.old = 1 := by omega
  · simp [h0]
  · simp [h0]

set_option maxRecDepth 100000 in
set_option maxHeartbeats 2000000 in
theorem GensEpochs_x (bk : Int) (hbk : 0 ≤ bk ∧ bk ≤ 255) (key : List Int) (hk : okKey key) (A : Option Addr) (m c : Nat) (rows : List (List Value)) (f : Fl) (hf : okFl f) (w : World) (hs : SlP (List.replicate 16 (.i .u8)) w A m c rows) :
    Calls Try.prog 11 #[.int .u8 bk, .agg (bys key).toArray, .slice A m c, .agg (flC f).toArray] w fun e w' => e = .returned (.bool true) ∧ Below w.heap.size w w' := by
  have hO1 := (Obj1.new w (bys key).toArray 22).alloc (.cells (flC f).toArray 34)
  have hO2 := Obj1.new (w.alloc (.cells (bys key).toArray 22)) (flC f).toArray 34
  have e1 : (w.alloc (.cells (bys key).toArray 22)).heap.size = w.heap.size + 1 := by simp
  rw [e1] at hO2
  have HO1 := Lib.hid hO1
  have HO2 := Lib.hid hO2
  have HB := Lib.hid (bl_alloc (bl_alloc (Below.refl w.heap.size w) (.cells (bys key).toArray 22)) (.cells (flC f).toArray 34))
  have HKS := Lib.hid (key_size hk.1)
  have HFS := Lib.hid (fl_size hf)
  have HS := Lib.hid hs
  have hmm : m ≤ 9223372036854775807 := Nat.le_trans hs.2.1 hs.2.2.1
  obtain ⟨b, rfl⟩ := Int.eq_ofNat_of_zero_le hbk.1
  obtain ⟨r, hr⟩ : ∃ r, r = b % 20 := ⟨_, rfl⟩
  obtain ⟨n, hn⟩ : ∃ n, n = 1 + r := ⟨_, rfl⟩
  have hnb : 1 ≤ n ∧ n ≤ 64 := by omega
  have b1 : IntKind.i64.wrap (b : Int) = (b : Int) := IntWalk.i64_in _ (by omega)
  have b2 : (b : Int).tmod 20 = (r : Int) := by rw [Int.tmod_eq_emod_of_nonneg (by omega)]; omega
  have b2' : (b : Int) % 20 = (r : Int) := by omega
  have b3 : IntKind.i64.wrap (1 + (r : Int)) = (n : Int) := by rw [show 1 + (r : Int) = (n : Int) by omega]; exact IntWalk.i64_in _ (by omega)
  clear hO1 hO2 e1 hr hn hs
  go_enter Try.func11, Try.ntmps11
  go_wp2_with fail
  refine (awake24_w _).mono ?_
  rintro e w1 ⟨rfl, hb1⟩
  have HP1 := Lib.hid (HO1.out.below hb1)
  have HP2 := Lib.hid (HO2.out.below hb1)
  have HB1 := Lib.hid (bl_next HB.out hb1)
  clear hb1
  by_cases h8 : 8 < m
  · have h8' : (8 : Int) < (m : Int) := by omega
    go_wp2_with fail
    refine (awake24_w _).mono ?_
    rintro e w2 ⟨rfl, hb2⟩
    have HB2 := Lib.hid (bl_next HB1.out hb2)
    clear hb2
    go_wp2
    go_ret
    exact ⟨rfl, HB2.out⟩
  · have h8' : ¬ (8 : Int) < (m : Int) := by omega
    go_wp2_with (refine load_obj rfl 22 (.tmp 5) rfl w.heap.size 22 (bys key).toArray _ rfl HP1.out Try.underlying22 rfl HKS.out ?_)
    refine (gnew_w n hnb key hk _).mono ?_
    rintro e w2 ⟨G, rfl, hG, hg0, hb2⟩
    have HG0 := Lib.hid hg0
    have HQ2 := Lib.hid (HP2.out.below hb2)
    have HB2 := Lib.hid (bl_next HB1.out hb2)
    have hwG : w.heap.size ≤ G := Nat.le_trans HB1.out.size hG
    have hFG : w.heap.size + 1 < G := Nat.lt_of_lt_of_le HP2.out.lt hG
    have HF0 := Lib.hid (fresh_new hnb hk)
    clear hg0 hb2 hG
    go_wp2_with fail
    go_loopw [40] (fun i wr => ∃ (k : Nat) (g : Gn), k ≤ m ∧ i = .int .i64 k ∧ okGn g ∧ g.mv = false ∧ g.old = k % 2 ∧ g.ep = (k : Int) ∧ g.bk = n ∧ Obj1 wr G (gnC g).toArray 75 ∧ Obj1 wr (w.heap.size + 1) (flC f).toArray 34 ∧ Below w.heap.size w wr) (fun i _ => m - (intOf i).toNat)
    case atStart => exact ⟨0, _, Nat.zero_le _, rfl, HF0.out.1, rfl, rfl, rfl, rfl, HG0.out, HQ2.out, HB2.out⟩
    case round =>
      obtain ⟨k, g, hkm, rfl, hgok, hmv, hold, hep, hgb, hobj, hfl, hbel⟩ := hrel
      have HOB := Lib.hid hobj
      have HFL := Lib.hid hfl
      have HBL := Lib.hid hbel
      have HGI := Lib.hid (show okGn g ∧ g.mv = false ∧ g.old = k % 2 ∧ g.ep = (k : Int) ∧ g.bk = n from ⟨hgok, hmv, hold, hep, hgb⟩)
      clear hobj hfl hbel hgok hmv hold hep hgb
      by_cases hlt : k < m
      · have hk0 : (0 : Int) ≤ (k : Int) := Int.natCast_nonneg k
        have hk1 : (k : Int) < (m : Int) := by omega
        obtain ⟨sb, so, kk, rfl, hkk, hcc⟩ := SlP.bytes16 HS.out k hlt
        have HCW := Lib.hid hcc
        have HCC := Lib.hid (show ∀ q v, (bys kk)[q]? = some v → wr.cell? ((⟨sb, so + k * 16, none⟩ : Addr).add q) = some v from fun q v hq => bl_keeps HBL.out (HCW.out q v hq))
        have HKK := Lib.hid hkk
        have HKI := Lib.hid (show (Try.prog.info? 22).map (·.size) = some (bys kk).length by rw [bys_length, hkk.1]; rfl)
        clear hcc hkk
        go_wp2_with (refine load_cells rfl 22 (.tmp 46) rfl ⟨sb, so + k * 16, none⟩ (bys kk) _ rfl HCC.out Try.underlying22 rfl HKI.out ?_)
        refine (rekey_w G g HGI.out.1 HGI.out.2.1 kk HKK.out _ HOB.out).mono ?_
        rintro e w3 ⟨rfl, hg3, hu3⟩
        have HG3 := Lib.hid hg3
        have HF3 := Lib.hid (HFL.out.of_grown hu3 (by simp; omega))
        have HB3 := Lib.hid (bl_upd HBL.out hu3 hwG)
        have hfre := fresh_re HGI.out.1 (by rw [HGI.out.2.2.2.1]; omega) HKK.out
        have HFRE := Lib.hid hfre
        clear hg3 hu3 hfre
        go_wp2_with fail
        go_loopw [51] (fun i wr => ∃ j : Nat, j ≤ n ∧ i = .int .i64 j ∧ Obj1 wr G (gnC (gnRun (gnRe g kk) j)).toArray 75 ∧ Obj1 wr (w.heap.size + 1) (flC f).toArray 34 ∧ Below w.heap.size w wr) (fun i _ => n - (intOf i).toNat)
        case atStart => exact ⟨0, Nat.zero_le _, rfl, HG3.out, HF3.out, HB3.out⟩
        case round =>
          obtain ⟨j, hj, rfl, hobj, hfl, hbel⟩ := hrel
          have HOB := Lib.hid hobj
          have HFL := Lib.hid hfl
          have HBL := Lib.hid hbel
          have HOK := Lib.hid (run_ok HFRE.out.1 j)
          clear hobj hfl hbel
          by_cases hlt2 : j < n
          · have hj0 : (0 : Int) ≤ (j : Int) := Int.natCast_nonneg j
            have hj1 : (j : Int) < (n : Int) := by omega
            go_wp2_with fail
            refine (stepAny_w G (gnRun (gnRe g kk) j) HOK.out.1 HOK.out.2.1 _ HOB.out).mono ?_
            rintro e w4 ⟨⟨x, bb, rfl⟩, hg4, hu4⟩
            have HG4 := Lib.hid (show Obj1 w4 G (gnC (gnRun (gnRe g kk) (j + 1))).toArray 75 from hg4)
            have HF4 := Lib.hid (HFL.out.of_grown hu4 (by simp; omega))
            have HB4 := Lib.hid (bl_upd HBL.out hu4 hwG)
            clear hg4 hu4
            go_wp2_with fail
            go_roundw
            case rel => exact ⟨j + 1, by omega, by go_num, HG4.out, HF4.out, HB4.out⟩
            case measure => simp [intOf]; omega
          · have hjn : j = n := by omega
            have hj1 : ¬ (j : Int) < (n : Int) := by omega
            have hob := HOB.out
            rw [hjn, ← HGI.out.2.2.2.2, done_run HGI.out.1 kk] at hob
            have hdone := done_ok HGI.out.1 (by rw [HGI.out.2.2.2.1]; omega) HKK.out
            obtain ⟨gF, hgF⟩ : ∃ gF, gnDone g kk = gF := ⟨_, rfl⟩
            have hFold : gF.old = 1 - g.old := by rw [← hgF]; rfl
            have hFmv : gF.mv = false := by rw [← hgF]; rfl
            have hFep : gF.ep = g.ep + 1 := by rw [← hgF]; rfl
            rw [hgF] at hob hdone
            obtain ⟨o1, ho1⟩ : ∃ o1, o1 = 1 - g.old := ⟨_, rfl⟩
            rw [← ho1] at hFold hdone
            have ho2 : o1 = (k + 1) % 2 := by rw [ho1, HGI.out.2.2.1]; omega
            have ho1b : o1 ≤ 1 := by omega
            have hbF : gF.bk = n := hdone.2.2.trans HGI.out.2.2.2.2
            obtain ⟨X, hX⟩ : ∃ X, fallV kk f 0 n = X := ⟨_, rfl⟩
            have hXr := fallV_range kk f 0 n (by omega)
            rw [hX] at hXr
            obtain ⟨P, hP⟩ : ∃ P, P = o1 * n := ⟨_, rfl⟩
            have hP2 : (o1 : Int) * (n : Int) = (P : Int) := by rw [hP]; exact (Int.natCast_mul _ _).symm
            have hP4 : P ≤ 64 := by
              obtain h0 | h0 : o1 = 0 ∨ o1 = 1 := by omega
              · rw [hP, h0]; omega
              · rw [hP, h0]; omega
            have hCF : classV gF gF.old f = (P : Int) + X := by unfold classV; rw [hFold, hdone.2.1, hbF, hX, hP2]
            have HCF := Lib.hid hCF
            have HFI := Lib.hid (show gF.old = o1 ∧ gF.mv = false ∧ gF.ep = (k : Int) + 1 ∧ okGn gF ∧ gF.bk = n from ⟨hFold, hFmv, by rw [hFep, HGI.out.2.2.2.1], hdone.1, hbF⟩)
            have HOBF := Lib.hid hob
            have HO2' := Lib.hid ho2
            have HXX := Lib.hid hX
            have p1 : IntKind.i64.wrap ((o1 : Int) * (n : Int)) = (P : Int) := by rw [hP2]; exact IntWalk.i64_in _ (by omega)
            have p2 : IntKind.i64.wrap ((P : Int) + X) = (P : Int) + X := IntWalk.i64_in _ (by omega)
            obtain ⟨k2, hk2⟩ : ∃ k2, k2 = k + 1 := ⟨_, rfl⟩
            have p3 : IntKind.i64.wrap ((k : Int) + 1) = (k2 : Int) := by rw [show (k : Int) + 1 = (k2 : Int) by omega]; exact IntWalk.i64_in _ (by omega)
            have p4 : (k2 : Int).tmod 2 = (o1 : Int) := by rw [Int.tmod_eq_emod_of_nonneg (by omega), ho2, hk2]; omega
            have p5 : (k2 : Int) % 2 = (o1 : Int) := by omega
            have HK2 := Lib.hid hk2
            have HJN := Lib.hid hjn
            have HCC := Lib.hid (show ∀ q v, (bys kk)[q]? = some v → wr.cell? ((⟨sb, so + k * 16, none⟩ : Addr).add q) = some v from fun q v hq => bl_keeps HBL.out (HCW.out q v hq))
            clear hFold hFmv hFep hCF hP hgF ho1 ho2 hX hk2 hjn hob hdone hbF hP2
            go_wp2_with (refine load_cells rfl 22 (.tmp 60) rfl ⟨sb, so + k * 16, none⟩ (bys kk) _ rfl HCC.out Try.underlying22 rfl HKI.out ?_)
            refine (gnew_w n hnb kk HKK.out _).mono ?_
            rintro e w5 ⟨H, rfl, hH, hh0, hb5⟩
            have HH5 := Lib.hid hh0
            have HG5 := Lib.hid (HOBF.out.below hb5)
            have HF5 := Lib.hid (HFL.out.below hb5)
            have HB5 := Lib.hid (bl_next HBL.out hb5)
            have HNEW := Lib.hid (fresh_new hnb HKK.out)
            clear hh0 hb5 hH
            go_wp2_with (refine load_obj rfl 34 (.tmp 7) rfl (w.heap.size + 1) 34 (flC f).toArray _ rfl HF5.out Try.underlying34 rfl HFS.out ?_)
            refine (where_still_w H _ HNEW.out.1 rfl f hf _ HH5.out).mono ?_
            have hcl : classV ⟨n, kk, List.replicate 16 0, 0, false, 0, 0⟩ 0 f = X := by
              unfold classV gnKey
              simp only [if_pos]
              rw [HXX.out]
              omega
            rintro e w6 ⟨rfl, hb6⟩
            rw [show (⟨n, kk, List.replicate 16 0, 0, false, 0, 0⟩ : Gn).old = 0 from rfl, hcl]
            have HG6 := Lib.hid (HG5.out.below hb6)
            have HF6 := Lib.hid (HF5.out.below hb6)
            have HB6 := Lib.hid (bl_next HB5.out hb6)
            clear hb6 hcl
            go_wp2_with (refine load_obj rfl 34 (.tmp 7) rfl (w.heap.size + 1) 34 (flC f).toArray _ rfl HF6.out Try.underlying34 rfl HFS.out ?_)
            refine (where_still_w G gF HFI.out.2.2.2.1 HFI.out.2.1 f hf _ HG6.out).mono ?_
            rintro e w7 ⟨rfl, hb7⟩
            rw [HCF.out, HFI.out.1]
            have HG7 := Lib.hid (HG6.out.below hb7)
            have HF7 := Lib.hid (HF6.out.below hb7)
            have HB7 := Lib.hid (bl_next HB6.out hb7)
            clear hb7
            go_wp2_with fail
            refine (gold_w G gF HFI.out.2.2.2.1 _ HG7.out).mono ?_
            rintro e w' ⟨rfl, rfl⟩
            rw [HFI.out.1]
            go_wp2_with fail
            refine (gepoch_w G gF HFI.out.2.2.2.1 _ HG7.out).mono ?_
            rintro e w' ⟨rfl, rfl⟩
            rw [HFI.out.2.2.1]
            rw [show (k : Int) + 1 = (k2 : Int) by rw [HK2.out]; omega]
            go_wp2_with fail
            refine (gmoving_w G gF HFI.out.2.2.2.1 _ HG7.out).mono ?_
            rintro e w' ⟨rfl, rfl⟩
            rw [HFI.out.2.1]
            go_wp2_with fail
            go_roundw
            case rel => exact ⟨k2, gF, by rw [HK2.out]; omega, rfl, HFI.out.2.2.2.1, HFI.out.2.1, by rw [HFI.out.1, HO2'.out, HK2.out], by rw [HFI.out.2.2.1, HK2.out]; omega, HFI.out.2.2.2.2, HG7.out, HF7.out, HB7.out⟩
            case measure => simp [intOf]; rw [HK2.out]; omega
      · obtain rfl : k = m := by omega
        go_wp2
        go_ret
        exact ⟨rfl, HBL.out⟩

theorem GensEpochs_w (a0 : Int) (l1 : Array Value) (a2 : Option Addr) (n2 c2 : Nat) (l2 : List (List Value)) (l3 : Array Value) (W : World) (w0 : (Lit.int .u8 a0).wf = true) (w1 : okCells (List.replicate 16 (.i .u8)) l1.toList) (w2 : SlP (List.replicate 16 (.i .u8)) W a2 n2 c2 l2) (w3 : okCells flKs l3.toList) :
    Calls Try.prog 11 #[.int .u8 a0, .agg l1, .slice a2 n2 c2, .agg l3] W fun e w' => e = .returned (.bool true) ∧ Below W.heap.size W w' := by
  obtain ⟨key, rfl, hk, hkb⟩ := arr_of w1
  obtain ⟨f, hf, rfl⟩ := flow_of w3
  exact GensEpochs_x a0 (u8_range w0) key ⟨hk, hkb⟩ a2 n2 c2 l2 f hf W w2
end Go.Proofs.Ytgbdkleckmilkaa
