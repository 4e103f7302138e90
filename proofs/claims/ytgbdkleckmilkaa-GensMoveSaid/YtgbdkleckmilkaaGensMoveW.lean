/- The walk of GensMove: it answers true. -/
import Derived.Test.YtgbdkleckmilkaaGensEpochsW
namespace Go.Proofs.Ytgbdkleckmilkaa
open Go.RowKit
set_option linter.unusedVariables false
set_option linter.unusedSimpArgs false

theorem SlP.flows {W : World} {A : Option Addr} {n c : Nat} {rows : List (List Value)} (h : SlP flKs W A n c rows) :
    ∃ F : Nat → Fl, ∀ j, j < n → okFl (F j) ∧ ∃ b off, A = some ⟨b, off, none⟩ ∧ ∀ q v, (flC (F j))[q]? = some v → W.cell? ((⟨b, off + j * 36, none⟩ : Addr).add q) = some v := by
  refine Classical.axiomOfChoice (r := fun j f => j < n → okFl f ∧ ∃ b off, A = some ⟨b, off, none⟩ ∧ ∀ q v, (flC f)[q]? = some v → W.cell? ((⟨b, off + j * 36, none⟩ : Addr).add q) = some v) (fun j => ?_)
  by_cases hj : j < n
  · obtain ⟨b, off, rfl⟩ := h.addr (by omega) (by decide)
    obtain ⟨r, hr, ho⟩ := h.row j hj
    obtain ⟨f, h1, h2⟩ := fl_of ho
    subst h2
    refine ⟨f, fun _ => ⟨h1, b, off, rfl, fun q v hq => ?_⟩⟩
    have := h.cell hr hq
    rw [add_flat]
    exact this
  · exact ⟨⟨false, 0, [], [], 0, 0⟩, fun h => absurd h hj⟩
theorem fl_sizeL {f : Fl} (hf : okFl f) : (Try.prog.info? 34).map (·.size) = some (flC f).length := by rw [flC_length hf]; rfl

section
variable {P : Program} {ops : Array Oper} {rest : List Oper} {o : Oper} {a : Act} {Q : Exit → Act → World → Prop} {w : World}
/-- A whole object is loaded by a guarded operation that is wanted. -/
theorem load_obj_g (hgd : Region.wanted o (yielded ops a.tmps) = true) (ty : TypeId) (x : Operand) (ho : o.op = .load ty x) (p : Nat) (t : TypeId) (cs : Array Value) (d : TypeDesc) (hx : a.eval x = .pointer (some ⟨p, 0, none⟩)) (HO : Obj1 w p cs t)
    (hu : P.underlying ty = some d) (hd : (match d with | .struct _ | .array _ _ => true | _ => false) = true) (hi : (P.info? ty).map (·.size) = some cs.size)
    (h : wpList P ops Q rest (a.put o.dst (.agg cs)) w) : wpList P ops Q (o :: rest) a w :=
  wpList_step fun K hK => by
    rw [if_pos hgd]
    exact wp_load_row ty x ho p hx t cs (0, 0) d HO hu hd hi (hK _ _ h)
end

/-- What is moved: behind j steps. -/
def gM (n : Nat) (key other : List Int) (j : Nat) : Gn := if j < n then ⟨n, key, other, 0, true, j, 0⟩ else ⟨n, key, other, 1, false, n, 1⟩
def g0M (n : Nat) (key : List Int) : Gn := ⟨n, key, List.replicate 16 0, 0, false, 0, 0⟩
theorem gM_zero {n : Nat} (hn : 1 ≤ n ∧ n ≤ 64) (key other : List Int) : gnRe (g0M n key) other = gM n key other 0 := by
  unfold gM
  rw [if_pos (by omega)]
  rfl
theorem gM_mv {n j : Nat} (key other : List Int) (h : j < n) : (gM n key other j).mv = true ∧ (gM n key other j).md < (gM n key other j).bk ∧ ((gM n key other j).old : Int) * ((gM n key other j).bk : Int) + ((gM n key other j).md : Int) = (j : Int) := by
  unfold gM
  rw [if_pos h]
  refine ⟨rfl, h, ?_⟩
  show ((0 : Nat) : Int) * (n : Int) + (j : Int) = (j : Int)
  simp
theorem gM_step {n j : Nat} (key other : List Int) (h : j < n) : gnStep (gM n key other j) = gM n key other (j + 1) := by
  unfold gM
  rw [if_pos h]
  unfold gnStep
  by_cases h1 : j + 1 = n
  · rw [if_pos h1, if_neg (by omega)]
    show ({ bk := n, k0 := key, k1 := other, old := 1 - 0, mv := false, md := j + 1, ep := 0 + 1 } : Gn) = _
    rw [h1]
    rfl
  · rw [if_neg h1, if_pos (by omega)]
theorem gM_ok {n : Nat} (hn : 1 ≤ n ∧ n ≤ 64) {key other : List Int} (hk : okKey key) (ho : okKey other) (j : Nat) : okGn (gM n key other j) := by
  unfold gM
  split
  · exact ⟨hn, hk, ho, Nat.zero_le _, by show j ≤ n; omega, ⟨Int.le_refl 0, show (0 : Int) ≤ 1000000 by decide⟩⟩
  · exact ⟨hn, hk, ho, Nat.le_refl _, Nat.le_refl _, ⟨show (0 : Int) ≤ 1 by decide, show (1 : Int) ≤ 1000000 by decide⟩⟩
theorem gM_moving (n : Nat) (key other : List Int) (j : Nat) : (gM n key other j).mv = decide (j < n) := by
  unfold gM
  split
  · simp [*]
  · simp [*]
theorem class0 (n : Nat) (key other : List Int) (mv : Bool) (md : Nat) (ep : Int) (old : Nat) (f : Fl) : classV ⟨n, key, other, old, mv, md, ep⟩ 0 f = fallV key f 0 n := by
  unfold classV gnKey
  simp
theorem class1 (n : Nat) (key other : List Int) (mv : Bool) (md : Nat) (ep : Int) (old : Nat) (f : Fl) : classV ⟨n, key, other, old, mv, md, ep⟩ 1 f = n + fallV other f 0 n := by
  unfold classV gnKey
  simp
theorem gM_class (n : Nat) (key other : List Int) (j : Nat) (f : Fl) : classV (gM n key other j) 0 f = fallV key f 0 n ∧ classV (gM n key other j) 1 f = n + fallV other f 0 n := by
  unfold gM
  split <;> exact ⟨class0 .., class1 ..⟩
theorem gM_gen {n : Nat} (hn : 1 ≤ n ∧ n ≤ 64) (key other : List Int) {j : Nat} (hj : j ≤ n) (f : Fl) : gnGen (gM n key other j) f = if (j : Int) ≤ fallV key f 0 n then 0 else 1 := by
  have hr := fallV_range key f 0 n (by omega)
  unfold gM
  by_cases h : j < n
  · rw [if_pos h]
    unfold gnGen gnFall gnKey
    simp
  · rw [if_neg h, if_neg (by omega)]
    unfold gnGen
    simp

/-- Where the first k flows were. -/
def wasV (key : List Int) (n : Nat) (F : Nat → Fl) (k : Nat) : List Int := (List.range k).map fun j => fallV key (F j) 0 n
theorem wasV_length (key : List Int) (n : Nat) (F : Nat → Fl) (k : Nat) : (wasV key n F k).length = k := by simp [wasV]
theorem wasV_step (key : List Int) (n : Nat) (F : Nat → Fl) (k : Nat) : wasV key n F (k + 1) = wasV key n F k ++ [fallV key (F k) 0 n] := by
  unfold wasV
  rw [List.range_succ, List.map_append]
  rfl
theorem wasV_nth (key : List Int) (n : Nat) (F : Nat → Fl) (m k : Nat) (h : k < m) : nth (wasV key n F m) k = fallV key (F k) 0 n := by
  rw [nth_of (by rw [wasV_length]; exact h)]
  simp [wasV]

set_option maxRecDepth 100000 in
set_option maxHeartbeats 4000000 in
theorem GensMove_x (bk : Int) (hbk : 0 ≤ bk ∧ bk ≤ 255) (key other : List Int) (hk : okKey key) (ho : okKey other) (A : Option Addr) (m c : Nat) (rows : List (List Value)) (w : World) (hs : SlP flKs w A m c rows) :
    Calls Try.prog 10 #[.int .u8 bk, .agg (bys key).toArray, .agg (bys other).toArray, .slice A m c] w fun e w' => e = .returned (.bool true) ∧ Below w.heap.size w w' := by
  have hO1 := (Obj1.new w (bys key).toArray 22).alloc (.cells (bys other).toArray 22)
  have hO2 := Obj1.new (w.alloc (.cells (bys key).toArray 22)) (bys other).toArray 22
  have e1 : (w.alloc (.cells (bys key).toArray 22)).heap.size = w.heap.size + 1 := by simp
  rw [e1] at hO2
  have HO1 := Lib.hid hO1
  have HO2 := Lib.hid hO2
  have HB := Lib.hid (bl_alloc (bl_alloc (Below.refl w.heap.size w) (.cells (bys key).toArray 22)) (.cells (bys other).toArray 22))
  have HKS := Lib.hid (key_size hk.1)
  have HKO := Lib.hid (key_size ho.1)
  obtain ⟨F, hF⟩ := hs.flows
  have HF := Lib.hid hF
  have hmm : m ≤ 9223372036854775807 := Nat.le_trans hs.2.1 hs.2.2.1
  obtain ⟨b, rfl⟩ := Int.eq_ofNat_of_zero_le hbk.1
  obtain ⟨r, hr⟩ : ∃ r, r = b % 64 := ⟨_, rfl⟩
  obtain ⟨n, hn⟩ : ∃ n, n = 1 + r := ⟨_, rfl⟩
  have hnb : 1 ≤ n ∧ n ≤ 64 := by omega
  have b1 : IntKind.i64.wrap (b : Int) = (b : Int) := IntWalk.i64_in _ (by omega)
  have b2 : (b : Int).tmod 64 = (r : Int) := by rw [Int.tmod_eq_emod_of_nonneg (by omega)]; omega
  have b2' : (b : Int) % 64 = (r : Int) := by omega
  have b3 : IntKind.i64.wrap (1 + (r : Int)) = (n : Int) := by rw [show 1 + (r : Int) = (n : Int) by omega]; exact IntWalk.i64_in _ (by omega)
  clear hO1 hO2 e1 hr hn hs hF
  go_enter Try.func10, Try.ntmps10
  go_wp2_with fail
  refine (awake24_w _).mono ?_
  rintro e w1 ⟨rfl, hb1⟩
  have HP1 := Lib.hid (HO1.out.below hb1)
  have HP2 := Lib.hid (HO2.out.below hb1)
  have HB1 := Lib.hid (bl_next HB.out hb1)
  clear hb1
  by_cases h8 : 10 < m
  · have h8' : (10 : Int) < (m : Int) := by omega
    go_wp2_with fail
    refine (awake24_w _).mono ?_
    rintro e w2 ⟨rfl, hb2⟩
    have HB2 := Lib.hid (bl_next HB1.out hb2)
    clear hb2
    go_wp2
    go_ret
    exact ⟨rfl, HB2.out⟩
  · have h8' : ¬ (10 : Int) < (m : Int) := by omega
    have HMI := Lib.hid hnb
    go_wp2_with (refine load_obj rfl 22 (.tmp 5) rfl w.heap.size 22 (bys key).toArray _ rfl HP1.out Try.underlying22 rfl HKS.out ?_)
    refine (gnew_w n hnb key hk _).mono ?_
    rintro e w2 ⟨G, rfl, hG, hg0, hb2⟩
    have HG0 := Lib.hid (show Obj1 w2 G (gnC (g0M n key)).toArray 75 from hg0)
    have HQ1 := Lib.hid (HP1.out.below hb2)
    have HQ2 := Lib.hid (HP2.out.below hb2)
    have HB2 := Lib.hid (bl_next HB1.out hb2)
    have hwG : w.heap.size ≤ G := Nat.le_trans HB1.out.size hG
    have hFG : w.heap.size + 1 < G := Nat.lt_of_lt_of_le HP2.out.lt hG
    clear hg0 hb2 hG
    go_wp2_with (refine load_obj rfl 22 (.tmp 6) rfl (w.heap.size + 1) 22 (bys other).toArray _ rfl HQ2.out Try.underlying22 rfl HKO.out ?_)
    refine (gnew_w n hnb other ho _).mono ?_
    rintro e w3 ⟨H, rfl, hH, hh0, hb3⟩
    have HH3 := Lib.hid (show Obj1 w3 H (gnC (g0M n other)).toArray 75 from hh0)
    have hGH : G < H := Nat.lt_of_lt_of_le HG0.out.lt hH
    have HG3 := Lib.hid (HG0.out.below hb3)
    have HR1 := Lib.hid (HQ1.out.below hb3)
    have HR2 := Lib.hid (HQ2.out.below hb3)
    have HB3 := Lib.hid (bl_next HB2.out hb3)
    have HI0 := Lib.hid (show okGn (g0M n key) ∧ okGn (g0M n other) from ⟨(fresh_new hnb hk).1, (fresh_new hnb ho).1⟩)
    clear hh0 hb3 hH
    go_wp2_with fail
    go_loopw [14, 52] (fun v i wr => ∃ k : Nat, k ≤ m ∧ i = .int .i64 k ∧ wr.ownsRow w.heap.size 3 1 v k (vals (wasV key n F k)) ∧ Obj1 wr G (gnC (g0M n key)).toArray 75 ∧ Obj1 wr H (gnC (g0M n other)).toArray 75 ∧ Obj1 wr w.heap.size (bys key).toArray 22 ∧ Obj1 wr (w.heap.size + 1) (bys other).toArray 22 ∧ Below w.heap.size w wr) (fun _ i _ => m - (intOf i).toNat)
    case atStart => exact ⟨0, Nat.zero_le _, rfl, World.ownsRow_nil _ _ _ _, HG3.out, HH3.out, HR1.out, HR2.out, HB3.out⟩
    case round =>
      obtain ⟨k, hkm, rfl, hown, hobj, hobh, hx1, hx2, hbel⟩ := hrel
      have HOWN := Lib.hid hown
      have HOB := Lib.hid hobj
      have HOH := Lib.hid hobh
      have HX1 := Lib.hid hx1
      have HX2 := Lib.hid hx2
      have HBL := Lib.hid hbel
      clear hown hobj hobh hx1 hx2 hbel
      by_cases hlt : k < m
      · have hk0 : (0 : Int) ≤ (k : Int) := Int.natCast_nonneg k
        have hk1 : (k : Int) < (m : Int) := by omega
        obtain ⟨hfl, sb, so, rfl, hcc⟩ := HF.out k hlt
        have HFL := Lib.hid hfl
        have HCC := Lib.hid (show ∀ q v, (flC (F k))[q]? = some v → wr.cell? ((⟨sb, so + k * 36, none⟩ : Addr).add q) = some v from fun q v hq => bl_keeps HBL.out (hcc q v hq))
        have HKI := Lib.hid (fl_sizeL hfl)
        clear hcc hfl
        go_wp2_with (refine load_cells rfl 34 (.tmp 59) rfl ⟨sb, so + k * 36, none⟩ (flC (F k)) _ rfl HCC.out Try.underlying34 rfl HKI.out ?_)
        refine (where_still_w G (g0M n key) HI0.out.1 rfl (F k) HFL.out _ HOB.out).mono ?_
        rintro e w4 ⟨rfl, hb4⟩
        rw [show classV (g0M n key) (g0M n key).old (F k) = fallV key (F k) 0 n from class0 ..]
        have HOW4 := Lib.hid (own_below HOWN.out hb4)
        have HOB4 := Lib.hid (HOB.out.below hb4)
        have HOH4 := Lib.hid (HOH.out.below hb4)
        have HX14 := Lib.hid (HX1.out.below hb4)
        have HX24 := Lib.hid (HX2.out.below hb4)
        have HB4 := Lib.hid (bl_next HBL.out hb4)
        clear hb4
        have HN1 := Lib.hid (own_ne (HOB4.out.alloc (.cells #[.int .i64 (fallV key (F k) 0 n)] 3)) (HOW4.out.alloc (.cells #[.int .i64 (fallV key (F k) 0 n)] 3)) (by decide))
        have HN2 := Lib.hid (own_ne (HOH4.out.alloc (.cells #[.int .i64 (fallV key (F k) 0 n)] 3)) (HOW4.out.alloc (.cells #[.int .i64 (fallV key (F k) 0 n)] 3)) (by decide))
        have HN3 := Lib.hid (own_ne (HX14.out.alloc (.cells #[.int .i64 (fallV key (F k) 0 n)] 3)) (HOW4.out.alloc (.cells #[.int .i64 (fallV key (F k) 0 n)] 3)) (by decide))
        have HN4 := Lib.hid (own_ne (HX24.out.alloc (.cells #[.int .i64 (fallV key (F k) 0 n)] 3)) (HOW4.out.alloc (.cells #[.int .i64 (fallV key (F k) 0 n)] 3)) (by decide))
        go_wp2_with (at_builtin; refine app_list w.heap.size rfl (.tmp 64) (.tmp 66) 37 3 (.int .i64 0) 1 8 rfl Try.underlying37 (by kernel_rfl) rfl (by omega) (by omega) _ k _ (some ⟨w4.heap.size, 0, none⟩) 1 1 (vals [fallV key (F k) 0 n]) rfl rfl (HOW4.out.alloc _) rfl (Rd_new1 _ _ _) (vals_one _) (by omega) (by have := HB4.out.size; simp; omega) ?_; intro v1 w6 hown6 hg6)
        go_roundw
        case rel => exact ⟨k + 1, by omega, by go_num, by rw [wasV_step]; simpa [vals] using hown6, (HOB4.out.alloc _).of_grown hg6 HN1.out, (HOH4.out.alloc _).of_grown hg6 HN2.out, (HX14.out.alloc _).of_grown hg6 HN3.out, (HX24.out.alloc _).of_grown hg6 HN4.out, bl_grown (bl_alloc HB4.out _) (HOW4.out.alloc _) hg6 (Nat.le_refl _)⟩
        case measure => simp [intOf]; omega
      · have hkeq : k = m := by omega
        have hk1 : ¬ (k : Int) < (m : Int) := by omega
        have hneG := own_ne HOB.out HOWN.out (by decide)
        obtain ⟨A1, c1, rfl, hsl⟩ := SlI.owned HOWN.out (wasV_length _ _ _ _) (fun x hx => by
          simp only [wasV, List.mem_map] at hx
          obtain ⟨l, _, rfl⟩ := hx
          have := fallV_range key (F l) 0 n (by omega)
          omega)
        have hneA : ∀ ad, A1 = some ad → ad.block ≠ G := by
          rintro ad rfl h
          exact hneG (by simp [Value.ownBlock, h])
        rw [hkeq] at hsl
        have HSL := Lib.hid hsl
        have HNA := Lib.hid hneA
        clear hsl hneA hneG
        go_wp2_with (refine load_obj rfl 22 (.tmp 6) rfl (w.heap.size + 1) 22 (bys other).toArray _ rfl HX2.out Try.underlying22 rfl HKO.out ?_)
        refine (rekey_w G (g0M n key) HI0.out.1 rfl other ho _ HOB.out).mono ?_
        rintro e w7 ⟨rfl, hg7, hu7⟩
        have HG7 := Lib.hid (show Obj1 w7 G (gnC (gM n key other 0)).toArray 75 by rw [← gM_zero hnb]; exact hg7)
        have HH7 := Lib.hid (HOH.out.of_grown hu7 (by simp; omega))
        have HX7 := Lib.hid (HX1.out.of_grown hu7 (by simp; omega))
        have HS7 := Lib.hid (HSL.out.upd hu7 HNA.out)
        have HB7 := Lib.hid (bl_upd HBL.out hu7 hwG)
        clear hg7 hu7 hkeq
        go_wp2_with (refine load_obj_g (by rfl) 22 (.tmp 5) rfl w.heap.size 22 (bys key).toArray _ rfl HX7.out Try.underlying22 rfl HKS.out ?_)
        refine (rekey_busy_w G (gM n key other 0) (gM_ok hnb hk ho 0) (gM_mv key other (by omega)).1 key hk _ HG7.out).mono ?_
        rintro e w8 ⟨rfl, hb8⟩
        have HG8 := Lib.hid (HG7.out.below hb8)
        have HH8 := Lib.hid (HH7.out.below hb8)
        have HX8 := Lib.hid (HX7.out.below hb8)
        have HS8 := Lib.hid (HS7.out.below hb8)
        have HB8 := Lib.hid (bl_next HB7.out hb8)
        clear hb8
        go_wp2_with fail
        go_loopw [80] (fun i wr => ∃ j : Nat, j ≤ n ∧ i = .int .i64 j ∧ Obj1 wr G (gnC (gM n key other j)).toArray 75 ∧ Obj1 wr H (gnC (g0M n other)).toArray 75 ∧ Obj1 wr w.heap.size (bys key).toArray 22 ∧ SlI .i64 wr A1 m c1 (wasV key n F m) ∧ Below w.heap.size w wr) (fun i _ => n - (intOf i).toNat)
        case atStart => exact ⟨0, Nat.zero_le _, rfl, HG8.out, HH8.out, HX8.out, HS8.out, HB8.out⟩
        case round =>
          obtain ⟨j, hj, rfl, hobj, hobh, hx1, hsl, hbel⟩ := hrel
          have HOB := Lib.hid hobj
          have HOH := Lib.hid hobh
          have HX1 := Lib.hid hx1
          have HSL := Lib.hid hsl
          have HBL := Lib.hid hbel
          clear hobj hobh hx1 hsl hbel
          by_cases hlt2 : j < n
          · have hj0 : (0 : Int) ≤ (j : Int) := Int.natCast_nonneg j
            have hj1 : (j : Int) < (n : Int) := by omega
            have HMV := Lib.hid (gM_mv key other hlt2)
            go_wp2_with fail
            refine (step_w G (gM n key other j) (gM_ok hnb hk ho j) HMV.out.1 HMV.out.2.1 _ HOB.out).mono ?_
            rintro e w9 ⟨rfl, hg9, hu9⟩
            rw [HMV.out.2.2]
            rw [gM_step key other hlt2] at hg9
            obtain ⟨gR, hgR⟩ : ∃ gR, gM n key other (j + 1) = gR := ⟨_, rfl⟩
            have hok := gM_ok hnb hk ho (j + 1)
            have hmoving := gM_moving n key other (j + 1)
            rw [hgR] at hg9 hok hmoving
            have HGR := Lib.hid hgR
            have HOK := Lib.hid hok
            have HG9 := Lib.hid hg9
            have HH9 := Lib.hid (HOH.out.of_grown hu9 (by simp; omega))
            have HX9 := Lib.hid (HX1.out.of_grown hu9 (by simp; omega))
            have HS9 := Lib.hid (HSL.out.upd hu9 HNA.out)
            have HB9 := Lib.hid (bl_upd HBL.out hu9 hwG)
            clear hg9 hu9 hgR hok
            obtain ⟨q, hq⟩ : ∃ q, q = n - 1 := ⟨_, rfl⟩
            have p1 : IntKind.i64.wrap ((n : Int) - 1) = (q : Int) := by rw [show (n : Int) - 1 = (q : Int) by omega]; exact IntWalk.i64_in _ (by omega)
            obtain ⟨mvb, hmvb⟩ : ∃ mvb, mvb = decide (j < q) := ⟨_, rfl⟩
            have p2 : decide (j < q) = mvb := hmvb.symm
            have p3 : decide ((j : Int) < (q : Int)) = mvb := by rw [hmvb]; simp
            have p4 : gR.mv = mvb := by rw [hmoving, hmvb]; congr 1; apply propext; omega
            have HP4 := Lib.hid p4
            clear p4 hmvb hmoving hq
            go_wp2_with fail
            refine (gmoving_w G gR HOK.out _ HG9.out).mono ?_
            rintro e w' ⟨rfl, rfl⟩
            rw [HP4.out]
            go_wp2_with fail
            go_loopw [106] (fun i wr => ∃ k : Nat, k ≤ m ∧ i = .int .i64 k ∧ Obj1 wr G (gnC gR).toArray 75 ∧ Obj1 wr H (gnC (g0M n other)).toArray 75 ∧ Obj1 wr w.heap.size (bys key).toArray 22 ∧ SlI .i64 wr A1 m c1 (wasV key n F m) ∧ Below w.heap.size w wr) (fun i _ => m - (intOf i).toNat)
            case atStart => exact ⟨0, Nat.zero_le _, rfl, HG9.out, HH9.out, HX9.out, HS9.out, HB9.out⟩
            case round =>
              obtain ⟨k, hkm, rfl, hobj, hobh, hx1, hsl, hbel⟩ := hrel
              have HOB := Lib.hid hobj
              have HOH := Lib.hid hobh
              have HX1 := Lib.hid hx1
              have HSL := Lib.hid hsl
              have HBL := Lib.hid hbel
              clear hobj hobh hx1 hsl hbel
              by_cases hlt : k < m
              · have hk0 : (0 : Int) ≤ (k : Int) := Int.natCast_nonneg k
                have hk1 : (k : Int) < (m : Int) := by omega
                obtain ⟨hfl, sb, so, rfl, hcc⟩ := HF.out k hlt
                have HFL := Lib.hid hfl
                have HCW := Lib.hid hcc
                have HCC := Lib.hid (show ∀ q v, (flC (F k))[q]? = some v → wr.cell? ((⟨sb, so + k * 36, none⟩ : Addr).add q) = some v from fun q v hq => bl_keeps HBL.out (hcc q v hq))
                have HKI := Lib.hid (fl_sizeL hfl)
                clear hcc hfl
                go_wp2_with (refine load_cells rfl 34 (.tmp 113) rfl ⟨sb, so + k * 36, none⟩ (flC (F k)) _ rfl HCC.out Try.underlying34 rfl HKI.out ?_)
                refine (where_w G gR HOK.out (F k) HFL.out _ HOB.out).mono ?_
                rintro e w4 ⟨rfl, hb4⟩
                obtain ⟨gen, hgen⟩ : ∃ gen, gnGen gR (F k) = gen := ⟨_, rfl⟩
                rw [hgen]
                obtain ⟨C, hC⟩ : ∃ C, classV gR gen (F k) = C := ⟨_, rfl⟩
                rw [hC]
                have HOB4 := Lib.hid (HOB.out.below hb4)
                have HOH4 := Lib.hid (HOH.out.below hb4)
                have HX4 := Lib.hid (HX1.out.below hb4)
                have HS4 := Lib.hid (HSL.out.below hb4)
                have HB4 := Lib.hid (bl_next HBL.out hb4)
                have HC4 := Lib.hid (show ∀ q v, (flC (F k))[q]? = some v → w4.cell? ((⟨sb, so + k * 36, none⟩ : Addr).add q) = some v from fun q v hq => bl_keeps HB4.out (HCW.out q v hq))
                have HGE := Lib.hid hgen
                have HCE := Lib.hid hC
                clear hb4 hgen hC
                go_wp2_with (refine load_cells rfl 34 (.tmp 122) rfl ⟨sb, so + k * 36, none⟩ (flC (F k)) _ rfl HC4.out Try.underlying34 rfl HKI.out ?_)
                refine (where_still_w H (g0M n other) HI0.out.2 rfl (F k) HFL.out _ HOH4.out).mono ?_
                rintro e w5 ⟨rfl, hb5⟩
                rw [show classV (g0M n other) (g0M n other).old (F k) = fallV other (F k) 0 n from class0 ..]
                have HOB5 := Lib.hid (HOB4.out.below hb5)
                have HOH5 := Lib.hid (HOH4.out.below hb5)
                have HX5 := Lib.hid (HX4.out.below hb5)
                have HS5 := Lib.hid (HS4.out.below hb5)
                have HB5 := Lib.hid (bl_next HB4.out hb5)
                clear hb5
                obtain ⟨ad, rfl, hcell, _⟩ := HS5.out.at k hlt
                rw [wasV_nth key n F m k hlt] at hcell
                have hcl := gM_class n key other (j + 1) (F k)
                have hge := gM_gen hnb key other (j := j + 1) (by omega) (F k)
                rw [HGR.out] at hcl hge
                rw [HGE.out] at hge
                have hw := fallV_range key (F k) 0 n (by omega)
                have hx := fallV_range other (F k) 0 n (by omega)
                obtain ⟨Wv, hWv⟩ : ∃ Wv, fallV key (F k) 0 n = Wv := ⟨_, rfl⟩
                obtain ⟨Xv, hXv⟩ : ∃ Xv, fallV other (F k) 0 n = Xv := ⟨_, rfl⟩
                rw [hWv] at hcell hcl hge hw
                rw [hXv] at hcl hx
                rw [hXv]
                have p5 : IntKind.i64.wrap ((n : Int) + Xv) = (n : Int) + Xv := IntWalk.i64_in _ (by omega)
                clear hWv hXv
                by_cases hle : Wv ≤ (j : Int)
                · rw [if_neg (by omega)] at hge
                  subst hge
                  have hCV : C = (n : Int) + Xv := by rw [← HCE.out, hcl.2]
                  subst hCV
                  have hgt : ¬ (j : Int) < Wv := by omega
                  have d1 : decide (Wv ≤ (j : Int)) = true := by simp; omega
                  have d2 : decide ((j : Int) < Wv) = false := by simp; omega
                  clear hcl hw hx
                  go_wp2_with fail
                  go_roundw
                  case rel => exact ⟨k + 1, by omega, by go_num, HOB5.out, HOH5.out, HX5.out, HS5.out, HB5.out⟩
                  case measure => simp [intOf]; omega
                · rw [if_pos (by omega)] at hge
                  subst hge
                  have hCV : C = Wv := by rw [← HCE.out, hcl.1]
                  subst hCV
                  have hgt : (j : Int) < C := by omega
                  have d1 : decide (C ≤ (j : Int)) = false := by simp; omega
                  have d2 : decide ((j : Int) < C) = true := by simp; omega
                  clear hcl hw hx
                  go_wp2_with fail
                  go_roundw
                  case rel => exact ⟨k + 1, by omega, by go_num, HOB5.out, HOH5.out, HX5.out, HS5.out, HB5.out⟩
                  case measure => simp [intOf]; omega
              · have hk1 : ¬ (k : Int) < (m : Int) := by omega
                have HG6 := Lib.hid (show Obj1 wr G (gnC (gM n key other (j + 1))).toArray 75 by rw [HGR.out]; exact HOB.out)
                go_wp2_with fail
                go_roundw
                case rel => exact ⟨j + 1, by omega, by go_num, HG6.out, HOH.out, HX1.out, HSL.out, HBL.out⟩
                case measure => simp [intOf]; omega
          · have hjn : j = n := by omega
            have hj1 : ¬ (j : Int) < (n : Int) := by omega
            have hok := gM_ok hnb hk ho j
            have hE : (gM n key other j).old = 1 ∧ (gM n key other j).mv = false ∧ (gM n key other j).ep = 1 := by
              unfold gM
              rw [if_neg hlt2]
              exact ⟨rfl, rfl, rfl⟩
            obtain ⟨gR, hgR⟩ : ∃ gR, gM n key other j = gR := ⟨_, rfl⟩
            rw [hgR] at HOB hok hE
            have HOK := Lib.hid hok
            have HE := Lib.hid hE
            clear hgR hok hE hjn
            go_wp2_with fail
            refine (gold_w G gR HOK.out _ HOB.out).mono ?_
            rintro e w' ⟨rfl, rfl⟩
            rw [HE.out.1]
            go_wp2_with fail
            refine (gepoch_w G gR HOK.out _ HOB.out).mono ?_
            rintro e w' ⟨rfl, rfl⟩
            rw [HE.out.2.2]
            go_wp2_with (refine load_obj_g (by rfl) 22 (.tmp 5) rfl w.heap.size 22 (bys key).toArray _ rfl HX1.out Try.underlying22 rfl HKS.out ?_)
            refine (rekey_w G gR HOK.out HE.out.2.1 key hk _ HOB.out).mono ?_
            rintro e w7 ⟨rfl, hg7, hu7⟩
            have HB7 := Lib.hid (bl_upd HBL.out hu7 hwG)
            clear hg7 hu7
            go_wp2
            go_ret
            exact ⟨rfl, HB7.out⟩

theorem GensMove_w (a0 : Int) (l1 l2 : Array Value) (a3 : Option Addr) (n3 c3 : Nat) (l3 : List (List Value)) (W : World) (w0 : (Lit.int .u8 a0).wf = true) (w1 : okCells (List.replicate 16 (.i .u8)) l1.toList) (w2 : okCells (List.replicate 16 (.i .u8)) l2.toList) (w3 : SlP flKs W a3 n3 c3 l3) :
    Calls Try.prog 10 #[.int .u8 a0, .agg l1, .agg l2, .slice a3 n3 c3] W fun e w' => e = .returned (.bool true) ∧ Below W.heap.size W w' := by
  obtain ⟨key, rfl, hk, hkb⟩ := arr_of w1
  obtain ⟨other, rfl, ho, hob⟩ := arr_of w2
  exact GensMove_x a0 (u8_range w0) key other ⟨hk, hkb⟩ ⟨ho, hob⟩ a3 n3 c3 l3 W w3
end Go.Proofs.Ytgbdkleckmilkaa
