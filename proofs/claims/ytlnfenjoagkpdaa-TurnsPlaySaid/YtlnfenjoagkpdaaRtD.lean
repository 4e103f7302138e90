/- The document's turns: whose turn it is. -/
import Derived.Test.YtlnfenjoagkpdaaRtC
namespace Go.Proofs.Ytlnfenjoagkpdaa
open Go.RowKit
set_option linter.unusedVariables false
set_option linter.unusedSimpArgs false

def rV : Option Nat → Int
  | some c => (c : Int)
  | none => -1
theorem own_above {w : World} {e : TypeId} {B sz X : Nat} {v : Value} {n : Nat} {xs : List Value} (h : w.ownsRow B e sz v n xs) (hX : X < B) : some X ≠ v.ownBlock := fun he => by
  have := (h.lt _ he.symm).1
  omega
theorem SlR.empty {α : Type} {f : α → List Value} {w w' : World} {A : Option Addr} {n c : Nat} (h : SlR f w A n c []) : SlR f w' A n c [] := ⟨h.1, h.2.1, h.2.2.1, h.2.2.2.1, Rd.nil _ _⟩

set_option maxRecDepth 100000 in
set_option maxHeartbeats 16000000 in
theorem rpick_w (N q : Int) (A : Option Addr) (n cp : Nat) (l : List RC) (hn : n ≤ 1000) (hq : 1 ≤ q ∧ q ≤ 1073741824) (hok : okR q l) (AH : Option Addr) (nh ch : Nat) (heads : List Int) (hh : heads.length = nh) (w : World) (h : SlR rcC w A n cp l) (hr : RdI w AH heads) :
    Calls Try.prog 20 #[.agg (rtC N q A n cp), .slice AH nh ch] w fun e w' => ∃ l' r, RPk (hdOf heads) q l l' r ∧ ∃ A1 n1 c1, e = .returned (.tuple #[.agg (rtC N q A1 n1 c1), .int .i64 (rV r)]) ∧ SlR rcC w' A1 n1 c1 l' ∧ (A1 = A ∨ ∀ ad, A1 = some ad → w.heap.size ≤ ad.block) ∧ Below w.heap.size w w' := by
  have HR := Lib.hid hr
  have HHL := Lib.hid hh
  have HQ := Lib.hid hq
  have HOK := Lib.hid hok
  have HS0 := Lib.hid h
  obtain ⟨W, hW⟩ : ∃ W, W = (w.alloc (.cells (rtC N q A n cp) 44)).alloc (.cells #[.int .i64 0, .int .i64 0, .slice none 0 0] 44) := ⟨_, rfl⟩
  have HB0 := Lib.hid (show Below w.heap.size w W by rw [hW]; exact bl_alloc (bl_alloc (Below.refl w.heap.size w) _) _)
  have HK0 := Lib.hid (show Obj1 W w.heap.size (rtC N q A n cp) 44 by rw [hW]; exact (Obj1.new w _ _).alloc _)
  have HZ0 := Lib.hid (show Obj1 W (w.heap.size + 1) #[.int .i64 0, .int .i64 0, .slice none 0 0] 44 by
    rw [hW]
    have := Obj1.new (w.alloc (.cells (rtC N q A n cp) 44)) #[.int .i64 0, .int .i64 0, .slice none 0 0] 44
    rwa [World.size_alloc] at this)
  have HW := Lib.hid hW
  have hl0 := h.1
  clear hW h hr hh hok
  go_enter Try.func20, Try.ntmps20
  go_upto_region 1 with (fail)
  rw [← HW.out]
  clear HW
  go_loopg [] (rmeas (hdOf heads) l) (fun kk wr => ∃ (l1 : List RC) (A1 : Option Addr) (m1 c1 : Nat), rmeas (hdOf heads) l1 ≤ kk ∧ m1 ≤ 1000 ∧ okR q l1 ∧ Obj1 wr w.heap.size (rtC N q A1 m1 c1) 44 ∧ Obj1 wr (w.heap.size + 1) #[.int .i64 0, .int .i64 0, .slice none 0 0] 44 ∧ SlR rcC wr A1 m1 c1 l1 ∧ (l1 ≠ [] → ∀ ad, A1 = some ad → ad.block ≠ w.heap.size ∧ ad.block ≠ w.heap.size + 1) ∧ (A1 = A ∨ ∀ ad, A1 = some ad → w.heap.size ≤ ad.block) ∧ Below w.heap.size w wr ∧ ∀ l' r, RPk (hdOf heads) q l1 l' r → RPk (hdOf heads) q l l' r)
  case atStart => exact ⟨l, A, n, cp, Nat.le_refl _, hn, HOK.out, HK0.out, HZ0.out, HS0.out.below HB0.out, (fun hne ad e => by
    cases l with
    | nil => exact absurd rfl hne
    | cons x l =>
      obtain ⟨b, o, e2, r0, _⟩ := HS0.out.rc (j := 0) rfl
      rw [e] at e2
      cases e2
      have := cell_lt r0
      simp at this ⊢
      omega), .inl rfl, HB0.out, fun _ _ h => h⟩
  case round =>
    obtain ⟨l1, A1, m1, c1, hme, hn1, hok1, hk1, hz1, hs1, hne1, hor1, hb1, hpk1⟩ := hrel
    have HME := Lib.hid hme
    have HOK1 := Lib.hid hok1
    have HK := Lib.hid hk1
    have HZ := Lib.hid hz1
    have HS := Lib.hid hs1
    have HNE := Lib.hid hne1
    have HOR := Lib.hid hor1
    have HB := Lib.hid hb1
    have HPK := Lib.hid hpk1
    clear hme hok1 hk1 hz1 hs1 hne1 hor1 hb1 hpk1 HS0 HB0 HK0 HZ0
    have c2 : wr.cell? ⟨w.heap.size, 2, none⟩ = some (.slice A1 m1 c1) := HK.out.cell 2
    cases l1 with
    | nil =>
      have hm0 : m1 = 0 := HS.out.1.symm
      subst hm0
      go_wp2_with (first | (refine load_obj rfl 44 (.tmp 2) rfl w.heap.size 44 (rtC N q A1 0 c1) _ rfl HK.out Try.underlying44 rfl rfl ?_) | (refine store_obj rfl 44 (.tmp 4) (.tmp 72) rfl (w.heap.size + 1) 44 _ (rtC N q A1 0 c1) rfl rfl HZ.out rfl rfl (by simp [rtC, Value.oneCell']) ?_; intro w3 ho3 hu3; have HZ3 := Lib.hid ho3; have HB3 := Lib.hid (bl_upd HB.out hu3 (by omega)); clear ho3 hu3))
      refine bodyPost_ret (v := .tuple #[.agg (rtC N q A1 0 c1), .int .i64 (-1)]) (results_cell2 (p := 4) (u := 5) rfl _ _ _ (w.heap.size + 1) _ rfl (run_loadVar_row (P := Try.prog) _ (w.heap.size + 1) 44 44 (rtC N q A1 0 c1) (0, 0) _ HZ3.out Try.underlying44 rfl rfl)) rfl ?_
      exact ⟨[], none, HPK.out _ _ .none, A1, 0, c1, rfl, HS.out.empty, HOR.out, HB3.out⟩
    | cons x rest =>
      obtain ⟨n1, hmm⟩ : ∃ n1, m1 = n1 + 1 := ⟨rest.length, HS.out.1.symm⟩
      subst hmm
      obtain ⟨b, o, rfl, r0, r1, r2⟩ := HS.out.rc (j := 0) rfl
      rw [Nat.zero_mul, Nat.add_zero] at r0 r1 r2
      have HLR := Lib.hid (show rest.length = n1 from Nat.succ.inj HS.out.1)
      have hbn := HNE.out (by simp) _ rfl
      have hbl := cell_lt r0
      obtain ⟨X, hX⟩ : ∃ X, X = wr.heap.size := ⟨_, rfl⟩
      have hXK : w.heap.size + 1 < X := by rw [hX]; exact HZ.out.lt
      have hbX : b ≠ X := by rw [hX]; simp at hbl; omega
      have hxb := HOK1.out x (by simp)
      have i0 : (0 : Int) < ((n1 + 1 : Nat) : Int) := by omega
      have i0' : (0 : Int) < (n1 : Int) + 1 := by omega
      have HX0 := Lib.hid hX
      clear hX hbl
      go_upto_region 3 with (refine store_obj rfl 82 (.tmp 6) (.tmp 16) rfl wr.heap.size 82 _ #[.int .i64 (x.n : Int), .bool x.fr, .int .i64 x.de] rfl rfl (Obj1.new wr _ _) rfl rfl (by simp [Value.oneCell']) ?_; intro W ho3 hu3; have HU3 := Lib.hid hu3; have HX3 := Lib.hid ho3; clear ho3 hu3)
      rw [← HX0.out] at HU3 HX3 ⊢
      have hba : Below wr.heap.size wr (wr.alloc (.cells #[.int .i64 0, .bool false, .int .i64 0] 82)) := bl_alloc (Below.refl _ _) _
      have HB3 := Lib.hid (bl_upd (bl_next HB.out hba) HU3.out (by omega))
      have HK3 := Lib.hid ((HK.out.below hba).of_grown HU3.out (by simp <;> omega))
      have HZ3 := Lib.hid ((HZ.out.below hba).of_grown HU3.out (by simp <;> omega))
      have HS3 := Lib.hid ((HS.out.below hba).upd HU3.out (fun ad e => by cases e; exact hbX))
      clear HB HK HZ HS HU3 hba r0 r1 r2 c2 HX0
      have HB := HB3
      have HK := HK3
      have HZ := HZ3
      have HS := HS3
      have HX := HX3
      clear HB3 HK3 HZ3 HS3 HX3
      have r0 : W.cell? ⟨X, 0, none⟩ = some (.int .i64 (x.n : Int)) := HX.out.cell 0
      have hxn : (0 : Int) ≤ (x.n : Int) := Int.natCast_nonneg _
      obtain ⟨nn, hnn⟩ : ∃ nn, nn = hdOf heads x.n := ⟨_, rfl⟩
      have HD := Lib.hid hnn.symm
      clear hnn
      obtain ⟨hv, hhv⟩ : ∃ hv, hv = headV heads x.n := ⟨_, rfl⟩
      have HHV := Lib.hid hhv
      clear hhv
      go_upto_if 21 with (fail)
      go_cut [7] from 17 to 28 (fun s7 wx => s7 = .int .i64 hv ∧ W = wx)
      case first =>
        by_cases hlt : x.n < nh
        · have l1 : (x.n : Int) < (nh : Int) := by omega
          have d1 : decide ((x.n : Int) < (nh : Int)) = true := decide_eq_true l1
          obtain ⟨ad, rfl, hcH⟩ := (HR.out.below HB.out).2 x.n (by rw [HHL.out]; exact hlt)
          have HN9 := Lib.hid (show hv = nth heads x.n by rw [HHV.out]; unfold headV; rw [if_pos (by rw [HHL.out]; exact hlt)])
          go_wp2_with fail
          go_meet
          case rel => exact ⟨by rw [HN9.out], rfl⟩
        · have l1 : ¬ (x.n : Int) < (nh : Int) := by omega
          have d1 : decide ((x.n : Int) < (nh : Int)) = false := decide_eq_false l1
          have HN9 := Lib.hid (show hv = 0 by rw [HHV.out]; unfold headV; rw [if_neg (by rw [HHL.out]; exact hlt)])
          go_wp2_with fail
          go_meet
          case rel => exact ⟨by rw [HN9.out], rfl⟩
      case rest =>
        obtain ⟨rfl, rfl⟩ := hcut
        go_upto_if 28 with (fail)
        go_cut [7] from 17 to 28 (fun s7 wx => s7 = .int .i64 nn ∧ W = wx)
        case first =>
          by_cases hg : 9216 < hv
          · have d2 : decide (9216 < hv) = true := decide_eq_true hg
            have HN9 := Lib.hid (show nn = 9216 by rw [← HD.out]; unfold hdOf; rw [← HHV.out, if_pos hg])
            go_wp2_with fail
            go_meet
            case rel => exact ⟨by rw [HN9.out], rfl⟩
          · have d2 : decide (9216 < hv) = false := decide_eq_false hg
            have HN9 := Lib.hid (show nn = hv by rw [← HD.out]; unfold hdOf; rw [← HHV.out, if_neg hg])
            go_wp2_with fail
            go_meet
            case rel => exact ⟨by rw [HN9.out], rfl⟩
        case rest =>
          obtain ⟨rfl, rfl⟩ := hcut
          have hnb : nn ≤ 9216 := by rw [← HD.out]; unfold hdOf; split <;> omega
          go_upto_region 8 with (fail)
          obtain ⟨A2, hcut2, hrd2⟩ := cut_from (P := Try.prog) 42 82 3 Try.underlying42 (by kernel_rfl) (some ⟨b, o, none⟩) (n1 + 1) c1 1 (by omega) HS.out.2.1
          have hcutB : ∀ W : World, (Instr.slice 42 (.slice (some ⟨b, o, none⟩) (n1 + 1) c1) (some (.int .i64 1)) none none).run Try.prog W = .ok (.slice A2 (n1 + 1 - 1) (c1 - 1)) W := fun W => hcut2 W .i64
          rw [Nat.add_sub_cancel] at hcutB
          have c2 : (W.alloc (.cells #[] 82)).cell? ⟨w.heap.size, 2, none⟩ = some (.slice (some ⟨b, o, none⟩) (n1 + 1) c1) := (HK.out.alloc _).cell 2
          have hb := bl_alloc (Below.refl W.heap.size W) (.cells #[] 82)
          have HE := Lib.hid (own_nil W (X + 1) 82 3 (Nat.succ_le_of_lt HX.out.lt))
          have HRD := Lib.hid (show Rd (W.alloc (.cells #[] 82)) A2 (fl rcC rest) by
            have := hrd2 _ _ (by rw [fl_length _ (rcC_len _)]; simp [HLR.out]) (HS.out.below hb).2.2.2.2
            rwa [fl_cons, List.drop_left' (by rfl)] at this)
          have hq0 := bl_next HB.out hb
          clear HB
          have HB := Lib.hid hq0
          clear hq0
          have hq0 := Obj1.below HK.out hb
          clear HK
          have HK := Lib.hid hq0
          clear hq0
          have hq0 := Obj1.below HZ.out hb
          clear HZ
          have HZ := Lib.hid hq0
          clear hq0
          have hq0 := Obj1.below HX.out hb
          clear HX
          have HX := Lib.hid hq0
          clear hq0
          clear hcut2 hrd2 HS r0 hb
          go_upto_region 9 with (at_builtin; refine app_new_list (X + 1) rfl (.tmp 29) (.tmp 32) 42 82 (.agg #[.int .i64 0, .bool false, .int .i64 0]) 3 24 rfl Try.underlying42 (by kernel_rfl) (by simp [Value.cells]) (by omega) (by omega) W.heap.size A2 n1 (c1 - 1) (fl rcC rest) rfl rfl HE.out (by rw [fl_length _ (rcC_len _), HLR.out]) HRD.out (rcC_one _) (by omega) (Nat.succ_le_of_lt HX.out.lt) ?_; intro vA W hA hb; have HA := Lib.hid hA; clear hA; have HB4 := Lib.hid (bl_next HB.out hb); have HK4 := Lib.hid (HK.out.below hb); have HZ4 := Lib.hid (HZ.out.below hb); have HX4 := Lib.hid (HX.out.below hb); clear HB HK HZ HX hb HE HRD)
          have HB := HB4
          have HK := HK4
          have HZ := HZ4
          have HX := HX4
          clear HB4 HK4 HZ4 HX4 hcutB c2
          by_cases hn0 : nn < 1
          · have e1 : decide (nn < 1) = true := decide_eq_true hn0
            go_wp2_with (refine load_obj rfl 44 (.tmp 2) rfl w.heap.size 44 (rtC N q (some ⟨b, o, none⟩) (n1 + 1) c1) _ rfl HK.out Try.underlying44 rfl rfl ?_)
            obtain ⟨A9, c9, rfl, h9, hne9⟩ := SlR.of_ownB (f := rcC) (k := 3) (l := rest) (by exact HA.out) (by exact HLR.out)
            have H9 := Lib.hid h9
            have HNE9 := Lib.hid (show ∀ ad, A9 = some ad → ad.block ≠ w.heap.size ∧ ad.block ≠ w.heap.size + 1 from fun ad e => ⟨fun he => by
              obtain ⟨_, cs, ho⟩ := hne9 ad e
              rw [he] at ho
              have := ho.symm.trans HK.out
              simp at this, fun he => by
              obtain ⟨_, cs, ho⟩ := hne9 ad e
              rw [he] at ho
              have := ho.symm.trans HZ.out
              simp at this⟩)
            have HGE9 := Lib.hid (show ∀ ad, A9 = some ad → w.heap.size ≤ ad.block from fun ad e => Nat.le_trans (by omega) (hne9 ad e).1)
            clear HA h9 hne9
            refine (rwith_w N q (some ⟨b, o, none⟩) A9 (n1 + 1) c1 n1 c9 _).mono ?_
            rintro e W ⟨rfl, hb⟩
            have hq0 := bl_next HB.out hb
            clear HB
            have HB := Lib.hid hq0
            clear hq0
            have hq0 := Obj1.below HK.out hb
            clear HK
            have HK := Lib.hid hq0
            clear hq0
            have hq0 := Obj1.below HZ.out hb
            clear HZ
            have HZ := Lib.hid hq0
            clear hq0
            have hq0 := SlR.below H9.out hb
            clear H9
            have H9 := Lib.hid hq0
            clear hq0

            clear hb
            go_wp2_with (refine store_obj rfl 44 (.tmp 2) (.tmp 38) rfl w.heap.size 44 _ (rtC N q A9 n1 c9) rfl rfl HK.out rfl rfl (by simp [rtC, Value.oneCell']) ?_; intro W5 ho5 hu; have HK5 := Lib.hid ho5; have HZ5 := Lib.hid (HZ.out.of_grown hu (by simp)); have H95 := Lib.hid (SlR.upd H9.out hu (fun ad e => (HNE9.out ad e).1)); have HB5 := Lib.hid (bl_upd HB.out hu (by omega)); clear ho5 hu)
            go_roundg (rmeas (hdOf heads) rest)
            case measure => exact Nat.lt_of_lt_of_le (rmeas_sleep (hdOf heads) x rest) HME.out
            case rel => exact ⟨rest, A9, n1, c9, Nat.le_refl _, by omega, (fun y hy => HOK1.out y (List.mem_cons_of_mem _ hy)), HK5.out, HZ5.out, H95.out, (fun _ ad e => HNE9.out ad e), .inr HGE9.out, HB5.out, fun l' r hp => HPK.out _ _ (RPk.sleep (by rw [HD.out]; exact hn0) hp)⟩
          · have e1 : decide (nn < 1) = false := decide_eq_false hn0
            have w1 : W.cell? ⟨X, 1, none⟩ = some (.bool x.fr) := HX.out.cell 1
            by_cases hf : x.fr = true
            · have HDEL := Lib.hid (show x.fr = true from hf)
              have hd9 := hxb.2.2 hf
              obtain ⟨de1, hde1⟩ : ∃ de1, de1 = x.de + q := ⟨_, rfl⟩
              have a1 : IntKind.i64.wrap (x.de + q) = de1 := by rw [hde1]; exact IntWalk.i64_in _ (by omega)
              have HDN := Lib.hid (show rdn q x = de1 by unfold rdn; rw [if_pos hf, hde1])
              have hdb : 0 ≤ de1 ∧ de1 ≤ 9216 + q := by omega
              rw [hf] at HX w1
              clear hde1 hd9
              go_upto_region 12 with (fail)
              have HO := HX
              clear HX w1 hf
              refine wp_region_held_drew (S := fun w' => Below w.heap.size w w' ∧ Obj1 w' w.heap.size (rtC N q (some ⟨b, o, none⟩) (n1 + 1) c1) 44) (by kernel_rfl) (⟨HB.out.drew, HK.out⟩) (fun hHeld => ?_)
              have HX := Lib.hid hHeld
              clear hHeld
              generalize hWd : World.drew _ = W at HX ⊢
              have hO : Obj1 W X #[.int .i64 (x.n : Int), .bool true, .int .i64 x.de] 82 := by rw [← hWd]; exact HO.out
              have hZ : Obj1 W (w.heap.size + 1) #[.int .i64 0, .int .i64 0, .slice none 0 0] 44 := by rw [← hWd]; exact HZ.out
              have hA : W.ownsRow (X + 1) 82 3 vA n1 (fl rcC rest) := by rw [← hWd]; exact HA.out
              clear HO HZ HA hWd
              have HO := Lib.hid hO
              have HZ := Lib.hid hZ
              have HA := Lib.hid hA
              clear hO hZ hA
              refine wpAnyH_take (i := 0) (v := ?_) rfl (by kernel_rfl) (by kernel_rfl) (by kernel_rfl) (fun _ _ _ h => h) (Or.inl ⟨by rfl, ?_⟩) HX.out ?_
              rotate_left
              · intro w' hSw; go_simp
                try with_reducible rfl
              go_simp
              refine wpAnyH_take (i := 2) (v := ?_) rfl (by kernel_rfl) (by kernel_rfl) (by kernel_rfl) (fun _ _ _ h => h) (Or.inl ⟨by rfl, ?_⟩) HX.out ?_
              rotate_left
              · intro w' hSw; go_simp
                try with_reducible rfl
              go_simp
              refine wpAnyH_take (i := 3) (v := ?_) rfl (by kernel_rfl) (by kernel_rfl) (by kernel_rfl) (fun _ _ _ h => h) (Or.inl ⟨by rfl, ?_⟩) HX.out ?_
              rotate_left
              · intro w' hSw; have c1 : w'.cell? ⟨w.heap.size, 1, none⟩ = some (.int .i64 q) := hSw.2.cell 1; go_simp
                try with_reducible rfl
              go_simp
              refine wpAnyH_ready (rs := [1]) (by kernel_rfl) (by simp) ?_
              refine AllReadyH.cons rfl (fun K hK => ?_) AllReadyH.nil
              have cq : W.cell? ⟨X, 2, none⟩ = some (.int .i64 x.de) := HO.out.cell 2
              go_simp
              have hX : Below w.heap.size w W ∧ Obj1 W w.heap.size (rtC N q (some ⟨b, o, none⟩) (n1 + 1) c1) 44 := HX.out
              clear cq
              refine hK.out _ _ (hX) (fun hHeld => ?_)
              clear HX hK K
              have HX := Lib.hid hHeld
              clear hHeld
              go_simp
              refine wpAnyH_take (i := 4) (v := ?_) rfl (by kernel_rfl) (by kernel_rfl) (by kernel_rfl) (fun _ _ _ h => h) (Or.inl ⟨by rfl, ?_⟩) HX.out ?_
              rotate_left
              · intro w' hSw; go_simp
                try with_reducible rfl
              go_simp
              refine wpAnyH_take (i := 5) (v := ?_) rfl (by kernel_rfl) (by kernel_rfl) (by kernel_rfl) (fun _ _ _ h => h) (Or.inl ⟨by rfl, ?_⟩) HX.out ?_
              rotate_left
              · intro w' hSw; go_simp
                try with_reducible rfl
              go_simp
              refine wpAnyH_ready (rs := [6]) (by kernel_rfl) (by simp) ?_
              refine AllReadyH.cons rfl (fun K hK => ?_) AllReadyH.nil
              have fq : W.frozen? ⟨X, 1, none⟩ = false := HO.out.free 1
              have cq : W.cell? ⟨X, 1, none⟩ = some (.bool true) := HO.out.cell 1
              go_simp
              have hO : Obj1 (W.setCell ⟨X, 1, none⟩ (.bool false)) X #[.int .i64 (x.n : Int), .bool false, .int .i64 x.de] 82 := HO.out.set 1 (.bool false)
              have hu := (Upd.refl X W).set 1 (.bool false)
              generalize hWn : World.setCell _ _ _ = W at hO hu ⊢
              clear hWn fq cq
              have hX : Below w.heap.size w W ∧ Obj1 W w.heap.size (rtC N q (some ⟨b, o, none⟩) (n1 + 1) c1) 44 := ⟨bl_upd HX.out.1 hu (by omega), HX.out.2.of_grown hu (by simp <;> omega)⟩
              have hq0 := Obj1.of_grown HZ.out hu (by simp <;> omega)
              clear HZ
              have HZ := Lib.hid hq0
              clear hq0
              have hq0 := World.ownsRow.kept HA.out hu (.inr (Ne.symm (own_above HA.out (Nat.lt_succ_self X))))
              clear HA
              have HA := Lib.hid hq0
              clear hq0
              clear HO hu
              have HO := Lib.hid hO
              clear hO
              refine hK.out _ _ (hX) (fun hHeld => ?_)
              clear HX hK K
              have HX := Lib.hid hHeld
              clear hHeld
              go_simp
              refine wpAnyH_take (i := 7) (v := ?_) rfl (by kernel_rfl) (by kernel_rfl) (by kernel_rfl) (fun _ _ _ h => h) (Or.inl ⟨by rfl, ?_⟩) HX.out ?_
              rotate_left
              · intro w' hSw; go_simp
                try with_reducible rfl
              go_simp
              refine wpAnyH_ready (rs := [8]) (by kernel_rfl) (by simp) ?_
              refine AllReadyH.cons rfl (fun K hK => ?_) AllReadyH.nil
              have fq : W.frozen? ⟨X, 2, none⟩ = false := HO.out.free 2
              have cq : W.cell? ⟨X, 2, none⟩ = some (.int .i64 x.de) := HO.out.cell 2
              go_simp
              have hO : Obj1 (W.setCell ⟨X, 2, none⟩ (.int .i64 de1)) X #[.int .i64 (x.n : Int), .bool false, .int .i64 de1] 82 := HO.out.set 2 (.int .i64 de1)
              have hu := (Upd.refl X W).set 2 (.int .i64 de1)
              generalize hWn : World.setCell _ _ _ = W at hO hu ⊢
              clear hWn fq cq
              have hX : Below w.heap.size w W ∧ Obj1 W w.heap.size (rtC N q (some ⟨b, o, none⟩) (n1 + 1) c1) 44 := ⟨bl_upd HX.out.1 hu (by omega), HX.out.2.of_grown hu (by simp <;> omega)⟩
              have hq0 := Obj1.of_grown HZ.out hu (by simp <;> omega)
              clear HZ
              have HZ := Lib.hid hq0
              clear hq0
              have hq0 := World.ownsRow.kept HA.out hu (.inr (Ne.symm (own_above HA.out (Nat.lt_succ_self X))))
              clear HA
              have HA := Lib.hid hq0
              clear hq0
              clear HO hu
              have HO := Lib.hid hO
              clear hO
              refine hK.out _ _ (hX) (fun hHeld => ?_)
              clear HX hK K
              have HX := Lib.hid hHeld
              clear hHeld
              go_simp
              refine wpAnyH_done (by kernel_rfl) ?_ _
              have hX2 := HX.out
              clear HB HK HX
              have HB := Lib.hid hX2.1
              have HK := Lib.hid hX2.2
              have HX := HO
              clear HO hX2
              have v2 : W.cell? ⟨X, 2, none⟩ = some (.int .i64 de1) := HX.out.cell 2
              have v1 : W.frozen? ⟨X, 1, none⟩ = false := HX.out.free 1
              have v3 : W.frozen? ⟨X, 2, none⟩ = false := HX.out.free 2
              have v4 : W.cell? ⟨X, 1, none⟩ = some (.bool false) := HX.out.cell 1
              by_cases hs : nn ≤ de1
              · have e3 : decide (nn ≤ de1) = true := decide_eq_true hs
                obtain ⟨de2, hde2⟩ : ∃ de2, de2 = de1 - nn := ⟨_, rfl⟩
                have a2 : IntKind.i64.wrap (de1 - nn) = de2 := by rw [hde2]; exact IntWalk.i64_in _ (by omega)
                have HDE2 := Lib.hid (show de2 = de1 - nn from hde2)
                clear hde2
                go_upto_region 15 with (fail)
                have hu := (Upd.refl X W).set 2 (.int .i64 de2)
                have hO : Obj1 (W.setCell ⟨X, 2, none⟩ (.int .i64 de2)) X #[.int .i64 (x.n : Int), .bool false, .int .i64 de2] 82 := HX.out.set 2 (.int .i64 de2)
                have hq0 := bl_upd HB.out hu (by omega)
                clear HB
                have HB := Lib.hid hq0
                clear hq0
                have hq0 := Obj1.of_grown HK.out hu (by simp <;> omega)
                clear HK
                have HK := Lib.hid hq0
                clear hq0
                have hq0 := Obj1.of_grown HZ.out hu (by simp <;> omega)
                clear HZ
                have HZ := Lib.hid hq0
                clear hq0
                have hq0 := World.ownsRow.kept HA.out hu (.inr (Ne.symm (own_above HA.out (Nat.lt_succ_self X))))
                clear HA
                have HA := Lib.hid hq0
                clear hq0
                clear HX v1 v2 v3 v4
                have HX := Lib.hid hO
                generalize hWn : World.setCell _ _ _ = W at HB HK HZ HA HX ⊢
                clear hWn hu hO
                refine wp_region_held_drew (S := fun w' => Below w.heap.size w w' ∧ Obj1 w' w.heap.size (rtC N q (some ⟨b, o, none⟩) (n1 + 1) c1) 44 ∧ Obj1 w' X #[.int .i64 (x.n : Int), .bool false, .int .i64 de2] 82) (by kernel_rfl) (⟨HB.out.drew, HK.out, HX.out⟩) (fun hHeld => ?_)
                have HX := Lib.hid hHeld
                clear hHeld
                generalize hWd : World.drew _ = W at HX ⊢
                have hZ : Obj1 W (w.heap.size + 1) #[.int .i64 0, .int .i64 0, .slice none 0 0] 44 := by rw [← hWd]; exact HZ.out
                have hA : W.ownsRow (X + 1) 82 3 vA n1 (fl rcC rest) := by rw [← hWd]; exact HA.out
                clear HZ HA hWd
                have HZ := Lib.hid hZ
                have HA := Lib.hid hA
                clear hZ hA
                refine wpAnyH_take (i := 0) (v := .agg (rtC N q (some ⟨b, o, none⟩) (n1 + 1) c1)) rfl (by kernel_rfl) (by kernel_rfl) (by kernel_rfl) (fun _ _ _ h => h) (Or.inl ⟨by rfl, ?_⟩) HX.out ?_
                · intro w' hSw
                  have hld := run_loadVar_row (P := Try.prog) w' w.heap.size 44 44 (rtC N q (some ⟨b, o, none⟩) (n1 + 1) c1) (0, 0) _ hSw.2.1 Try.underlying44 rfl rfl
                  simp [execOp, Act.eval, Instr.loadAt, Instr.sureAddr, Sem.run_bind, hld, Result.andThen]
                go_simp
                refine wpAnyH_take (i := 1) (v := .agg #[.int .i64 (x.n : Int), .bool false, .int .i64 de2]) rfl (by kernel_rfl) (by kernel_rfl) (by kernel_rfl) (fun _ _ _ h => h) (Or.inl ⟨by rfl, ?_⟩) HX.out ?_
                · intro w' hSw
                  have hld := run_loadVar_row (P := Try.prog) w' X 82 82 #[.int .i64 (x.n : Int), .bool false, .int .i64 de2] (0, 0) _ hSw.2.2 Try.underlying82 rfl rfl
                  simp [execOp, Act.eval, Instr.loadAt, Instr.sureAddr, Sem.run_bind, hld, Result.andThen]
                go_simp
                refine wpAnyH_take (i := 3) (v := ?_) rfl (by kernel_rfl) (by kernel_rfl) (by kernel_rfl) (fun _ _ _ h => h) (Or.inl ⟨by rfl, ?_⟩) HX.out ?_
                rotate_left
                · intro w' hSw; go_simp
                  try with_reducible rfl
                go_simp
                refine wpAnyH_take (i := 6) (v := ?_) rfl (by kernel_rfl) (by kernel_rfl) (by kernel_rfl) (fun _ _ _ h => h) (Or.inl ⟨by rfl, ?_⟩) HX.out ?_
                rotate_left
                · intro w' hSw; go_simp
                  try with_reducible rfl
                go_simp
                refine wpAnyH_take (i := 7) (v := ?_) rfl (by kernel_rfl) (by kernel_rfl) (by kernel_rfl) (fun _ _ _ h => h) (Or.inl ⟨by rfl, ?_⟩) HX.out ?_
                rotate_left
                · intro w' hSw; have c0 : w'.cell? ⟨X, 0, none⟩ = some (.int .i64 (x.n : Int)) := hSw.2.2.cell 0; go_simp
                  try with_reducible rfl
                go_simp
                refine wpAnyH_ready (rs := [2]) (by kernel_rfl) (by simp) ?_
                refine AllReadyH.cons rfl (fun K hK => ?_) AllReadyH.nil
                go_simp
                have hLo := World.ownsRow_lit (base := X + 1) (e := 82) (size := 3) W #[.int .i64 (x.n : Int), .bool false, .int .i64 de2] 1 (Nat.succ_le_of_lt HX.out.2.2.lt) (by simp [maxLen]) rfl
                have hb := bl_alloc (Below.refl W.heap.size W) (.cells #[.int .i64 (x.n : Int), .bool false, .int .i64 de2] 82)
                obtain ⟨vL, hvL⟩ : ∃ vL, vL = Value.slice (some ⟨W.heap.size, 0, none⟩) 1 1 := ⟨_, rfl⟩
                rw [← hvL] at hLo
                rw [← hvL]
                generalize hWn : World.alloc _ _ = W at hLo hb ⊢
                clear hWn hvL
                have hX : Below w.heap.size w W ∧ Obj1 W w.heap.size (rtC N q (some ⟨b, o, none⟩) (n1 + 1) c1) 44 ∧ Obj1 W X #[.int .i64 (x.n : Int), .bool false, .int .i64 de2] 82 := ⟨bl_next HX.out.1 hb, HX.out.2.1.below hb, HX.out.2.2.below hb⟩
                have hq0 := Obj1.below HZ.out hb
                clear HZ
                have HZ := Lib.hid hq0
                clear hq0
                have HRR := Lib.hid (own_Rd (own_below HA.out hb))
                clear HA
                have HA := Lib.hid hLo
                clear hLo hb
                refine hK.out _ _ (hX) (fun hHeld => ?_)
                clear HX hK K
                have HX := Lib.hid hHeld
                clear hHeld
                go_simp
                refine wpAnyH_ready (rs := [4]) (by kernel_rfl) (by simp) ?_
                refine AllReadyH.cons rfl (fun K hK => ?_) AllReadyH.nil
                obtain ⟨A8, c8, hv8, hrd8⟩ := HRR.out
                refine app_step (X + 1) rfl (.tmp 59) (.tmp 60) 42 82 (.agg #[.int .i64 0, .bool false, .int .i64 0]) 3 24 rfl Try.underlying42 (by kernel_rfl) (by simp [Value.cells]) (by omega) (by omega) vL 1 ([.int .i64 (x.n : Int), .bool false, .int .i64 de2]) A8 n1 c8 (fl rcC rest) rfl hv8 HA.out (by rw [fl_length _ (rcC_len _), HLR.out]) hrd8 (rcC_one _) (by omega) (Nat.succ_le_of_lt HX.out.2.2.lt) ?_
                intro vB W hA hg
                have hX : Below w.heap.size w W ∧ Obj1 W w.heap.size (rtC N q (some ⟨b, o, none⟩) (n1 + 1) c1) 44 ∧ Obj1 W X #[.int .i64 (x.n : Int), .bool false, .int .i64 de2] 82 := ⟨bl_grown HX.out.1 HA.out hg (by omega), HX.out.2.1.of_grown hg (own_above HA.out (by omega)), HX.out.2.2.of_grown hg (own_above HA.out (by omega))⟩
                have hq0 := Obj1.of_grown HZ.out hg (own_above HA.out (by omega))
                clear HZ
                have HZ := Lib.hid hq0
                clear hq0
                clear HA hg HRR hrd8 hv8
                have HA := Lib.hid hA
                clear hA
                obtain ⟨A9, c9, rfl, h9, hne9⟩ := SlR.of_ownB (f := rcC) (k := 3) (l := ⟨x.n, false, de2⟩ :: rest) (by rw [fl_cons]; exact HA.out) (by rw [List.length_cons, HLR.out, Nat.add_comm])
                have H9 := Lib.hid h9
                have HNE9 := Lib.hid (show ∀ ad, A9 = some ad → ad.block ≠ w.heap.size ∧ ad.block ≠ w.heap.size + 1 from fun ad e => ⟨fun he => by
                  obtain ⟨_, cs, ho⟩ := hne9 ad e
                  rw [he] at ho
                  have := ho.symm.trans hX.2.1
                  simp at this, fun he => by
                  obtain ⟨_, cs, ho⟩ := hne9 ad e
                  rw [he] at ho
                  have := ho.symm.trans HZ.out
                  simp at this⟩)
                have HGE9 := Lib.hid (show ∀ ad, A9 = some ad → w.heap.size ≤ ad.block from fun ad e => Nat.le_trans (by omega) (hne9 ad e).1)
                clear HA h9 hne9
                refine hK.out _ _ (hX) (fun hHeld => ?_)
                clear HX hK K
                have HX := Lib.hid hHeld
                clear hHeld
                go_simp
                refine wpAnyH_ready (rs := [5]) (by kernel_rfl) (by simp) ?_
                refine AllReadyH.cons rfl (fun K hK => ?_) AllReadyH.nil
                go_simp
                refine (rwith_w N q (some ⟨b, o, none⟩) A9 (n1 + 1) c1 (1 + n1) c9 _).mono ?_
                rintro e W ⟨rfl, hb⟩
                have hX : Below w.heap.size w W ∧ Obj1 W w.heap.size (rtC N q (some ⟨b, o, none⟩) (n1 + 1) c1) 44 ∧ Obj1 W X #[.int .i64 (x.n : Int), .bool false, .int .i64 de2] 82 := ⟨bl_next HX.out.1 hb, HX.out.2.1.below hb, HX.out.2.2.below hb⟩
                have hq0 := Obj1.below HZ.out hb
                clear HZ
                have HZ := Lib.hid hq0
                clear hq0
                have hq0 := SlR.below H9.out hb
                clear H9
                have H9 := Lib.hid hq0
                clear hq0
                clear hb
                dsimp only
                refine hK.out _ _ (hX) (fun hHeld => ?_)
                clear HX hK K
                have HX := Lib.hid hHeld
                clear hHeld
                go_simp
                refine wpAnyH_ready (rs := [8]) (by kernel_rfl) (by simp) ?_
                refine AllReadyH.cons rfl (fun K hK => ?_) AllReadyH.nil
                refine gwanted rfl ?_
                refine wp_storeO 44 (.tmp 4) (.tmp 62) rfl (w.heap.size + 1) 44 #[.int .i64 0, .int .i64 0, .slice none 0 0] (rtC N q A9 (1 + n1) c9) rfl rfl HZ.out rfl rfl (by simp [rtC, Value.oneCell']) ?_
                intro W hob hu
                have hX : Below w.heap.size w W ∧ Obj1 W w.heap.size (rtC N q (some ⟨b, o, none⟩) (n1 + 1) c1) 44 ∧ Obj1 W X #[.int .i64 (x.n : Int), .bool false, .int .i64 de2] 82 := ⟨bl_upd HX.out.1 hu (by omega), HX.out.2.1.of_grown hu (by simp <;> omega), HX.out.2.2.of_grown hu (by simp <;> omega)⟩
                have hq0 := SlR.upd H9.out hu (fun ad e => (HNE9.out ad e).2)
                clear H9
                have H9 := Lib.hid hq0
                clear hq0
                clear HZ hu
                have HZ := Lib.hid hob
                clear hob
                refine hK.out _ _ (hX) (fun hHeld => ?_)
                clear HX hK K
                have HX := Lib.hid hHeld
                clear hHeld
                go_simp
                refine wpAnyH_take (i := 9) (v := ?_) rfl (by kernel_rfl) (by kernel_rfl) (by kernel_rfl) (fun _ _ _ h => h) (Or.inl ⟨by rfl, ?_⟩) HX.out ?_
                rotate_left
                · intro w' hSw; go_simp
                  try with_reducible rfl
                go_simp
                refine wpAnyH_done (by kernel_rfl) ?_ _
                go_wp2_with fail
                refine bodyPost_ret (v := .tuple #[.agg (rtC N q A9 (1 + n1) c9), .int .i64 x.n]) (results_cell2 (p := 4) (u := 5) rfl _ _ _ (w.heap.size + 1) _ rfl (run_loadVar_row (P := Try.prog) _ (w.heap.size + 1) 44 44 (rtC N q A9 (1 + n1) c9) (0, 0) _ HZ.out Try.underlying44 rfl rfl)) rfl ?_
                exact ⟨⟨x.n, false, de2⟩ :: rest, some x.n, HPK.out _ _ (by rw [HDE2.out, ← HD.out, ← HDN.out]; exact RPk.serve (by rw [HD.out]; omega) (by rw [HD.out, HDN.out]; omega)), A9, _, c9, rfl, H9.out, .inr HGE9.out, HX.out.1⟩
              · have e3 : decide (nn ≤ de1) = false := decide_eq_false hs
                have HOK2 := Lib.hid (show okR q (rest ++ [⟨x.n, true, de1⟩]) from fun y hy => by
                  rcases List.mem_append.1 hy with hy | hy
                  · exact HOK1.out y (List.mem_cons_of_mem _ hy)
                  · simp at hy
                    subst hy
                    exact ⟨by show 0 ≤ de1; omega, by show de1 ≤ 9216 + q; omega, fun _ => by show de1 ≤ 9216; omega⟩)
                go_upto_region 17 with (fail)
                have hu := (Upd.refl X W).set 1 (.bool true)
                have hO : Obj1 (W.setCell ⟨X, 1, none⟩ (.bool true)) X #[.int .i64 (x.n : Int), .bool true, .int .i64 de1] 82 := HX.out.set 1 (.bool true)
                have hq0 := bl_upd HB.out hu (by omega)
                clear HB
                have HB := Lib.hid hq0
                clear hq0
                have hq0 := Obj1.of_grown HK.out hu (by simp <;> omega)
                clear HK
                have HK := Lib.hid hq0
                clear hq0
                have hq0 := Obj1.of_grown HZ.out hu (by simp <;> omega)
                clear HZ
                have HZ := Lib.hid hq0
                clear hq0
                have hq0 := World.ownsRow.kept HA.out hu (.inr (Ne.symm (own_above HA.out (Nat.lt_succ_self X))))
                clear HA
                have HA := Lib.hid hq0
                clear hq0
                clear HX v1 v2 v3 v4
                have HX := Lib.hid hO
                generalize hWn : World.setCell _ _ _ = W at HB HK HZ HA HX ⊢
                clear hWn hu hO
                refine wp_region_held_drew (S := fun w' => Below w.heap.size w w' ∧ Obj1 w' X #[.int .i64 (x.n : Int), .bool true, .int .i64 de1] 82) (by kernel_rfl) (⟨HB.out.drew, HX.out⟩) (fun hHeld => ?_)
                have HX := Lib.hid hHeld
                clear hHeld
                generalize hWd : World.drew _ = W at HX ⊢
                have hK : Obj1 W w.heap.size (rtC N q (some ⟨b, o, none⟩) (n1 + 1) c1) 44 := by rw [← hWd]; exact HK.out
                have hZ : Obj1 W (w.heap.size + 1) #[.int .i64 0, .int .i64 0, .slice none 0 0] 44 := by rw [← hWd]; exact HZ.out
                have hA : W.ownsRow (X + 1) 82 3 vA n1 (fl rcC rest) := by rw [← hWd]; exact HA.out
                clear HK HZ HA hWd
                have HK := Lib.hid hK
                have HZ := Lib.hid hZ
                have HA := Lib.hid hA
                clear hK hZ hA
                refine wpAnyH_take (i := 1) (v := ?_) rfl (by kernel_rfl) (by kernel_rfl) (by kernel_rfl) (fun _ _ _ h => h) (Or.inl ⟨by rfl, ?_⟩) HX.out ?_
                rotate_left
                · intro w' hSw; go_simp
                  try with_reducible rfl
                go_simp
                refine wpAnyH_take (i := 2) (v := .agg #[.int .i64 (x.n : Int), .bool true, .int .i64 de1]) rfl (by kernel_rfl) (by kernel_rfl) (by kernel_rfl) (fun _ _ _ h => h) (Or.inl ⟨by rfl, ?_⟩) HX.out ?_
                · intro w' hSw
                  have hld := run_loadVar_row (P := Try.prog) w' X 82 82 #[.int .i64 (x.n : Int), .bool true, .int .i64 de1] (0, 0) _ hSw.2 Try.underlying82 rfl rfl
                  simp [execOp, Act.eval, Instr.loadAt, Instr.sureAddr, Sem.run_bind, hld, Result.andThen]
                go_simp
                refine wpAnyH_ready (rs := [0, 3]) (by kernel_rfl) (by simp) ?_
                refine AllReadyH.cons rfl (fun K hK => ?_) ?_
                · refine gwanted rfl ?_
                  refine wp_load_row 44 (.tmp 2) rfl w.heap.size rfl 44 (rtC N q (some ⟨b, o, none⟩) (n1 + 1) c1) (0, 0) _ HK.out Try.underlying44 rfl rfl ?_
                  have hX : Below w.heap.size w W ∧ Obj1 W X #[.int .i64 (x.n : Int), .bool true, .int .i64 de1] 82 := HX.out
                  refine hK.out _ _ (hX) (fun hHeld => ?_)
                  clear HX hK K
                  have HX := Lib.hid hHeld
                  clear hHeld
                  go_simp
                  refine wpAnyH_ready (rs := [3]) (by kernel_rfl) (by simp) ?_
                  refine AllReadyH.cons rfl (fun K hK => ?_) AllReadyH.nil
                  go_simp
                  have hL := lit_rd W [.int .i64 (x.n : Int), .bool true, .int .i64 de1] 82
                  have hb := bl_alloc (Below.refl W.heap.size W) (.cells #[.int .i64 (x.n : Int), .bool true, .int .i64 de1] 82)
                  obtain ⟨gL, hgL⟩ : ∃ gL, gL = W.heap.size := ⟨_, rfl⟩
                  rw [← hgL] at hL
                  change K _ (W.alloc (.cells #[.int .i64 (x.n : Int), .bool true, .int .i64 de1] 82))
                  rw [← hgL]
                  generalize hWn : World.alloc _ _ = W at hL hb ⊢
                  clear hWn hgL
                  have hX : Below w.heap.size w W ∧ Obj1 W X #[.int .i64 (x.n : Int), .bool true, .int .i64 de1] 82 := ⟨bl_next HX.out.1 hb, HX.out.2.below hb⟩
                  have hq0 := Obj1.below HK.out hb
                  clear HK
                  have HK := Lib.hid hq0
                  clear hq0
                  have hq0 := Obj1.below HZ.out hb
                  clear HZ
                  have HZ := Lib.hid hq0
                  clear hq0
                  have hq0 := own_below HA.out hb
                  clear HA
                  have HA := Lib.hid hq0
                  clear hq0
                  have HL := Lib.hid hL
                  clear hL hb
                  refine hK.out _ _ (hX) (fun hHeld => ?_)
                  clear HX hK K
                  have HX := Lib.hid hHeld
                  clear hHeld
                  go_simp
                  refine wpAnyH_ready (rs := [4]) (by kernel_rfl) (by simp) ?_
                  refine AllReadyH.cons rfl (fun K hK => ?_) AllReadyH.nil
                  refine app_step (X + 1) rfl (.tmp 67) (.tmp 69) 42 82 (.agg #[.int .i64 0, .bool false, .int .i64 0]) 3 24 rfl Try.underlying42 (by kernel_rfl) (by simp [Value.cells]) (by omega) (by omega) vA n1 (fl rcC rest) (some ⟨gL, 0, none⟩) 1 1 [.int .i64 (x.n : Int), .bool true, .int .i64 de1] rfl rfl HA.out rfl HL.out (rcC_one1 ⟨x.n, true, de1⟩) (by omega) (Nat.succ_le_of_lt HX.out.2.lt) ?_
                  intro vB W hA hg
                  have hX : Below w.heap.size w W ∧ Obj1 W X #[.int .i64 (x.n : Int), .bool true, .int .i64 de1] 82 := ⟨bl_grown HX.out.1 HA.out hg (by omega), HX.out.2.of_grown hg (own_above HA.out (by omega))⟩
                  have hq0 := Obj1.of_grown HK.out hg (own_neO HK.out HA.out (by decide))
                  clear HK
                  have HK := Lib.hid hq0
                  clear hq0
                  have hq0 := Obj1.of_grown HZ.out hg (own_above HA.out (by omega))
                  clear HZ
                  have HZ := Lib.hid hq0
                  clear hq0
                  clear HA hg HL
                  have HA := Lib.hid hA
                  clear hA
                  obtain ⟨A9, c9, rfl, h9, hne9⟩ := SlR.of_ownB (f := rcC) (k := 3) (l := rest ++ [⟨x.n, true, de1⟩]) (by rw [fl_app, fl_one]; exact HA.out) (by rw [List.length_append, HLR.out]; rfl)
                  have H9 := Lib.hid h9
                  have HNE9 := Lib.hid (show ∀ ad, A9 = some ad → ad.block ≠ w.heap.size ∧ ad.block ≠ w.heap.size + 1 from fun ad e => ⟨fun he => by
                    obtain ⟨_, cs, ho⟩ := hne9 ad e
                    rw [he] at ho
                    have := ho.symm.trans HK.out
                    simp at this, fun he => by
                    obtain ⟨_, cs, ho⟩ := hne9 ad e
                    rw [he] at ho
                    have := ho.symm.trans HZ.out
                    simp at this⟩)
                  have HGE9 := Lib.hid (show ∀ ad, A9 = some ad → w.heap.size ≤ ad.block from fun ad e => Nat.le_trans (by omega) (hne9 ad e).1)
                  clear HA h9 hne9
                  refine hK.out _ _ (hX) (fun hHeld => ?_)
                  clear HX hK K
                  have HX := Lib.hid hHeld
                  clear hHeld
                  go_simp
                  refine wpAnyH_ready (rs := [5]) (by kernel_rfl) (by simp) ?_
                  refine AllReadyH.cons rfl (fun K hK => ?_) AllReadyH.nil
                  go_simp
                  refine (rwith_w N q (some ⟨b, o, none⟩) A9 (n1 + 1) c1 (n1 + 1) c9 _).mono ?_
                  rintro e W ⟨rfl, hb⟩
                  have hX : Below w.heap.size w W ∧ Obj1 W X #[.int .i64 (x.n : Int), .bool true, .int .i64 de1] 82 := ⟨bl_next HX.out.1 hb, HX.out.2.below hb⟩
                  have hq0 := Obj1.below HK.out hb
                  clear HK
                  have HK := Lib.hid hq0
                  clear hq0
                  have hq0 := Obj1.below HZ.out hb
                  clear HZ
                  have HZ := Lib.hid hq0
                  clear hq0
                  have hq0 := SlR.below H9.out hb
                  clear H9
                  have H9 := Lib.hid hq0
                  clear hq0
                  clear hb
                  dsimp only
                  refine hK.out _ _ (hX) (fun hHeld => ?_)
                  clear HX hK K
                  have HX := Lib.hid hHeld
                  clear hHeld
                  go_simp
                  refine wpAnyH_ready (rs := [6]) (by kernel_rfl) (by simp) ?_
                  refine AllReadyH.cons rfl (fun K hK => ?_) AllReadyH.nil
                  refine gwanted rfl ?_
                  refine wp_storeO 44 (.tmp 2) (.tmp 71) rfl w.heap.size 44 (rtC N q (some ⟨b, o, none⟩) (n1 + 1) c1) (rtC N q A9 (n1 + 1) c9) rfl rfl HK.out rfl rfl (by simp [rtC, Value.oneCell']) ?_
                  intro W hob hu
                  have hX : Below w.heap.size w W ∧ Obj1 W X #[.int .i64 (x.n : Int), .bool true, .int .i64 de1] 82 := ⟨bl_upd HX.out.1 hu (by omega), HX.out.2.of_grown hu (by simp <;> omega)⟩
                  have hq0 := SlR.upd H9.out hu (fun ad e => (HNE9.out ad e).1)
                  clear H9
                  have H9 := Lib.hid hq0
                  clear hq0
                  have hq0 := Obj1.of_grown HZ.out hu (by simp)
                  clear HZ
                  have HZ := Lib.hid hq0
                  clear hq0
                  clear HK hu
                  have HK := Lib.hid hob
                  clear hob
                  refine hK.out _ _ (hX) (fun hHeld => ?_)
                  clear HX hK K
                  have HX := Lib.hid hHeld
                  clear hHeld
                  go_simp
                  refine wpAnyH_done (by kernel_rfl) ?_ _
                  go_wp2_with fail
                  go_roundg (rmeas (hdOf heads) (rest ++ [⟨x.n, true, de1⟩]))
                  case measure =>
                    have h1 := rmeas_last (hdOf heads) HQ.out.1 x rest (by rw [HD.out, HDN.out]; omega)
                    rw [HDN.out] at h1
                    exact Nat.lt_of_lt_of_le h1 HME.out
                  case rel => exact ⟨_, A9, n1 + 1, c9, Nat.le_refl _, by omega, HOK2.out, HK.out, HZ.out, H9.out, (fun _ ad e => HNE9.out ad e), .inr HGE9.out, HX.out.1, fun l' r hp => HPK.out _ _ (RPk.last (by rw [HD.out]; omega) (by rw [HD.out, HDN.out]; omega) (by rw [HDN.out]; exact hp))⟩
                refine AllReadyH.cons rfl (fun K hK => ?_) AllReadyH.nil
                go_simp
                have hL := lit_rd W [.int .i64 (x.n : Int), .bool true, .int .i64 de1] 82
                have hb := bl_alloc (Below.refl W.heap.size W) (.cells #[.int .i64 (x.n : Int), .bool true, .int .i64 de1] 82)
                obtain ⟨gL, hgL⟩ : ∃ gL, gL = W.heap.size := ⟨_, rfl⟩
                rw [← hgL] at hL
                change K _ (W.alloc (.cells #[.int .i64 (x.n : Int), .bool true, .int .i64 de1] 82))
                rw [← hgL]
                generalize hWn : World.alloc _ _ = W at hL hb ⊢
                clear hWn hgL
                have hX : Below w.heap.size w W ∧ Obj1 W X #[.int .i64 (x.n : Int), .bool true, .int .i64 de1] 82 := ⟨bl_next HX.out.1 hb, HX.out.2.below hb⟩
                have hq0 := Obj1.below HK.out hb
                clear HK
                have HK := Lib.hid hq0
                clear hq0
                have hq0 := Obj1.below HZ.out hb
                clear HZ
                have HZ := Lib.hid hq0
                clear hq0
                have hq0 := own_below HA.out hb
                clear HA
                have HA := Lib.hid hq0
                clear hq0
                have HL := Lib.hid hL
                clear hL hb
                refine hK.out _ _ (hX) (fun hHeld => ?_)
                clear HX hK K
                have HX := Lib.hid hHeld
                clear hHeld
                go_simp
                refine wpAnyH_ready (rs := [0, 4]) (by kernel_rfl) (by simp) ?_
                refine AllReadyH.cons rfl (fun K hK => ?_) ?_
                · refine gwanted rfl ?_
                  refine wp_load_row 44 (.tmp 2) rfl w.heap.size rfl 44 (rtC N q (some ⟨b, o, none⟩) (n1 + 1) c1) (0, 0) _ HK.out Try.underlying44 rfl rfl ?_
                  have hX : Below w.heap.size w W ∧ Obj1 W X #[.int .i64 (x.n : Int), .bool true, .int .i64 de1] 82 := HX.out
                  refine hK.out _ _ (hX) (fun hHeld => ?_)
                  clear HX hK K
                  have HX := Lib.hid hHeld
                  clear hHeld
                  go_simp
                  refine wpAnyH_ready (rs := [4]) (by kernel_rfl) (by simp) ?_
                  refine AllReadyH.cons rfl (fun K hK => ?_) AllReadyH.nil
                  refine app_step (X + 1) rfl (.tmp 67) (.tmp 69) 42 82 (.agg #[.int .i64 0, .bool false, .int .i64 0]) 3 24 rfl Try.underlying42 (by kernel_rfl) (by simp [Value.cells]) (by omega) (by omega) vA n1 (fl rcC rest) (some ⟨gL, 0, none⟩) 1 1 [.int .i64 (x.n : Int), .bool true, .int .i64 de1] rfl rfl HA.out rfl HL.out (rcC_one1 ⟨x.n, true, de1⟩) (by omega) (Nat.succ_le_of_lt HX.out.2.lt) ?_
                  intro vB W hA hg
                  have hX : Below w.heap.size w W ∧ Obj1 W X #[.int .i64 (x.n : Int), .bool true, .int .i64 de1] 82 := ⟨bl_grown HX.out.1 HA.out hg (by omega), HX.out.2.of_grown hg (own_above HA.out (by omega))⟩
                  have hq0 := Obj1.of_grown HK.out hg (own_neO HK.out HA.out (by decide))
                  clear HK
                  have HK := Lib.hid hq0
                  clear hq0
                  have hq0 := Obj1.of_grown HZ.out hg (own_above HA.out (by omega))
                  clear HZ
                  have HZ := Lib.hid hq0
                  clear hq0
                  clear HA hg HL
                  have HA := Lib.hid hA
                  clear hA
                  obtain ⟨A9, c9, rfl, h9, hne9⟩ := SlR.of_ownB (f := rcC) (k := 3) (l := rest ++ [⟨x.n, true, de1⟩]) (by rw [fl_app, fl_one]; exact HA.out) (by rw [List.length_append, HLR.out]; rfl)
                  have H9 := Lib.hid h9
                  have HNE9 := Lib.hid (show ∀ ad, A9 = some ad → ad.block ≠ w.heap.size ∧ ad.block ≠ w.heap.size + 1 from fun ad e => ⟨fun he => by
                    obtain ⟨_, cs, ho⟩ := hne9 ad e
                    rw [he] at ho
                    have := ho.symm.trans HK.out
                    simp at this, fun he => by
                    obtain ⟨_, cs, ho⟩ := hne9 ad e
                    rw [he] at ho
                    have := ho.symm.trans HZ.out
                    simp at this⟩)
                  have HGE9 := Lib.hid (show ∀ ad, A9 = some ad → w.heap.size ≤ ad.block from fun ad e => Nat.le_trans (by omega) (hne9 ad e).1)
                  clear HA h9 hne9
                  refine hK.out _ _ (hX) (fun hHeld => ?_)
                  clear HX hK K
                  have HX := Lib.hid hHeld
                  clear hHeld
                  go_simp
                  refine wpAnyH_ready (rs := [5]) (by kernel_rfl) (by simp) ?_
                  refine AllReadyH.cons rfl (fun K hK => ?_) AllReadyH.nil
                  go_simp
                  refine (rwith_w N q (some ⟨b, o, none⟩) A9 (n1 + 1) c1 (n1 + 1) c9 _).mono ?_
                  rintro e W ⟨rfl, hb⟩
                  have hX : Below w.heap.size w W ∧ Obj1 W X #[.int .i64 (x.n : Int), .bool true, .int .i64 de1] 82 := ⟨bl_next HX.out.1 hb, HX.out.2.below hb⟩
                  have hq0 := Obj1.below HK.out hb
                  clear HK
                  have HK := Lib.hid hq0
                  clear hq0
                  have hq0 := Obj1.below HZ.out hb
                  clear HZ
                  have HZ := Lib.hid hq0
                  clear hq0
                  have hq0 := SlR.below H9.out hb
                  clear H9
                  have H9 := Lib.hid hq0
                  clear hq0
                  clear hb
                  dsimp only
                  refine hK.out _ _ (hX) (fun hHeld => ?_)
                  clear HX hK K
                  have HX := Lib.hid hHeld
                  clear hHeld
                  go_simp
                  refine wpAnyH_ready (rs := [6]) (by kernel_rfl) (by simp) ?_
                  refine AllReadyH.cons rfl (fun K hK => ?_) AllReadyH.nil
                  refine gwanted rfl ?_
                  refine wp_storeO 44 (.tmp 2) (.tmp 71) rfl w.heap.size 44 (rtC N q (some ⟨b, o, none⟩) (n1 + 1) c1) (rtC N q A9 (n1 + 1) c9) rfl rfl HK.out rfl rfl (by simp [rtC, Value.oneCell']) ?_
                  intro W hob hu
                  have hX : Below w.heap.size w W ∧ Obj1 W X #[.int .i64 (x.n : Int), .bool true, .int .i64 de1] 82 := ⟨bl_upd HX.out.1 hu (by omega), HX.out.2.of_grown hu (by simp <;> omega)⟩
                  have hq0 := SlR.upd H9.out hu (fun ad e => (HNE9.out ad e).1)
                  clear H9
                  have H9 := Lib.hid hq0
                  clear hq0
                  have hq0 := Obj1.of_grown HZ.out hu (by simp)
                  clear HZ
                  have HZ := Lib.hid hq0
                  clear hq0
                  clear HK hu
                  have HK := Lib.hid hob
                  clear hob
                  refine hK.out _ _ (hX) (fun hHeld => ?_)
                  clear HX hK K
                  have HX := Lib.hid hHeld
                  clear hHeld
                  go_simp
                  refine wpAnyH_done (by kernel_rfl) ?_ _
                  go_wp2_with fail
                  go_roundg (rmeas (hdOf heads) (rest ++ [⟨x.n, true, de1⟩]))
                  case measure =>
                    have h1 := rmeas_last (hdOf heads) HQ.out.1 x rest (by rw [HD.out, HDN.out]; omega)
                    rw [HDN.out] at h1
                    exact Nat.lt_of_lt_of_le h1 HME.out
                  case rel => exact ⟨_, A9, n1 + 1, c9, Nat.le_refl _, by omega, HOK2.out, HK.out, HZ.out, H9.out, (fun _ ad e => HNE9.out ad e), .inr HGE9.out, HX.out.1, fun l' r hp => HPK.out _ _ (RPk.last (by rw [HD.out]; omega) (by rw [HD.out, HDN.out]; omega) (by rw [HDN.out]; exact hp))⟩
                refine AllReadyH.cons rfl (fun K hK => ?_) AllReadyH.nil
                refine app_step (X + 1) rfl (.tmp 67) (.tmp 69) 42 82 (.agg #[.int .i64 0, .bool false, .int .i64 0]) 3 24 rfl Try.underlying42 (by kernel_rfl) (by simp [Value.cells]) (by omega) (by omega) vA n1 (fl rcC rest) (some ⟨gL, 0, none⟩) 1 1 [.int .i64 (x.n : Int), .bool true, .int .i64 de1] rfl rfl HA.out rfl HL.out (rcC_one1 ⟨x.n, true, de1⟩) (by omega) (Nat.succ_le_of_lt HX.out.2.lt) ?_
                intro vB W hA hg
                have hX : Below w.heap.size w W ∧ Obj1 W X #[.int .i64 (x.n : Int), .bool true, .int .i64 de1] 82 := ⟨bl_grown HX.out.1 HA.out hg (by omega), HX.out.2.of_grown hg (own_above HA.out (by omega))⟩
                have hq0 := Obj1.of_grown HK.out hg (own_neO HK.out HA.out (by decide))
                clear HK
                have HK := Lib.hid hq0
                clear hq0
                have hq0 := Obj1.of_grown HZ.out hg (own_above HA.out (by omega))
                clear HZ
                have HZ := Lib.hid hq0
                clear hq0
                clear HA hg HL
                have HA := Lib.hid hA
                clear hA
                obtain ⟨A9, c9, rfl, h9, hne9⟩ := SlR.of_ownB (f := rcC) (k := 3) (l := rest ++ [⟨x.n, true, de1⟩]) (by rw [fl_app, fl_one]; exact HA.out) (by rw [List.length_append, HLR.out]; rfl)
                have H9 := Lib.hid h9
                have HNE9 := Lib.hid (show ∀ ad, A9 = some ad → ad.block ≠ w.heap.size ∧ ad.block ≠ w.heap.size + 1 from fun ad e => ⟨fun he => by
                  obtain ⟨_, cs, ho⟩ := hne9 ad e
                  rw [he] at ho
                  have := ho.symm.trans HK.out
                  simp at this, fun he => by
                  obtain ⟨_, cs, ho⟩ := hne9 ad e
                  rw [he] at ho
                  have := ho.symm.trans HZ.out
                  simp at this⟩)
                have HGE9 := Lib.hid (show ∀ ad, A9 = some ad → w.heap.size ≤ ad.block from fun ad e => Nat.le_trans (by omega) (hne9 ad e).1)
                clear HA h9 hne9
                refine hK.out _ _ (hX) (fun hHeld => ?_)
                clear HX hK K
                have HX := Lib.hid hHeld
                clear hHeld
                go_simp
                refine wpAnyH_ready (rs := [0]) (by kernel_rfl) (by simp) ?_
                refine AllReadyH.cons rfl (fun K hK => ?_) AllReadyH.nil
                refine gwanted rfl ?_
                refine wp_load_row 44 (.tmp 2) rfl w.heap.size rfl 44 (rtC N q (some ⟨b, o, none⟩) (n1 + 1) c1) (0, 0) _ HK.out Try.underlying44 rfl rfl ?_
                have hX : Below w.heap.size w W ∧ Obj1 W X #[.int .i64 (x.n : Int), .bool true, .int .i64 de1] 82 := HX.out
                refine hK.out _ _ (hX) (fun hHeld => ?_)
                clear HX hK K
                have HX := Lib.hid hHeld
                clear hHeld
                go_simp
                refine wpAnyH_ready (rs := [5]) (by kernel_rfl) (by simp) ?_
                refine AllReadyH.cons rfl (fun K hK => ?_) AllReadyH.nil
                go_simp
                refine (rwith_w N q (some ⟨b, o, none⟩) A9 (n1 + 1) c1 (n1 + 1) c9 _).mono ?_
                rintro e W ⟨rfl, hb⟩
                have hX : Below w.heap.size w W ∧ Obj1 W X #[.int .i64 (x.n : Int), .bool true, .int .i64 de1] 82 := ⟨bl_next HX.out.1 hb, HX.out.2.below hb⟩
                have hq0 := Obj1.below HK.out hb
                clear HK
                have HK := Lib.hid hq0
                clear hq0
                have hq0 := Obj1.below HZ.out hb
                clear HZ
                have HZ := Lib.hid hq0
                clear hq0
                have hq0 := SlR.below H9.out hb
                clear H9
                have H9 := Lib.hid hq0
                clear hq0
                clear hb
                dsimp only
                refine hK.out _ _ (hX) (fun hHeld => ?_)
                clear HX hK K
                have HX := Lib.hid hHeld
                clear hHeld
                go_simp
                refine wpAnyH_ready (rs := [6]) (by kernel_rfl) (by simp) ?_
                refine AllReadyH.cons rfl (fun K hK => ?_) AllReadyH.nil
                refine gwanted rfl ?_
                refine wp_storeO 44 (.tmp 2) (.tmp 71) rfl w.heap.size 44 (rtC N q (some ⟨b, o, none⟩) (n1 + 1) c1) (rtC N q A9 (n1 + 1) c9) rfl rfl HK.out rfl rfl (by simp [rtC, Value.oneCell']) ?_
                intro W hob hu
                have hX : Below w.heap.size w W ∧ Obj1 W X #[.int .i64 (x.n : Int), .bool true, .int .i64 de1] 82 := ⟨bl_upd HX.out.1 hu (by omega), HX.out.2.of_grown hu (by simp <;> omega)⟩
                have hq0 := SlR.upd H9.out hu (fun ad e => (HNE9.out ad e).1)
                clear H9
                have H9 := Lib.hid hq0
                clear hq0
                have hq0 := Obj1.of_grown HZ.out hu (by simp)
                clear HZ
                have HZ := Lib.hid hq0
                clear hq0
                clear HK hu
                have HK := Lib.hid hob
                clear hob
                refine hK.out _ _ (hX) (fun hHeld => ?_)
                clear HX hK K
                have HX := Lib.hid hHeld
                clear hHeld
                go_simp
                refine wpAnyH_done (by kernel_rfl) ?_ _
                go_wp2_with fail
                go_roundg (rmeas (hdOf heads) (rest ++ [⟨x.n, true, de1⟩]))
                case measure =>
                  have h1 := rmeas_last (hdOf heads) HQ.out.1 x rest (by rw [HD.out, HDN.out]; omega)
                  rw [HDN.out] at h1
                  exact Nat.lt_of_lt_of_le h1 HME.out
                case rel => exact ⟨_, A9, n1 + 1, c9, Nat.le_refl _, by omega, HOK2.out, HK.out, HZ.out, H9.out, (fun _ ad e => HNE9.out ad e), .inr HGE9.out, HX.out.1, fun l' r hp => HPK.out _ _ (RPk.last (by rw [HD.out]; omega) (by rw [HD.out, HDN.out]; omega) (by rw [HDN.out]; exact hp))⟩
            · have hff : x.fr = false := by simpa using hf
              have HDN := Lib.hid (show rdn q x = x.de by unfold rdn; rw [if_neg hf])
              have hdb : 0 ≤ x.de ∧ x.de ≤ 9216 + q := by omega
              rw [hff] at HX w1
              clear hf hff
              go_upto_region 13 with (fail)
              clear w1
              have v2 : W.cell? ⟨X, 2, none⟩ = some (.int .i64 x.de) := HX.out.cell 2
              have v1 : W.frozen? ⟨X, 1, none⟩ = false := HX.out.free 1
              have v3 : W.frozen? ⟨X, 2, none⟩ = false := HX.out.free 2
              have v4 : W.cell? ⟨X, 1, none⟩ = some (.bool false) := HX.out.cell 1
              by_cases hs : nn ≤ x.de
              · have e3 : decide (nn ≤ x.de) = true := decide_eq_true hs
                obtain ⟨de2, hde2⟩ : ∃ de2, de2 = x.de - nn := ⟨_, rfl⟩
                have a2 : IntKind.i64.wrap (x.de - nn) = de2 := by rw [hde2]; exact IntWalk.i64_in _ (by omega)
                have HDE2 := Lib.hid (show de2 = x.de - nn from hde2)
                clear hde2
                go_upto_region 15 with (fail)
                have hu := (Upd.refl X W).set 2 (.int .i64 de2)
                have hO : Obj1 (W.setCell ⟨X, 2, none⟩ (.int .i64 de2)) X #[.int .i64 (x.n : Int), .bool false, .int .i64 de2] 82 := HX.out.set 2 (.int .i64 de2)
                have hq0 := bl_upd HB.out hu (by omega)
                clear HB
                have HB := Lib.hid hq0
                clear hq0
                have hq0 := Obj1.of_grown HK.out hu (by simp <;> omega)
                clear HK
                have HK := Lib.hid hq0
                clear hq0
                have hq0 := Obj1.of_grown HZ.out hu (by simp <;> omega)
                clear HZ
                have HZ := Lib.hid hq0
                clear hq0
                have hq0 := World.ownsRow.kept HA.out hu (.inr (Ne.symm (own_above HA.out (Nat.lt_succ_self X))))
                clear HA
                have HA := Lib.hid hq0
                clear hq0
                clear HX v1 v2 v3 v4
                have HX := Lib.hid hO
                generalize hWn : World.setCell _ _ _ = W at HB HK HZ HA HX ⊢
                clear hWn hu hO
                refine wp_region_held_drew (S := fun w' => Below w.heap.size w w' ∧ Obj1 w' w.heap.size (rtC N q (some ⟨b, o, none⟩) (n1 + 1) c1) 44 ∧ Obj1 w' X #[.int .i64 (x.n : Int), .bool false, .int .i64 de2] 82) (by kernel_rfl) (⟨HB.out.drew, HK.out, HX.out⟩) (fun hHeld => ?_)
                have HX := Lib.hid hHeld
                clear hHeld
                generalize hWd : World.drew _ = W at HX ⊢
                have hZ : Obj1 W (w.heap.size + 1) #[.int .i64 0, .int .i64 0, .slice none 0 0] 44 := by rw [← hWd]; exact HZ.out
                have hA : W.ownsRow (X + 1) 82 3 vA n1 (fl rcC rest) := by rw [← hWd]; exact HA.out
                clear HZ HA hWd
                have HZ := Lib.hid hZ
                have HA := Lib.hid hA
                clear hZ hA
                refine wpAnyH_take (i := 0) (v := .agg (rtC N q (some ⟨b, o, none⟩) (n1 + 1) c1)) rfl (by kernel_rfl) (by kernel_rfl) (by kernel_rfl) (fun _ _ _ h => h) (Or.inl ⟨by rfl, ?_⟩) HX.out ?_
                · intro w' hSw
                  have hld := run_loadVar_row (P := Try.prog) w' w.heap.size 44 44 (rtC N q (some ⟨b, o, none⟩) (n1 + 1) c1) (0, 0) _ hSw.2.1 Try.underlying44 rfl rfl
                  simp [execOp, Act.eval, Instr.loadAt, Instr.sureAddr, Sem.run_bind, hld, Result.andThen]
                go_simp
                refine wpAnyH_take (i := 1) (v := .agg #[.int .i64 (x.n : Int), .bool false, .int .i64 de2]) rfl (by kernel_rfl) (by kernel_rfl) (by kernel_rfl) (fun _ _ _ h => h) (Or.inl ⟨by rfl, ?_⟩) HX.out ?_
                · intro w' hSw
                  have hld := run_loadVar_row (P := Try.prog) w' X 82 82 #[.int .i64 (x.n : Int), .bool false, .int .i64 de2] (0, 0) _ hSw.2.2 Try.underlying82 rfl rfl
                  simp [execOp, Act.eval, Instr.loadAt, Instr.sureAddr, Sem.run_bind, hld, Result.andThen]
                go_simp
                refine wpAnyH_take (i := 3) (v := ?_) rfl (by kernel_rfl) (by kernel_rfl) (by kernel_rfl) (fun _ _ _ h => h) (Or.inl ⟨by rfl, ?_⟩) HX.out ?_
                rotate_left
                · intro w' hSw; go_simp
                  try with_reducible rfl
                go_simp
                refine wpAnyH_take (i := 6) (v := ?_) rfl (by kernel_rfl) (by kernel_rfl) (by kernel_rfl) (fun _ _ _ h => h) (Or.inl ⟨by rfl, ?_⟩) HX.out ?_
                rotate_left
                · intro w' hSw; go_simp
                  try with_reducible rfl
                go_simp
                refine wpAnyH_take (i := 7) (v := ?_) rfl (by kernel_rfl) (by kernel_rfl) (by kernel_rfl) (fun _ _ _ h => h) (Or.inl ⟨by rfl, ?_⟩) HX.out ?_
                rotate_left
                · intro w' hSw; have c0 : w'.cell? ⟨X, 0, none⟩ = some (.int .i64 (x.n : Int)) := hSw.2.2.cell 0; go_simp
                  try with_reducible rfl
                go_simp
                refine wpAnyH_ready (rs := [2]) (by kernel_rfl) (by simp) ?_
                refine AllReadyH.cons rfl (fun K hK => ?_) AllReadyH.nil
                go_simp
                have hLo := World.ownsRow_lit (base := X + 1) (e := 82) (size := 3) W #[.int .i64 (x.n : Int), .bool false, .int .i64 de2] 1 (Nat.succ_le_of_lt HX.out.2.2.lt) (by simp [maxLen]) rfl
                have hb := bl_alloc (Below.refl W.heap.size W) (.cells #[.int .i64 (x.n : Int), .bool false, .int .i64 de2] 82)
                obtain ⟨vL, hvL⟩ : ∃ vL, vL = Value.slice (some ⟨W.heap.size, 0, none⟩) 1 1 := ⟨_, rfl⟩
                rw [← hvL] at hLo
                rw [← hvL]
                generalize hWn : World.alloc _ _ = W at hLo hb ⊢
                clear hWn hvL
                have hX : Below w.heap.size w W ∧ Obj1 W w.heap.size (rtC N q (some ⟨b, o, none⟩) (n1 + 1) c1) 44 ∧ Obj1 W X #[.int .i64 (x.n : Int), .bool false, .int .i64 de2] 82 := ⟨bl_next HX.out.1 hb, HX.out.2.1.below hb, HX.out.2.2.below hb⟩
                have hq0 := Obj1.below HZ.out hb
                clear HZ
                have HZ := Lib.hid hq0
                clear hq0
                have HRR := Lib.hid (own_Rd (own_below HA.out hb))
                clear HA
                have HA := Lib.hid hLo
                clear hLo hb
                refine hK.out _ _ (hX) (fun hHeld => ?_)
                clear HX hK K
                have HX := Lib.hid hHeld
                clear hHeld
                go_simp
                refine wpAnyH_ready (rs := [4]) (by kernel_rfl) (by simp) ?_
                refine AllReadyH.cons rfl (fun K hK => ?_) AllReadyH.nil
                obtain ⟨A8, c8, hv8, hrd8⟩ := HRR.out
                refine app_step (X + 1) rfl (.tmp 59) (.tmp 60) 42 82 (.agg #[.int .i64 0, .bool false, .int .i64 0]) 3 24 rfl Try.underlying42 (by kernel_rfl) (by simp [Value.cells]) (by omega) (by omega) vL 1 ([.int .i64 (x.n : Int), .bool false, .int .i64 de2]) A8 n1 c8 (fl rcC rest) rfl hv8 HA.out (by rw [fl_length _ (rcC_len _), HLR.out]) hrd8 (rcC_one _) (by omega) (Nat.succ_le_of_lt HX.out.2.2.lt) ?_
                intro vB W hA hg
                have hX : Below w.heap.size w W ∧ Obj1 W w.heap.size (rtC N q (some ⟨b, o, none⟩) (n1 + 1) c1) 44 ∧ Obj1 W X #[.int .i64 (x.n : Int), .bool false, .int .i64 de2] 82 := ⟨bl_grown HX.out.1 HA.out hg (by omega), HX.out.2.1.of_grown hg (own_above HA.out (by omega)), HX.out.2.2.of_grown hg (own_above HA.out (by omega))⟩
                have hq0 := Obj1.of_grown HZ.out hg (own_above HA.out (by omega))
                clear HZ
                have HZ := Lib.hid hq0
                clear hq0
                clear HA hg HRR hrd8 hv8
                have HA := Lib.hid hA
                clear hA
                obtain ⟨A9, c9, rfl, h9, hne9⟩ := SlR.of_ownB (f := rcC) (k := 3) (l := ⟨x.n, false, de2⟩ :: rest) (by rw [fl_cons]; exact HA.out) (by rw [List.length_cons, HLR.out, Nat.add_comm])
                have H9 := Lib.hid h9
                have HNE9 := Lib.hid (show ∀ ad, A9 = some ad → ad.block ≠ w.heap.size ∧ ad.block ≠ w.heap.size + 1 from fun ad e => ⟨fun he => by
                  obtain ⟨_, cs, ho⟩ := hne9 ad e
                  rw [he] at ho
                  have := ho.symm.trans hX.2.1
                  simp at this, fun he => by
                  obtain ⟨_, cs, ho⟩ := hne9 ad e
                  rw [he] at ho
                  have := ho.symm.trans HZ.out
                  simp at this⟩)
                have HGE9 := Lib.hid (show ∀ ad, A9 = some ad → w.heap.size ≤ ad.block from fun ad e => Nat.le_trans (by omega) (hne9 ad e).1)
                clear HA h9 hne9
                refine hK.out _ _ (hX) (fun hHeld => ?_)
                clear HX hK K
                have HX := Lib.hid hHeld
                clear hHeld
                go_simp
                refine wpAnyH_ready (rs := [5]) (by kernel_rfl) (by simp) ?_
                refine AllReadyH.cons rfl (fun K hK => ?_) AllReadyH.nil
                go_simp
                refine (rwith_w N q (some ⟨b, o, none⟩) A9 (n1 + 1) c1 (1 + n1) c9 _).mono ?_
                rintro e W ⟨rfl, hb⟩
                have hX : Below w.heap.size w W ∧ Obj1 W w.heap.size (rtC N q (some ⟨b, o, none⟩) (n1 + 1) c1) 44 ∧ Obj1 W X #[.int .i64 (x.n : Int), .bool false, .int .i64 de2] 82 := ⟨bl_next HX.out.1 hb, HX.out.2.1.below hb, HX.out.2.2.below hb⟩
                have hq0 := Obj1.below HZ.out hb
                clear HZ
                have HZ := Lib.hid hq0
                clear hq0
                have hq0 := SlR.below H9.out hb
                clear H9
                have H9 := Lib.hid hq0
                clear hq0
                clear hb
                dsimp only
                refine hK.out _ _ (hX) (fun hHeld => ?_)
                clear HX hK K
                have HX := Lib.hid hHeld
                clear hHeld
                go_simp
                refine wpAnyH_ready (rs := [8]) (by kernel_rfl) (by simp) ?_
                refine AllReadyH.cons rfl (fun K hK => ?_) AllReadyH.nil
                refine gwanted rfl ?_
                refine wp_storeO 44 (.tmp 4) (.tmp 62) rfl (w.heap.size + 1) 44 #[.int .i64 0, .int .i64 0, .slice none 0 0] (rtC N q A9 (1 + n1) c9) rfl rfl HZ.out rfl rfl (by simp [rtC, Value.oneCell']) ?_
                intro W hob hu
                have hX : Below w.heap.size w W ∧ Obj1 W w.heap.size (rtC N q (some ⟨b, o, none⟩) (n1 + 1) c1) 44 ∧ Obj1 W X #[.int .i64 (x.n : Int), .bool false, .int .i64 de2] 82 := ⟨bl_upd HX.out.1 hu (by omega), HX.out.2.1.of_grown hu (by simp <;> omega), HX.out.2.2.of_grown hu (by simp <;> omega)⟩
                have hq0 := SlR.upd H9.out hu (fun ad e => (HNE9.out ad e).2)
                clear H9
                have H9 := Lib.hid hq0
                clear hq0
                clear HZ hu
                have HZ := Lib.hid hob
                clear hob
                refine hK.out _ _ (hX) (fun hHeld => ?_)
                clear HX hK K
                have HX := Lib.hid hHeld
                clear hHeld
                go_simp
                refine wpAnyH_take (i := 9) (v := ?_) rfl (by kernel_rfl) (by kernel_rfl) (by kernel_rfl) (fun _ _ _ h => h) (Or.inl ⟨by rfl, ?_⟩) HX.out ?_
                rotate_left
                · intro w' hSw; go_simp
                  try with_reducible rfl
                go_simp
                refine wpAnyH_done (by kernel_rfl) ?_ _
                go_wp2_with fail
                refine bodyPost_ret (v := .tuple #[.agg (rtC N q A9 (1 + n1) c9), .int .i64 x.n]) (results_cell2 (p := 4) (u := 5) rfl _ _ _ (w.heap.size + 1) _ rfl (run_loadVar_row (P := Try.prog) _ (w.heap.size + 1) 44 44 (rtC N q A9 (1 + n1) c9) (0, 0) _ HZ.out Try.underlying44 rfl rfl)) rfl ?_
                exact ⟨⟨x.n, false, de2⟩ :: rest, some x.n, HPK.out _ _ (by rw [HDE2.out, ← HD.out, ← HDN.out]; exact RPk.serve (by rw [HD.out]; omega) (by rw [HD.out, HDN.out]; omega)), A9, _, c9, rfl, H9.out, .inr HGE9.out, HX.out.1⟩
              · have e3 : decide (nn ≤ x.de) = false := decide_eq_false hs
                have HOK2 := Lib.hid (show okR q (rest ++ [⟨x.n, true, x.de⟩]) from fun y hy => by
                  rcases List.mem_append.1 hy with hy | hy
                  · exact HOK1.out y (List.mem_cons_of_mem _ hy)
                  · simp at hy
                    subst hy
                    exact ⟨by show 0 ≤ x.de; omega, by show x.de ≤ 9216 + q; omega, fun _ => by show x.de ≤ 9216; omega⟩)
                go_upto_region 17 with (fail)
                have hu := (Upd.refl X W).set 1 (.bool true)
                have hO : Obj1 (W.setCell ⟨X, 1, none⟩ (.bool true)) X #[.int .i64 (x.n : Int), .bool true, .int .i64 x.de] 82 := HX.out.set 1 (.bool true)
                have hq0 := bl_upd HB.out hu (by omega)
                clear HB
                have HB := Lib.hid hq0
                clear hq0
                have hq0 := Obj1.of_grown HK.out hu (by simp <;> omega)
                clear HK
                have HK := Lib.hid hq0
                clear hq0
                have hq0 := Obj1.of_grown HZ.out hu (by simp <;> omega)
                clear HZ
                have HZ := Lib.hid hq0
                clear hq0
                have hq0 := World.ownsRow.kept HA.out hu (.inr (Ne.symm (own_above HA.out (Nat.lt_succ_self X))))
                clear HA
                have HA := Lib.hid hq0
                clear hq0
                clear HX v1 v2 v3 v4
                have HX := Lib.hid hO
                generalize hWn : World.setCell _ _ _ = W at HB HK HZ HA HX ⊢
                clear hWn hu hO
                refine wp_region_held_drew (S := fun w' => Below w.heap.size w w' ∧ Obj1 w' X #[.int .i64 (x.n : Int), .bool true, .int .i64 x.de] 82) (by kernel_rfl) (⟨HB.out.drew, HX.out⟩) (fun hHeld => ?_)
                have HX := Lib.hid hHeld
                clear hHeld
                generalize hWd : World.drew _ = W at HX ⊢
                have hK : Obj1 W w.heap.size (rtC N q (some ⟨b, o, none⟩) (n1 + 1) c1) 44 := by rw [← hWd]; exact HK.out
                have hZ : Obj1 W (w.heap.size + 1) #[.int .i64 0, .int .i64 0, .slice none 0 0] 44 := by rw [← hWd]; exact HZ.out
                have hA : W.ownsRow (X + 1) 82 3 vA n1 (fl rcC rest) := by rw [← hWd]; exact HA.out
                clear HK HZ HA hWd
                have HK := Lib.hid hK
                have HZ := Lib.hid hZ
                have HA := Lib.hid hA
                clear hK hZ hA
                refine wpAnyH_take (i := 1) (v := ?_) rfl (by kernel_rfl) (by kernel_rfl) (by kernel_rfl) (fun _ _ _ h => h) (Or.inl ⟨by rfl, ?_⟩) HX.out ?_
                rotate_left
                · intro w' hSw; go_simp
                  try with_reducible rfl
                go_simp
                refine wpAnyH_take (i := 2) (v := .agg #[.int .i64 (x.n : Int), .bool true, .int .i64 x.de]) rfl (by kernel_rfl) (by kernel_rfl) (by kernel_rfl) (fun _ _ _ h => h) (Or.inl ⟨by rfl, ?_⟩) HX.out ?_
                · intro w' hSw
                  have hld := run_loadVar_row (P := Try.prog) w' X 82 82 #[.int .i64 (x.n : Int), .bool true, .int .i64 x.de] (0, 0) _ hSw.2 Try.underlying82 rfl rfl
                  simp [execOp, Act.eval, Instr.loadAt, Instr.sureAddr, Sem.run_bind, hld, Result.andThen]
                go_simp
                refine wpAnyH_ready (rs := [0, 3]) (by kernel_rfl) (by simp) ?_
                refine AllReadyH.cons rfl (fun K hK => ?_) ?_
                · refine gwanted rfl ?_
                  refine wp_load_row 44 (.tmp 2) rfl w.heap.size rfl 44 (rtC N q (some ⟨b, o, none⟩) (n1 + 1) c1) (0, 0) _ HK.out Try.underlying44 rfl rfl ?_
                  have hX : Below w.heap.size w W ∧ Obj1 W X #[.int .i64 (x.n : Int), .bool true, .int .i64 x.de] 82 := HX.out
                  refine hK.out _ _ (hX) (fun hHeld => ?_)
                  clear HX hK K
                  have HX := Lib.hid hHeld
                  clear hHeld
                  go_simp
                  refine wpAnyH_ready (rs := [3]) (by kernel_rfl) (by simp) ?_
                  refine AllReadyH.cons rfl (fun K hK => ?_) AllReadyH.nil
                  go_simp
                  have hL := lit_rd W [.int .i64 (x.n : Int), .bool true, .int .i64 x.de] 82
                  have hb := bl_alloc (Below.refl W.heap.size W) (.cells #[.int .i64 (x.n : Int), .bool true, .int .i64 x.de] 82)
                  obtain ⟨gL, hgL⟩ : ∃ gL, gL = W.heap.size := ⟨_, rfl⟩
                  rw [← hgL] at hL
                  change K _ (W.alloc (.cells #[.int .i64 (x.n : Int), .bool true, .int .i64 x.de] 82))
                  rw [← hgL]
                  generalize hWn : World.alloc _ _ = W at hL hb ⊢
                  clear hWn hgL
                  have hX : Below w.heap.size w W ∧ Obj1 W X #[.int .i64 (x.n : Int), .bool true, .int .i64 x.de] 82 := ⟨bl_next HX.out.1 hb, HX.out.2.below hb⟩
                  have hq0 := Obj1.below HK.out hb
                  clear HK
                  have HK := Lib.hid hq0
                  clear hq0
                  have hq0 := Obj1.below HZ.out hb
                  clear HZ
                  have HZ := Lib.hid hq0
                  clear hq0
                  have hq0 := own_below HA.out hb
                  clear HA
                  have HA := Lib.hid hq0
                  clear hq0
                  have HL := Lib.hid hL
                  clear hL hb
                  refine hK.out _ _ (hX) (fun hHeld => ?_)
                  clear HX hK K
                  have HX := Lib.hid hHeld
                  clear hHeld
                  go_simp
                  refine wpAnyH_ready (rs := [4]) (by kernel_rfl) (by simp) ?_
                  refine AllReadyH.cons rfl (fun K hK => ?_) AllReadyH.nil
                  refine app_step (X + 1) rfl (.tmp 67) (.tmp 69) 42 82 (.agg #[.int .i64 0, .bool false, .int .i64 0]) 3 24 rfl Try.underlying42 (by kernel_rfl) (by simp [Value.cells]) (by omega) (by omega) vA n1 (fl rcC rest) (some ⟨gL, 0, none⟩) 1 1 [.int .i64 (x.n : Int), .bool true, .int .i64 x.de] rfl rfl HA.out rfl HL.out (rcC_one1 ⟨x.n, true, x.de⟩) (by omega) (Nat.succ_le_of_lt HX.out.2.lt) ?_
                  intro vB W hA hg
                  have hX : Below w.heap.size w W ∧ Obj1 W X #[.int .i64 (x.n : Int), .bool true, .int .i64 x.de] 82 := ⟨bl_grown HX.out.1 HA.out hg (by omega), HX.out.2.of_grown hg (own_above HA.out (by omega))⟩
                  have hq0 := Obj1.of_grown HK.out hg (own_neO HK.out HA.out (by decide))
                  clear HK
                  have HK := Lib.hid hq0
                  clear hq0
                  have hq0 := Obj1.of_grown HZ.out hg (own_above HA.out (by omega))
                  clear HZ
                  have HZ := Lib.hid hq0
                  clear hq0
                  clear HA hg HL
                  have HA := Lib.hid hA
                  clear hA
                  obtain ⟨A9, c9, rfl, h9, hne9⟩ := SlR.of_ownB (f := rcC) (k := 3) (l := rest ++ [⟨x.n, true, x.de⟩]) (by rw [fl_app, fl_one]; exact HA.out) (by rw [List.length_append, HLR.out]; rfl)
                  have H9 := Lib.hid h9
                  have HNE9 := Lib.hid (show ∀ ad, A9 = some ad → ad.block ≠ w.heap.size ∧ ad.block ≠ w.heap.size + 1 from fun ad e => ⟨fun he => by
                    obtain ⟨_, cs, ho⟩ := hne9 ad e
                    rw [he] at ho
                    have := ho.symm.trans HK.out
                    simp at this, fun he => by
                    obtain ⟨_, cs, ho⟩ := hne9 ad e
                    rw [he] at ho
                    have := ho.symm.trans HZ.out
                    simp at this⟩)
                  have HGE9 := Lib.hid (show ∀ ad, A9 = some ad → w.heap.size ≤ ad.block from fun ad e => Nat.le_trans (by omega) (hne9 ad e).1)
                  clear HA h9 hne9
                  refine hK.out _ _ (hX) (fun hHeld => ?_)
                  clear HX hK K
                  have HX := Lib.hid hHeld
                  clear hHeld
                  go_simp
                  refine wpAnyH_ready (rs := [5]) (by kernel_rfl) (by simp) ?_
                  refine AllReadyH.cons rfl (fun K hK => ?_) AllReadyH.nil
                  go_simp
                  refine (rwith_w N q (some ⟨b, o, none⟩) A9 (n1 + 1) c1 (n1 + 1) c9 _).mono ?_
                  rintro e W ⟨rfl, hb⟩
                  have hX : Below w.heap.size w W ∧ Obj1 W X #[.int .i64 (x.n : Int), .bool true, .int .i64 x.de] 82 := ⟨bl_next HX.out.1 hb, HX.out.2.below hb⟩
                  have hq0 := Obj1.below HK.out hb
                  clear HK
                  have HK := Lib.hid hq0
                  clear hq0
                  have hq0 := Obj1.below HZ.out hb
                  clear HZ
                  have HZ := Lib.hid hq0
                  clear hq0
                  have hq0 := SlR.below H9.out hb
                  clear H9
                  have H9 := Lib.hid hq0
                  clear hq0
                  clear hb
                  dsimp only
                  refine hK.out _ _ (hX) (fun hHeld => ?_)
                  clear HX hK K
                  have HX := Lib.hid hHeld
                  clear hHeld
                  go_simp
                  refine wpAnyH_ready (rs := [6]) (by kernel_rfl) (by simp) ?_
                  refine AllReadyH.cons rfl (fun K hK => ?_) AllReadyH.nil
                  refine gwanted rfl ?_
                  refine wp_storeO 44 (.tmp 2) (.tmp 71) rfl w.heap.size 44 (rtC N q (some ⟨b, o, none⟩) (n1 + 1) c1) (rtC N q A9 (n1 + 1) c9) rfl rfl HK.out rfl rfl (by simp [rtC, Value.oneCell']) ?_
                  intro W hob hu
                  have hX : Below w.heap.size w W ∧ Obj1 W X #[.int .i64 (x.n : Int), .bool true, .int .i64 x.de] 82 := ⟨bl_upd HX.out.1 hu (by omega), HX.out.2.of_grown hu (by simp <;> omega)⟩
                  have hq0 := SlR.upd H9.out hu (fun ad e => (HNE9.out ad e).1)
                  clear H9
                  have H9 := Lib.hid hq0
                  clear hq0
                  have hq0 := Obj1.of_grown HZ.out hu (by simp)
                  clear HZ
                  have HZ := Lib.hid hq0
                  clear hq0
                  clear HK hu
                  have HK := Lib.hid hob
                  clear hob
                  refine hK.out _ _ (hX) (fun hHeld => ?_)
                  clear HX hK K
                  have HX := Lib.hid hHeld
                  clear hHeld
                  go_simp
                  refine wpAnyH_done (by kernel_rfl) ?_ _
                  go_wp2_with fail
                  go_roundg (rmeas (hdOf heads) (rest ++ [⟨x.n, true, x.de⟩]))
                  case measure =>
                    have h1 := rmeas_last (hdOf heads) HQ.out.1 x rest (by rw [HD.out, HDN.out]; omega)
                    rw [HDN.out] at h1
                    exact Nat.lt_of_lt_of_le h1 HME.out
                  case rel => exact ⟨_, A9, n1 + 1, c9, Nat.le_refl _, by omega, HOK2.out, HK.out, HZ.out, H9.out, (fun _ ad e => HNE9.out ad e), .inr HGE9.out, HX.out.1, fun l' r hp => HPK.out _ _ (RPk.last (by rw [HD.out]; omega) (by rw [HD.out, HDN.out]; omega) (by rw [HDN.out]; exact hp))⟩
                refine AllReadyH.cons rfl (fun K hK => ?_) AllReadyH.nil
                go_simp
                have hL := lit_rd W [.int .i64 (x.n : Int), .bool true, .int .i64 x.de] 82
                have hb := bl_alloc (Below.refl W.heap.size W) (.cells #[.int .i64 (x.n : Int), .bool true, .int .i64 x.de] 82)
                obtain ⟨gL, hgL⟩ : ∃ gL, gL = W.heap.size := ⟨_, rfl⟩
                rw [← hgL] at hL
                change K _ (W.alloc (.cells #[.int .i64 (x.n : Int), .bool true, .int .i64 x.de] 82))
                rw [← hgL]
                generalize hWn : World.alloc _ _ = W at hL hb ⊢
                clear hWn hgL
                have hX : Below w.heap.size w W ∧ Obj1 W X #[.int .i64 (x.n : Int), .bool true, .int .i64 x.de] 82 := ⟨bl_next HX.out.1 hb, HX.out.2.below hb⟩
                have hq0 := Obj1.below HK.out hb
                clear HK
                have HK := Lib.hid hq0
                clear hq0
                have hq0 := Obj1.below HZ.out hb
                clear HZ
                have HZ := Lib.hid hq0
                clear hq0
                have hq0 := own_below HA.out hb
                clear HA
                have HA := Lib.hid hq0
                clear hq0
                have HL := Lib.hid hL
                clear hL hb
                refine hK.out _ _ (hX) (fun hHeld => ?_)
                clear HX hK K
                have HX := Lib.hid hHeld
                clear hHeld
                go_simp
                refine wpAnyH_ready (rs := [0, 4]) (by kernel_rfl) (by simp) ?_
                refine AllReadyH.cons rfl (fun K hK => ?_) ?_
                · refine gwanted rfl ?_
                  refine wp_load_row 44 (.tmp 2) rfl w.heap.size rfl 44 (rtC N q (some ⟨b, o, none⟩) (n1 + 1) c1) (0, 0) _ HK.out Try.underlying44 rfl rfl ?_
                  have hX : Below w.heap.size w W ∧ Obj1 W X #[.int .i64 (x.n : Int), .bool true, .int .i64 x.de] 82 := HX.out
                  refine hK.out _ _ (hX) (fun hHeld => ?_)
                  clear HX hK K
                  have HX := Lib.hid hHeld
                  clear hHeld
                  go_simp
                  refine wpAnyH_ready (rs := [4]) (by kernel_rfl) (by simp) ?_
                  refine AllReadyH.cons rfl (fun K hK => ?_) AllReadyH.nil
                  refine app_step (X + 1) rfl (.tmp 67) (.tmp 69) 42 82 (.agg #[.int .i64 0, .bool false, .int .i64 0]) 3 24 rfl Try.underlying42 (by kernel_rfl) (by simp [Value.cells]) (by omega) (by omega) vA n1 (fl rcC rest) (some ⟨gL, 0, none⟩) 1 1 [.int .i64 (x.n : Int), .bool true, .int .i64 x.de] rfl rfl HA.out rfl HL.out (rcC_one1 ⟨x.n, true, x.de⟩) (by omega) (Nat.succ_le_of_lt HX.out.2.lt) ?_
                  intro vB W hA hg
                  have hX : Below w.heap.size w W ∧ Obj1 W X #[.int .i64 (x.n : Int), .bool true, .int .i64 x.de] 82 := ⟨bl_grown HX.out.1 HA.out hg (by omega), HX.out.2.of_grown hg (own_above HA.out (by omega))⟩
                  have hq0 := Obj1.of_grown HK.out hg (own_neO HK.out HA.out (by decide))
                  clear HK
                  have HK := Lib.hid hq0
                  clear hq0
                  have hq0 := Obj1.of_grown HZ.out hg (own_above HA.out (by omega))
                  clear HZ
                  have HZ := Lib.hid hq0
                  clear hq0
                  clear HA hg HL
                  have HA := Lib.hid hA
                  clear hA
                  obtain ⟨A9, c9, rfl, h9, hne9⟩ := SlR.of_ownB (f := rcC) (k := 3) (l := rest ++ [⟨x.n, true, x.de⟩]) (by rw [fl_app, fl_one]; exact HA.out) (by rw [List.length_append, HLR.out]; rfl)
                  have H9 := Lib.hid h9
                  have HNE9 := Lib.hid (show ∀ ad, A9 = some ad → ad.block ≠ w.heap.size ∧ ad.block ≠ w.heap.size + 1 from fun ad e => ⟨fun he => by
                    obtain ⟨_, cs, ho⟩ := hne9 ad e
                    rw [he] at ho
                    have := ho.symm.trans HK.out
                    simp at this, fun he => by
                    obtain ⟨_, cs, ho⟩ := hne9 ad e
                    rw [he] at ho
                    have := ho.symm.trans HZ.out
                    simp at this⟩)
                  have HGE9 := Lib.hid (show ∀ ad, A9 = some ad → w.heap.size ≤ ad.block from fun ad e => Nat.le_trans (by omega) (hne9 ad e).1)
                  clear HA h9 hne9
                  refine hK.out _ _ (hX) (fun hHeld => ?_)
                  clear HX hK K
                  have HX := Lib.hid hHeld
                  clear hHeld
                  go_simp
                  refine wpAnyH_ready (rs := [5]) (by kernel_rfl) (by simp) ?_
                  refine AllReadyH.cons rfl (fun K hK => ?_) AllReadyH.nil
                  go_simp
                  refine (rwith_w N q (some ⟨b, o, none⟩) A9 (n1 + 1) c1 (n1 + 1) c9 _).mono ?_
                  rintro e W ⟨rfl, hb⟩
                  have hX : Below w.heap.size w W ∧ Obj1 W X #[.int .i64 (x.n : Int), .bool true, .int .i64 x.de] 82 := ⟨bl_next HX.out.1 hb, HX.out.2.below hb⟩
                  have hq0 := Obj1.below HK.out hb
                  clear HK
                  have HK := Lib.hid hq0
                  clear hq0
                  have hq0 := Obj1.below HZ.out hb
                  clear HZ
                  have HZ := Lib.hid hq0
                  clear hq0
                  have hq0 := SlR.below H9.out hb
                  clear H9
                  have H9 := Lib.hid hq0
                  clear hq0
                  clear hb
                  dsimp only
                  refine hK.out _ _ (hX) (fun hHeld => ?_)
                  clear HX hK K
                  have HX := Lib.hid hHeld
                  clear hHeld
                  go_simp
                  refine wpAnyH_ready (rs := [6]) (by kernel_rfl) (by simp) ?_
                  refine AllReadyH.cons rfl (fun K hK => ?_) AllReadyH.nil
                  refine gwanted rfl ?_
                  refine wp_storeO 44 (.tmp 2) (.tmp 71) rfl w.heap.size 44 (rtC N q (some ⟨b, o, none⟩) (n1 + 1) c1) (rtC N q A9 (n1 + 1) c9) rfl rfl HK.out rfl rfl (by simp [rtC, Value.oneCell']) ?_
                  intro W hob hu
                  have hX : Below w.heap.size w W ∧ Obj1 W X #[.int .i64 (x.n : Int), .bool true, .int .i64 x.de] 82 := ⟨bl_upd HX.out.1 hu (by omega), HX.out.2.of_grown hu (by simp <;> omega)⟩
                  have hq0 := SlR.upd H9.out hu (fun ad e => (HNE9.out ad e).1)
                  clear H9
                  have H9 := Lib.hid hq0
                  clear hq0
                  have hq0 := Obj1.of_grown HZ.out hu (by simp)
                  clear HZ
                  have HZ := Lib.hid hq0
                  clear hq0
                  clear HK hu
                  have HK := Lib.hid hob
                  clear hob
                  refine hK.out _ _ (hX) (fun hHeld => ?_)
                  clear HX hK K
                  have HX := Lib.hid hHeld
                  clear hHeld
                  go_simp
                  refine wpAnyH_done (by kernel_rfl) ?_ _
                  go_wp2_with fail
                  go_roundg (rmeas (hdOf heads) (rest ++ [⟨x.n, true, x.de⟩]))
                  case measure =>
                    have h1 := rmeas_last (hdOf heads) HQ.out.1 x rest (by rw [HD.out, HDN.out]; omega)
                    rw [HDN.out] at h1
                    exact Nat.lt_of_lt_of_le h1 HME.out
                  case rel => exact ⟨_, A9, n1 + 1, c9, Nat.le_refl _, by omega, HOK2.out, HK.out, HZ.out, H9.out, (fun _ ad e => HNE9.out ad e), .inr HGE9.out, HX.out.1, fun l' r hp => HPK.out _ _ (RPk.last (by rw [HD.out]; omega) (by rw [HD.out, HDN.out]; omega) (by rw [HDN.out]; exact hp))⟩
                refine AllReadyH.cons rfl (fun K hK => ?_) AllReadyH.nil
                refine app_step (X + 1) rfl (.tmp 67) (.tmp 69) 42 82 (.agg #[.int .i64 0, .bool false, .int .i64 0]) 3 24 rfl Try.underlying42 (by kernel_rfl) (by simp [Value.cells]) (by omega) (by omega) vA n1 (fl rcC rest) (some ⟨gL, 0, none⟩) 1 1 [.int .i64 (x.n : Int), .bool true, .int .i64 x.de] rfl rfl HA.out rfl HL.out (rcC_one1 ⟨x.n, true, x.de⟩) (by omega) (Nat.succ_le_of_lt HX.out.2.lt) ?_
                intro vB W hA hg
                have hX : Below w.heap.size w W ∧ Obj1 W X #[.int .i64 (x.n : Int), .bool true, .int .i64 x.de] 82 := ⟨bl_grown HX.out.1 HA.out hg (by omega), HX.out.2.of_grown hg (own_above HA.out (by omega))⟩
                have hq0 := Obj1.of_grown HK.out hg (own_neO HK.out HA.out (by decide))
                clear HK
                have HK := Lib.hid hq0
                clear hq0
                have hq0 := Obj1.of_grown HZ.out hg (own_above HA.out (by omega))
                clear HZ
                have HZ := Lib.hid hq0
                clear hq0
                clear HA hg HL
                have HA := Lib.hid hA
                clear hA
                obtain ⟨A9, c9, rfl, h9, hne9⟩ := SlR.of_ownB (f := rcC) (k := 3) (l := rest ++ [⟨x.n, true, x.de⟩]) (by rw [fl_app, fl_one]; exact HA.out) (by rw [List.length_append, HLR.out]; rfl)
                have H9 := Lib.hid h9
                have HNE9 := Lib.hid (show ∀ ad, A9 = some ad → ad.block ≠ w.heap.size ∧ ad.block ≠ w.heap.size + 1 from fun ad e => ⟨fun he => by
                  obtain ⟨_, cs, ho⟩ := hne9 ad e
                  rw [he] at ho
                  have := ho.symm.trans HK.out
                  simp at this, fun he => by
                  obtain ⟨_, cs, ho⟩ := hne9 ad e
                  rw [he] at ho
                  have := ho.symm.trans HZ.out
                  simp at this⟩)
                have HGE9 := Lib.hid (show ∀ ad, A9 = some ad → w.heap.size ≤ ad.block from fun ad e => Nat.le_trans (by omega) (hne9 ad e).1)
                clear HA h9 hne9
                refine hK.out _ _ (hX) (fun hHeld => ?_)
                clear HX hK K
                have HX := Lib.hid hHeld
                clear hHeld
                go_simp
                refine wpAnyH_ready (rs := [0]) (by kernel_rfl) (by simp) ?_
                refine AllReadyH.cons rfl (fun K hK => ?_) AllReadyH.nil
                refine gwanted rfl ?_
                refine wp_load_row 44 (.tmp 2) rfl w.heap.size rfl 44 (rtC N q (some ⟨b, o, none⟩) (n1 + 1) c1) (0, 0) _ HK.out Try.underlying44 rfl rfl ?_
                have hX : Below w.heap.size w W ∧ Obj1 W X #[.int .i64 (x.n : Int), .bool true, .int .i64 x.de] 82 := HX.out
                refine hK.out _ _ (hX) (fun hHeld => ?_)
                clear HX hK K
                have HX := Lib.hid hHeld
                clear hHeld
                go_simp
                refine wpAnyH_ready (rs := [5]) (by kernel_rfl) (by simp) ?_
                refine AllReadyH.cons rfl (fun K hK => ?_) AllReadyH.nil
                go_simp
                refine (rwith_w N q (some ⟨b, o, none⟩) A9 (n1 + 1) c1 (n1 + 1) c9 _).mono ?_
                rintro e W ⟨rfl, hb⟩
                have hX : Below w.heap.size w W ∧ Obj1 W X #[.int .i64 (x.n : Int), .bool true, .int .i64 x.de] 82 := ⟨bl_next HX.out.1 hb, HX.out.2.below hb⟩
                have hq0 := Obj1.below HK.out hb
                clear HK
                have HK := Lib.hid hq0
                clear hq0
                have hq0 := Obj1.below HZ.out hb
                clear HZ
                have HZ := Lib.hid hq0
                clear hq0
                have hq0 := SlR.below H9.out hb
                clear H9
                have H9 := Lib.hid hq0
                clear hq0
                clear hb
                dsimp only
                refine hK.out _ _ (hX) (fun hHeld => ?_)
                clear HX hK K
                have HX := Lib.hid hHeld
                clear hHeld
                go_simp
                refine wpAnyH_ready (rs := [6]) (by kernel_rfl) (by simp) ?_
                refine AllReadyH.cons rfl (fun K hK => ?_) AllReadyH.nil
                refine gwanted rfl ?_
                refine wp_storeO 44 (.tmp 2) (.tmp 71) rfl w.heap.size 44 (rtC N q (some ⟨b, o, none⟩) (n1 + 1) c1) (rtC N q A9 (n1 + 1) c9) rfl rfl HK.out rfl rfl (by simp [rtC, Value.oneCell']) ?_
                intro W hob hu
                have hX : Below w.heap.size w W ∧ Obj1 W X #[.int .i64 (x.n : Int), .bool true, .int .i64 x.de] 82 := ⟨bl_upd HX.out.1 hu (by omega), HX.out.2.of_grown hu (by simp <;> omega)⟩
                have hq0 := SlR.upd H9.out hu (fun ad e => (HNE9.out ad e).1)
                clear H9
                have H9 := Lib.hid hq0
                clear hq0
                have hq0 := Obj1.of_grown HZ.out hu (by simp)
                clear HZ
                have HZ := Lib.hid hq0
                clear hq0
                clear HK hu
                have HK := Lib.hid hob
                clear hob
                refine hK.out _ _ (hX) (fun hHeld => ?_)
                clear HX hK K
                have HX := Lib.hid hHeld
                clear hHeld
                go_simp
                refine wpAnyH_done (by kernel_rfl) ?_ _
                go_wp2_with fail
                go_roundg (rmeas (hdOf heads) (rest ++ [⟨x.n, true, x.de⟩]))
                case measure =>
                  have h1 := rmeas_last (hdOf heads) HQ.out.1 x rest (by rw [HD.out, HDN.out]; omega)
                  rw [HDN.out] at h1
                  exact Nat.lt_of_lt_of_le h1 HME.out
                case rel => exact ⟨_, A9, n1 + 1, c9, Nat.le_refl _, by omega, HOK2.out, HK.out, HZ.out, H9.out, (fun _ ad e => HNE9.out ad e), .inr HGE9.out, HX.out.1, fun l' r hp => HPK.out _ _ (RPk.last (by rw [HD.out]; omega) (by rw [HD.out, HDN.out]; omega) (by rw [HDN.out]; exact hp))⟩
end Go.Proofs.Ytlnfenjoagkpdaa
