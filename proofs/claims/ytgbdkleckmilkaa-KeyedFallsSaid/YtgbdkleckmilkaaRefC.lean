/- The document's sum. -/
import Derived.Test.YtgbdkleckmilkaaRefB
import Derived.Test.YtgbdkleckmilkaaKeyA
namespace Go.Proofs.Ytgbdkleckmilkaa
open Go.RowKit
set_option linter.unusedVariables false
set_option linter.unusedSimpArgs false

/-- xs[i:i+8]. -/
theorem cut_mid {ad : Addr} {n c i : Nat} (h1 : i + 8 ≤ n) (hnc : n ≤ c) (kI hI : Int) (hk : kI = (i : Int)) (hh : hI = ((i + 8 : Nat) : Int)) :
    (∀ W : World, (Instr.slice 23 (.slice (some ad) n c) (some (.int .i64 kI)) (some (.int .i64 hI)) none).run Try.prog W = .ok (.slice (some (ad.add i)) 8 (c - i)) W) := fun W => by
  subst hk
  subst hh
  have hel : Try.prog.elem 23 = 5 := by simp [Program.elem, Try.underlying23]
  have hu : Try.prog.underlying 23 = some (.slice (Try.prog.elem 23)) := by rw [hel]; exact Try.underlying23
  have hi : (Try.prog.info? 5).map (fun i => (i.zero, i.size, i.bytes)) = some (some (.int .u8 0), 1, 1) := rfl
  obtain ⟨i0, hi0, hzz⟩ := Option.map_eq_some_iff.1 hi
  simp only [Prod.mk.injEq] at hzz
  have := run_slice_lh W 23 (some ad) n c hu .i64 .i64 (i : Int) ((i + 8 : Nat) : Int) (Int.natCast_nonneg _) (by omega) (by omega)
  rw [this, hel]
  have hne : ¬ c = i := by omega
  simp [sizeOf, typeInfo, hi0, hzz.2.1, sliced, Result.andThen, hne]
  omega
theorem own_lit {base : Nat} {e : TypeId} (w : World) (g : Nat) (hg : g = w.heap.size) (hb : base ≤ g) : (w.alloc (.cells #[] e)).ownsRow base e 1 (.slice (some ⟨g, 0, none⟩) 0 0) 0 [] := by
  subst hg
  exact World.ownsRow_lit w #[] 0 hb (by simp [maxLen]) rfl
theorem SlI.mid {k : IntKind} {w : World} {ad : Addr} {n c : Nat} {l : List Int} (h : SlI k w (some ad) n c l) (i : Nat) (hi : i + 8 ≤ n) : SlI k w (some (ad.add i)) 8 (c - i) ((l.drop i).take 8) := by
  obtain ⟨h1, h2, h3, h4, h5⟩ := h
  refine ⟨by simp; omega, by omega, by omega, ?_, fun x hx => h5 x (List.mem_of_mem_drop (List.mem_of_mem_take hx))⟩
  rw [List.map_take, List.map_drop]
  exact (h4.drop i).take 8

set_option maxRecDepth 100000 in
set_option maxHeartbeats 2000000 in
theorem rsum_w (key : List Int) (hk : key.length = 16) (hkb : ∀ x ∈ key, 0 ≤ x ∧ x ≤ 255) (A : Option Addr) (n c : Nat) (l : List Int) (hn : n ≤ 1000000) (w : World) (h : SlI .u8 w A n c l) :
    Calls Try.prog 14 #[.agg (bys key).toArray, .slice A n c] w fun e w' => e = .returned (.int .u64 (uv (sipU key l))) ∧ Below w.heap.size w w' := by
  have H := Lib.hid h
  have hll : l.length = n := h.1
  have HLL := Lib.hid hll
  have hO := Obj1.new w (bys key).toArray 22
  have hb0 := bl_alloc (Below.refl w.heap.size w) (.cells (bys key).toArray 22)
  have HS1 := Lib.hid (SlI.block hO hkb 0 8 16 (by omega) (by omega) (by omega))
  have HS2 := Lib.hid (SlI.block hO hkb 8 8 8 (by omega) (by omega) (by omega))
  have HB0 := Lib.hid hb0
  clear h hO hb0 hll
  go_enter Try.func14, Try.ntmps14
  go_wp2_with fail
  go_quiet ((first | (with_reducible (change Calls _ _ #[Value.slice _ 8 16] _ _); exact quiet_left (rword_w (some ⟨w.heap.size, 0, none⟩) 16 _ _ (HS1.out.drewN _))) | exact quiet_left (rword_w (some ⟨w.heap.size, 8, none⟩) 8 _ _ (HS2.out.drewN _))))
  obtain ⟨k0, hk0⟩ : ∃ k0, numU key 8 = k0 := ⟨_, rfl⟩
  obtain ⟨k1, hk1⟩ : ∃ k1, numU (key.drop 8) 8 = k1 := ⟨_, rfl⟩
  have y0 : numU (List.take 8 (List.drop 0 key)) 8 = k0 := by rw [List.drop_zero, numU_take key 8 8 (Nat.le_refl _), hk0]
  have y1 : numU (List.take 8 (List.drop 8 key)) 8 = k1 := by rw [numU_take (key.drop 8) 8 8 (Nat.le_refl _), hk1]
  rw [y0, y1]
  obtain ⟨⟨a0, b0, c0, d0⟩, hin⟩ : ∃ s : SS, initS k0 k1 = s := ⟨_, rfl⟩
  have hinj : k0 ^^^ 0x736f6d6570736575 = a0 ∧ k1 ^^^ 0x646f72616e646f6d = b0 ∧ k0 ^^^ 0x6c7967656e657261 = c0 ∧ k1 ^^^ 0x7465646279746573 = d0 := by
    unfold initS at hin
    injection hin with h1 h2 h3 h4
    exact ⟨h1, h2, h3, h4⟩
  have x1 : bits .xor .u64 (uv k0) 8317987319222330741 = uv a0 := by rw [← hinj.1]; exact xor_uv k0 0x736f6d6570736575
  have x2 : bits .xor .u64 (uv k1) 7237128888997146477 = uv b0 := by rw [← hinj.2.1]; exact xor_uv k1 0x646f72616e646f6d
  have x3 : bits .xor .u64 (uv k0) 7816392313619706465 = uv c0 := by rw [← hinj.2.2.1]; exact xor_uv k0 0x6c7967656e657261
  have x4 : bits .xor .u64 (uv k1) 8387220255154660723 = uv d0 := by rw [← hinj.2.2.2]; exact xor_uv k1 0x7465646279746573
  have HK0 := Lib.hid hk0
  have HK1 := Lib.hid hk1
  have HIN := Lib.hid hin
  clear hk0 hk1 y0 y1 hin hinj
  have hbnd : (0 + n) * 1 ≤ 140737488355328 := by omega
  go_wp2_with (at_builtin; refine app_list w.heap.size rfl (.tmp 24) (.tmp 25) 23 5 (.int .u8 0) 1 1 rfl Try.underlying23 (by kernel_rfl) rfl (by omega) (by omega) _ 0 [] A n c (bys l) rfl rfl (own_lit _ (w.heap.size + 1 + 1) (by simp) (by omega)) (by rw [bys_length, HLL.out]; omega) (H.out.below (bl_alloc (bl_alloc (bl_drewN HB0.out nq) _) _)).2.2.2.1 (bys_one l) hbnd (by (first | (simp; omega) | omega | simp)) ?_; intro v1 w6 hown6 hg6)
  obtain ⟨V, hVd⟩ : ∃ V, V = w.heap.size + 1 := ⟨_, rfl⟩
  have hg : World.grownBy ((((w.alloc (.cells (bys key).toArray 22)).drewN nq).alloc (.cells (s4 a0 b0 c0 d0) 62)).alloc (.cells #[] 5)) w6 (Value.slice (some ⟨w.heap.size + 1 + 1, 0, none⟩) 0 0).ownBlock := hg6
  have hv0 := Obj1.new ((w.alloc (.cells (bys key).toArray 22)).drewN nq) (s4 a0 b0 c0 d0) 62
  have e1 : ((w.alloc (.cells (bys key).toArray 22)).drewN nq).heap.size = w.heap.size + 1 := by simp
  rw [e1] at hv0
  have hv6 := (hv0.alloc (.cells #[] 5)).of_grown hg (by simp [Value.ownBlock])
  have hb6 : Below w.heap.size w w6 := bl_grown (bl_alloc (bl_alloc (bl_drewN HB0.out nq) _) _) (own_lit _ (w.heap.size + 1 + 1) (by simp) (by omega)) hg (Nat.le_refl w.heap.size)
  rw [← hVd] at hv6 ⊢
  have hwV : w.heap.size ≤ V := by omega
  have hown0 : w6.ownsRow w.heap.size 5 1 v1 n (bys l) := by simpa using hown6
  have HV6 := Lib.hid hv6
  have HB6 := Lib.hid hb6
  have HOW6 := Lib.hid hown0
  clear hg hv0 e1 hv6 hb6 hVd hown6 hg6 hown0 x1 x2 x3 x4 HS1 HS2
  obtain ⟨z, hz8, hz⟩ : ∃ z, z < 8 ∧ (n + z) % 8 = 7 := ⟨(15 - n % 8) % 8, by omega, by omega⟩
  obtain ⟨b8, hb8⟩ : ∃ b8 : Int, b8 = ((l.length % 256 : Nat) : Int) := ⟨_, rfl⟩
  have a8 : IntKind.u8.wrap (n : Int) = b8 := by
    rw [hb8, HLL.out]
    simp [IntKind.wrap, IntKind.bits, IntKind.signed]
  have hb8r : 0 ≤ b8 ∧ b8 ≤ 255 := by omega
  have HB8 := Lib.hid hb8
  clear hb8
  go_loopw [8] (fun v wr => ∃ j : Nat, j ≤ z ∧ wr.ownsRow w.heap.size 5 1 v (n + j) (bys (l ++ List.replicate j 0)) ∧ Obj1 wr V (s4 a0 b0 c0 d0) 62 ∧ Below w.heap.size w wr) (fun v _ => z - (slLen v - n))
  case atStart => exact ⟨0, Nat.zero_le _, by simpa using HOW6.out, HV6.out, HB6.out⟩
  case round =>
    obtain ⟨j, hj, hown, hobj, hbel⟩ := hrel
    obtain ⟨A1, c1, rfl, _⟩ := own_Rd hown
    have HOWN := Lib.hid hown
    have HV := Lib.hid hobj
    have HBL := Lib.hid hbel
    clear hown hobj hbel
    obtain ⟨m, hm⟩ : ∃ m, m = n + j := ⟨_, rfl⟩
    obtain ⟨p, hp⟩ : ∃ p, p = m % 8 := ⟨_, rfl⟩
    have r1 : (m : Int).tmod 8 = (p : Int) := by rw [Int.tmod_eq_emod_of_nonneg (by omega)]; omega
    have r2 : (m : Int) % 8 = (p : Int) := by omega
    rw [← hm] at HOWN ⊢
    have HN := Lib.hid (own_ne HV.out HOWN.out (by decide))
    by_cases hjz : j < z
    · have hp7 : ¬ p = 7 := by omega
      have hp7' : ¬ (p : Int) = 7 := by omega
      have hmb : (m + 1) * 1 ≤ 140737488355328 := by omega
      have HM := Lib.hid hm
      clear hm hp
      go_wp2_with (at_builtin; refine app_list w.heap.size rfl (.tmp 31) (.tmp 32) 23 5 (.int .u8 0) 1 1 rfl Try.underlying23 (by kernel_rfl) rfl (by omega) (by omega) _ m _ (some ⟨_, 0, none⟩) 1 1 (bys [0]) rfl rfl (HOWN.out.alloc _) rfl (SlI.new _ [0] 5 (by simp) (by simp)).2.2.2.1 (bys_one _) hmb (by have := HBL.out.size; simp; omega) ?_; intro v2 w7 hown7 hg7)
      go_roundw
      case rel =>
        refine ⟨j + 1, by omega, ?_, (HV.out.alloc _).of_grown hg7 HN.out, bl_grown (bl_alloc HBL.out _) (HOWN.out.alloc _) hg7 (Nat.le_refl _)⟩
        have e : l ++ List.replicate (j + 1) 0 = (l ++ List.replicate j 0) ++ [0] := by rw [List.replicate_succ', List.append_assoc]
        rw [e, bys_append (l ++ List.replicate j 0), ← Nat.add_assoc, ← HM.out]
        exact hown7
      case measure =>
        obtain ⟨A2, c2, rfl, _⟩ := own_Rd hown7
        have := HM.out
        simp [slLen]
        omega
    · obtain rfl : j = z := by omega
      have hp7 : p = 7 := by omega
      subst hp7
      have hmb : (m + 1) * 1 ≤ 140737488355328 := by omega
      have HM := Lib.hid hm
      clear hm hp
      go_wp2_with (at_builtin; refine app_list w.heap.size rfl (.tmp 34) (.tmp 38) 23 5 (.int .u8 0) 1 1 rfl Try.underlying23 (by kernel_rfl) rfl (by omega) (by omega) _ m _ (some ⟨_, 0, none⟩) 1 1 (bys [b8]) rfl rfl (HOWN.out.alloc _) rfl (SlI.new _ [b8] 5 (by simp) (by simpa using hb8r)).2.2.2.1 (bys_one _) hmb (by have := HBL.out.size; simp; omega) ?_; intro v2 w7 hown7 hg7; have HV7 := Lib.hid ((HV.out.alloc (.cells #[.int .u8 b8] 5)).of_grown hg7 HN.out); have HB7 := Lib.hid (bl_grown (bl_alloc HBL.out (.cells #[.int .u8 b8] 5)) (HOWN.out.alloc _) hg7 (Nat.le_refl _)); have HOW7 := Lib.hid hown7; clear hown7 hg7)
      obtain ⟨Q, hQ⟩ : ∃ Q, Q = n / 8 + 1 := ⟨_, rfl⟩
      have hm8 : m + 1 = 8 * Q := by have := HM.out; omega
      have hpad : bys (l ++ List.replicate j 0) ++ bys [b8] = bys (padL l j) := by rw [← bys_append, HB8.out]; rfl
      have hown := HOW7.out
      rw [hm8, hpad] at hown
      have hzl : (l.length + j) % 8 = 7 := by rw [HLL.out]; exact hz
      have hbyte : ∀ x ∈ l, 0 ≤ x ∧ x ≤ 255 := fun x hx => u8_range (H.out.2.2.2.2 x hx)
      have hpl : (padL l j).length = 8 * Q := by rw [padL_length l j hzl hz8, HLL.out, hQ]
      obtain ⟨A3, c3, rfl, hs3⟩ := SlI.ownedB hown hpl (padL_byte hbyte j)
      have hn3 := own_ne HV7.out hown (by decide)
      have hw3 := words_pad l j hzl hz8 ⟨a0, b0, c0, d0⟩
      rw [HLL.out] at hw3
      rw [← hQ] at hw3
      obtain ⟨ad, rfl, _⟩ := hs3.at 0 (by omega)
      have hc3 : 8 * Q ≤ c3 ∧ c3 ≤ 9223372036854775807 := ⟨hs3.2.1, hs3.2.2.1⟩
      have hadV : ad.block ≠ V := fun e => hn3 (by rw [← e]; rfl)
      obtain ⟨pl, hpld⟩ : ∃ pl, padL l j = pl := ⟨_, rfl⟩
      rw [hpld] at hs3 hw3
      have HW3 := Lib.hid hw3
      have HS3 := Lib.hid hs3
      have HQ := Lib.hid hQ
      have hQb : Q ≤ 200000 := by omega
      obtain ⟨L8, hL8⟩ : ∃ L8, L8 = 8 * Q := ⟨_, rfl⟩
      have HL8 := Lib.hid hL8
      clear hown hpad hm8 hzl hbyte hpl hn3 hw3 hs3 HOW7 hQ hpld HOWN HV HBL
      rw [← hL8] at HS3 hc3 ⊢
      clear hL8
      obtain ⟨s0, hs0⟩ : ∃ s0 : SS, s0 = ⟨a0, b0, c0, d0⟩ := ⟨_, rfl⟩
      have HS0 := Lib.hid hs0
      have HV70 := Lib.hid (show Obj1 w7 V (ssC s0) 62 by rw [hs0]; exact HV7.out)
      clear hs0 HV7
      go_loopw [9] (fun v wr => ∃ (i E : Nat), i ≤ Q ∧ v = .int .i64 (E : Int) ∧ E = 8 * i ∧ Obj1 wr V (ssC (words pl i s0)) 62 ∧ Upd V w7 wr) (fun v _ => L8 - (intOf v).toNat)
      case atStart => exact ⟨0, 0, Nat.zero_le _, rfl, rfl, HV70.out, Upd.refl _ _⟩
      case round =>
        obtain ⟨i, E, hi, rfl, hE, hobj, hupd⟩ := hrel
        have HU := Lib.hid hupd
        have HVV := Lib.hid hobj
        have HE := Lib.hid hE
        have hE0 : (0 : Int) ≤ (E : Int) := Int.natCast_nonneg E
        by_cases hiQ : i < Q
        · have hEL : E + 8 ≤ L8 := by have := HL8.out; omega
          have hEL1 : (E : Int) < (L8 : Int) := by omega
          obtain ⟨F, hF⟩ : ∃ F, F = E + 8 := ⟨_, rfl⟩
          have hLb : L8 ≤ 2000000 := by have := HL8.out; omega
          have g1 : IntKind.i64.wrap ((E : Int) + 8) = (F : Int) := by rw [show (E : Int) + 8 = (F : Int) by omega]; exact IntWalk.i64_in _ (by omega)
          have hcut := cut_mid (ad := ad) hEL hc3.1 (E : Int) (F : Int) rfl (by rw [hF])
          have hmid := (HS3.out.upd HU.out (fun a e => by cases e; exact hadV)).mid E hEL
          have HMID := Lib.hid hmid
          obtain ⟨mw, hmw⟩ : ∃ mw, numU ((pl.drop E).take 8) 8 = mw := ⟨_, rfl⟩
          have hmw2 : numU (pl.drop (8 * i)) 8 = mw := by rw [← hmw, numU_take _ 8 8 (Nat.le_refl _), hE]
          obtain ⟨⟨a, b, c2, d⟩, hst⟩ : ∃ t, words pl i s0 = t := ⟨_, rfl⟩
          have hobj2 := hobj
          rw [hst] at hobj2
          have q3 : wr.cell? ⟨V, 3, none⟩ = some (.int .u64 (uv d)) := hobj2.cell 3
          have f3 : wr.frozen? ⟨V, 3, none⟩ = false := hobj2.free 3
          have x3 : bits .xor .u64 (uv d) (uv mw) = uv (d ^^^ mw) := xor_uv d mw
          have hset := hobj2.set 3 (.int .u64 (uv (d ^^^ mw)))
          have HSET := Lib.hid (show Obj1 (wr.setCell ⟨V, 3, none⟩ (.int .u64 (uv (d ^^^ mw)))) V (ssC ⟨a, b, c2, d ^^^ mw⟩) 62 from hset)
          have HUS := Lib.hid (HU.out.set 3 (.int .u64 (uv (d ^^^ mw))))
          have HST := Lib.hid hst
          have HMW := Lib.hid hmw
          have HMW2 := Lib.hid hmw2
          have HFF := Lib.hid hF
          clear hF hmid hmw hmw2 hst hobj2 hset hobj hupd hE HVV
          go_wp2_with fail
          refine (rword_w (some (ad.add E)) (c3 - E) _ _ HMID.out).mono ?_
          rintro e w' ⟨rfl, rfl⟩
          rw [HMW.out]
          go_wp2_with (refine load_obj rfl 62 (.tmp 7) rfl V 62 (ssC ⟨a, b, c2, d ^^^ mw⟩) _ rfl HSET.out Try.underlying62 rfl rfl ?_)
          refine (rround_w ⟨a, b, c2, d ^^^ mw⟩ _).mono ?_
          rintro e w8 ⟨rfl, hb8⟩
          have HO8 := Lib.hid (HSET.out.below hb8)
          have HU8 := Lib.hid (HUS.out.next hb8)
          clear hb8
          go_wp2_with fail
          refine (rround_w (rnd ⟨a, b, c2, d ^^^ mw⟩) _).mono ?_
          rintro e w9 ⟨rfl, hb9⟩
          have HO9 := Lib.hid (HO8.out.below hb9)
          have HU9 := Lib.hid (HU8.out.next hb9)
          clear hb9
          obtain ⟨⟨a9, b9, c9, d9⟩, ht9⟩ : ∃ t, rnd (rnd (SS.mk a b c2 (d ^^^ mw))) = t := ⟨_, rfl⟩
          have HT9 := Lib.hid ht9
          have x0 : bits .xor .u64 (uv a9) (uv mw) = uv (a9 ^^^ mw) := xor_uv a9 mw
          rw [ht9]
          clear ht9
          go_wp2_with (refine store_obj rfl 62 (.tmp 7) (.tmp 59) rfl V 62 (ssC ⟨a, b, c2, d ^^^ mw⟩) (ssC ⟨a9, b9, c9, d9⟩) rfl rfl HO9.out rfl rfl (s4_one _ _ _ _) ?_; intro w10 ho10 hu10; have p0 : w10.cell? ⟨V, 0, none⟩ = some (.int .u64 (uv a9)) := ho10.cell 0; have p4 : w10.frozen? ⟨V, 0, none⟩ = false := ho10.free 0; have HO10 := Lib.hid ho10; have HU10 := Lib.hid (HU9.out.trans hu10); clear ho10 hu10)
          go_roundw
          case rel =>
            refine ⟨i + 1, F, by omega, by go_num, by have := HFF.out; have := HE.out; omega, ?_, HU10.out.set 0 _⟩
            have hw : words pl (i + 1) s0 = ⟨a9 ^^^ mw, b9, c9, d9⟩ := by
              show wordS (numU (pl.drop (8 * i)) 8) (words pl i s0) = _
              rw [HMW2.out, HST.out]
              show ({ rnd (rnd (SS.mk a b c2 (d ^^^ mw))) with a := (rnd (rnd (SS.mk a b c2 (d ^^^ mw)))).a ^^^ mw } : SS) = _
              rw [HT9.out]
            rw [hw]
            exact HO10.out.set 0 (.int .u64 (uv (a9 ^^^ mw)))
          case measure => have := HFF.out; simp [intOf]; omega
        · obtain rfl : i = Q := by omega
          have hEL1 : ¬ (E : Int) < (L8 : Int) := by have := HL8.out; omega
          obtain ⟨⟨a, b, c2, d⟩, hst⟩ : ∃ t, words pl i s0 = t := ⟨_, rfl⟩
          have hobj2 := hobj
          rw [hst] at hobj2
          have q2 : wr.cell? ⟨V, 2, none⟩ = some (.int .u64 (uv c2)) := hobj2.cell 2
          have f2 : wr.frozen? ⟨V, 2, none⟩ = false := hobj2.free 2
          have x2 : bits .xor .u64 (uv c2) 255 = uv (c2 ^^^ 0xff) := xor_uv c2 0xff
          have hset := hobj2.set 2 (.int .u64 (uv (c2 ^^^ 0xff)))
          have HSET := Lib.hid (show Obj1 (wr.setCell ⟨V, 2, none⟩ (.int .u64 (uv (c2 ^^^ 0xff)))) V (ssC ⟨a, b, c2 ^^^ 0xff, d⟩) 62 from hset)
          have HUS := Lib.hid (HU.out.set 2 (.int .u64 (uv (c2 ^^^ 0xff))))
          have HST := Lib.hid hst
          clear hst hobj2 hset hobj hupd hE HVV
          go_wp2_with (refine load_obj rfl 62 (.tmp 7) rfl V 62 (ssC ⟨a, b, c2 ^^^ 0xff, d⟩) _ rfl HSET.out Try.underlying62 rfl rfl ?_)
          refine (rround_w (SS.mk a b (c2 ^^^ 0xff) d) _).mono ?_
          rintro e y0 ⟨rfl, hb⟩
          have HO20 := Lib.hid (HSET.out.below hb)
          have HU20 := Lib.hid (HUS.out.next hb)
          clear hb
          go_wp2_with fail
          refine (rround_w (rnd (SS.mk a b (c2 ^^^ 0xff) d)) _).mono ?_
          rintro e y1 ⟨rfl, hb⟩
          have HO21 := Lib.hid (HO20.out.below hb)
          have HU21 := Lib.hid (HU20.out.next hb)
          clear hb
          go_wp2_with fail
          refine (rround_w (rnd (rnd (SS.mk a b (c2 ^^^ 0xff) d))) _).mono ?_
          rintro e y2 ⟨rfl, hb⟩
          have HO22 := Lib.hid (HO21.out.below hb)
          have HU22 := Lib.hid (HU21.out.next hb)
          clear hb
          go_wp2_with fail
          refine (rround_w (rnd (rnd (rnd (SS.mk a b (c2 ^^^ 0xff) d)))) _).mono ?_
          rintro e y3 ⟨rfl, hb⟩
          have HO23 := Lib.hid (HO22.out.below hb)
          have HU23 := Lib.hid (HU22.out.next hb)
          clear hb
          obtain ⟨⟨a9, b9, c9, d9⟩, ht9⟩ : ∃ t, (rnd (rnd (rnd (rnd (SS.mk a b (c2 ^^^ 0xff) d))))) = t := ⟨_, rfl⟩
          have HT9 := Lib.hid ht9
          rw [ht9]
          clear ht9
          have z1 := xor_uv a9 b9
          have z2 := xor_uv (a9 ^^^ b9) c9
          have z3 := xor_uv (a9 ^^^ b9 ^^^ c9) d9
          go_wp2_with (refine store_obj rfl 62 (.tmp 7) (.tmp 73) rfl V 62 (ssC ⟨a, b, c2 ^^^ 0xff, d⟩) (ssC ⟨a9, b9, c9, d9⟩) rfl rfl HO23.out rfl rfl (s4_one _ _ _ _) ?_; intro w10 ho10 hu10; have p0 : w10.cell? ⟨V, 0, none⟩ = some (.int .u64 (uv a9)) := ho10.cell 0; have p1 : w10.cell? ⟨V, 1, none⟩ = some (.int .u64 (uv b9)) := ho10.cell 1; have p2 : w10.cell? ⟨V, 2, none⟩ = some (.int .u64 (uv c9)) := ho10.cell 2; have p3 : w10.cell? ⟨V, 3, none⟩ = some (.int .u64 (uv d9)) := ho10.cell 3; have HU10 := Lib.hid (HU23.out.trans hu10); clear ho10 hu10)
          go_ret
          refine ⟨?_, bl_upd HB7.out HU10.out hwV⟩
          have hsip : sipU key l = a9 ^^^ b9 ^^^ c9 ^^^ d9 := by
            have h1 := HW3.out
            rw [← HS0.out, HST.out] at h1
            unfold sipU
            rw [HK0.out, HK1.out, HIN.out, HLL.out, ← HS0.out, ← h1]
            show outS (rnds 4 (SS.mk a b (c2 ^^^ 0xff) d)) = _
            show outS (rnd (rnd (rnd (rnd (SS.mk a b (c2 ^^^ 0xff) d))))) = _
            rw [HT9.out]
            rfl
          rw [hsip]
          rfl
end Go.Proofs.Ytgbdkleckmilkaa
