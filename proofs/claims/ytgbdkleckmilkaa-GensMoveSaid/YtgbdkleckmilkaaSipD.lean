/- SipHash's sum. -/
import Derived.Test.YtgbdkleckmilkaaSipC
namespace Go.Proofs.Ytgbdkleckmilkaa
open Go.RowKit
set_option linter.unusedVariables false
set_option linter.unusedSimpArgs false

/-- A part of a block of bytes, as a slice. -/
theorem SlI.block {w : World} {K : Nat} {t : TypeId} {l : List Int} (h : Obj1 w K (bys l).toArray t) (hb : ∀ x ∈ l, 0 ≤ x ∧ x ≤ 255) (i m c : Nat) (hm : i + m ≤ l.length) (hc : m ≤ c) (hc2 : c ≤ 9223372036854775807) :
    SlI .u8 w (some ⟨K, i, none⟩) m c ((l.drop i).take m) := by
  refine ⟨by simp; omega, hc, hc2, fun j v hj => ⟨_, rfl, ?_⟩, fun x hx => ?_⟩
  · have hb2 : (⟨K, i, none⟩ : Addr).add j = ⟨K, i + j, none⟩ := by unfold Addr.add; split <;> simp_all
    rw [hb2, h.cell]
    rw [List.getElem?_map, Option.map_eq_some_iff] at hj
    obtain ⟨y, hy, rfl⟩ := hj
    rw [List.getElem?_take] at hy
    split at hy
    · rw [List.getElem?_drop] at hy
      simp [bys, hy]
    · cases hy
  · have := hb x (List.mem_of_mem_drop (List.mem_of_mem_take hx))
    simp only [Lit.wf, IntKind.min, IntKind.max, IntKind.signed, IntKind.bits, Bool.and_eq_true, decide_eq_true_eq]
    simp
    omega

theorem SlI.drewN {k : IntKind} {w : World} {A : Option Addr} {n c : Nat} {l : List Int} (h : SlI k w A n c l) (q : Nat) : SlI k (w.drewN q) A n c l := h
theorem SlI.take {k : IntKind} {w : World} {A : Option Addr} {n c : Nat} {l : List Int} (h : SlI k w A n c l) (m : Nat) (hm : m ≤ n) : SlI k w A m c (l.take m) := by
  refine ⟨by rw [List.length_take, h.1]; omega, Nat.le_trans hm h.2.1, h.2.2.1, ?_, fun x hx => h.2.2.2.2 x (List.mem_of_mem_take hx)⟩
  rw [List.map_take]
  exact h.2.2.2.1.take m
theorem SlI.upd {w W : World} {k : IntKind} {A : Option Addr} {n c D : Nat} {ks : List Int} (h : SlI k w A n c ks) (hu : Upd D w W) (hne : ∀ ad, A = some ad → ad.block ≠ D) : SlI k W A n c ks :=
  ⟨h.1, h.2.1, h.2.2.1, h.2.2.2.1.upd hu hne, h.2.2.2.2⟩
/-- xs[8:], where the new slice begins under a name of its own. -/
theorem cut8 {A : Option Addr} {n c : Nat} (hm : 8 ≤ n) (hnc : n ≤ c) :
    ∃ A' : Option Addr, (∀ W : World, (Instr.slice 23 (.slice A n c) (some (.int .i64 8)) none none).run Try.prog W = .ok (.slice A' (n - 8) (c - 8)) W) ∧
      (∀ (w : World) (l : List Int), SlI .u8 w A n c l → SlI .u8 w A' (n - 8) (c - 8) (l.drop 8)) ∧ ∀ (p : Addr → Prop), (∀ ad, p ad → p (ad.add 8)) → (∀ ad, A = some ad → p ad) → ∀ ad, A' = some ad → p ad := by
  refine ⟨if c = 8 then A else A.map (·.add 8), fun W => ?_, fun w l h => ?_, fun p hp hA ad e => ?_⟩
  · have hel : Try.prog.elem 23 = 5 := by simp [Program.elem, Try.underlying23]
    have hu : Try.prog.underlying 23 = some (.slice (Try.prog.elem 23)) := by rw [hel]; exact Try.underlying23
    have hi : (Try.prog.info? 5).map (fun i => (i.zero, i.size, i.bytes)) = some (some (.int .u8 0), 1, 1) := rfl
    obtain ⟨i0, hi0, hzz⟩ := Option.map_eq_some_iff.1 hi
    simp only [Prod.mk.injEq] at hzz
    have := run_slice_l W 23 A n c hu .i64 8 (by omega) (by omega)
    rw [this, hel]
    simp [sizeOf, typeInfo, hi0, hzz.2.1, sliced, Result.andThen]
  · obtain ⟨h1, h2, h3, h4, h5⟩ := h
    refine ⟨by rw [List.length_drop, h1], by omega, by omega, ?_, fun x hx => h5 x (List.mem_of_mem_drop hx)⟩
    rw [List.map_drop]
    split
    · have : n = 8 := by omega
      subst this
      rw [List.drop_of_length_le (by simp [h1])]
      exact Rd.nil _ _
    · exact h4.drop 8
  · split at e
    · exact hA ad e
    · obtain ⟨x, hx, rfl⟩ := Option.map_eq_some_iff.1 e
      exact hp x (hA x hx)
theorem numU_take (l : List Int) (m : Nat) : ∀ k, k ≤ m → numU (l.take m) k = numU l k := fun k hk => numU_congr _ _ k fun i hi => by
  unfold nth
  rw [List.getD_eq_getElem?_getD, List.getD_eq_getElem?_getD, List.getElem?_take, if_pos (by omega)]

def slLen : Value → Nat
  | .slice _ n _ => n
  | _ => 0
theorem add_block (ad : Addr) (j : Nat) : (ad.add j).block = ad.block := by unfold Addr.add; split <;> rfl

set_option maxRecDepth 100000 in
set_option maxHeartbeats 2000000 in
theorem sum_w (key : List Int) (hk : key.length = 16) (hkb : ∀ x ∈ key, 0 ≤ x ∧ x ≤ 255) (A : Option Addr) (n c : Nat) (ls : List (List Int)) (L : Nat) (hL : ls.flatten.length = L) (hT : L ≤ 1000000000) (w : World) (h : SlSl w A n c ls) :
    Calls Try.prog 15 #[.agg (bys key).toArray, .slice A n c] w fun e w' => e = .returned (.int .u64 (uv (sipU key ls.flatten))) ∧ Below w.heap.size w w' := by
  have H := Lib.hid h
  have hO := Obj1.new w (bys key).toArray 22
  have hb0 := bl_alloc (Below.refl w.heap.size w) (.cells (bys key).toArray 22)
  have s1 := SlI.block hO hkb 0 8 16 (by omega) (by omega) (by omega)
  have s2 := SlI.block hO hkb 8 8 8 (by omega) (by omega) (by omega)
  have HS1 := Lib.hid s1
  have HS2 := Lib.hid s2
  have HB0 := Lib.hid hb0
  have HL := Lib.hid hL
  clear h hO hb0 s1 s2 hL
  go_enter Try.func15, Try.ntmps15
  go_wp2_with fail
  go_quiet ((first | (with_reducible (change Calls _ _ #[Value.slice _ 8 16] _ _); exact quiet_left (number_w (some ⟨w.heap.size, 0, none⟩) 8 16 _ (by omega) _ (HS1.out.drewN _))) | exact quiet_left (number_w (some ⟨w.heap.size, 8, none⟩) 8 8 _ (by omega) _ (HS2.out.drewN _))))
  go_wp2_with fail
  generalize hW0 : World.alloc (World.drewN _ nq) _ = W0
  have e1 : (World.drewN (w.alloc (.cells (bys key).toArray 22)) nq).heap.size = w.heap.size + 1 := by simp
  obtain ⟨k0, hk0⟩ : ∃ k0, numU key 8 = k0 := ⟨_, rfl⟩
  obtain ⟨k1, hk1⟩ : ∃ k1, numU (key.drop 8) 8 = k1 := ⟨_, rfl⟩
  have x1 : bits .xor .u64 (uv k0) 8317987319222330741 = uv (k0 ^^^ 0x736f6d6570736575) := xor_uv k0 0x736f6d6570736575
  have x2 : bits .xor .u64 (uv k1) 7237128888997146477 = uv (k1 ^^^ 0x646f72616e646f6d) := xor_uv k1 0x646f72616e646f6d
  have x3 : bits .xor .u64 (uv k0) 7816392313619706465 = uv (k0 ^^^ 0x6c7967656e657261) := xor_uv k0 0x6c7967656e657261
  have x4 : bits .xor .u64 (uv k1) 8387220255154660723 = uv (k1 ^^^ 0x7465646279746573) := xor_uv k1 0x7465646279746573
  have hO : Obj1 W0 (w.heap.size + 1) (ssC (initS k0 k1)) 66 := by
    rw [← hW0, ← e1]
    have h := Obj1.new (World.drewN (w.alloc (.cells (bys key).toArray 22)) nq) (ssC (initS k0 k1)) 66
    unfold ssC s4 initS at h ⊢
    rw [numU_take key 8 8 (Nat.le_refl _), numU_take (key.drop 8) 8 8 (Nat.le_refl _), hk0, hk1, x1, x2, x3, x4]
    exact h
  have hB : Below w.heap.size w W0 := by rw [← hW0]; exact bl_alloc (bl_drewN HB0.out nq) _
  have HO := Lib.hid hO
  have HB := Lib.hid hB
  have HK0 := Lib.hid hk0
  have HK1 := Lib.hid hk1
  have hSW : w.heap.size + 1 < W0.heap.size := hO.lt
  clear hW0 e1 x1 x2 x3 x4 hO hB hk0 hk1
  obtain ⟨S, hS⟩ : ∃ S, S = w.heap.size + 1 := ⟨_, rfl⟩
  rw [← hS] at HO hSW ⊢
  have hwS : w.heap.size ≤ S := by omega
  clear hS HS1 HS2
  refine (concat_w A n c ls L HL.out hT W0 (H.out.below HB.out)).mono ?_
  rintro e w3 ⟨A', c', rfl, hsl, hblk, hb3⟩
  have hne : ∀ ad, A' = some ad → ad.block ≠ S := fun ad e => by have := hblk ad e; omega
  have HNE := Lib.hid hne
  have HSL := Lib.hid hsl
  have HO3 := Lib.hid (HO.out.below hb3)
  have HB3 := Lib.hid (bl_next HB.out hb3)
  clear hne hsl hblk hb3
  obtain ⟨all, hall⟩ : ∃ all, ls.flatten = all := ⟨_, rfl⟩
  rw [hall] at HSL HL
  have HALL := Lib.hid hall
  clear hall
  go_wp2_with fail
  go_loopw [8] (fun v wr => ∃ (i r : Nat) (A1 : Option Addr) (c1 : Nat), r + 8 * i = L ∧ v = .slice A1 r c1 ∧ SlI .u8 wr A1 r c1 (all.drop (8 * i)) ∧ (∀ ad, A1 = some ad → ad.block ≠ S) ∧ Obj1 wr S (ssC (words all i (initS k0 k1))) 66 ∧ Upd S w3 wr) (fun v _ => slLen v)
  case atStart => exact ⟨0, L, A', c', by omega, rfl, HSL.out, HNE.out, HO3.out, Upd.refl _ _⟩
  case round =>
    obtain ⟨i, r, A1, c1, hir, rfl, hsl1, hne1, hobj, hupd⟩ := hrel
    have hrc : r ≤ c1 := hsl1.2.1
    have hcb : c1 ≤ 9223372036854775807 := hsl1.2.2.1
    have HSL1 := Lib.hid hsl1
    have HNE1 := Lib.hid hne1
    have HO1 := Lib.hid hobj
    have HU1 := Lib.hid hupd
    have HIR := Lib.hid hir
    clear hsl1 hne1 hobj hupd hir
    by_cases h8 : 8 ≤ r
    · have h8' : (8 : Int) ≤ (r : Int) := by omega
      obtain ⟨A2, hcut, hcsl, hcne⟩ := cut8 (A := A1) h8 hrc
      have HCSL := Lib.hid hcsl
      have HCNE := Lib.hid hcne
      have h8c : (8 : Int) ≤ (c1 : Int) := by omega
      clear hcsl hcne
      go_wp2_with fail
      refine (number_w A1 8 c1 _ (by omega) _ (HSL1.out.take 8 h8)).mono ?_
      rintro e w' ⟨rfl, rfl⟩
      go_wp2_with fail
      refine (word_w S _ _ _ HO1.out).mono ?_
      rintro e w5 ⟨rfl, ho5, hu5⟩
      have HO5 := Lib.hid ho5
      have HU5 := Lib.hid hu5
      clear ho5 hu5
      go_wp2_with fail
      go_roundw
      case rel =>
        refine ⟨i + 1, r - 8, A2, c1 - 8, by have := HIR.out; omega, rfl, ?_, HCNE.out (fun ad => ad.block ≠ S) (fun ad h => by rw [add_block]; exact h) HNE1.out, ?_, HU1.out.trans HU5.out⟩
        · have h := HCSL.out _ _ (HSL1.out.upd HU5.out HNE1.out)
          rw [List.drop_drop] at h
          rw [show 8 * (i + 1) = 8 * i + 8 by omega]
          exact h
        · have h := HO5.out
          rw [numU_take _ 8 8 (Nat.le_refl _)] at h
          exact h
      case measure => simp [slLen]; omega
    · have h8' : ¬ (8 : Int) ≤ (r : Int) := by omega
      go_wp2_with fail
      have b1 : IntKind.u64.wrap (L : Int) = uv (BitVec.ofNat 64 L) := by
        rw [wrap_u64]
        unfold uv
        rw [BitVec.toNat_ofNat]
        omega
      have b2 : IntKind.u64.wrap (uv (BitVec.ofNat 64 L) * 72057594037927936) = uv (BitVec.ofNat 64 L <<< 56) := shl_uv _ 56
      have b3 := or_uv (numU (all.drop (8 * i)) r) (BitVec.ofNat 64 L <<< 56)
      have hlast : numU (all.drop (8 * i)) r ||| BitVec.ofNat 64 L <<< 56 = lastU all := by
        have h1 := HIR.out
        unfold lastU
        rw [HL.out, show L / 8 = i by omega, show L % 8 = r by omega]
      rw [hlast] at b3
      have hi : L / 8 = i := by have := HIR.out; omega
      have HI := Lib.hid hi
      have HLAST := Lib.hid hlast
      clear hlast hi
      refine (number_w A1 r c1 _ (by omega) _ HSL1.out).mono ?_
      rintro e w' ⟨rfl, rfl⟩
      go_wp2_with fail
      refine (word_w S _ (lastU all) _ HO1.out).mono ?_
      rintro e w5 ⟨rfl, ho5, hu5⟩
      obtain ⟨t, ht⟩ : ∃ t, wordS (lastU all) (words all i (initS k0 k1)) = t := ⟨_, rfl⟩
      rw [ht] at ho5
      obtain ⟨a, b, c2, d⟩ := t
      have q2 : w5.cell? ⟨S, 2, none⟩ = some (.int .u64 (uv c2)) := ho5.cell 2
      have q4 : w5.frozen? ⟨S, 2, none⟩ = false := ho5.free 2
      have x5 : bits .xor .u64 (uv c2) 255 = uv (c2 ^^^ 0xff) := xor_uv c2 0xff
      have HO5 := Lib.hid ho5
      have HU5 := Lib.hid (HU1.out.trans hu5)
      have HT := Lib.hid ht
      clear ho5 hu5 ht b1 b2 b3
      go_wp2_with fail
      refine (round_w S ⟨a, b, c2 ^^^ 0xff, d⟩ 4 4 rfl (by omega) _ (HO5.out.set 2 (.int .u64 (uv (c2 ^^^ 0xff))))).mono ?_
      rintro e w6 ⟨rfl, ho6, hu6⟩
      have HU6 := Lib.hid ((HU5.out.set 2 (.int .u64 (uv (c2 ^^^ 0xff)))).trans hu6)
      obtain ⟨u, hu⟩ : ∃ u, rnds 4 (SS.mk a b (c2 ^^^ 0xff) d) = u := ⟨_, rfl⟩
      rw [hu] at ho6
      obtain ⟨a1, b1, c1', d1⟩ := u
      have p0 : w6.cell? ⟨S, 0, none⟩ = some (.int .u64 (uv a1)) := ho6.cell 0
      have p1 : w6.cell? ⟨S, 1, none⟩ = some (.int .u64 (uv b1)) := ho6.cell 1
      have p2 : w6.cell? ⟨S, 2, none⟩ = some (.int .u64 (uv c1')) := ho6.cell 2
      have p3 : w6.cell? ⟨S, 3, none⟩ = some (.int .u64 (uv d1)) := ho6.cell 3
      have HUU := Lib.hid hu
      clear ho6 hu6 hu q2 q4 x5
      go_wp2_with fail
      go_quiet (fail)
      go_wp2
      go_ret
      refine ⟨?_, bl_drewN (bl_upd HB3.out HU6.out hwS) _⟩
      rw [xor_uv, xor_uv, xor_uv]
      have hsip : sipU key ls.flatten = a1 ^^^ b1 ^^^ c1' ^^^ d1 := by
        rw [HALL.out]
        unfold sipU
        rw [HK0.out, HK1.out, HL.out, HI.out, HT.out]
        show outS (rnds 4 (SS.mk a b (c2 ^^^ 0xff) d)) = _
        rw [HUU.out]
        rfl
      rw [hsip]
      rfl
end Go.Proofs.Ytgbdkleckmilkaa
