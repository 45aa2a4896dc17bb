/- MN: MwG MwH MwI MwJ MwK. -/
import Derived.Test.YtpjlepkdiaohiaaGreatDoorBMM
import Derived.Test.YtpjlepkdiaohiaaGreatDoorBMG
import Derived.Test.YtpjlepkdiaohiaaGreatDoorBMJ
import Derived.Test.YtpjlepkdiaohiaaGreatDoorBMC
import Derived.Test.YtpjlepkdiaohiaaGreatDoorBMH
import Derived.Test.YtpjlepkdiaohiaaGreatDoorBML
import Derived.Test.YtpjlepkdiaohiaaGreatDoorBMI
namespace Go.Proofs.YtpjlepkdiaohiaaGreatDoor
open Go.RowKit
attribute [local go_sem] Oper.semAt_some

def LeafC (F : Nat) (p : Pay) (k : Nat) (hd : List UInt8) : Prop := ∀ (a : Option Addr) (n c : Nat) (b : Nat) (l : List UInt8) (w : World), Tabs w → Wr w b l → l.length + 1000 ≤ 140737488355328 → n = k →
  Calls Tryz.prog F #[.pointer (some ⟨b, 0, none⟩), ndV p (.slice a n c)] w fun e w' => e = .returned (.tuple #[]) ∧ Wr w' b (l ++ hd) ∧ WrK b w w'

theorem wbyte_at {w : World} {b : Nat} {l : List UInt8} (h : Wr w b l) (hlen : l.length + 1000 ≤ 140737488355328) (xs : List Value) (c : UInt8) (z : Int) (hz : z = (c.toNat : Nat)) :
    Calls Tryz.prog 113 #[.pointer (some ⟨b, 0, none⟩), .slice (some ⟨w.heap.size + 1, 0, none⟩) 1 1] ((w.alloc (.cells xs.toArray 27)).alloc (.cells #[.int .u8 z] 5)) fun e w' => e = .returned (.tuple #[]) ∧ Wr w' b (l ++ [c]) ∧ WrK b w w' := by
  have hA := (below_alloc w (.cells xs.toArray 27)).alloc (by simp) (.cells #[.int .u8 z] 5)
  have hC := Cls.new (w.alloc (.cells xs.toArray 27)) 5 [.int .u8 z]
  rw [World.size_alloc] at hC
  refine (bytes_calls b l c z hz (w.heap.size + 1) _ (h.up hA) hC (by omega)).mono ?_
  rintro e w' ⟨rfl, h1, h2⟩
  exact ⟨rfl, h1, (WrK.of_below hA (Nat.le_of_lt (wr_lt h))).trans h2⟩

set_option maxRecDepth 100000 in
set_option maxHeartbeats 4000000 in
theorem null_calls (p : Pay) (k : Nat) : LeafC 62 p k [192] := by
  intro a n c b l w hT h hlen hn
  have hby := wbyte_at h hlen (ndL p (.slice a n c)) 192 192 rfl
  clear h hlen hn hT
  unfold ndV
  simp only [ndL] at hby ⊢
  go_enter Tryz.func62, Tryz.ntmps62
  go_wp2_with fail
  refine hby.mono ?_
  rintro e w1 ⟨rfl, h1, hk1⟩
  have HY := hid (And.intro h1 hk1)
  clear hby h1 hk1
  go_wp2
  go_end0
  exact ⟨rfl, HY.out⟩

set_option maxRecDepth 100000 in
set_option maxHeartbeats 4000000 in
theorem truth_calls (p : Pay) (k : Nat) : LeafC 63 p k [if p.b then 195 else 194] := by
  intro a n c b l w hT h hlen hn
  have hby := fun x z hz => wbyte_at h hlen (ndL p (.slice a n c)) x z hz
  have hC := Cls.new w 27 (ndL p (.slice a n c))
  obtain ⟨y0, y1, y2, y3, y4, y5, y6, y7, y8⟩ := hC.nine
  obtain ⟨pk, pb, pn, dg, ex, u, wd, s⟩ := p
  dsimp only at hby y0 y1 y2 y3 y4 y5 y6 y7 y8 ⊢
  clear h hlen hn hT hC
  cases pb with
  | false =>
    have hby := hby 194 194 rfl
    rw [show (if false = true then (195 : UInt8) else 194) = 194 from rfl]
    unfold ndV
    simp only [ndL] at hby y0 y1 y2 y3 y4 y5 y6 y7 y8 ⊢
    go_enter Tryz.func63, Tryz.ntmps63
    go_wp2_with fail
    refine hby.mono ?_
    rintro e w1 ⟨rfl, h1, hk1⟩
    have HY := hid (And.intro h1 hk1)
    clear hby h1 hk1 y0 y1 y2 y3 y4 y5 y6 y7 y8
    go_wp2
    go_end0
    exact ⟨rfl, HY.out⟩
  | true =>
    have hby := hby 195 195 rfl
    rw [show (if true = true then (195 : UInt8) else 194) = 195 from rfl]
    unfold ndV
    simp only [ndL] at hby y0 y1 y2 y3 y4 y5 y6 y7 y8 ⊢
    go_enter Tryz.func63, Tryz.ntmps63
    go_wp2_with fail
    refine hby.mono ?_
    rintro e w1 ⟨rfl, h1, hk1⟩
    have HY := hid (And.intro h1 hk1)
    clear hby h1 hk1 y0 y1 y2 y3 y4 y5 y6 y7 y8
    go_wp2
    go_end0
    exact ⟨rfl, HY.out⟩

set_option maxRecDepth 100000 in
set_option maxHeartbeats 4000000 in
theorem float_calls (p : Pay) (k : Nat) (hu : p.u < 18446744073709551616) : LeafC 65 p k (if p.w = 32 then 202 :: beL 4 p.u else 203 :: beL 8 p.u) := by
  intro a n c b l w hT h hlen hn
  have hC := (Cls.new w 27 (ndL p (.slice a n c))).alloc (.cells #[.int .i64 8, .int .i64 203] 149)
  have hbw := wr_lt h
  obtain ⟨y0, y1, y2, y3, y4, y5, y6, y7, y8⟩ := hC.nine
  by_cases hw : p.w = 32
  · have hA := (below_alloc w (.cells (ndL p (.slice a n c)).toArray 27)).alloc (by simp) (.cells #[.int .i64 4, .int .i64 202] 149)
    have hnum := number_calls b l 4 202 p.u (by decide) (by decide) hu _ (h.up hA) (by omega)
    rw [if_pos hw]
    have hz : (p.w == 32) = true := by rw [beq_iff_eq]; exact hw
    have HX := hid (And.intro hA hbw)
    clear h hlen hn hT hC hA hbw hw hu
    unfold ndV
    simp only [ndL] at hnum y0 y1 y2 y3 y4 y5 y6 y7 y8 ⊢
    go_enter Tryz.func65, Tryz.ntmps65
    go_wp2_with fail
    refine hnum.mono ?_
    rintro e w1 ⟨rfl, h1, hk1⟩
    have HY := hid (And.intro h1 hk1)
    clear hnum h1 hk1 y0 y1 y2 y3 y4 y5 y6 y7 y8
    go_wp2
    go_end0
    exact ⟨rfl, HY.out.1, (WrK.of_below HX.out.1 (Nat.le_of_lt HX.out.2)).trans HY.out.2⟩
  · have hA := (below_alloc w (.cells (ndL p (.slice a n c)).toArray 27)).alloc (by simp) (.cells #[.int .i64 8, .int .i64 203] 149)
    have hnum := number_calls b l 8 203 p.u (by decide) (by decide) hu _ (h.up hA) (by omega)
    rw [if_neg hw]
    have hz : (p.w == 32) = false := by rw [beq_eq_false_iff_ne]; exact hw
    have HX := hid (And.intro hA hbw)
    clear h hlen hn hT hC hA hbw hw hu
    unfold ndV
    simp only [ndL] at hnum y0 y1 y2 y3 y4 y5 y6 y7 y8 ⊢
    go_enter Tryz.func65, Tryz.ntmps65
    go_wp2_with fail
    refine hnum.mono ?_
    rintro e w1 ⟨rfl, h1, hk1⟩
    have HY := hid (And.intro h1 hk1)
    clear hnum h1 hk1 y0 y1 y2 y3 y4 y5 y6 y7 y8
    go_wp2
    go_end0
    exact ⟨rfl, HY.out.1, (WrK.of_below HX.out.1 (Nat.le_of_lt HX.out.2)).trans HY.out.2⟩

theorem u64_neg (k : Nat) (h1 : 1 ≤ k) (h : k < 18446744073709551616) : IntKind.u64.wrap (-(k : Int)) = (negN k : Nat) := by
  unfold negN
  rw [IntKind.wrap_u64]
  omega
theorem num_z (z : Z4) (h : z = ⟨208, 209, 210, 211⟩ ∨ z = ⟨204, 205, 206, 207⟩) : (∀ k, z.at k < 256) ∧ 0 ≤ z.a2 ∧ 0 ≤ z.a4 ∧ 0 ≤ z.a8 := by
  rcases h with rfl | rfl
  · refine ⟨fun k => ?_, by decide, by decide, by decide⟩
    unfold Z4.at; split <;> decide
  · refine ⟨fun k => ?_, by decide, by decide, by decide⟩
    unfold Z4.at; split <;> decide
set_option maxRecDepth 100000 in
set_option maxHeartbeats 4000000 in
theorem num_calls (p : Pay) (k : Nat) (hdg : p.dg.size ≤ 200) (hB : tiB p.d = true) (hk64 : tiN p.d < 18446744073709551616) (hneg : p.n = true → 1 ≤ tiN p.d ∧ tiN p.d ≤ 9223372036854775808) : LeafC 64 p k (numE p.n (tiN p.d)) := by
  intro a n c b l w hT h hlen hn
  have hti := fun W hT => toInt_calls p.n p.dg p.ex (by omega) W hT
  rw [show (⟨p.n, tx p.dg, p.ex⟩ : D) = p.d from rfl, hB] at hti
  have hA := below_alloc w (.cells (ndL p (.slice a n c)).toArray 27)
  have hC := Cls.new w 27 (ndL p (.slice a n c))
  have hbw := wr_lt h
  obtain ⟨y0, y1, y2, y3, y4, y5, y6, y7, y8⟩ := hC.nine
  have hti2 := hti _ (hT.below hA)
  obtain ⟨K, hK⟩ : ∃ K, tiN p.d = K := ⟨_, rfl⟩
  rw [hK] at hti2 hk64 hneg ⊢
  clear hti hn hT hC hB hK hdg
  obtain ⟨pk, pb, pn, dg, ex, u, wd, s⟩ := p
  dsimp only at hti2 hA hneg y0 y1 y2 y3 y4 y5 y6 y7 y8 ⊢
  have HX := hid (And.intro hA (And.intro hbw (And.intro h hlen)))
  clear hA hbw h hlen
  cases pn with
  | false =>
    have hpl : numE false K = if K < 128 then [ch K] else sizedE K 204 205 206 207 := rfl
    rw [hpl]
    simp only [Bool.and_false] at hti2
    by_cases hk : K ≤ 127
    · rw [if_pos (by omega)]
      have hd : decide ((K : Int) ≤ 127) = true := decide_eq_true (by omega)
      have hw8 : IntKind.u8.wrap (K : Int) = (K : Int) := IntWalk.u8_in _ (by omega)
      have hk8 := hid (show K < 256 by omega)
      clear hneg hk64 hk
      unfold ndV
      simp only [ndL] at hti2 y0 y1 y2 y3 y4 y5 y6 y7 y8 ⊢
      go_enter Tryz.func64, Tryz.ntmps64
      go_wp2_with fail
      refine hti2.mono ?_
      rintro e w1 ⟨rfl, hb1⟩
      obtain ⟨hA, hbw, h, hlen⟩ := HX.out
      have h1 := (h.up hA).up hb1
      have hby := bytes_calls b l (ch K) (K : Int) (by rw [ch_toNat hk8.out]) w1.heap.size _ (h1.alloc (.cells #[.int .u8 (K : Int)] 5)) (Cls.new w1 5 [.int .u8 (K : Int)]) (by omega)
      have hkk := (WrK.of_below (b := b) (hA.trans (hb1.mono hA.size)) (by omega)).trans (WrK.of_below (below_alloc w1 (.cells #[.int .u8 (K : Int)] 5)) (by have := wr_lt h1; omega))
      have HZ := hid hkk
      clear hti2 hb1 y0 y1 y2 y3 y4 y5 y6 y7 y8 hA hbw h hlen h1 hkk
      go_wp2_with fail
      refine hby.mono ?_
      rintro e w2 ⟨rfl, h2, hk2⟩
      have HV := hid (And.intro h2 hk2)
      clear hby h2 hk2
      go_wp2
      go_end0
      exact ⟨rfl, HV.out.1, HZ.out.trans HV.out.2⟩
    · rw [if_neg (by omega)]
      have hd : decide ((K : Int) ≤ 127) = false := decide_eq_false (by omega)
      have hd2 : (127 : Int) < (K : Int) := by omega
      have hkb := hid (And.intro hk64 hk)
      clear hneg hk64 hk
      unfold ndV
      simp only [ndL] at hti2 y0 y1 y2 y3 y4 y5 y6 y7 y8 ⊢
      go_enter Tryz.func64, Tryz.ntmps64
      go_wp2_with fail
      refine hti2.mono ?_
      rintro e w1 ⟨rfl, hb1⟩
      obtain ⟨hA, hbw, h, hlen⟩ := HX.out
      have HZ := hid (And.intro ((h.up hA).up hb1) (And.intro (hA.trans (hb1.mono hA.size)) (And.intro hbw hlen)))
      clear hti2 hb1 y0 y1 y2 y3 y4 y5 y6 y7 y8 hA hbw h hlen
      go_wp2_with fail
      refine (sizes_calls 204 205 206 207 _).mono ?_
      rintro e w2 ⟨rfl, hb2⟩
      obtain ⟨h1, hB1, hbw, hlen⟩ := HZ.out
      obtain ⟨z1, z2, z3, z4⟩ := num_z ⟨204, 205, 206, 207⟩ (.inr rfl)
      have hle := wleast_calls ⟨204, 205, 206, 207⟩ z1 K hkb.out.1 false (fun h => by cases h) K rfl b l w2 (h1.up hb2) (by omega)
      rw [least_u _ K z2 z3 (.inr ⟨z4, hkb.out.1⟩)] at hle
      have hkk := WrK.of_below (b := b) (hB1.trans (hb2.mono hB1.size)) (by omega)
      have HV := hid hkk
      clear hb2 h1 hB1 hbw hlen z1 z2 z3 z4 hkk
      simp only [Z4.val, Z4.cells] at hle
      go_wp2_with fail
      refine hle.mono ?_
      rintro e w3 ⟨rfl, h3, hk3⟩
      have HU := hid (And.intro h3 hk3)
      clear hle h3 hk3
      go_wp2
      go_end0
      exact ⟨rfl, HU.out.1, HV.out.trans HU.out.2⟩
  | true =>
    have hpl : numE true K = minusE K := rfl
    rw [hpl]
    simp only [Bool.and_true] at hti2
    obtain ⟨hn1, hn2⟩ := hneg rfl
    have hu := u64_neg K hn1 hk64
    by_cases hk : K ≤ 32
    · have hr : minusE K = [ch (256 - K)] := by unfold minusE; rw [if_pos hk]
      rw [hr]
      obtain ⟨J, hJ⟩ : ∃ J, 256 - K = J := ⟨_, rfl⟩
      have hJ8 : J < 256 := by omega
      have hand : bits .and .u64 ((negN K : Nat) : Int) 255 = (J : Int) := by
        rw [and_mask (n := 8) (by unfold negN; omega) 255 rfl (by decide)]
        unfold negN
        rw [show (18446744073709551616 - K) % 2 ^ 8 = J by omega]
      have hmod : (J : Int) % 256 = (J : Int) := by omega
      rw [hJ]
      clear hJ
      have hd : decide ((K : Int) ≤ 32) = true := decide_eq_true (by omega)
      have hk8 := hid hJ8
      have hn3 : 1 ≤ (K : Int) := by omega
      clear hneg hk64 hk hn1 hn2 hr hJ8
      unfold ndV
      simp only [ndL] at hti2 y0 y1 y2 y3 y4 y5 y6 y7 y8 ⊢
      go_enter Tryz.func64, Tryz.ntmps64
      go_wp2_with fail
      refine hti2.mono ?_
      rintro e w1 ⟨rfl, hb1⟩
      obtain ⟨hA, hbw, h, hlen⟩ := HX.out
      have h1 := (h.up hA).up hb1
      have hby := bytes_calls b l (ch J) (J : Int) (by rw [ch_toNat hk8.out]) w1.heap.size _ (h1.alloc (.cells #[.int .u8 (J : Int)] 5)) (Cls.new w1 5 [.int .u8 (J : Int)]) (by omega)
      have hkk := (WrK.of_below (b := b) (hA.trans (hb1.mono hA.size)) (by omega)).trans (WrK.of_below (below_alloc w1 (.cells #[.int .u8 (J : Int)] 5)) (by have := wr_lt h1; omega))
      have HZ := hid hkk
      clear hti2 hb1 y0 y1 y2 y3 y4 y5 y6 y7 y8 hA hbw h hlen h1 hkk
      go_wp2_with fail
      refine hby.mono ?_
      rintro e w2 ⟨rfl, h2, hk2⟩
      have HV := hid (And.intro h2 hk2)
      clear hby h2 hk2
      go_wp2
      go_end0
      exact ⟨rfl, HV.out.1, HZ.out.trans HV.out.2⟩
    · have hr : minusE K = leastZ ⟨208, 209, 210, 211⟩ K true (negN K) := (least_s K (by omega) hn2).symm
      rw [hr]
      have hd : decide ((K : Int) ≤ 32) = false := decide_eq_false (by omega)
      have hd2 : (32 : Int) < (K : Int) := by omega
      have hkb := hid (And.intro hk64 hn1)
      clear hneg hk64 hk hn1 hn2 hr hu
      unfold ndV
      simp only [ndL] at hti2 y0 y1 y2 y3 y4 y5 y6 y7 y8 ⊢
      go_enter Tryz.func64, Tryz.ntmps64
      go_wp2_with fail
      refine hti2.mono ?_
      rintro e w1 ⟨rfl, hb1⟩
      obtain ⟨hA, hbw, h, hlen⟩ := HX.out
      have HZ := hid (And.intro ((h.up hA).up hb1) (And.intro (hA.trans (hb1.mono hA.size)) (And.intro hbw hlen)))
      clear hti2 hb1 y0 y1 y2 y3 y4 y5 y6 y7 y8 hA hbw h hlen
      go_wp2_with fail
      refine (sizes_calls 208 209 210 211 _).mono ?_
      rintro e w2 ⟨rfl, hb2⟩
      obtain ⟨h1, hB1, hbw, hlen⟩ := HZ.out
      obtain ⟨z1, z2, z3, z4⟩ := num_z ⟨208, 209, 210, 211⟩ (.inl rfl)
      have hle := wleast_calls ⟨208, 209, 210, 211⟩ z1 K hkb.out.1 true (fun _ => hkb.out.2) (negN K) rfl b l w2 (h1.up hb2) (by omega)
      have hkk := WrK.of_below (b := b) (hB1.trans (hb2.mono hB1.size)) (by omega)
      have HV := hid hkk
      clear hb2 h1 hB1 hbw hlen z1 z2 z3 z4 hkk
      simp only [Z4.val, Z4.cells] at hle
      go_wp2_with fail
      refine hle.mono ?_
      rintro e w3 ⟨rfl, h3, hk3⟩
      have HU := hid (And.intro h3 hk3)
      clear hle h3 hk3
      go_wp2
      go_end0
      exact ⟨rfl, HU.out.1, HV.out.trans HU.out.2⟩
end Go.Proofs.YtpjlepkdiaohiaaGreatDoor

namespace Go.Proofs.YtpjlepkdiaohiaaGreatDoor
open Go.RowKit
attribute [local go_sem] Oper.semAt_some

theorem Wr.same {A B : World} {b : Nat} {l : List UInt8} (h : Wr A b l) (e : B.heap = A.heap) : Wr B b l := CellsKept.builder (fun k c t fz hk => by rw [e]; exact hk) h
theorem WrK.same {A A' B : World} {b : Nat} (h : WrK b A' B) (e : A'.heap = A.heap) (e2 : A'.os = A.os) (e3 : A'.tape = A.tape) (e4 : A'.output = A.output) : WrK b A B :=
  ⟨(show Below b A A' from ⟨e2, e3, e4, by rw [e]; exact Nat.le_refl _, fun k _ => by rw [e]⟩).trans h.below, fun k o hk h1 h2 => h.oth k o (by rw [e]; exact hk) h1 h2⟩
theorem sizedE_a8 {n : Nat} {a1 : Int} {a2 a4 a8 b8 : Nat} (h : n < 4294967296) : sizedE n a1 a2 a4 a8 = sizedE n a1 a2 a4 b8 := by
  unfold sizedE; rw [if_pos h, if_pos h]
theorem z_cases {a1 a2 a4 a8 : Int} (h1 : a1 < 256) (h2 : a2 < 256) (h4 : a4 < 256) (h8 : a8 < 256) : ∀ k, (⟨a1, a2, a4, a8⟩ : Z4).at k < 256 := fun k => by
  unfold Z4.at; split <;> assumption

theorem txtE_len (m : Nat) (hm : m < 4294967296) : lenZ m 32 160 ⟨217, 218, 219, -1⟩ = txtE m := by
  unfold lenZ txtE
  split
  · rfl
  · exact sizedE_a8 hm
set_option maxRecDepth 100000 in
set_option maxHeartbeats 4000000 in
theorem wtext_calls (p : Pay) (k : Nat) (hs : p.s.size ≤ 400) : LeafC 66 p k (txtE p.s.size ++ tx p.s) := by
  intro a n c b l w hT h hlen hn
  have hA := below_alloc w (.cells (ndL p (.slice a n c)).toArray 27)
  have hC := Cls.new w 27 (ndL p (.slice a n c))
  have hbw := wr_lt h
  obtain ⟨y0, y1, y2, y3, y4, y5, y6, y7, y8⟩ := hC.nine
  have hln := fun W hW => length_calls ⟨217, 218, 219, -1⟩ (z_cases (by decide) (by decide) (by decide) (by decide)) (by decide : (0 : Int) ≤ 218) (by decide : (0 : Int) ≤ 219) p.s.size 32 160 (by omega) (by decide) b l W hW (by omega)
  rw [txtE_len p.s.size (by omega)] at hln
  have h0 := h.up hA
  have hlt := hC.lt
  have hws := fun W hW => wrS b (l ++ txtE p.s.size) p.s W hW (by rw [List.length_append, ← txtE_len p.s.size (by omega)]; have := lenZ_le p.s.size 32 160 ⟨217, 218, 219, -1⟩; omega)
  have HA := hid (And.intro hA hbw)
  obtain ⟨W0, hW0⟩ : ∃ W0, w.alloc (.cells (ndL p (.slice a n c)).toArray 27) = W0 := ⟨_, rfl⟩
  rw [hW0] at hC h0 hlt HA
  have HX := hid (And.intro hC (And.intro h0 hlt))
  clear h hlen hn hT hA hC h0 hlt hbw hs
  obtain ⟨E, hE⟩ : ∃ E, txtE p.s.size = E := ⟨_, rfl⟩
  rw [hE] at hln hws ⊢
  clear hE
  unfold ndV
  simp only [ndL, Z4.val, Z4.cells] at hln hws hW0 y0 y1 y2 y3 y4 y5 y6 y7 y8 ⊢
  rw [hW0] at y0 y1 y2 y3 y4 y5 y6 y7 y8
  go_enter Tryz.func66, Tryz.ntmps66
  go_wp2_with fail
  clear hW0
  go_region_with (first
    | (go_at_call 115; go_loud (refine (sizes_calls 217 218 219 (-1) _).mono ?_; rintro e w4 ⟨rfl, hb4⟩; have hC4 : Cls w4 w.heap.size 27 (ndL p (.slice a n c)) := (hb4.block w.heap.size HX.out.2.2).trans HX.out.1; have h4 : Wr w4 b l := Wr.up (show Wr W0.drew b l from HX.out.2.1) hb4; have HB4 := hid hb4; clear hb4; have e7 := hC4.cell 7 rfl))
    | (go_at_call 117; refine (hln _ (by first | exact h4 | exact (show Wr _ b l from h4))).mono ?_; rintro e w5 ⟨rfl, h5, hk5⟩; have e7 := (cls_oth (WrK.oth hk5) (show Cls _ w.heap.size 27 (ndL p (.slice a n c)) from hC4) (by decide) (by have := HA.out.2; omega)).cell 7 rfl))
  all_goals (
    clear y0 y1 y2 y3 y4 y5 y6 y7 y8
    have hb04 : Below w.heap.size w w4 := HA.out.1.trans (((Below.refl W0.heap.size W0).drew.trans HB4.out).mono HA.out.1.size)
    have hk05 : WrK b w w5 := (WrK.of_below hb04 (Nat.le_of_lt HA.out.2)).trans hk5
    have HV := hid (And.intro h5 hk05)
    clear hb04 hk05 h5 hk5 hC4 h4 HB4 hln
    go_wp2
    go_region_with (go_at_call 118; refine (hws (World.drew w5) (show Wr (World.drew w5) b (l ++ E) from HV.out.1)).mono ?_; rintro e w6 ⟨rfl, h6, hk6⟩)
    all_goals (
      have HU := hid (And.intro h6 (HV.out.2.trans (WrK.same hk6 rfl rfl rfl rfl)))
      clear hws h6 hk6
      go_wp2
      go_end0
      exact ⟨rfl, by rw [← List.append_assoc]; exact HU.out.1, HU.out.2⟩))

theorem binE_len (m : Nat) (hm : m < 4294967296) : lenZ m 0 0 ⟨196, 197, 198, -1⟩ = binE m := by
  unfold lenZ binE
  rw [if_neg (by omega)]
  exact sizedE_a8 hm
set_option maxRecDepth 100000 in
set_option maxHeartbeats 4000000 in
theorem raw_calls (p : Pay) (k : Nat) (hs : p.s.size ≤ 400) : LeafC 67 p k (binE p.s.size ++ tx p.s) := by
  intro a n c b l w hT h hlen hn
  have hA := below_alloc w (.cells (ndL p (.slice a n c)).toArray 27)
  have hC := Cls.new w 27 (ndL p (.slice a n c))
  have hbw := wr_lt h
  obtain ⟨y0, y1, y2, y3, y4, y5, y6, y7, y8⟩ := hC.nine
  have hln := fun W hW => length_calls ⟨196, 197, 198, -1⟩ (z_cases (by decide) (by decide) (by decide) (by decide)) (by decide : (0 : Int) ≤ 197) (by decide : (0 : Int) ≤ 198) p.s.size 0 0 (by omega) (by decide) b l W hW (by omega)
  rw [binE_len p.s.size (by omega)] at hln
  have h0 := h.up hA
  have hlt := hC.lt
  have hws := fun W hW => wrS b (l ++ binE p.s.size) p.s W hW (by rw [List.length_append, ← binE_len p.s.size (by omega)]; have := lenZ_le p.s.size 0 0 ⟨196, 197, 198, -1⟩; omega)
  have HA := hid (And.intro hA hbw)
  obtain ⟨W0, hW0⟩ : ∃ W0, w.alloc (.cells (ndL p (.slice a n c)).toArray 27) = W0 := ⟨_, rfl⟩
  rw [hW0] at hC h0 hlt HA
  have HX := hid (And.intro hC (And.intro h0 hlt))
  clear h hlen hn hT hA hC h0 hlt hbw hs
  obtain ⟨E, hE⟩ : ∃ E, binE p.s.size = E := ⟨_, rfl⟩
  rw [hE] at hln hws ⊢
  clear hE
  unfold ndV
  simp only [ndL, Z4.val, Z4.cells] at hln hws hW0 y0 y1 y2 y3 y4 y5 y6 y7 y8 ⊢
  rw [hW0] at y0 y1 y2 y3 y4 y5 y6 y7 y8
  go_enter Tryz.func67, Tryz.ntmps67
  go_wp2_with fail
  clear hW0
  go_region_with (first
    | (go_at_call 115; go_loud (refine (sizes_calls 196 197 198 (-1) _).mono ?_; rintro e w4 ⟨rfl, hb4⟩; have hC4 : Cls w4 w.heap.size 27 (ndL p (.slice a n c)) := (hb4.block w.heap.size HX.out.2.2).trans HX.out.1; have h4 : Wr w4 b l := Wr.up (show Wr W0.drew b l from HX.out.2.1) hb4; have HB4 := hid hb4; clear hb4; have e7 := hC4.cell 7 rfl))
    | (go_at_call 117; refine (hln _ (by first | exact h4 | exact (show Wr _ b l from h4))).mono ?_; rintro e w5 ⟨rfl, h5, hk5⟩; have e7 := (cls_oth (WrK.oth hk5) (show Cls _ w.heap.size 27 (ndL p (.slice a n c)) from hC4) (by decide) (by have := HA.out.2; omega)).cell 7 rfl))
  all_goals (
    clear y0 y1 y2 y3 y4 y5 y6 y7 y8
    have hb04 : Below w.heap.size w w4 := HA.out.1.trans (((Below.refl W0.heap.size W0).drew.trans HB4.out).mono HA.out.1.size)
    have hk05 : WrK b w w5 := (WrK.of_below hb04 (Nat.le_of_lt HA.out.2)).trans hk5
    have HV := hid (And.intro h5 hk05)
    clear hb04 hk05 h5 hk5 hC4 h4 HB4 hln
    go_wp2
    go_region_with (go_at_call 118; refine (hws (World.drew w5) (show Wr (World.drew w5) b (l ++ E) from HV.out.1)).mono ?_; rintro e w6 ⟨rfl, h6, hk6⟩)
    all_goals (
      have HU := hid (And.intro h6 (HV.out.2.trans (WrK.same hk6 rfl rfl rfl rfl)))
      clear hws h6 hk6
      go_wp2
      go_end0
      exact ⟨rfl, by rw [← List.append_assoc]; exact HU.out.1, HU.out.2⟩))
end Go.Proofs.YtpjlepkdiaohiaaGreatDoor

namespace Go.Proofs.YtpjlepkdiaohiaaGreatDoor
open Go.RowKit
attribute [local go_sem] Oper.semAt_some

def extL : List (Int × Value) := [(1, .int .u8 212), (2, .int .u8 213), (4, .int .u8 214), (8, .int .u8 215), (16, .int .u8 216)]
theorem ext_look (m : Nat) (hm : m < 4294967296) (W : World) (b : Nat) (h : MapI W b extL) :
    (∃ c : Nat, c < 256 ∧ extE m = [ch c] ∧ (Instr.lookup 156 (.map (some b)) (.int .i64 (m : Int)) true).run Tryz.prog W = .ok (.tuple #[.int .u8 (c : Int), .bool true]) W) ∨
    (extE m = lenZ m 0 0 ⟨199, 200, 201, -1⟩ ∧ (Instr.lookup 156 (.map (some b)) (.int .i64 (m : Int)) true).run Tryz.prog W = .ok (.tuple #[.int .u8 0, .bool false]) W) := by
  have hl := run_look (P := Tryz.prog) (t := 156) Tryz.underlying156 Tryz.underlying3 (z := .int .u8 0) (fun w => Tryz.zeroValue5 w) W b extL h (m : Int)
  by_cases h1 : m = 1
  · subst h1; exact .inl ⟨212, by decide, rfl, hl⟩
  by_cases h2 : m = 2
  · subst h2; exact .inl ⟨213, by decide, rfl, hl⟩
  by_cases h3 : m = 4
  · subst h3; exact .inl ⟨214, by decide, rfl, hl⟩
  by_cases h4 : m = 8
  · subst h4; exact .inl ⟨215, by decide, rfl, hl⟩
  by_cases h5 : m = 16
  · subst h5; exact .inl ⟨216, by decide, rfl, hl⟩
  · refine .inr ⟨?_, ?_⟩
    · unfold extE lenZ
      rw [if_neg h1, if_neg h2, if_neg h3, if_neg h4, if_neg h5, if_neg (by omega)]
      exact sizedE_a8 hm
    · have hf : extL.findIdx? (fun p => p.1 == (m : Int)) = none := by
        rw [List.findIdx?_eq_none_iff]
        intro x hx
        rcases List.mem_cons.1 hx with rfl | hx
        · rw [beq_eq_false_iff_ne]; show (1 : Int) ≠ m; omega
        rcases List.mem_cons.1 hx with rfl | hx
        · rw [beq_eq_false_iff_ne]; show (2 : Int) ≠ m; omega
        rcases List.mem_cons.1 hx with rfl | hx
        · rw [beq_eq_false_iff_ne]; show (4 : Int) ≠ m; omega
        rcases List.mem_cons.1 hx with rfl | hx
        · rw [beq_eq_false_iff_ne]; show (8 : Int) ≠ m; omega
        rcases List.mem_cons.1 hx with rfl | hx
        · rw [beq_eq_false_iff_ne]; show (16 : Int) ≠ m; omega
        · cases hx
      rw [hf] at hl
      exact hl

set_option maxRecDepth 100000 in
set_option maxHeartbeats 8000000 in
theorem ext_calls (p : Pay) (k : Nat) (hs : p.s.size ≤ 400) (hu : p.u ≤ 255) : LeafC 70 p k (extE p.s.size ++ (ch p.u :: tx p.s)) := by
  intro a n c b l w hT h hlen hn
  have hA := below_alloc w (.cells (ndL p (.slice a n c)).toArray 27)
  have hC := Cls.new w 27 (ndL p (.slice a n c))
  have hbw := wr_lt h
  have h0 := h.up hA
  have hlt := hC.lt
  obtain ⟨W0, hW0⟩ : ∃ W0, w.alloc (.cells (ndL p (.slice a n c)).toArray 27) = W0 := ⟨_, rfl⟩
  rw [hW0] at hC h0 hlt hA
  have hA1 := below_alloc W0 (mapObj extL)
  have hM := MapI.new W0 extL
  have hC1 := hC.below hA1
  have h1 := h0.up hA1
  have hB1 := hA.trans (hA1.mono hA.size)
  have hmm : (Instr.makeMap 156 none).run Tryz.prog W0 = .ok (.map (some W0.heap.size)) (W0.alloc (mapObj [])) := run_makeMap _ _
  have i1 := run_insert (P := Tryz.prog) (t := 156) Tryz.underlying156 Tryz.underlying3 W0 (extL.take 0) 1 (.int .u8 212) rfl
  have i2 := run_insert (P := Tryz.prog) (t := 156) Tryz.underlying156 Tryz.underlying3 W0 (extL.take 1) 2 (.int .u8 213) rfl
  have i3 := run_insert (P := Tryz.prog) (t := 156) Tryz.underlying156 Tryz.underlying3 W0 (extL.take 2) 4 (.int .u8 214) rfl
  have i4 := run_insert (P := Tryz.prog) (t := 156) Tryz.underlying156 Tryz.underlying3 W0 (extL.take 3) 8 (.int .u8 215) rfl
  have i5 := run_insert (P := Tryz.prog) (t := 156) Tryz.underlying156 Tryz.underlying3 W0 (extL.take 4) 16 (.int .u8 216) rfl
  simp only [extL, List.take_succ_cons, List.take_zero, List.cons_append, List.nil_append] at i1 i2 i3 i4 i5
  obtain ⟨W1, hW1⟩ : ∃ W1, W0.alloc (mapObj extL) = W1 := ⟨_, rfl⟩
  rw [hW1] at hM hC1 h1 hB1
  simp only [extL] at hW1
  rw [hW1] at i5
  obtain ⟨y0, y1, y2, y3, y4, y5, y6, y7, y8⟩ := hC1.nine
  have hlk := ext_look p.s.size (by omega) W1 W0.heap.size hM
  have hln := fun W hW => length_calls ⟨199, 200, 201, -1⟩ (z_cases (by decide) (by decide) (by decide) (by decide)) (by decide : (0 : Int) ≤ 200) (by decide : (0 : Int) ≤ 201) p.s.size 0 0 (by omega) (by decide) b l W hW (by omega)
  have hlt1 := hC1.lt
  have hEl : (extE p.s.size).length ≤ 9 := by
    unfold extE
    split
    · decide
    split
    · decide
    split
    · decide
    split
    · decide
    split
    · decide
    · exact (sizedE_len _ _ _ _ _).2
  have HX := hid (And.intro hC1 (And.intro h1 (And.intro hlt1 (And.intro hB1 (And.intro hbw (And.intro hu (And.intro hlen (And.intro hEl hs))))))))
  have hw8 : IntKind.u8.wrap (p.u : Int) = (p.u : Int) := IntWalk.u8_in _ (by omega)
  clear h hlen hn hT hA hC h0 hlt hbw hs hu hA1 hM hC1 h1 hB1 hlt1 hEl
  obtain ⟨E, hE⟩ : ∃ E, extE p.s.size = E := ⟨_, rfl⟩
  rw [hE] at hlk HX ⊢
  clear hE
  simp only [ndL] at hW0 y0 y1 y2 y3 y4 y5 y6 y7 y8
  unfold ndV
  simp only [ndL]
  rcases hlk with ⟨cc, hcc, hE, hlk⟩ | ⟨hE, hlk⟩
  · clear hln
    have hcc8 := hid hcc
    have HE := hid hE
    clear hcc hE
    go_enter Tryz.func70, Tryz.ntmps70
    go_wp2_with fail
    clear hW0 hmm i1 i2 i3 i4 i5 hW1 hlk y0 y1 y2 y3 y4 y5 y6 y7 y8
    obtain ⟨hC1, h1, hlt1, hB1, hbw, hu, hlen, hEl, hs⟩ := HX.out
    have hA2 := below_alloc W1 (.cells #[.int .u8 (cc : Int)] 5)
    refine (bytes_calls b l (ch cc) (cc : Int) (by rw [ch_toNat hcc8.out]) W1.heap.size _ (h1.alloc (.cells #[.int .u8 (cc : Int)] 5)) (Cls.new W1 5 [.int .u8 (cc : Int)]) (by omega)).mono ?_
    rintro e w5 ⟨rfl, h5, hk5⟩
    rw [← HE.out] at h5
    have HV := hid (And.intro h5 (And.intro ((WrK.of_below (hB1.trans (hA2.mono hB1.size)) (Nat.le_of_lt hbw)).trans hk5) (cls_oth hk5.oth (hC1.below hA2) (by decide) (by omega))))
    clear hC1 h1 hlt1 hB1 hbw hu hlen hEl hs hA2 h5 hk5
    clear HE hcc8
    obtain ⟨hv1, hv2, hv3⟩ := HV.out
    obtain ⟨y0, y1, y2, y3, y4, y5, y6, y7, y8⟩ := hv3.nine
    have hbx := Nat.le_of_lt (wr_lt hv1)
    have hby := bytes_calls b (l ++ E) (ch p.u) (p.u : Int) (by rw [ch_toNat (by have := HX.out.2.2.2.2.2.1; omega)]) w5.heap.size _ (hv1.alloc (.cells #[.int .u8 (p.u : Int)] 5)) (Cls.new w5 5 [.int .u8 (p.u : Int)]) (by rw [List.length_append]; have := HX.out.2.2.2.2.2.2.1; have := HX.out.2.2.2.2.2.2.2.1; omega)
    have hk2 := hv2.trans (WrK.of_below (below_alloc w5 (.cells #[.int .u8 (p.u : Int)] 5)) hbx)
    have hc2 := hv3.alloc (.cells #[.int .u8 (p.u : Int)] 5)
    have HU := hid (And.intro hk2 hc2)
    clear hv1 hv2 hv3 hbx hk2 hc2
    go_wp2_with fail
    refine hby.mono ?_
    rintro e v1 ⟨rfl, h2, hk2⟩
    have e7 := (cls_oth (WrK.oth hk2) HU.out.2 (by decide) (by have := HX.out.2.2.2.2.1; omega)).cell 7 rfl
    have HT := hid (And.intro h2 (HU.out.1.trans hk2))
    clear hby h2 hk2 y0 y1 y2 y3 y4 y5 y6 y7 y8
    go_wp2
    go_region_with (go_at_call 118; refine (wrS b (l ++ E ++ [ch p.u]) p.s (World.drew v1) (show Wr (World.drew v1) b (l ++ E ++ [ch p.u]) from HT.out.1) (by rw [List.length_append, List.length_append, List.length_singleton]; have := HX.out.2.2.2.2.2.2.1; have := HX.out.2.2.2.2.2.2.2.1; have := HX.out.2.2.2.2.2.2.2.2; omega)).mono ?_; rintro e w6 ⟨rfl, h6, hk6⟩)
    all_goals (
      have HS := hid (And.intro h6 (HT.out.2.trans (WrK.same hk6 rfl rfl rfl rfl)))
      clear h6 hk6
      go_wp2
      go_end0
      exact ⟨rfl, by have := HS.out.1; rw [List.append_assoc, List.append_assoc] at this; exact this, HS.out.2⟩)
  · rw [← hE] at hln
    clear hE
    simp only [Z4.val, Z4.cells] at hln
    go_enter Tryz.func70, Tryz.ntmps70
    go_wp2_with fail
    clear hW0 hmm i1 i2 i3 i4 i5 hW1 hlk
    go_region_with (first
      | (go_at_call 115; refine (sizes_calls 199 200 201 (-1) _).mono ?_; rintro e w4 ⟨rfl, hb4⟩; have hC4 : Cls w4 w.heap.size 27 (ndL p (.slice a n c)) := (hb4.block w.heap.size HX.out.2.2.1).trans HX.out.1; have h4 : Wr w4 b l := Wr.up (show Wr W1.drew b l from HX.out.2.1) hb4; have HB4 := hid hb4; clear hb4; have e7 := hC4.cell 7 rfl)
      | (go_at_call 117; refine (hln _ (by first | exact h4 | exact (show Wr _ b l from h4))).mono ?_; rintro e w5 ⟨rfl, h5, hk5⟩; have e7 := (cls_oth (WrK.oth hk5) (show Cls _ w.heap.size 27 (ndL p (.slice a n c)) from hC4) (by decide) (by have := HX.out.2.2.2.2.1; omega)).cell 7 rfl))
    all_goals (
      clear y0 y1 y2 y3 y4 y5 y6 y7 y8
      obtain ⟨hC1, h1, hlt1, hB1, hbw, hu, hlen, hEl, hs⟩ := HX.out
      have hb04 : Below w.heap.size w w4 := hB1.trans (((Below.refl W1.heap.size W1).drew.trans HB4.out).mono hB1.size)
      have HV := hid (And.intro h5 (And.intro ((WrK.of_below hb04 (Nat.le_of_lt hbw)).trans hk5) (cls_oth hk5.oth hC4 (by decide) (by omega))))
      clear hb04 h5 hk5 hC4 h4 HB4 hln hC1 h1 hlt1 hB1 hbw hu hlen hEl hs
      obtain ⟨hv1, hv2, hv3⟩ := HV.out
      obtain ⟨y0, y1, y2, y3, y4, y5, y6, y7, y8⟩ := hv3.nine
      have hbx := Nat.le_of_lt (wr_lt hv1)
      have hby := bytes_calls b (l ++ E) (ch p.u) (p.u : Int) (by rw [ch_toNat (by have := HX.out.2.2.2.2.2.1; omega)]) w5.heap.size _ (hv1.alloc (.cells #[.int .u8 (p.u : Int)] 5)) (Cls.new w5 5 [.int .u8 (p.u : Int)]) (by rw [List.length_append]; have := HX.out.2.2.2.2.2.2.1; have := HX.out.2.2.2.2.2.2.2.1; omega)
      have hk2 := hv2.trans (WrK.of_below (below_alloc w5 (.cells #[.int .u8 (p.u : Int)] 5)) hbx)
      have hc2 := hv3.alloc (.cells #[.int .u8 (p.u : Int)] 5)
      have HU := hid (And.intro hk2 hc2)
      clear hv1 hv2 hv3 hbx hk2 hc2
      go_wp2_with fail
      refine hby.mono ?_
      rintro e v1 ⟨rfl, h2, hk2⟩
      have e7 := (cls_oth (WrK.oth hk2) HU.out.2 (by decide) (by have := HX.out.2.2.2.2.1; omega)).cell 7 rfl
      have HT := hid (And.intro h2 (HU.out.1.trans hk2))
      clear hby h2 hk2 y0 y1 y2 y3 y4 y5 y6 y7 y8
      go_wp2
      go_region_with (go_at_call 118; refine (wrS b (l ++ E ++ [ch p.u]) p.s (World.drew v1) (show Wr (World.drew v1) b (l ++ E ++ [ch p.u]) from HT.out.1) (by rw [List.length_append, List.length_append, List.length_singleton]; have := HX.out.2.2.2.2.2.2.1; have := HX.out.2.2.2.2.2.2.2.1; have := HX.out.2.2.2.2.2.2.2.2; omega)).mono ?_; rintro e w6 ⟨rfl, h6, hk6⟩)
      all_goals (
        have HS := hid (And.intro h6 (HT.out.2.trans (WrK.same hk6 rfl rfl rfl rfl)))
        clear h6 hk6
        go_wp2
        go_end0
        exact ⟨rfl, by have := HS.out.1; rw [List.append_assoc, List.append_assoc] at this; exact this, HS.out.2⟩))
end Go.Proofs.YtpjlepkdiaohiaaGreatDoor

namespace Go.Proofs.YtpjlepkdiaohiaaGreatDoor
open Go.RowKit
attribute [local go_sem] Oper.semAt_some

def fv (b : Nat) (F : Nat) : Value := .func (.func F) #[.pointer (some ⟨b, 0, none⟩)] #[]
def wformL (b : Nat) : List (Int × Value) := [(1, fv b 62), (2, fv b 63), (3, fv b 64), (4, fv b 65), (5, fv b 66), (6, fv b 67), (7, fv b 68), (8, fv b 69), (11, fv b 70)]
def formF (k : Int) : Option Nat := if k = 1 then some 62 else if k = 2 then some 63 else if k = 3 then some 64 else if k = 4 then some 65 else if k = 5 then some 66 else if k = 6 then some 67 else if k = 7 then some 68 else if k = 8 then some 69 else if k = 11 then some 70 else none
theorem zero_form (w : World) : (zeroValue 87).run Tryz.prog w = .ok .nilFunc w := Tryz.zeroValue87 w
theorem form_look (b : Nat) (k : Int) (w : World) (m : Nat) (h : MapI w m (wformL b)) {F : Nat} (hF : formF k = some F) :
    (Instr.lookup 85 (.map (some m)) (.int .i64 k) true).run Tryz.prog w = .ok (.tuple #[fv b F, .bool true]) w := by
  rw [run_look Tryz.underlying85 Tryz.underlying3 zero_form w m (wformL b) h k]
  unfold formF at hF
  by_cases h1 : k = 1
  · rw [if_pos h1] at hF; obtain rfl := Option.some.inj hF
    subst h1
    rfl
  by_cases h2 : k = 2
  · rw [if_neg h1, if_pos h2] at hF; obtain rfl := Option.some.inj hF
    subst h2
    rfl
  by_cases h3 : k = 3
  · rw [if_neg h1, if_neg h2, if_pos h3] at hF; obtain rfl := Option.some.inj hF
    subst h3
    rfl
  by_cases h4 : k = 4
  · rw [if_neg h1, if_neg h2, if_neg h3, if_pos h4] at hF; obtain rfl := Option.some.inj hF
    subst h4
    rfl
  by_cases h5 : k = 5
  · rw [if_neg h1, if_neg h2, if_neg h3, if_neg h4, if_pos h5] at hF; obtain rfl := Option.some.inj hF
    subst h5
    rfl
  by_cases h6 : k = 6
  · rw [if_neg h1, if_neg h2, if_neg h3, if_neg h4, if_neg h5, if_pos h6] at hF; obtain rfl := Option.some.inj hF
    subst h6
    rfl
  by_cases h7 : k = 7
  · rw [if_neg h1, if_neg h2, if_neg h3, if_neg h4, if_neg h5, if_neg h6, if_pos h7] at hF; obtain rfl := Option.some.inj hF
    subst h7
    rfl
  by_cases h8 : k = 8
  · rw [if_neg h1, if_neg h2, if_neg h3, if_neg h4, if_neg h5, if_neg h6, if_neg h7, if_pos h8] at hF; obtain rfl := Option.some.inj hF
    subst h8
    rfl
  by_cases h11 : k = 11
  · rw [if_neg h1, if_neg h2, if_neg h3, if_neg h4, if_neg h5, if_neg h6, if_neg h7, if_neg h8, if_pos h11] at hF; obtain rfl := Option.some.inj hF
    subst h11
    rfl
  rw [if_neg h1, if_neg h2, if_neg h3, if_neg h4, if_neg h5, if_neg h6, if_neg h7, if_neg h8, if_neg h11] at hF
  cases hF
theorem form_enters {k : Int} {F : Nat} (hF : formF k = some F) : ∀ args w, (callFunc F args).run Tryz.prog w = .ok (.enter F args) w := by
  unfold formF at hF
  by_cases h1 : k = 1
  · rw [if_pos h1] at hF; obtain rfl := Option.some.inj hF
    exact enters_of Tryz.func62 (by kernel_rfl) rfl
  by_cases h2 : k = 2
  · rw [if_neg h1, if_pos h2] at hF; obtain rfl := Option.some.inj hF
    exact enters_of Tryz.func63 (by kernel_rfl) rfl
  by_cases h3 : k = 3
  · rw [if_neg h1, if_neg h2, if_pos h3] at hF; obtain rfl := Option.some.inj hF
    exact enters_of Tryz.func64 (by kernel_rfl) rfl
  by_cases h4 : k = 4
  · rw [if_neg h1, if_neg h2, if_neg h3, if_pos h4] at hF; obtain rfl := Option.some.inj hF
    exact enters_of Tryz.func65 (by kernel_rfl) rfl
  by_cases h5 : k = 5
  · rw [if_neg h1, if_neg h2, if_neg h3, if_neg h4, if_pos h5] at hF; obtain rfl := Option.some.inj hF
    exact enters_of Tryz.func66 (by kernel_rfl) rfl
  by_cases h6 : k = 6
  · rw [if_neg h1, if_neg h2, if_neg h3, if_neg h4, if_neg h5, if_pos h6] at hF; obtain rfl := Option.some.inj hF
    exact enters_of Tryz.func67 (by kernel_rfl) rfl
  by_cases h7 : k = 7
  · rw [if_neg h1, if_neg h2, if_neg h3, if_neg h4, if_neg h5, if_neg h6, if_pos h7] at hF; obtain rfl := Option.some.inj hF
    exact enters_of Tryz.func68 (by kernel_rfl) rfl
  by_cases h8 : k = 8
  · rw [if_neg h1, if_neg h2, if_neg h3, if_neg h4, if_neg h5, if_neg h6, if_neg h7, if_pos h8] at hF; obtain rfl := Option.some.inj hF
    exact enters_of Tryz.func69 (by kernel_rfl) rfl
  by_cases h11 : k = 11
  · rw [if_neg h1, if_neg h2, if_neg h3, if_neg h4, if_neg h5, if_neg h6, if_neg h7, if_neg h8, if_pos h11] at hF; obtain rfl := Option.some.inj hF
    exact enters_of Tryz.func70 (by kernel_rfl) rfl
  rw [if_neg h1, if_neg h2, if_neg h3, if_neg h4, if_neg h5, if_neg h6, if_neg h7, if_neg h8, if_neg h11] at hF
  cases hF
set_option maxRecDepth 100000 in
set_option maxHeartbeats 4000000 in
theorem forms_calls15 (b : Nat) (w : World) :
    Calls Tryz.prog 40 #[.pointer (some ⟨b, 0, none⟩)] w fun e w' => e = .returned (.map (some w.heap.size)) ∧ w' = w.alloc (mapObj (wformL b)) := by
  have hmm : (Instr.makeMap 85 none).run Tryz.prog w = .ok (.map (some w.heap.size)) (w.alloc (mapObj [])) := run_makeMap _ _
  have i1 := run_insert (P := Tryz.prog) (t := 85) Tryz.underlying85 Tryz.underlying3 w ((wformL b).take 0) 1 (fv b 62) rfl
  have i2 := run_insert (P := Tryz.prog) (t := 85) Tryz.underlying85 Tryz.underlying3 w ((wformL b).take 1) 2 (fv b 63) rfl
  have i3 := run_insert (P := Tryz.prog) (t := 85) Tryz.underlying85 Tryz.underlying3 w ((wformL b).take 2) 3 (fv b 64) rfl
  have i4 := run_insert (P := Tryz.prog) (t := 85) Tryz.underlying85 Tryz.underlying3 w ((wformL b).take 3) 4 (fv b 65) rfl
  have i5 := run_insert (P := Tryz.prog) (t := 85) Tryz.underlying85 Tryz.underlying3 w ((wformL b).take 4) 5 (fv b 66) rfl
  have i6 := run_insert (P := Tryz.prog) (t := 85) Tryz.underlying85 Tryz.underlying3 w ((wformL b).take 5) 6 (fv b 67) rfl
  have i7 := run_insert (P := Tryz.prog) (t := 85) Tryz.underlying85 Tryz.underlying3 w ((wformL b).take 6) 7 (fv b 68) rfl
  have i8 := run_insert (P := Tryz.prog) (t := 85) Tryz.underlying85 Tryz.underlying3 w ((wformL b).take 7) 8 (fv b 69) rfl
  have i9 := run_insert (P := Tryz.prog) (t := 85) Tryz.underlying85 Tryz.underlying3 w ((wformL b).take 8) 11 (fv b 70) rfl
  simp only [wformL, fv, List.take_succ_cons, List.take_zero, List.cons_append, List.nil_append] at i1 i2 i3 i4 i5 i6 i7 i8 i9 ⊢
  go_enter Tryz.func40, Tryz.ntmps40
  go_wp2
  go_ret
  exact ⟨rfl, rfl⟩

def TabB (b : Nat) (W : World) : Prop := ∃ w0, Tabs w0 ∧ w0.heap.size ≤ b ∧ Below w0.heap.size w0 W
theorem TabB.tabs {b : Nat} {W : World} (h : TabB b W) : Tabs W := let ⟨_, h1, _, h3⟩ := h; h1.below h3
theorem TabB.wr {b : Nat} {A C : World} (h : TabB b A) (k : WrK b A C) : TabB b C := let ⟨w0, h1, h2, h3⟩ := h; ⟨w0, h1, h2, h3.trans (k.below.mono h2)⟩
theorem TabB.up {b : Nat} {A C : World} (h : TabB b A) (k : Below A.heap.size A C) : TabB b C := let ⟨w0, h1, h2, h3⟩ := h; ⟨w0, h1, h2, h3.trans (k.mono h3.size)⟩
theorem InB.wr {b : Nat} {A C : World} {v : Value} {t : Tr} (h : InB (fun k => k < b) A v t) (k : WrK b A C) : InB (fun k => k < b) C v t := h.kept fun i _ hi => k.below.block i hi
def LstB (b : Nat) (W : World) (a : Option Addr) (f : Nat → Value) (l : List Tr) : Prop :=
  ∀ i t, l[i]? = some t → (∃ g o, a = some ⟨g, o, none⟩ ∧ (g < b ∨ (g ≠ b ∧ ∃ c T fz, T ≠ 5 ∧ W.heap[g]? = some (.cells c T fz))) ∧ AtN W g (o + i * 9) t.p (f i)) ∧ InB (fun k => k < b) W (ndV t.p (f i)) t
theorem LstB.wr {b : Nat} {A C : World} {a : Option Addr} {f : Nat → Value} {l : List Tr} (h : LstB b A a f l) (k : WrK b A C) : LstB b C a f l := fun i t hi => by
  obtain ⟨⟨g, o, rfl, h1, h2⟩, h3⟩ := h i t hi
  rcases h1 with h1 | ⟨h1, c, T, fz, hT, hg⟩
  · exact ⟨⟨g, o, rfl, .inl h1, fun j x hj => (k.below.cell (p := ⟨g, _, none⟩) h1).trans (h2 j x hj)⟩, h3.wr k⟩
  · have hg2 := k.oth g _ hg (fun e => h1 (Option.some.inj e)) (fun c fz e => hT (by injection e))
    refine ⟨⟨g, o, rfl, .inr ⟨h1, c, T, fz, hT, hg2⟩, fun j x hj => ?_⟩, h3.wr k⟩
    have := h2 j x hj
    unfold World.cell? at this ⊢
    rw [show C.heap[(⟨g, o + i * 9 + j, none⟩ : Addr).block]? = A.heap[(⟨g, o + i * 9 + j, none⟩ : Addr).block]? from hg2.trans hg.symm]
    exact this
theorem LstB.up {b : Nat} {A C : World} {a : Option Addr} {f : Nat → Value} {l : List Tr} (h : LstB b A a f l) (k : Below A.heap.size A C) : LstB b C a f l := fun i t hi => by
  obtain ⟨⟨g, o, rfl, h1, h2⟩, h3⟩ := h i t hi
  refine ⟨⟨g, o, rfl, ?_, fun j x hj => cell_kept k (h2 j x hj)⟩, h3.up k⟩
  rcases h1 with h1 | ⟨h1, c, T, fz, hT, hg⟩
  · exact .inl h1
  · exact .inr ⟨h1, c, T, fz, hT, (k.block g (Array.getElem?_eq_some_iff.1 hg).1).trans hg⟩
theorem InB.inv {K : Nat → Prop} {W : World} {p : Pay} {sl : Value} {l : List Tr} (h : InB K W (ndV p sl) (.nd p l)) : ∃ (a : Option Addr) (c : Nat) (f : Nat → Value), sl = .slice a l.length c ∧ ∀ i t, l[i]? = some t → (∃ g o, a = some ⟨g, o, none⟩ ∧ K g ∧ AtN W g (o + i * 9) t.p (f i)) ∧ InB K W (ndV t.p (f i)) t := by
  generalize hv : ndV p sl = v at h
  cases h with
  | nd q l a n c f hn hc ht =>
    unfold ndV at hv
    have e := congrArg (fun x => match x with | Value.agg r => r.toList | _ => []) hv
    simp only [ndL] at e
    have e2 : sl = .slice a n c := by
      have := congrArg (fun r => r.getD 8 undef) e
      simpa using this
    subst hn
    exact ⟨a, c, f, e2, fun i t hi => ⟨hc i t hi, ht i t hi⟩⟩

def maxB : Nat := 140000000000000
def NodeW (t : Tr) : Prop := ∀ F, formF t.p.k = some F → ∀ (b : Nat) (out : List UInt8) (sl : Value) (w : World), TabB b w → Wr w b out → InB (fun k => k < b) w (ndV t.p sl) t → out.length + t.enc.length ≤ maxB →
  Calls Tryz.prog F #[.pointer (some ⟨b, 0, none⟩), ndV t.p sl] w fun e w' => e = .returned (.tuple #[]) ∧ Wr w' b (out ++ t.enc) ∧ WrK b w w'

set_option maxRecDepth 100000 in
set_option maxHeartbeats 4000000 in
theorem all_calls (lst : List Tr) (h10 : lst.length ≤ 10000) (hN : ∀ t, t ∈ lst → NodeW t ∧ ∃ F, formF t.p.k = some F) (a : Option Addr) (c : Nat) (f : Nat → Value) (b : Nat) (out : List UInt8) (w : World) (hT : TabB b w) (hW : Wr w b out) (hL : LstB b w a f lst) (hm : out.length + (encL lst).length ≤ maxB) :
    Calls Tryz.prog 30 #[.pointer (some ⟨b, 0, none⟩), .slice a lst.length c] w fun e w' => e = .returned (.tuple #[]) ∧ Wr w' b (out ++ encL lst) ∧ WrK b w w' := by
  have hA := below_alloc w (mapObj (wformL b))
  have hM := MapI.new w (wformL b)
  have hbw := wr_lt hW
  have hfc := forms_calls15 b w
  have HX := hid (And.intro hN (And.intro (hT.up hA) (And.intro (hW.up hA) (And.intro (hL.up hA) (And.intro hm (And.intro hM (And.intro hbw hA)))))))
  clear hN hT hW hL hm hM hbw hA
  go_enter Tryz.func30, Tryz.ntmps30
  go_wp2_with fail
  refine hfc.mono ?_
  rintro e w1 ⟨rfl, hw1⟩
  have hM1 : MapI w1 w.heap.size (wformL b) := by rw [hw1]; exact HX.out.2.2.2.2.2.1
  have HM1 := hid hM1
  have HY := hid (show TabB b w1 ∧ Wr w1 b out ∧ LstB b w1 a f lst ∧ Below w.heap.size w w1 by rw [hw1]; exact ⟨HX.out.2.1, HX.out.2.2.1, HX.out.2.2.2.1, HX.out.2.2.2.2.2.2.2⟩)
  clear hfc hw1 hM1
  go_wp2
  go_loopw [13] (fun v wr => ∃ i : Nat, v = .int .i64 i ∧ i ≤ lst.length ∧ Wr wr b (out ++ encL (lst.take i)) ∧ WrK b w1 wr) (fun v _ => lst.length - (intOf v).toNat)
  case atStart => exact ⟨0, rfl, Nat.zero_le _, by rw [List.take_zero, encL, List.append_nil]; exact HY.out.2.1, WrK.refl _ _⟩
  case round =>
    obtain ⟨i, rfl, hi, hwr, hk⟩ := hrel
    have hbr := wr_lt hwr
    by_cases hil : i < lst.length
    · obtain ⟨hN, -, -, -, hm, -, hbw, hA⟩ := HX.out
      obtain ⟨hT1, -, hL1, -⟩ := HY.out
      have hM1 := HM1.out
      obtain ⟨t, ht⟩ : ∃ t, lst[i]? = some t := ⟨_, List.getElem?_eq_getElem hil⟩
      obtain ⟨⟨g, o, rfl, -, ca1⟩, hin⟩ := (hL1.wr hk) i t ht
      obtain ⟨hNt, F, hF⟩ := hN t (List.mem_of_getElem? ht)
      have hMr : MapI wr w.heap.size (wformL b) := hk.oth _ _ hM1 (fun e => by have := Option.some.inj e; omega) (fun c fz e => by cases e)
      have hAr := below_alloc wr (.cells (ndL t.p (f i)).toArray 27)
      have hlk := form_look b t.p.k _ w.heap.size (hMr.below hAr) hF
      have eF := form_enters hF
      have hCx := Cls.new wr 27 (ndL t.p (f i))
      have hlen : out.length + (encL (lst.take i)).length + t.enc.length ≤ maxB := by
        have e2 : encL lst = encL (lst.take (i + 1)) ++ encL (lst.drop (i + 1)) := by rw [← encL_append, List.take_append_drop]
        rw [e2, encL_take_succ ht, List.length_append, List.length_append] at hm
        omega
      have hcall := hNt F hF b (out ++ encL (lst.take i)) (f i) _ ((hT1.wr hk).up hAr) (hwr.up hAr) (hin.up hAr) (by rw [List.length_append]; exact hlen)
      have hnext : out ++ encL (lst.take i) ++ t.enc = out ++ encL (lst.take (i + 1)) := by rw [encL_take_succ ht, List.append_assoc]
      rw [hnext] at hcall
      obtain ⟨l1, a1, n1, c1, f1, -, hsl, rfl, -⟩ := InT.inv (t := t) (p := t.p) hin.toT
      rw [hsl] at hcall hCx hlk hAr ca1
      obtain ⟨a0, a1', a2, a3, a4, a5, a6, a7, a8⟩ := ca1.cells
      obtain ⟨y0, y1, y2, y3, y4, y5, y6, y7, y8⟩ := hCx.nine
      have hiz : (i : Int) < lst.length := by omega
      have HV := hid (show wrap64 ((i : Int) + 1) = (i : Int) + 1 by unfold wrap64; omega)
      have HZ := hid (And.intro hk (And.intro hAr (And.intro hbr hil)))
      clear hN hm hbw hA hT1 hL1 hM1 ca1 hin hNt hMr hAr hCx hlen hnext hsl hF ht hk hwr hbr
      simp only [ndV, ndL, fv] at hcall hlk y0 y1 y2 y3 y4 y5 y6 y7 y8
      go_wp2_with fail
      refine hcall.mono ?_
      rintro e w2 ⟨rfl, h2, hk2⟩
      obtain ⟨hk, hAr, hbr, hil⟩ := HZ.out
      have HU := hid (And.intro h2 ((hk.trans (WrK.of_below hAr (Nat.le_of_lt hbr))).trans hk2))
      clear hcall hlk eF y0 y1 y2 y3 y4 y5 y6 y7 y8 a0 a1' a2 a3 a4 a5 a6 a7 a8 h2 hk2 hk hAr hbr HZ
      go_wp2
      go_roundw
      case rel => exact ⟨i + 1, by simp, by omega, HU.out⟩
      case measure => simp [intOf]; omega
    · have hiz : decide (i < lst.length) = false := decide_eq_false hil
      obtain rfl : i = lst.length := by omega
      rw [List.take_of_length_le (Nat.le_refl _)] at hwr
      have HU := hid (And.intro hwr ((WrK.of_below HY.out.2.2.2 (Nat.le_of_lt HX.out.2.2.2.2.2.2.1)).trans hk))
      clear hwr hk hbr hi hil
      go_wp2
      go_end0
      exact ⟨rfl, HU.out⟩
end Go.Proofs.YtpjlepkdiaohiaaGreatDoor

namespace Go.Proofs.YtpjlepkdiaohiaaGreatDoor
open Go.RowKit
attribute [local go_sem] Oper.semAt_some

theorem arr_len (k : Nat) (hk : k < 4294967296) : lenZ k 16 144 ⟨-1, 220, 221, -1⟩ = arrE k := by
  unfold lenZ arrE
  by_cases h : k < 16
  · rw [if_pos h, if_pos (by omega)]
  · rw [if_neg h, if_neg (by omega)]
    exact sizedE_a8 (by omega)
set_option maxRecDepth 100000 in
set_option maxHeartbeats 4000000 in
theorem warr_calls (p : Pay) (l : List Tr) (h10 : l.length ≤ 10000) (hN : ∀ t, t ∈ l → NodeW t ∧ ∃ F, formF t.p.k = some F) (a : Option Addr) (c : Nat) (fs : Nat → Value) (b : Nat) (out : List UInt8) (w : World) (hT : TabB b w) (hW : Wr w b out) (hL : LstB b w a fs l) (hm : out.length + (arrE l.length ++ encL l).length ≤ maxB) :
    Calls Tryz.prog 68 #[.pointer (some ⟨b, 0, none⟩), ndV p (.slice a l.length c)] w fun e w' => e = .returned (.tuple #[]) ∧ Wr w' b (out ++ (arrE l.length ++ encL l)) ∧ WrK b w w' := by
  have hA := below_alloc w (.cells (ndL p (.slice a l.length c)).toArray 27)
  have hC := Cls.new w 27 (ndL p (.slice a l.length c))
  have hbw := wr_lt hW
  obtain ⟨y0, y1, y2, y3, y4, y5, y6, y7, y8⟩ := hC.nine
  rw [List.length_append] at hm
  have hm2 : out.length + 1000 ≤ 140737488355328 := by unfold maxB at hm; omega
  have hln := fun W hW => length_calls ⟨-1, 220, 221, -1⟩ (z_cases (by decide) (by decide) (by decide) (by decide)) (by decide : (0 : Int) ≤ 220) (by decide : (0 : Int) ≤ 221) l.length 16 144 (by omega) (by decide) b out W hW (by omega)
  rw [arr_len l.length (by omega)] at hln
  have h0 := hW.up hA
  have hlt := hC.lt
  have hall := fun W h1 h2 h3 => all_calls l h10 hN a c fs b (out ++ arrE l.length) W h1 h2 h3 (by rw [List.length_append]; omega)
  have HA := hid (And.intro hA hbw)
  have HLT := hid (And.intro (hT.up hA) (hL.up hA))
  obtain ⟨W0, hW0⟩ : ∃ W0, w.alloc (.cells (ndL p (.slice a l.length c)).toArray 27) = W0 := ⟨_, rfl⟩
  rw [hW0] at hC h0 hlt HA HLT
  have HX := hid (And.intro hC (And.intro h0 hlt))
  have HALL := hid hall
  clear hall hm hm2 hN hT hL hW hA hC h0 hlt hbw h10
  obtain ⟨E, hE⟩ : ∃ E, arrE l.length = E := ⟨_, rfl⟩
  rw [hE] at hln HALL ⊢
  clear hE
  unfold ndV
  simp only [ndL, Z4.val, Z4.cells] at hln hW0 y0 y1 y2 y3 y4 y5 y6 y7 y8 ⊢
  rw [hW0] at y0 y1 y2 y3 y4 y5 y6 y7 y8
  go_enter Tryz.func68, Tryz.ntmps68
  go_wp2_with fail
  clear hW0
  go_region_with (first
    | (go_at_call 115; refine (sizes_calls (-1) 220 221 (-1) _).mono ?_; rintro e w4 ⟨rfl, hb4⟩; have hC4 : Cls w4 w.heap.size 27 (ndL p (.slice a l.length c)) := (hb4.block w.heap.size HX.out.2.2).trans HX.out.1; have h4 : Wr w4 b out := Wr.up (show Wr W0.drew b out from HX.out.2.1) hb4; have HB4 := hid hb4; clear hb4; have e8 := hC4.cell 8 rfl)
    | (go_at_call 117; refine (hln _ (by first | exact h4 | exact (show Wr _ b out from h4))).mono ?_; rintro e w5 ⟨rfl, h5, hk5⟩; have hC5 := (cls_oth (WrK.oth hk5) (show Cls _ w.heap.size 27 (ndL p (.slice a l.length c)) from hC4) (by decide) (by have := HA.out.2; omega)); have e8 := hC5.cell 8 rfl))
  all_goals (
    clear y0 y1 y2 y3 y4 y5 y6 y7 y8
    have hb04 : Below W0.heap.size W0 w4 := (Below.refl W0.heap.size W0).drew.trans HB4.out
    have hk05 : WrK b W0 w5 := (WrK.of_below hb04 (by have := HX.out.2.2; have := HA.out.2; omega)).trans hk5
    have HV := hid (And.intro h5 hk05)
    clear hb04 hk05 h5 hk5 hC4 hC5 h4 HB4 hln
    go_wp2_with fail
    refine (HALL.out _ (HLT.out.1.wr HV.out.2) HV.out.1 (HLT.out.2.wr HV.out.2)).mono ?_
    rintro e w6 ⟨rfl, h6, hk6⟩
    have HU := hid (And.intro h6 ((WrK.of_below HA.out.1 (Nat.le_of_lt HA.out.2)).trans (HV.out.2.trans hk6)))
    clear h6 hk6
    go_wp2
    go_end0
    exact ⟨rfl, by rw [← List.append_assoc]; exact HU.out.1, HU.out.2⟩)
theorem pair_len (k : Nat) (hk : k < 4294967296) : lenZ (k / 2) 16 128 ⟨-1, 222, 223, -1⟩ = mapE k := by
  unfold lenZ mapE
  by_cases h : k / 2 < 16
  · rw [if_pos h, if_pos (by omega)]
  · rw [if_neg h, if_neg (by omega)]
    exact sizedE_a8 (by omega)
set_option maxRecDepth 100000 in
set_option maxHeartbeats 4000000 in
theorem wpair_calls (p : Pay) (l : List Tr) (h10 : l.length ≤ 10000) (hN : ∀ t, t ∈ l → NodeW t ∧ ∃ F, formF t.p.k = some F) (a : Option Addr) (c : Nat) (fs : Nat → Value) (b : Nat) (out : List UInt8) (w : World) (hT : TabB b w) (hW : Wr w b out) (hL : LstB b w a fs l) (hm : out.length + (mapE l.length ++ encL l).length ≤ maxB) :
    Calls Tryz.prog 69 #[.pointer (some ⟨b, 0, none⟩), ndV p (.slice a l.length c)] w fun e w' => e = .returned (.tuple #[]) ∧ Wr w' b (out ++ (mapE l.length ++ encL l)) ∧ WrK b w w' := by
  have hA := below_alloc w (.cells (ndL p (.slice a l.length c)).toArray 27)
  have hC := Cls.new w 27 (ndL p (.slice a l.length c))
  have hbw := wr_lt hW
  obtain ⟨y0, y1, y2, y3, y4, y5, y6, y7, y8⟩ := hC.nine
  rw [List.length_append] at hm
  have hm2 : out.length + 1000 ≤ 140737488355328 := by unfold maxB at hm; omega
  have hln := fun W hW => length_calls ⟨-1, 222, 223, -1⟩ (z_cases (by decide) (by decide) (by decide) (by decide)) (by decide : (0 : Int) ≤ 222) (by decide : (0 : Int) ≤ 223) (l.length / 2) 16 128 (by omega) (by decide) b out W hW (by omega)
  rw [pair_len l.length (by omega)] at hln
  have h0 := hW.up hA
  have hlt := hC.lt
  have hall := fun W h1 h2 h3 => all_calls l h10 hN a c fs b (out ++ mapE l.length) W h1 h2 h3 (by rw [List.length_append]; omega)
  have hq1 : IntKind.i64.wrap ((l.length : Int).tdiv 2) = ((l.length / 2 : Nat) : Int) := by
    have := IntWalk.i64_quo (l.length : Int) 2 ⟨by omega, by omega, by omega⟩
    rw [this]; rfl
  have hq2 : (l.length : Int) / 2 = ((l.length / 2 : Nat) : Int) := rfl
  obtain ⟨J, hJ⟩ : ∃ J, l.length / 2 = J := ⟨_, rfl⟩
  rw [hJ] at hln hq1 hq2
  have hq3 : IntKind.i64.wrap (J : Int) = (J : Int) := IntWalk.i64_in _ (by omega)
  clear hJ
  have HA := hid (And.intro hA hbw)
  have HLT := hid (And.intro (hT.up hA) (hL.up hA))
  obtain ⟨W0, hW0⟩ : ∃ W0, w.alloc (.cells (ndL p (.slice a l.length c)).toArray 27) = W0 := ⟨_, rfl⟩
  rw [hW0] at hC h0 hlt HA HLT
  have HX := hid (And.intro hC (And.intro h0 hlt))
  have HALL := hid hall
  clear hall hm hm2 hN hT hL hW hA hC h0 hlt hbw h10
  obtain ⟨E, hE⟩ : ∃ E, mapE l.length = E := ⟨_, rfl⟩
  rw [hE] at hln HALL ⊢
  clear hE
  unfold ndV
  simp only [ndL, Z4.val, Z4.cells] at hln hW0 y0 y1 y2 y3 y4 y5 y6 y7 y8 ⊢
  rw [hW0] at y0 y1 y2 y3 y4 y5 y6 y7 y8
  go_enter Tryz.func69, Tryz.ntmps69
  go_wp2_with fail
  clear hW0
  go_region_with (first
    | (go_at_call 115; refine (sizes_calls (-1) 222 223 (-1) _).mono ?_; rintro e w4 ⟨rfl, hb4⟩; have hC4 : Cls w4 w.heap.size 27 (ndL p (.slice a l.length c)) := (hb4.block w.heap.size HX.out.2.2).trans HX.out.1; have h4 : Wr w4 b out := Wr.up (show Wr W0.drew b out from HX.out.2.1) hb4; have HB4 := hid hb4; clear hb4; have e8 := hC4.cell 8 rfl)
    | (go_at_call 117; refine (hln _ (by first | exact h4 | exact (show Wr _ b out from h4))).mono ?_; rintro e w5 ⟨rfl, h5, hk5⟩; have hC5 := (cls_oth (WrK.oth hk5) (show Cls _ w.heap.size 27 (ndL p (.slice a l.length c)) from hC4) (by decide) (by have := HA.out.2; omega)); have e8 := hC5.cell 8 rfl))
  all_goals (
    clear y0 y1 y2 y3 y4 y5 y6 y7 y8
    have hb04 : Below W0.heap.size W0 w4 := (Below.refl W0.heap.size W0).drew.trans HB4.out
    have hk05 : WrK b W0 w5 := (WrK.of_below hb04 (by have := HX.out.2.2; have := HA.out.2; omega)).trans hk5
    have HV := hid (And.intro h5 hk05)
    clear hb04 hk05 h5 hk5 hC4 hC5 h4 HB4 hln hq1 hq2 hq3
    go_wp2_with fail
    refine (HALL.out _ (HLT.out.1.wr HV.out.2) HV.out.1 (HLT.out.2.wr HV.out.2)).mono ?_
    rintro e w6 ⟨rfl, h6, hk6⟩
    have HU := hid (And.intro h6 ((WrK.of_below HA.out.1 (Nat.le_of_lt HA.out.2)).trans (HV.out.2.trans hk6)))
    clear h6 hk6
    go_wp2
    go_end0
    exact ⟨rfl, by rw [← List.append_assoc]; exact HU.out.1, HU.out.2⟩)

theorem lst_of {b : Nat} {W : World} {a : Option Addr} {f : Nat → Value} {l : List Tr} (h : ∀ i t, l[i]? = some t → (∃ g o, a = some ⟨g, o, none⟩ ∧ g < b ∧ AtN W g (o + i * 9) t.p (f i)) ∧ InB (fun k => k < b) W (ndV t.p (f i)) t) : LstB b W a f l := fun i t hi => by
  obtain ⟨⟨g, o, h1, h2, h3⟩, h4⟩ := h i t hi
  exact ⟨⟨g, o, h1, .inl h2, h3⟩, h4⟩
theorem form_some {t : Tr} (h : t.okM) : ∃ F, formF t.p.k = some F := by
  obtain ⟨p, l⟩ := t
  show ∃ F, formF p.k = some F
  rcases h.kinds with hk | hk | hk | hk | hk | hk | hk | hk | hk <;> (rw [hk]; exact ⟨_, rfl⟩)
theorem leaf_node {F : Nat} {p : Pay} {hd : List UInt8} (h : LeafC F p 0 hd) (he : (Tr.nd p []).enc = hd) (b : Nat) (out : List UInt8) (sl : Value) (w : World) (hT : TabB b w) (hW : Wr w b out) (hin : InB (fun k => k < b) w (ndV p sl) (.nd p [])) (hm : out.length + (Tr.nd p []).enc.length ≤ maxB) :
    Calls Tryz.prog F #[.pointer (some ⟨b, 0, none⟩), ndV p sl] w fun e w' => e = .returned (.tuple #[]) ∧ Wr w' b (out ++ (Tr.nd p []).enc) ∧ WrK b w w' := by
  obtain ⟨a, c, f, rfl, -⟩ := hin.inv
  rw [he]
  exact h a 0 c b out w hT.tabs hW (by unfold maxB at hm; omega) rfl
theorem nodeW (t : Tr) : t.okM → t.fine → NodeW t := by
  induction t using Tr.ind with
  | h p l ih =>
    intro h hfin F hF b out sl w hT hW hin hm
    have hk := h.kinds
    have hown := h.own
    have hpay := hfin.pay
    have hN : ∀ t, t ∈ l → NodeW t ∧ ∃ F, formF t.p.k = some F := fun t ht => ⟨ih t ht (h.sub ht) (hfin.sub ht), form_some (h.sub ht)⟩
    change formF p.k = some F at hF
    by_cases hL : isLst p = true
    · have henc : (Tr.nd p l).enc = hdE p l.length ++ encL l := by rw [Tr.enc, if_pos hL]
      unfold isLst at hL
      rw [Bool.or_eq_true, decide_eq_true_eq, decide_eq_true_eq] at hL
      obtain ⟨a, c, f, rfl, hl⟩ := hin.inv
      rw [henc] at hm ⊢
      rcases hL with h7 | h8
      · rw [h7] at hF
        obtain rfl := Option.some.inj (show some 68 = some F from hF)
        have he : hdE p l.length = arrE l.length := by
          unfold hdE
          rw [if_neg (by omega), if_neg (by omega), if_neg (by omega), if_neg (by omega), if_neg (by omega), if_neg (by omega), if_pos h7]
        rw [he] at hm ⊢
        exact warr_calls p l hfin.len hN a c f b out w hT hW (lst_of hl) hm
      · rw [h8] at hF
        obtain rfl := Option.some.inj (show some 69 = some F from hF)
        have he : hdE p l.length = mapE l.length := by
          unfold hdE
          rw [if_neg (by omega), if_neg (by omega), if_neg (by omega), if_neg (by omega), if_neg (by omega), if_neg (by omega), if_neg (by omega), if_pos h8]
        rw [he] at hm ⊢
        exact wpair_calls p l hfin.len hN a c f b out w hT hW (lst_of hl) hm
    · unfold isLst at hL
      rw [Bool.or_eq_true, decide_eq_true_eq, decide_eq_true_eq] at hL
      obtain rfl : l = [] := h.leaf (by omega)
      have hsz := h.size
      rcases hk with hk | hk | hk | hk | hk | hk | hk | hk | hk
      · rw [hk] at hF
        obtain rfl := Option.some.inj (show some 62 = some F from hF)
        exact leaf_node (null_calls p 0) (by rw [leaf_enc]; unfold hdE; rw [if_pos hk]) b out sl w hT hW hin hm
      · rw [hk] at hF
        obtain rfl := Option.some.inj (show some 63 = some F from hF)
        exact leaf_node (truth_calls p 0) (by rw [leaf_enc]; unfold hdE; rw [if_neg (by omega), if_pos hk]) b out sl w hT hW hin hm
      · rw [hk] at hF
        obtain rfl := Option.some.inj (show some 64 = some F from hF)
        obtain ⟨h1, h2, h3⟩ := h.num hk
        obtain ⟨-, h4, h5⟩ := dec_back h1 h2
        exact leaf_node (num_calls p 0 hpay.2.1 h2 h4 (fun hn => ⟨h5 hn, h3 hn⟩)) (by rw [leaf_enc, hdE_num _ hk, h2, Bool.true_and]) b out sl w hT hW hin hm
      · rw [hk] at hF
        obtain rfl := Option.some.inj (show some 65 = some F from hF)
        exact leaf_node (float_calls p 0 hpay.2.2.2.1) (by rw [leaf_enc]; unfold hdE; rw [if_neg (by omega), if_neg (by omega), if_neg (by omega), if_pos hk]) b out sl w hT hW hin hm
      · rw [hk] at hF
        obtain rfl := Option.some.inj (show some 66 = some F from hF)
        exact leaf_node (wtext_calls p 0 hsz) (by rw [leaf_enc]; unfold hdE; rw [if_neg (by omega), if_neg (by omega), if_neg (by omega), if_neg (by omega), if_pos hk]) b out sl w hT hW hin hm
      · rw [hk] at hF
        obtain rfl := Option.some.inj (show some 67 = some F from hF)
        exact leaf_node (raw_calls p 0 hsz) (by rw [leaf_enc]; unfold hdE; rw [if_neg (by omega), if_neg (by omega), if_neg (by omega), if_neg (by omega), if_neg (by omega), if_pos hk]) b out sl w hT hW hin hm
      · exact absurd (.inl hk) hL
      · exact absurd (.inr hk) hL
      · rw [own_11 hk] at hown
        rw [hk] at hF
        obtain rfl := Option.some.inj (show some 70 = some F from hF)
        simp only [Bool.and_eq_true, decide_eq_true_eq] at hown
        exact leaf_node (ext_calls p 0 hsz hown.2.2.1) (by rw [leaf_enc]; unfold hdE; rw [if_neg (by omega), if_neg (by omega), if_neg (by omega), if_neg (by omega), if_neg (by omega), if_neg (by omega), if_neg (by omega), if_neg (by omega)]) b out sl w hT hW hin hm
end Go.Proofs.YtpjlepkdiaohiaaGreatDoor

