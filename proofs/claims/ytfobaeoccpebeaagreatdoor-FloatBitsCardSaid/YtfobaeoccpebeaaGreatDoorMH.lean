/- Package float: product: walked. -/
import Derived.Test.YtfobaeoccpebeaaGreatDoorME
import Derived.Test.YtfobaeoccpebeaaGreatDoorMC
import Derived.Test.YtfobaeoccpebeaaGreatDoorMD
import Derived.Test.YtfobaeoccpebeaaGreatDoorMA
import Derived.Shelf.Spec.TrailingZeros
import Derived.Lib.LaidTab
import Derived.Test.YtfobaeoccpebeaaGreatDoorMB
import Derived.Deep.DeepCutAuto
import Derived.Laws.BitsAllLaws
namespace Go.Proofs.YtfobaeoccpebeaaGreatDoor
open Go.RowKit Go.Shelf
attribute [local go_sem] Oper.semAt_some

theorem rt_fit {l : List UInt8} (h : isRt l = true) : fitS (nv l) = l ∧ fitE (nv l) = 0 := by
  have h2 := (isRt_iff l).1 h
  have h3 : Lib.nDigits (nv l) ≤ 400 := by rw [← Lib.decDigits_length, ← h2.1]; exact h2.2
  exact ⟨by unfold fitS; rw [if_pos h3]; exact h2.1.symm, if_pos h3⟩
theorem fit_size (n : Nat) : (fitS n).length ≤ 400 := by
  unfold fitS
  split
  · rw [Lib.decDigits_length]; assumption
  · exact Nat.zero_le _
theorem fit_rt {n : Nat} (h : fitE n = 0) : isRt (fitS n) = true ∧ nv (fitS n) = n := by
  unfold fitE at h
  split at h
  · rename_i h2
    have : fitS n = Lib.decDigits n := if_pos h2
    rw [this, nv_dec]
    exact ⟨(isRt_iff _).2 ⟨by rw [nv_dec], by rw [Lib.decDigits_length]; exact h2⟩, rfl⟩
  · cases h
theorem fitE_two (n : Nat) : (fitE n = 0 ∧ fitE n ≠ 11) ∨ (fitE n = 11 ∧ fitS n = []) := by
  unfold fitE fitS
  split
  · exact .inl ⟨rfl, by decide⟩
  · exact .inr ⟨rfl, rfl⟩
def one1 : ByteArray := ⟨#[49]⟩
theorem one_mul {a : ByteArray} (h : isRt (tx a) = true) : mulS one1 a = tx a ∧ mulE one1 a = 0 := by
  have hb : both one1 a = true := by unfold both; rw [h]; rfl
  have h1 : nv (tx one1) = 1 := rfl
  obtain ⟨h2, h3⟩ := rt_fit h
  unfold mulS mulE
  rw [if_pos hb, if_pos hb, h1, Nat.one_mul, h2, h3]
  exact ⟨rfl, rfl⟩
theorem two_mul' {a b : ByteArray} (ha : isRt (tx a) = true) (hb : isRt (tx b) = true) : mulS a b = fitS (nv (tx a) * nv (tx b)) ∧ mulE a b = fitE (nv (tx a) * nv (tx b)) := by
  have h : both a b = true := by unfold both; rw [ha, hb]; rfl
  exact ⟨if_pos h, if_pos h⟩
theorem rt_size {a : ByteArray} (h : isRt (tx a) = true) : a.size ≤ 400 := by
  have := (rt_len h).2
  rwa [show (tx a).length = a.size from len_str a] at this

theorem pow_rt {b m : Nat} (h : powE b (m : Nat) = 0) : isRt (powS b (m : Nat)) = true ∧ nv (powS b (m : Nat)) = b ^ m := by
  unfold powE at h
  unfold powS
  split at h
  · rename_i h2
    rw [if_pos h2]
    rw [Int.toNat_natCast] at h ⊢
    exact fit_rt h
  · cases h
theorem dig20 {n : Nat} (h : n < 18446744073709551616) : Lib.nDigits n ≤ 20 := rdig_lt 19 n (by omega)

/-- the product so far. -/
def prS (a b : ByteArray) : Nat → ByteArray | 0 => one1 | 1 => a | _ => B (fitS (nv (tx a) * nv (tx b)))
def prC (a b : ByteArray) : Nat → ByteArray | 0 => a | _ => b

set_option maxRecDepth 100000 in
set_option maxHeartbeats 4000000 in
theorem product_calls (a b : ByteArray) (ha : isRt (tx a) = true) (hb : isRt (tx b) = true) (g : Nat) (w : World) (hT : Tabs w) (hg : g < w.heap.size)
    (c0 : w.cell? ⟨g, 0, none⟩ = some (.string a)) (c1 : w.cell? ⟨g, 1, none⟩ = some (.string b)) :
    Calls Tryz.prog 34 #[.slice (some ⟨g, 0, none⟩) 2 2] w fun e w' => e = .returned (.tuple #[.string (B (fitS (nv (tx a) * nv (tx b)))), .bool (decide (fitE (nv (tx a) * nv (tx b)) = 0))]) ∧ Below w.heap.size w w' := by
  have sa := rt_size ha
  have sb := rt_size hb
  have hmul : ∀ k W, k < 2 → Tabs W → Calls Tryz.prog 63 #[.string (prS a b k), .string (prC a b k)] W fun e w' => (∃ y, e = .returned (.tuple #[.string (prS a b (k + 1)), .int .i64 y]) ∧ ((y = 0 ∧ (k = 1 → fitE (nv (tx a) * nv (tx b)) = 0)) ∨ (y = 11 ∧ fitE (nv (tx a) * nv (tx b)) = 11 ∧ fitS (nv (tx a) * nv (tx b)) = []))) ∧ Below W.heap.size W w' := by
    intro k W hk hTW
    rcases (show k = 0 ∨ k = 1 by omega) with rfl | rfl
    · refine (natMul_calls one1 a (by decide) (by omega) W hTW).mono ?_
      rintro e w' ⟨rfl, hb'⟩
      obtain ⟨h1, h2⟩ := one_mul ha
      rw [h1, h2]
      exact ⟨⟨0, by rw [show (⟨(tx a).toArray⟩ : ByteArray) = a from B_tx a]; rfl, .inl ⟨rfl, fun h => by cases h⟩⟩, hb'⟩
    · refine (natMul_calls a b (by omega) (by omega) W hTW).mono ?_
      rintro e w' ⟨rfl, hb'⟩
      obtain ⟨h1, h2⟩ := two_mul' ha hb
      rw [h1, h2]
      refine ⟨⟨_, rfl, ?_⟩, hb'⟩
      rcases fitE_two (nv (tx a) * nv (tx b)) with ⟨h3, -⟩ | ⟨h3, h4⟩
      · exact .inl ⟨h3, fun _ => h3⟩
      · exact .inr ⟨h3, h3, h4⟩
  have hcell : ∀ k, k < 2 → w.cell? ⟨g, k, none⟩ = some (.string (prC a b k)) := fun k hk => by
    rcases (show k = 0 ∨ k = 1 by omega) with rfl | rfl
    · exact c0
    · exact c1
  have hcell' : ∀ k W, k < 2 → Below w.heap.size w W → W.cell? ⟨g, k, none⟩ = some (.string (prC a b k)) := fun k W hk hB => (hB.cell (p := ⟨g, k, none⟩) hg).trans (hcell k hk)
  obtain ⟨r, hr⟩ : ∃ r, B (fitS (nv (tx a) * nv (tx b))) = r := ⟨_, rfl⟩
  have h2r : prS a b 2 = r := hr
  obtain ⟨y0, hy0⟩ : ∃ y, fitE (nv (tx a) * nv (tx b)) = y := ⟨_, rfl⟩
  have hnil : fitS (nv (tx a) * nv (tx b)) = [] → r = ⟨#[]⟩ := fun h => by rw [← hr, h]; rfl
  rw [hr, hy0]
  rw [hy0] at hmul
  have HM := hid hmul
  have HC := hid hcell'
  have HN := hid (And.intro h2r hnil)
  clear hmul hcell hcell' c0 c1 hr h2r hnil hy0 sa sb ha hb hg
  go_enter Tryz.func34, Tryz.ntmps34
  go_wp2
  go_loopw [4, 10] (fun v i wr => ∃ (k : Nat), i = .int .i64 k ∧ k ≤ 2 ∧ v = .string (prS a b k) ∧ (k = 2 → y0 = 0) ∧ Below w.heap.size w wr) (fun _ i _ => 2 - (intOf i).toNat)
  case atStart => exact ⟨0, rfl, by omega, rfl, (fun h => by cases h), Below.refl _ _⟩
  case round =>
    obtain ⟨k, rfl, hk, rfl, hz, hB⟩ := hrel
    by_cases hlt : k < 2
    · have hlt' : (k : Int) < 2 := by omega
      have hc := HC.out k wr hlt hB
      have hm := HM.out k wr hlt (hT.below hB)
      obtain ⟨xa, hxa⟩ : ∃ x, prS a b k = x := ⟨_, rfl⟩
      obtain ⟨xb, hxb⟩ : ∃ x, prC a b k = x := ⟨_, rfl⟩
      obtain ⟨xc, hxc⟩ : ∃ x, prS a b (k + 1) = x := ⟨_, rfl⟩
      rw [hxa, hxb, hxc] at hm
      rw [hxb] at hc
      rw [hxa]
      have HX := hid hxc
      have HK := hid (And.intro hlt hB)
      clear hxa hxb hxc hz hB hk hlt hT
      go_wp2_with fail
      refine hm.mono ?_
      rintro e w1 ⟨⟨y, rfl, hy⟩, hb1⟩
      rcases hy with ⟨rfl, hy⟩ | ⟨rfl, hy⟩
      · have HY := hid hy
        clear hy hm hc
        go_wp2
        go_roundw
        case rel => exact ⟨k + 1, by go_num, HK.out.1, by rw [HX.out], fun h => HY.out (by omega), HK.out.2.trans (hb1.mono HK.out.2.size)⟩
        case measure =>
          have := HK.out.1
          simp [intOf]; omega
      · have HY := hid hy
        clear hy hm hc
        go_wp2
        go_ret2
        refine ⟨?_, HK.out.2.trans (hb1.mono HK.out.2.size)⟩
        rw [HY.out.1, HN.out.2 HY.out.2]
        rfl
    · have HK := hid (show k = 2 by omega)
      have hlt' : ¬ (k : Int) < 2 := by omega
      obtain ⟨xa, hxa⟩ : ∃ x, prS a b k = x := ⟨_, rfl⟩
      rw [hxa]
      have HX := hid hxa
      have HZ := hid (And.intro hz hB)
      clear hxa hz hB hk hlt
      go_wp2
      go_ret2
      refine ⟨?_, HZ.out.2⟩
      rw [← HX.out, HK.out, HN.out.1, HZ.out.1 HK.out]
      rfl
end Go.Proofs.YtfobaeoccpebeaaGreatDoor

/- math/bits.TrailingZeros64 at this seat's program: the kit's law, laid by hand. -/
namespace Go.Proofs.YtfobaeoccpebeaaGreatDoor
open Go.RowKit Go.Shelf

def lays7ren : Go.Shelf.Ren := ⟨fun | 29 => 31 | n => n, fun | 0 => 0 | 3 => 3 | 4 => 4 | 5 => 5 | 22 => 22 | 25 => 58 | 54 => 83 | n => n, fun | 1 => 0 | n => n⟩
theorem lays7 : Go.Proofs.Lays7.n29 Tryz.prog lays7ren := {
  mixed := by kernel_rfl
  f29 := Tryz.func31.trans (congrArg some (by kernel_rfl))
  t0 := Tryz.underlying0
  a0 := Tryz.isAgg0
  z0 := Tryz.sizeOf0
  v0 := Tryz.zeroValue0
  i0 := by kernel_rfl
  t3 := Tryz.underlying3
  a3 := Tryz.isAgg3
  z3 := Tryz.sizeOf3
  v3 := Tryz.zeroValue3
  i3 := by kernel_rfl
  t4 := Tryz.underlying4
  a4 := Tryz.isAgg4
  z4 := Tryz.sizeOf4
  v4 := Tryz.zeroValue4
  i4 := by kernel_rfl
  t5 := Tryz.underlying5
  a5 := Tryz.isAgg5
  z5 := Tryz.sizeOf5
  v5 := Tryz.zeroValue5
  i5 := by kernel_rfl
  t22 := Tryz.underlying22
  a22 := Tryz.isAgg22
  z22 := Tryz.sizeOf22
  v22 := Tryz.zeroValue22
  i22 := by kernel_rfl
  t25 := Tryz.underlying58
  a25 := Tryz.isAgg58
  z25 := Tryz.sizeOf58
  v25 := Tryz.zeroValue58
  i25 := by kernel_rfl
  t54 := Tryz.underlying83
  a54 := Tryz.isAgg83
  z54 := Tryz.sizeOf83
  g1 := by kernel_rfl }

theorem db_glob : Tryz.prog.globalNamed "math/bits.deBruijn64tab" = some 0 := by kernel_rfl
def dbTab : List Int := Lib.deBruijn64tab.map Int.ofNat

/-- the tables that the library reads, and that of the zeros behind a number. -/
structure Tab6 (w : World) : Prop where
  tabs : Tabs w
  db : Lib.TabIs Tryz.prog w "math/bits.deBruijn64tab" .u8 dbTab
theorem Tab6.below {w w' : World} (h : Tab6 w) (hb : Below w.heap.size w w') : Tab6 w' := ⟨h.tabs.below hb, var_kept db_glob h.db hb⟩
theorem Tab6.alloc {w : World} (h : Tab6 w) (o : Obj) : Tab6 (w.alloc o) := h.below (below_alloc w o)
theorem Tab6.drew {w : World} (h : Tab6 w) : Tab6 w.drew := h.below (Below.refl _ _).drew

theorem db_len : dbTab.length = 64 := by decide
theorem db_at : ∀ j, j < 64 → dbTab.getD j 0 = ((Lib.deBruijn64tab.getD j 0 : Nat) : Int) := by decide
theorem Tab6.at {w : World} (h : Tab6 w) : Go.Proofs.TabAt 0 Lib.deBruijn64tab w := fun j hj => by
  have hj2 : j < 64 := hj
  have := h.db.cell db_glob j (by rw [db_len]; exact hj2)
  rw [db_at j hj2] at this
  exact this

theorem tz_calls (x : Nat) (hx : x < 18446744073709551616) (w : World) (hT : Tab6 w) :
    Calls Tryz.prog 31 #[.int .u64 x] w fun e w' => e = .returned (.int .i64 (Lib.ctz 64 x)) ∧ w = w' :=
  (Go.Proofs.Any7.bits_TrailingZeros64 lays7 x hx w fun _ => hT.at).mono fun _ _ ⟨a, b⟩ => ⟨a, b.symm⟩
end Go.Proofs.YtfobaeoccpebeaaGreatDoor

/- Package float: ToDec: walked. -/
namespace Go.Proofs.YtfobaeoccpebeaaGreatDoor
open Go.RowKit Go.Shelf
attribute [local go_sem] Oper.semAt_some

theorem or_52' {F : Nat} (h : F < 4503599627370496) : bits .or .u64 (F : Int) 4503599627370496 = ((F + 4503599627370496 : Nat) : Int) := by
  have e1 := u64_or_nat F 4503599627370496 (by omega) (by omega)
  have e2 : F ||| 4503599627370496 = F + 4503599627370496 := by
    have e3 := Nat.shiftLeft_add_eq_or_of_lt (i := 52) (b := F) (by omega) 1
    rw [Nat.shiftLeft_eq] at e3
    rw [Nat.or_comm, Nat.add_comm]
    exact e3.symm
  rw [e2] at e1
  exact e1

set_option maxRecDepth 100000 in
set_option maxHeartbeats 4000000 in
theorem toDec_inf (x : Nat) (hx : x < 18446744073709551616) (hE : x / 4503599627370496 % 2048 = 2047) (w : World) :
    Calls Tryz.prog 12 #[.int .u64 x] w fun e w' => e = .returned (.tuple #[(toDecS x).1.val, .int .i64 (toDecS x).2]) ∧ Below w.heap.size w w' := by
  have hfin := fun W => isFinite_calls x hx W
  rw [show finB x = false from decide_eq_false (fun h => h hE)] at hfin
  have HR := hid (show toDecS x = (D0, 50) from if_pos hE)
  clear hE hx
  have hR1 := Cls.new w 25 [.bool false, .string ⟨#[]⟩, .int .i64 0]
  have hW1 := below_alloc w (.cells #[.bool false, .string ⟨#[]⟩, .int .i64 0] 25)
  go_enter Tryz.func12, Tryz.ntmps12
  go_wp2_with fail
  refine (hfin _).mono ?_
  rintro e w2 ⟨rfl, hb2⟩
  have hW2 := hW1.trans (hb2.mono hW1.size)
  have hR2 := hR1.below hb2
  have R_0 := hR2.cell 0 rfl
  have R_z0 := hR2.frozen 0
  have R_1 := hR2.cell 1 rfl
  have R_z1 := hR2.frozen 1
  have R_2 := hR2.cell 2 rfl
  have R_z2 := hR2.frozen 2
  go_wp2
  have hR3 := (((hR2.set 0 (.bool false)).set 1 (.string ⟨#[]⟩)).set 2 (.int .i64 0))
  have hW3 := (((hW2.setCell (p := ⟨w.heap.size, 0, none⟩) (Nat.le_refl _) (.bool false)).setCell (p := ⟨w.heap.size, 1, none⟩) (Nat.le_refl _) (.string ⟨#[]⟩)).setCell (p := ⟨w.heap.size, 2, none⟩) (Nat.le_refl _) (.int .i64 0))
  have q0 := hR3.cell 0 rfl
  have q1 := hR3.cell 1 rfl
  have q2 := hR3.cell 2 rfl
  exact bodyPost_ret (v := .tuple #[.agg #[.bool false, .string ⟨#[]⟩, .int .i64 0], .int .i64 50]) (by simp [results, Tryz.results12, go_sem, q0, q1, q2]) rfl ⟨by rw [HR.out] <;> rfl, hW3⟩

set_option maxRecDepth 100000 in
set_option maxHeartbeats 4000000 in
theorem toDec_zero (x : Nat) (hx : x < 18446744073709551616) (hE : x / 4503599627370496 % 2048 = 0) (hF : x % 4503599627370496 = 0) (w : World) :
    Calls Tryz.prog 12 #[.int .u64 x] w fun e w' => e = .returned (.tuple #[(toDecS x).1.val, .int .i64 (toDecS x).2]) ∧ Below w.heap.size w w' := by
  have hfin := fun W => isFinite_calls x hx W
  rw [show finB x = true from decide_eq_true (by show x / 4503599627370496 % 2048 ≠ 2047; omega)] at hfin
  have hparts := fun W => parts64_calls x hx W
  rw [hE, hF] at hparts
  change ∀ W, Calls _ _ _ _ fun e w' => e = .returned (.tuple #[_, .int .i64 0, .int .u64 0]) ∧ _ at hparts
  have HR := hid (show toDecS x = (Dz, 0) by
    unfold toDecS
    rw [if_neg (by show ¬ x / 4503599627370496 % 2048 = 2047; omega), if_pos (by unfold tdV; rw [if_pos (show x / A64 % 2048 = 0 from hE)]; exact hF)])
  obtain ⟨s, hs⟩ : ∃ s, x / 9223372036854775808 % 2 = s := ⟨_, rfl⟩
  rw [hs] at hparts
  clear hE hx hF hs
  have hR1 := Cls.new w 25 [.bool false, .string ⟨#[]⟩, .int .i64 0]
  have hW1 := below_alloc w (.cells #[.bool false, .string ⟨#[]⟩, .int .i64 0] 25)
  go_enter Tryz.func12, Tryz.ntmps12
  go_wp2_with fail
  refine (hfin _).mono ?_
  rintro e w2 ⟨rfl, hb2⟩
  have hW2 := hW1.trans (hb2.mono hW1.size)
  have hR2 := hR1.below hb2
  go_wp2_with fail
  refine (wide_calls _).mono ?_
  rintro e w3 ⟨rfl, hb3⟩
  have hW3 := hW2.trans (hb3.mono hW2.size)
  have hR3 := hR2.below hb3
  have hR4 := hR3.alloc (.cells #[.int .i64 52, .int .i64 11, .int .i64 64] 47)
  have hG4 := Cls.new w3 47 [.int .i64 52, .int .i64 11, .int .i64 64]
  have hW4 := hW3.alloc hW3.size (.cells #[.int .i64 52, .int .i64 11, .int .i64 64] 47)
  have R_0 := hR4.cell 0 rfl
  have R_1 := hR4.cell 1 rfl
  have R_2 := hR4.cell 2 rfl
  have G_0 := hG4.cell 0 rfl
  have G_1 := hG4.cell 1 rfl
  have G_2 := hG4.cell 2 rfl
  go_wp2_with fail
  clear R_0 R_1 R_2
  clear G_0 G_1 G_2
  generalize w3.alloc (.cells #[.int .i64 52, .int .i64 11, .int .i64 64] 47) = V5 at *
  refine (hparts _).mono ?_
  rintro e w6 ⟨rfl, hb6⟩
  have hW6 := hW4.trans (hb6.mono hW4.size)
  have hR6 := hR4.below hb6
  have hG6 := hG4.below hb6
  have R_0 := hR6.cell 0 rfl
  have R_z0 := hR6.frozen 0
  have R_1 := hR6.cell 1 rfl
  have R_z1 := hR6.frozen 1
  have R_2 := hR6.cell 2 rfl
  have R_z2 := hR6.frozen 2
  have G_0 := hG6.cell 0 rfl
  have G_z0 := hG6.frozen 0
  have G_1 := hG6.cell 1 rfl
  have G_z1 := hG6.frozen 1
  have G_2 := hG6.cell 2 rfl
  have G_z2 := hG6.frozen 2
  go_wp2
  have hR7 := (((hR6.set 0 (.bool false)).set 1 (.string ⟨#[48]⟩)).set 2 (.int .i64 0))
  have hW7 := (((hW6.setCell (p := ⟨w.heap.size, 0, none⟩) (Nat.le_refl _) (.bool false)).setCell (p := ⟨w.heap.size, 1, none⟩) (Nat.le_refl _) (.string ⟨#[48]⟩)).setCell (p := ⟨w.heap.size, 2, none⟩) (Nat.le_refl _) (.int .i64 0))
  have q0 := hR7.cell 0 rfl
  have q1 := hR7.cell 1 rfl
  have q2 := hR7.cell 2 rfl
  exact bodyPost_ret (v := .tuple #[.agg #[.bool false, .string ⟨#[48]⟩, .int .i64 0], .int .i64 0]) (by simp [results, Tryz.results12, go_sem, q0, q1, q2]) rfl ⟨by rw [HR.out] <;> rfl, hW7⟩

set_option maxRecDepth 100000 in
set_option maxHeartbeats 4000000 in
theorem toDec_num (x : Nat) (hx : x < 18446744073709551616) (hE : x / 4503599627370496 % 2048 ≠ 2047) (hV0 : tdV x ≠ 0) (w : World) (hT : Tab6 w) :
    Calls Tryz.prog 12 #[.int .u64 x] w fun e w' => e = .returned (.tuple #[(toDecS x).1.val, .int .i64 (toDecS x).2]) ∧ Below w.heap.size w w' := by
  have hfin := fun W => isFinite_calls x hx W
  rw [show finB x = true from decide_eq_true hE] at hfin
  have hparts := fun W => parts64_calls x hx W
  have hs2 : x / 9223372036854775808 < 2 := by omega
  rw [show x / 9223372036854775808 % 2 = x / 9223372036854775808 from Nat.mod_eq_of_lt hs2] at hparts
  have HR := hid (show toDecS x = if tdP x then mk (decide (x / C64 = 1)) (Lib.decDigits (tdN x)) (tdT x) else (D0, 40) by
    unfold toDecS
    rw [if_neg (show ¬ x / A64 % 2048 = 2047 from hE), if_neg hV0])
  -- the number V, the zeros behind it, the odd number O
  have hVdef : tdV x = if x / 4503599627370496 % 2048 = 0 then x % 4503599627370496 else x % 4503599627370496 + 4503599627370496 := rfl
  have hZdef : tdZ x = Lib.ctz 64 (tdV x) := rfl
  have hOdef : tdO x = tdV x / 2 ^ tdZ x := rfl
  have hXdef : tdX x = (max (x / 4503599627370496 % 2048) 1 : Nat) - 1075 + tdZ x := rfl
  have hBdef : tdB x = if tdX x < 0 then 5 else 2 := rfl
  have hTdef : tdT x = if tdX x < 0 then tdX x else 0 := rfl
  have hNdef : tdN x = tdO x * tdB x ^ (tdX x).natAbs := rfl
  have hPdef : tdP x = (decide (powE (tdB x) (tdX x).natAbs = 0) && decide (fitE (tdN x) = 0)) := rfl
  have hVlt : tdV x < 9007199254740992 := by rw [hVdef]; split <;> omega
  have hZle : tdZ x ≤ 63 := by
    obtain ⟨-, h2⟩ := Lib.lowest_bit 64 (tdV x) hV0 (by omega)
    rw [hZdef]; omega
  have htz := fun W h => tz_calls (tdV x) (by omega) W h
  rw [← hZdef] at htz
  have hpow := fun W h => natPower_calls (tdB x) ((tdX x).natAbs : Nat) (by rw [hBdef]; split <;> decide) W h
  have hOlt : tdO x < 18446744073709551616 := by rw [hOdef]; exact Nat.lt_of_le_of_lt (Nat.div_le_self _ _) (by omega)
  have hof := fun W h => natOf_calls (tdO x) hOlt W h
  have hOrt : isRt (tx (B (Lib.decDigits (tdO x)))) = true := by
    rw [tx_B, isRt_iff, nv_dec]
    exact ⟨rfl, by rw [Lib.decDigits_length]; have := dig20 hOlt; omega⟩
  have hprod : powE (tdB x) (tdX x).natAbs = 0 → ∀ (g : Nat) W, Tabs W → g < W.heap.size → W.cell? ⟨g, 0, none⟩ = some (.string (B (Lib.decDigits (tdO x)))) → W.cell? ⟨g, 1, none⟩ = some (.string (B (powS (tdB x) (tdX x).natAbs))) →
      Calls Tryz.prog 34 #[.slice (some ⟨g, 0, none⟩) 2 2] W fun e w' => e = .returned (.tuple #[.string (B (fitS (tdN x))), .bool (decide (fitE (tdN x) = 0))]) ∧ Below W.heap.size W w' := fun hp g W h1 h2 h3 h4 => by
    obtain ⟨q1, q2⟩ := pow_rt hp
    have h := product_calls (B (Lib.decDigits (tdO x))) (B (powS (tdB x) (tdX x).natAbs)) hOrt (by rw [tx_B]; exact q1) g W h1 h2 h3 h4
    rw [tx_B, tx_B, nv_dec, q2, ← hNdef] at h
    exact h
  have hmake := fun (r : ByteArray) (h : r.size ≤ 400) (n : Bool) (y : Int) (hy : -9223372036854775808 ≤ y ∧ y ≤ 9223372036854775807) W => decMake_calls n r y hy (by omega) W
  have hXb : -1100 ≤ tdX x ∧ tdX x ≤ 3000 := by rw [hXdef]; omega
  obtain ⟨s, hs⟩ : ∃ s, x / 9223372036854775808 = s := ⟨_, rfl⟩
  obtain ⟨E, he'⟩ : ∃ e, x / 4503599627370496 % 2048 = e := ⟨_, rfl⟩
  obtain ⟨F, hf⟩ : ∃ f, x % 4503599627370496 = f := ⟨_, rfl⟩
  have hFl : F < 4503599627370496 := by omega
  have hEl : E < 2048 := by omega
  rw [show x / C64 = s from hs] at HR
  rw [hs, he', hf] at hparts
  rw [he', hf] at hVdef
  rw [he'] at hXdef
  rw [hs] at hs2
  obtain ⟨V, hV⟩ : ∃ v, tdV x = v := ⟨_, rfl⟩
  obtain ⟨Z, hZ⟩ : ∃ v, tdZ x = v := ⟨_, rfl⟩
  obtain ⟨O, hO⟩ : ∃ v, tdO x = v := ⟨_, rfl⟩
  obtain ⟨X, hX⟩ : ∃ v, tdX x = v := ⟨_, rfl⟩
  obtain ⟨Bn, hBn⟩ : ∃ v, tdB x = v := ⟨_, rfl⟩
  obtain ⟨T, hTt⟩ : ∃ v, tdT x = v := ⟨_, rfl⟩
  obtain ⟨N, hN⟩ : ∃ v, tdN x = v := ⟨_, rfl⟩
  obtain ⟨ok, hok⟩ : ∃ v, tdP x = v := ⟨_, rfl⟩
  rw [hV] at hVdef hVlt htz hV0 hOdef
  rw [hZ] at hXdef htz hZle hOdef
  rw [hO] at hof hprod hOdef
  rw [hX] at hXdef hBdef hTdef hpow hprod hPdef hXb
  rw [hBn] at hBdef hpow hprod hPdef
  rw [hTt] at hTdef HR
  rw [hN] at hprod hPdef HR
  rw [hok] at hPdef HR
  clear hE he' hf hs hV hZ hO hX hBn hTt hN hok hNdef hZdef hOrt hOlt hx
  obtain ⟨m, hm⟩ : ∃ v : Nat, X.natAbs = v := ⟨_, rfl⟩
  rw [hm] at hpow hprod hPdef
  obtain ⟨pe, hpe⟩ : ∃ v, powE Bn (m : Nat) = v := ⟨_, rfl⟩
  obtain ⟨ps, hps⟩ : ∃ v, B (powS Bn (m : Nat)) = v := ⟨_, rfl⟩
  obtain ⟨os, hos⟩ : ∃ v, B (Lib.decDigits O) = v := ⟨_, rfl⟩
  obtain ⟨fe, hfe⟩ : ∃ v, decide (fitE N = 0) = v := ⟨_, rfl⟩
  obtain ⟨fs, hfs⟩ : ∃ v, B (fitS N) = v := ⟨_, rfl⟩
  rw [show (⟨(powS Bn (m : Nat)).toArray⟩ : ByteArray) = ps from hps, hpe] at hpow
  rw [show (⟨(Lib.decDigits O).toArray⟩ : ByteArray) = os from hos] at hof
  rw [hpe, hps, hos, hfs, hfe] at hprod
  rw [hpe, hfe] at hPdef
  have hfsz : fs.size ≤ 400 := by rw [← hfs, size_B]; exact fit_size N
  have hmk := fun n W => hmake fs hfsz n T (by rw [hTdef]; split <;> omega) W
  -- what the code computes
  have hgt : ((0 : Int) < (E : Int) ∧ bits .or .u64 (F : Int) 4503599627370496 = (V : Int)) ∨ (¬ (0 : Int) < (E : Int) ∧ F = V) := by
    by_cases h : E = 0
    · exact .inr ⟨by omega, by rw [hVdef, if_pos h]⟩
    · refine .inl ⟨by omega, ?_⟩
      rw [hVdef, if_neg h]; exact or_52' hFl
  have hVne : ((V : Int) == 0) = false := by rw [beq_eq_false_iff_ne]; omega
  obtain ⟨M, hM⟩ : ∃ v : Int, max (E : Int) 1 = v := ⟨_, rfl⟩
  obtain ⟨y1, hy1⟩ : ∃ y : Int, M - 1023 = y := ⟨_, rfl⟩
  obtain ⟨y2, hy2⟩ : ∃ y : Int, y1 - 52 = y := ⟨_, rfl⟩
  have hy3 : y2 + (Z : Int) = X := by omega
  have hyw1 : IntKind.i64.wrap y1 = y1 := IntWalk.i64_in _ (by omega)
  have hyw2 : IntKind.i64.wrap y2 = y2 := IntWalk.i64_in _ (by omega)
  have hywX : IntKind.i64.wrap X = X := IntWalk.i64_in _ (by omega)
  obtain ⟨nX, hnX⟩ : ∃ y : Int, -X = y := ⟨_, rfl⟩
  have hywn : IntKind.i64.wrap nX = nX := IntWalk.i64_in _ (by omega)
  have hmx : max X nX = (m : Int) := by omega
  obtain ⟨Bi, hBi⟩ : ∃ v : Int, ((Bn : Nat) : Int) = v := ⟨_, rfl⟩
  rw [hBi] at hpow
  have hsg : (X < 0 ∧ Bi = 5 ∧ T = X) ∨ (¬ X < 0 ∧ Bi = 2 ∧ T = 0) := by
    by_cases h : X < 0
    · rw [if_pos h] at hBdef hTdef; exact .inl ⟨h, by omega, hTdef⟩
    · rw [if_neg h] at hBdef hTdef; exact .inr ⟨h, by omega, hTdef⟩
  obtain ⟨PZ, hPZ⟩ : ∃ v : Nat, 2 ^ Z = v := ⟨_, rfl⟩
  have hPi : (2 : Int) ^ Z = (PZ : Int) := by rw [pow_cast, hPZ]
  rw [hPZ] at hOdef
  have hPq : (V : Int) / (PZ : Int) = (O : Int) := by rw [hOdef]; exact (Int.natCast_ediv V PZ).symm
  have hZ64 : (Z : Int) ≤ 64 := by omega
  have hsb : ((s : Int) == 1) = decide (s = 1) := by
    rcases (show s = 0 ∨ s = 1 by omega) with rfl | rfl <;> rfl
  obtain ⟨sb, hsb2⟩ : ∃ b, decide (s = 1) = b := ⟨_, rfl⟩
  rw [hsb2] at hsb HR
  obtain ⟨mr, hmr⟩ : ∃ r, mk sb (tx fs) T = r := ⟨_, rfl⟩
  have hmk := hmk sb
  rw [hmr] at hmk
  obtain ⟨r1, hr1⟩ : ∃ r, mr.1.neg = r := ⟨_, rfl⟩
  obtain ⟨r2, hr2⟩ : ∃ r, B mr.1.dg = r := ⟨_, rfl⟩
  obtain ⟨r3, hr3⟩ : ∃ r, mr.1.ex = r := ⟨_, rfl⟩
  obtain ⟨r4, hr4⟩ : ∃ r, mr.2 = r := ⟨_, rfl⟩
  have hval : mr.1.val = .agg #[.bool r1, .string r2, .int .i64 r3] := by rw [← hr1, ← hr2, ← hr3]; rfl
  rw [hval, hr4] at hmk
  -- how it ends
  have hends : (pe ≠ 0 ∧ (pe != 0) = true ∧ Hid (toDecS x = (D0, 40))) ∨ (pe = 0 ∧ ((fe = false ∧ Hid (toDecS x = (D0, 40))) ∨ (fe = true ∧ Hid ((toDecS x).1.val = .agg #[.bool r1, .string r2, .int .i64 r3] ∧ (toDecS x).2 = r4)))) := by
    by_cases h1 : pe = 0
    · refine .inr ⟨h1, ?_⟩
      cases hfe2 : fe with
      | false => exact .inl ⟨rfl, by show toDecS x = _; rw [HR.out, hPdef, hfe2, Bool.and_false]; rfl⟩
      | true =>
        refine .inr ⟨rfl, ?_⟩
        have hfit : fitE N = 0 := of_decide_eq_true (hfe.trans hfe2)
        have hfs2 : tx fs = Lib.decDigits N := by
          rw [← hfs, tx_B]
          unfold fitS
          unfold fitE at hfit
          split at hfit
          · rename_i h; rw [if_pos h]
          · cases hfit
        show _ ∧ _
        rw [HR.out, hPdef, hfe2, decide_eq_true h1, if_pos (show (true && true) = true from rfl), ← hfs2, hmr]
        exact ⟨hval, hr4⟩
    · exact .inl ⟨h1, by rw [bne_iff_ne]; exact h1, by show toDecS x = _; rw [HR.out, hPdef, decide_eq_false h1, Bool.false_and]; rfl⟩
  clear HR hPdef hmake hfsz hTdef hBdef hBi hVdef hXdef hVlt hV0 hZle hOdef hXb hPZ hm hps hos hfs hfe hpe hs2 hFl hEl hsb2 hmr hr1 hr2 hr3 hr4 hval
  have hR1 := Cls.new w 25 [.bool false, .string ⟨#[]⟩, .int .i64 0]
  have hW1 := below_alloc w (.cells #[.bool false, .string ⟨#[]⟩, .int .i64 0] 25)
  go_enter Tryz.func12, Tryz.ntmps12
  go_wp2_with fail
  refine (hfin _).mono ?_
  rintro e w2 ⟨rfl, hb2⟩
  have hW2 := hW1.trans (hb2.mono hW1.size)
  have hR2 := hR1.below hb2
  go_wp2_with fail
  refine (wide_calls _).mono ?_
  rintro e w3 ⟨rfl, hb3⟩
  have hW3 := hW2.trans (hb3.mono hW2.size)
  have hR3 := hR2.below hb3
  have hR4 := hR3.alloc (.cells #[.int .i64 52, .int .i64 11, .int .i64 64] 47)
  have hG4 := Cls.new w3 47 [.int .i64 52, .int .i64 11, .int .i64 64]
  have hW4 := hW3.alloc hW3.size (.cells #[.int .i64 52, .int .i64 11, .int .i64 64] 47)
  have R_0 := hR4.cell 0 rfl
  have R_1 := hR4.cell 1 rfl
  have R_2 := hR4.cell 2 rfl
  have G_0 := hG4.cell 0 rfl
  have G_1 := hG4.cell 1 rfl
  have G_2 := hG4.cell 2 rfl
  go_wp2_with fail
  clear R_0 R_1 R_2
  clear G_0 G_1 G_2
  generalize w3.alloc (.cells #[.int .i64 52, .int .i64 11, .int .i64 64] 47) = V5 at *
  refine (hparts _).mono ?_
  rintro e w6 ⟨rfl, hb6⟩
  have hW6 := hW4.trans (hb6.mono hW4.size)
  have hR6 := hR4.below hb6
  have hG6 := hG4.below hb6
  have G_0 := hG6.cell 0 rfl
  have G_1 := hG6.cell 1 rfl
  have G_2 := hG6.cell 2 rfl
  go_upto_if 28 with (fail)
  go_cut [7] (fun v wx => v = .int .u64 V ∧ Cls wx (w.heap.size) 25 [.bool false, .string ⟨#[]⟩, .int .i64 0] ∧ Cls wx (w3.heap.size) 47 [.int .i64 52, .int .i64 11, .int .i64 64] ∧ Below w.heap.size w wx)
  case first =>
    rcases hgt with ⟨h1, h2⟩ | ⟨h1, rfl⟩
    all_goals (
      go_wp2
      go_meet
      exact ⟨rfl, hR6, hG6, hW6⟩)
  case rest =>
    clear G_0 G_1 G_2 hgt
    obtain ⟨rfl, hR7, hG7, hW7⟩ := hcut
    go_wp2_with fail
    refine (htz _ (hT.below hW7)).mono ?_
    rintro e v8 ⟨rfl, rfl⟩
    have G_0 := hG7.cell 0 rfl
    have G_1 := hG7.cell 1 rfl
    have G_2 := hG7.cell 2 rfl
    go_upto_region 10 with fail
    go_cut [6] (fun v wx => v = .int .i64 X ∧ Cls wx (w.heap.size) 25 [.bool false, .string ⟨#[]⟩, .int .i64 0] ∧ Below w.heap.size w wx)
    case first =>
      have hhR := hR7
      have hhG := hG7
      have hhW := hW7
      go_region_held3 (fun w' => w'.cell? ⟨w3.heap.size, 0, none⟩ = some (.int .i64 52) ∧ w'.cell? ⟨w3.heap.size, 1, none⟩ = some (.int .i64 11) ∧ w'.cell? ⟨w3.heap.size, 2, none⟩ = some (.int .i64 64) ∧ Cls w' (w.heap.size) 25 [.bool false, .string ⟨#[]⟩, .int .i64 0] ∧ Cls w' (w3.heap.size) 47 [.int .i64 52, .int .i64 11, .int .i64 64] ∧ Below w.heap.size w w')
        (first
          | (refine ⟨?_, ?_, ?_, ?_, ?_, ?_⟩ <;> first | assumption | exact cell_below (by assumption) hbX | exact Cls.below (by assumption) hbX | exact below_nextF (by assumption) hbX | exact Below.drew (by assumption))
          | go_keep
          | (go_split_ands
             refine ⟨?_, ?_, ?_, ?_, ?_, ?_⟩ <;> first | assumption | exact cell_below (by assumption) hbX | exact Cls.below (by assumption) hbX | exact below_nextF (by assumption) hbX | exact Below.drew (by assumption)))
        (first
          | (go_at_call_of 32 (Value.agg #[.int .i64 52, .int .i64 11, .int .i64 64]); refine (bias64_calls _).mono ?_; rintro e wa ⟨rfl, hbX⟩))
      all_goals (
        go_wp2_with fail
        go_meet
        go_split_ands
        exact ⟨rfl, by assumption, by assumption⟩)
    case rest =>
      clear G_0 G_1 G_2
      obtain ⟨rfl, hR9, hW9⟩ := hcut
      rcases hsg with ⟨hX0, rfl, rfl⟩ | ⟨hX0, rfl, rfl⟩
      all_goals (
        go_wp2_with fail
        refine (hpow _ (Tab6.tabs (hT.below hW9))).mono ?_
        rintro e w10 ⟨rfl, hb10⟩
        have hW10 := hW9.trans (hb10.mono hW9.size)
        have hR10 := hR9.below hb10
        rcases hends with ⟨-, h2, HD⟩ | ⟨rfl, ⟨rfl, HD⟩ | ⟨rfl, HD⟩⟩
        · skip
          have R_0 := hR10.cell 0 rfl
          have R_z0 := hR10.frozen 0
          have R_1 := hR10.cell 1 rfl
          have R_z1 := hR10.frozen 1
          have R_2 := hR10.cell 2 rfl
          have R_z2 := hR10.frozen 2
          clear hprod hmk
          go_wp2
          have hR11 := (((hR10.set 0 (.bool false)).set 1 (.string ⟨#[]⟩)).set 2 (.int .i64 0))
          have hW11 := (((hW10.setCell (p := ⟨w.heap.size, 0, none⟩) (Nat.le_refl _) (.bool false)).setCell (p := ⟨w.heap.size, 1, none⟩) (Nat.le_refl _) (.string ⟨#[]⟩)).setCell (p := ⟨w.heap.size, 2, none⟩) (Nat.le_refl _) (.int .i64 0))
          have q0 := hR11.cell 0 rfl
          have q1 := hR11.cell 1 rfl
          have q2 := hR11.cell 2 rfl
          exact bodyPost_ret (v := .tuple #[.agg #[.bool false, .string ⟨#[]⟩, .int .i64 0], .int .i64 40]) (by simp [results, Tryz.results12, go_sem, q0, q1, q2]) rfl ⟨by rw [HD.out] <;> rfl, hW11⟩
        · skip
          have hprod2 := hprod rfl
          clear hprod
          go_wp2_with fail
          refine (hof _ (Tab6.tabs (hT.below hW10))).mono ?_
          rintro e w201 ⟨rfl, hb201⟩
          have hW201 := hW10.trans (hb201.mono hW10.size)
          have hR201 := hR10.below hb201
          have hR202 := hR201.alloc (.cells #[.string os, .string ps] 9)
          have hS202 := Cls.new w201 9 [.string os, .string ps]
          have hW202 := hW201.alloc hW201.size (.cells #[.string os, .string ps] 9)
          have S_0 := hS202.cell 0 rfl
          have S_1 := hS202.cell 1 rfl
          go_wp2_with fail
          clear S_0 S_1
          generalize w201.alloc (.cells #[.string os, .string ps] 9) = V203 at *
          refine (hprod2 _ _ (Tab6.tabs (hT.below hW202)) hS202.lt (hS202.cell 0 rfl) (hS202.cell 1 rfl)).mono ?_
          rintro e w204 ⟨rfl, hb204⟩
          have hW204 := hW202.trans (hb204.mono hW202.size)
          have hR204 := hR202.below hb204
          have hS204 := hS202.below hb204
          have R_0 := hR204.cell 0 rfl
          have R_z0 := hR204.frozen 0
          have R_1 := hR204.cell 1 rfl
          have R_z1 := hR204.frozen 1
          have R_2 := hR204.cell 2 rfl
          have R_z2 := hR204.frozen 2
          go_wp2
          have hR205 := (((hR204.set 0 (.bool false)).set 1 (.string ⟨#[]⟩)).set 2 (.int .i64 0))
          have hW205 := (((hW204.setCell (p := ⟨w.heap.size, 0, none⟩) (Nat.le_refl _) (.bool false)).setCell (p := ⟨w.heap.size, 1, none⟩) (Nat.le_refl _) (.string ⟨#[]⟩)).setCell (p := ⟨w.heap.size, 2, none⟩) (Nat.le_refl _) (.int .i64 0))
          have q0 := hR205.cell 0 rfl
          have q1 := hR205.cell 1 rfl
          have q2 := hR205.cell 2 rfl
          exact bodyPost_ret (v := .tuple #[.agg #[.bool false, .string ⟨#[]⟩, .int .i64 0], .int .i64 40]) (by simp [results, Tryz.results12, go_sem, q0, q1, q2]) rfl ⟨by rw [HD.out] <;> rfl, hW205⟩
        · skip
          have hprod2 := hprod rfl
          clear hprod
          go_wp2_with fail
          refine (hof _ (Tab6.tabs (hT.below hW10))).mono ?_
          rintro e w301 ⟨rfl, hb301⟩
          have hW301 := hW10.trans (hb301.mono hW10.size)
          have hR301 := hR10.below hb301
          have hR302 := hR301.alloc (.cells #[.string os, .string ps] 9)
          have hS302 := Cls.new w301 9 [.string os, .string ps]
          have hW302 := hW301.alloc hW301.size (.cells #[.string os, .string ps] 9)
          have S_0 := hS302.cell 0 rfl
          have S_1 := hS302.cell 1 rfl
          go_wp2_with fail
          clear S_0 S_1
          generalize w301.alloc (.cells #[.string os, .string ps] 9) = V303 at *
          refine (hprod2 _ _ (Tab6.tabs (hT.below hW302)) hS302.lt (hS302.cell 0 rfl) (hS302.cell 1 rfl)).mono ?_
          rintro e w304 ⟨rfl, hb304⟩
          have hW304 := hW302.trans (hb304.mono hW302.size)
          have hR304 := hR302.below hb304
          have hS304 := hS302.below hb304
          have R_0 := hR304.cell 0 rfl
          have R_z0 := hR304.frozen 0
          have R_1 := hR304.cell 1 rfl
          have R_z1 := hR304.frozen 1
          have R_2 := hR304.cell 2 rfl
          have R_z2 := hR304.frozen 2
          go_wp2_with fail
          clear R_0 R_z0 R_1 R_z1 R_2 R_z2
          refine (hmk _).mono ?_
          rintro e w305 ⟨rfl, hb305⟩
          have hW305 := hW304.trans (hb305.mono hW304.size)
          have hR305 := hR304.below hb305
          have hS305 := hS304.below hb305
          have R_0 := hR305.cell 0 rfl
          have R_z0 := hR305.frozen 0
          have R_1 := hR305.cell 1 rfl
          have R_z1 := hR305.frozen 1
          have R_2 := hR305.cell 2 rfl
          have R_z2 := hR305.frozen 2
          go_wp2
          have hR306 := (((hR305.set 0 (.bool r1)).set 1 (.string r2)).set 2 (.int .i64 r3))
          have hW306 := (((hW305.setCell (p := ⟨w.heap.size, 0, none⟩) (Nat.le_refl _) (.bool r1)).setCell (p := ⟨w.heap.size, 1, none⟩) (Nat.le_refl _) (.string r2)).setCell (p := ⟨w.heap.size, 2, none⟩) (Nat.le_refl _) (.int .i64 r3))
          have q0 := hR306.cell 0 rfl
          have q1 := hR306.cell 1 rfl
          have q2 := hR306.cell 2 rfl
          exact bodyPost_ret (v := .tuple #[.agg #[.bool r1, .string r2, .int .i64 r3], .int .i64 r4]) (by simp [results, Tryz.results12, go_sem, q0, q1, q2]) rfl ⟨by rw [HD.out.1, HD.out.2], hW306⟩)

theorem toDec_calls (x : Nat) (hx : x < 18446744073709551616) (w : World) (hT : Tab6 w) :
    Calls Tryz.prog 12 #[.int .u64 x] w fun e w' => e = .returned (.tuple #[(toDecS x).1.val, .int .i64 (toDecS x).2]) ∧ Below w.heap.size w w' := by
  by_cases h1 : x / 4503599627370496 % 2048 = 2047
  · exact toDec_inf x hx h1 w
  · by_cases h2 : tdV x = 0
    · have h3 : tdV x = if x / 4503599627370496 % 2048 = 0 then x % 4503599627370496 else x % 4503599627370496 + 4503599627370496 := rfl
      rw [h2] at h3
      by_cases h4 : x / 4503599627370496 % 2048 = 0
      · rw [if_pos h4] at h3
        exact toDec_zero x hx h4 h3.symm w
      · rw [if_neg h4] at h3; omega
    · exact toDec_num x hx h1 h2 w hT
end Go.Proofs.YtfobaeoccpebeaaGreatDoor

/- Package float: whole: walked. -/
namespace Go.Proofs.YtfobaeoccpebeaaGreatDoor
open Go.RowKit Go.Shelf
attribute [local go_sem] Oper.semAt_some

/-- a number's digits, as a text. -/
def Dg (n : Nat) : ByteArray := B (Lib.decDigits n)
theorem tx_Dg (n : Nat) : tx (Dg n) = Lib.decDigits n := tx_B _
theorem rt_Dg {n m : Nat} (h : n ≤ m) (hm : fitE m = 0) : isRt (tx (Dg n)) = true := by
  rw [tx_Dg, isRt_iff, nv_dec, Lib.decDigits_length]
  refine ⟨rfl, ?_⟩
  have := rdig_up h
  unfold fitE at hm
  split at hm
  · omega
  · cases hm
theorem dgDiv_calls (n b : Nat) (hb0 : b ≠ 0) (hb32 : b < 4294967296) (hr : isRt (tx (Dg n)) = true) (w : World) (hT : Tabs w) :
    Calls Tryz.prog 67 #[.string (Dg n), .int .u32 b] w fun e w' => e = .returned (.tuple #[.string (Dg (n / b)), .int .u32 (n % b : Nat), .int .i64 0]) ∧ Below w.heap.size w w' := by
  have h := natDiv_calls (Dg n) b hb32 (by have := rt_size hr; omega) w hT
  have h1 : divQ (Dg n) b = Lib.decDigits (n / b) := by unfold divQ; rw [hr, decide_eq_true hb0, if_pos (by rfl), tx_Dg, nv_dec]
  have h2 : divR (Dg n) b = n % b := by unfold divR; rw [hr, decide_eq_true hb0, if_pos (by rfl), tx_Dg, nv_dec]
  have h3 : divE (Dg n) b = 0 := by unfold divE; rw [hr, decide_eq_true hb0, if_pos (by rfl)]
  rw [h1, h2, h3] at h
  exact h
theorem od_fit {d : D} (h : decR d = true) (h0 : d.dg ≠ [48]) : fitE (odN d) = 0 ∧ powE 5 (d.ex.toNat : Nat) = 0 ∧ isRt d.dg = true ∧ -100 ≤ d.ex ∧ d.ex ≤ 100 := by
  obtain ⟨h1, h2, h3, h4, h5, h6⟩ := decR_parts h h0
  have a1 := nv_bound (rt_dgs h1)
  have a2 := ten_le (show d.dg.length ≤ 100 by omega)
  have a3 : (5 : Nat) ^ d.ex.toNat ≤ 10 ^ 99 := Nat.le_trans (Nat.pow_le_pow_right (by omega) (show d.ex.toNat ≤ 100 by omega)) (by decide)
  refine ⟨?_, powE_ok (by omega) (dig_le (k := 99) (Nat.lt_of_le_of_lt a3 (by decide)) (by omega)), h1, h3, h4⟩
  refine dig_le (k := 198) ?_ (by omega)
  unfold odN
  have : nv d.dg * 5 ^ d.ex.toNat < 10 ^ 100 * 10 ^ 99 := Nat.mul_lt_mul_of_lt_of_le (by omega) a3 (Nat.pow_pos (by omega))
  rwa [← Nat.pow_add] at this
theorem mod_step {N k b : Nat} (h : N % b ^ k = 0) : (N / b ^ k % b = 0 → N % b ^ (k + 1) = 0) ∧ (N / b ^ k % b ≠ 0 → N % b ^ (k + 1) ≠ 0) := by
  rw [Nat.pow_succ, Nat.mod_mul, h, Nat.zero_add]
  refine ⟨fun h2 => by rw [h2, Nat.mul_zero], fun h2 h3 => ?_⟩
  rcases Nat.mul_eq_zero.1 h3 with h4 | h4
  · rw [h4, Nat.mod_zero] at h
    rw [h4, Nat.div_zero, Nat.zero_mod] at h2
    exact h2 rfl
  · exact h2 h4
theorem mod_less {N k K b : Nat} (h : k ≤ K) (h2 : N % b ^ K = 0) : N % b ^ k = 0 := by
  obtain ⟨c, hc⟩ := Nat.dvd_of_mod_eq_zero h2
  obtain ⟨j, rfl⟩ : ∃ j, K = k + j := ⟨K - k, by omega⟩
  rw [hc, Nat.pow_add, Nat.mul_assoc]
  exact Nat.mul_mod_right _ _
theorem half_step {M Z O j : Nat} (h : M = 2 ^ Z * O) (ho : O % 2 = 1) (hj : j ≤ Z) : (M / 2 ^ j % 2 = 0 → j < Z) ∧ (M / 2 ^ j % 2 ≠ 0 → j = Z ∧ M / 2 ^ j = O) := by
  have e : M / 2 ^ j = 2 ^ (Z - j) * O := by
    have h1 : 2 ^ Z = 2 ^ j * 2 ^ (Z - j) := by rw [← Nat.pow_add]; congr 1; omega
    rw [h, h1, Nat.mul_assoc, Nat.mul_div_cancel_left _ (Nat.pow_pos (by omega))]
  rw [e]
  rcases Nat.lt_or_ge j Z with h2 | h2
  · refine ⟨fun _ => h2, fun h3 => ?_⟩
    exfalso; apply h3
    obtain ⟨i, hi⟩ : ∃ i, Z - j = i + 1 := ⟨Z - j - 1, by omega⟩
    rw [hi, Nat.pow_succ, Nat.mul_comm (2 ^ i) 2, Nat.mul_assoc]
    exact Nat.mul_mod_right _ _
  · obtain rfl : j = Z := by omega
    rw [Nat.sub_self, Nat.pow_zero, Nat.one_mul]
    exact ⟨fun h3 => by omega, fun _ => ⟨rfl, rfl⟩⟩
theorem dv_step (N k b : Nat) : N / b ^ k / b = N / b ^ (k + 1) := by rw [Nat.div_div_eq_div_mul, Nat.pow_succ]

/-- what whole tells. -/
def whR (d : D) : Value := if odN d % 5 ^ odK d = 0 then .tuple #[.string (Dg (odO d)), .int .i64 (odX d), .bool true] else .tuple #[.string ⟨#[]⟩, .int .i64 0, .bool false]

set_option maxRecDepth 100000 in
set_option maxHeartbeats 4000000 in
theorem fwhole_calls (d : D) (hd : decR d = true) (h0 : d.dg ≠ [48]) (w : World) (hT : Tabs w) :
    Calls Tryz.prog 39 #[d.val] w fun e w' => e = .returned (whR d) ∧ Below w.heap.size w w' := by
  obtain ⟨f1, f2, f3, f4, f5⟩ := od_fit hd h0
  have hH1 : odN d % 5 ^ odK d ≠ 0 → whR d = .tuple #[.string ⟨#[]⟩, .int .i64 0, .bool false] := fun h => if_neg h
  have hH2 : odN d % 5 ^ odK d = 0 → whR d = .tuple #[.string (Dg (odO d)), .int .i64 (odX d), .bool true] := fun h => if_pos h
  have hpar : odN d % 5 ^ odK d = 0 → odM d = 2 ^ odZ d * odO d ∧ odO d % 2 = 1 ∧ odZ d ≤ 640 := fun h => by
    obtain ⟨_, p2, p3, p4, _⟩ := od_parts hd h0 h
    exact ⟨p2, p3, p4⟩
  have hMdef : odM d = odN d / 5 ^ odK d := rfl
  have hXdef : odX d = d.ex + odZ d := rfl
  have hKdef : odK d = (-d.ex).toNat := rfl
  have hNdef : odN d = nv d.dg * 5 ^ d.ex.toNat := rfl
  have hpow := fun W h => natPower_calls 5 (d.ex.toNat : Nat) (by decide) W h
  change ∀ W, Tabs W → Calls _ _ #[.int .u32 5, _] _ _ at hpow
  obtain ⟨q1, q2⟩ := pow_rt f2
  rw [f2] at hpow
  have hprod := fun g W h1 h2 h3 h4 => product_calls (B d.dg) (B (powS 5 (d.ex.toNat : Nat))) (by rw [tx_B]; exact f3) (by rw [tx_B]; exact q1) g W h1 h2 h3 h4
  rw [tx_B, tx_B, q2, ← hNdef, f1] at hprod
  have hfs : B (fitS (odN d)) = Dg (odN d / 5 ^ 0) := by
    have h1 := f1
    unfold fitE at h1
    unfold fitS Dg
    split at h1
    · rename_i h; rw [if_pos h, Nat.pow_zero, Nat.div_one]
    · cases h1
  rw [hfs] at hprod
  change ∀ g W, Tabs W → _ → _ → _ → Calls _ _ _ _ fun e w' => e = .returned (.tuple #[_, .bool true]) ∧ _ at hprod
  have hrt5 : ∀ k, isRt (tx (Dg (odN d / 5 ^ k))) = true := fun k => rt_Dg (Nat.div_le_self _ _) f1
  have hrt2 : ∀ j, isRt (tx (Dg (odM d / 2 ^ j))) = true := fun j => rt_Dg (Nat.le_trans (Nat.div_le_self _ _) (Nat.div_le_self _ _)) f1
  have hdiv5 := fun k W h => dgDiv_calls (odN d / 5 ^ k) 5 (by decide) (by decide) (hrt5 k) W h
  have hdiv2 := fun j W h => dgDiv_calls (odM d / 2 ^ j) 2 (by decide) (by decide) (hrt2 j) W h
  simp only [dv_step] at hdiv5 hdiv2
  change ∀ k W, Tabs W → Calls _ _ #[_, .int .u32 5] _ _ at hdiv5
  change ∀ k W, Tabs W → Calls _ _ #[_, .int .u32 2] _ _ at hdiv2
  have hval : d.val = .agg #[.bool d.neg, .string (B d.dg), .int .i64 d.ex] := rfl
  rw [hval]
  obtain ⟨N, hN⟩ : ∃ v, odN d = v := ⟨_, rfl⟩
  obtain ⟨K, hK⟩ : ∃ v, odK d = v := ⟨_, rfl⟩
  obtain ⟨M, hM⟩ : ∃ v, odM d = v := ⟨_, rfl⟩
  obtain ⟨Z, hZ⟩ : ∃ v, odZ d = v := ⟨_, rfl⟩
  obtain ⟨O, hO⟩ : ∃ v, odO d = v := ⟨_, rfl⟩
  obtain ⟨X, hX⟩ : ∃ v, odX d = v := ⟨_, rfl⟩
  obtain ⟨x, hx⟩ : ∃ v, d.ex = v := ⟨_, rfl⟩
  obtain ⟨n, hn⟩ : ∃ v, d.neg = v := ⟨_, rfl⟩
  obtain ⟨s, hs⟩ : ∃ v, B d.dg = v := ⟨_, rfl⟩
  obtain ⟨res, hwr⟩ : ∃ v, whR d = v := ⟨_, rfl⟩
  rw [hN, hK] at hH1 hH2 hpar hMdef
  rw [hM, hZ, hO] at hpar
  rw [hO, hX, hwr] at hH2
  rw [hwr] at hH1
  rw [hM] at hMdef hdiv2
  rw [hX, hx, hZ] at hXdef
  rw [hK, hx] at hKdef
  rw [hx] at hpow hprod f4 f5
  rw [hN] at hprod hdiv5
  rw [hs] at hprod
  rw [hn, hs, hx, hwr]
  obtain ⟨ps, hps⟩ : ∃ v, B (powS 5 (x.toNat : Nat)) = v := ⟨_, rfl⟩
  rw [show (⟨(powS 5 (x.toNat : Nat)).toArray⟩ : ByteArray) = ps from hps] at hpow
  rw [hps] at hprod
  clear hval hNdef f1 f2 f3 hrt5 hrt2 q1 q2 hfs hps hN hK hM hZ hO hX hx hn hs hd h0 hwr
  obtain ⟨p, hp⟩ : ∃ v : Nat, x.toNat = v := ⟨_, rfl⟩
  rw [hp] at hpow
  have hmx : max x 0 = (p : Int) := by omega
  obtain ⟨y, hy⟩ : ∃ v : Int, min x 0 = v := ⟨_, rfl⟩
  have hny : -y = (K : Int) := by omega
  have hwK : IntKind.i64.wrap (K : Int) = (K : Int) := IntWalk.i64_in _ (by omega)
  have HP := hid (And.intro hpar (And.intro hH1 (And.intro hH2 (And.intro hMdef (And.intro hXdef (And.intro hKdef (And.intro f4 f5)))))))
  have HD5 := hid hdiv5
  have HD2 := hid hdiv2
  have HK := hid (show K ≤ 100 by omega)
  clear hpar hH1 hH2 hMdef hXdef hKdef f4 f5 hdiv5 hdiv2 hp
  have hD1 := Cls.new w 25 [.bool n, .string s, .int .i64 x]
  have hW1 := below_alloc w (.cells #[.bool n, .string s, .int .i64 x] 25)
  have D_0 := hD1.cell 0 rfl
  have D_1 := hD1.cell 1 rfl
  have D_2 := hD1.cell 2 rfl
  go_enter Tryz.func39, Tryz.ntmps39
  go_wp2
  refine wp_scope_straight ?_
  go_wp2_with fail
  clear D_0 D_1 D_2
  refine (hpow _ (hT.below hW1)).mono ?_
  rintro e w2 ⟨rfl, hb2⟩
  have hW2 := hW1.trans (hb2.mono hW1.size)
  have hD2 := hD1.below hb2
  have D_0 := hD2.cell 0 rfl
  have D_1 := hD2.cell 1 rfl
  have D_2 := hD2.cell 2 rfl
  go_wp2_with fail
  clear D_0 D_1 D_2
  have hD3 := hD2.alloc (.cells #[.string s, .string ps] 9)
  have hS3 := Cls.new w2 9 [.string s, .string ps]
  have hW3 := hW2.alloc hW2.size (.cells #[.string s, .string ps] 9)
  generalize w2.alloc (.cells #[.string s, .string ps] 9) = V9 at *
  refine (hprod _ _ (hT.below hW3) hS3.lt (hS3.cell 0 rfl) (hS3.cell 1 rfl)).mono ?_
  rintro e w4 ⟨rfl, hb4⟩
  have hW4 := hW3.trans (hb4.mono hW3.size)
  have hD4 := hD3.below hb4
  have hS4 := hS3.below hb4
  clear hprod hpow
  have D_0 := hD4.cell 0 rfl
  have D_1 := hD4.cell 1 rfl
  have D_2 := hD4.cell 2 rfl
  go_wp2
  clear D_0 D_1 D_2
  go_loopw [7, 41] (fun v i wq => ∃ (k : Nat), i = .int .i64 k ∧ k ≤ K ∧ v = .string (Dg (N / 5 ^ k)) ∧ N % 5 ^ k = 0 ∧ Cls wq w.heap.size 25 [.bool n, .string s, .int .i64 x] ∧ Below w.heap.size w wq) (fun _ i _ => K - (intOf i).toNat)
  case atStart => exact ⟨0, rfl, Nat.zero_le _, by rw [Nat.pow_zero, Nat.div_one], Nat.mod_one _, hD4, hW4⟩
  case round =>
    obtain ⟨k, rfl, hk, rfl, hz, hC, hB⟩ := hrel
    by_cases hlt : k < K
    · have hlt' : (k : Int) < (K : Int) := by omega
      have hk100 : (k : Int) < 100 := by have := HK.out; omega
      have hd := HD5.out k wr (hT.below hB)
      obtain ⟨ta, hta⟩ : ∃ t, Dg (N / 5 ^ k) = t := ⟨_, rfl⟩
      obtain ⟨tb, htb⟩ : ∃ t, Dg (N / 5 ^ (k + 1)) = t := ⟨_, rfl⟩
      obtain ⟨r, hr⟩ : ∃ t, N / 5 ^ k % 5 = t := ⟨_, rfl⟩
      rw [hta, htb, hr] at hd
      rw [hta]
      have hst := mod_step hz
      rw [hr] at hst
      have HX := hid (And.intro htb (And.intro hst (And.intro hC (And.intro hB hlt))))
      clear hta htb hst hC hz hr hk hlt
      by_cases hr0 : r = 0
      · subst hr0
        change Calls _ _ _ _ fun e w' => e = .returned (.tuple #[_, .int .u32 0, _]) ∧ _ at hd
        go_wp2_with fail
        refine hd.mono ?_
        rintro e w21 ⟨rfl, hb21⟩
        clear hd
        go_wp2
        go_roundw
        case rel => exact ⟨k + 1, by go_num, HX.out.2.2.2.2, by rw [HX.out.1], HX.out.2.1.1 (by first | rfl | trivial), HX.out.2.2.1.below hb21, HX.out.2.2.2.1.trans (hb21.mono HX.out.2.2.2.1.size)⟩
        case measure =>
          have := HX.out.2.2.2.2
          simp [intOf]; omega
      · have hrne : ((r : Int) != 0) = true := by rw [bne_iff_ne]; omega
        have HR := hid hr0
        clear hr0
        go_wp2_with fail
        refine hd.mono ?_
        rintro e w21 ⟨rfl, hb21⟩
        clear hd
        go_wp2
        rw [Exit.noGoto_ret]
        go_ret3
        refine ⟨?_, HX.out.2.2.2.1.trans (hb21.mono HX.out.2.2.2.1.size)⟩
        rw [HP.out.2.1 (fun h => HX.out.2.1.2 HR.out (mod_less HX.out.2.2.2.2 h))]
        rfl
    · have hlt' : ¬ (k : Int) < (K : Int) := by omega
      obtain rfl : k = K := by omega
      obtain ⟨hpar, hH1, hH2, hMdef, hXdef, hKdef, f4, f5⟩ := HP.out
      obtain ⟨p1, p2, p3⟩ := hpar hz
      have HW := hid (hH2 hz)
      have HS := hid (And.intro p1 (And.intro p2 (And.intro p3 (And.intro hXdef (And.intro f4 f5)))))
      rw [← hMdef]
      clear hpar hH1 hH2 hMdef hXdef hKdef f4 f5 p1 p2 p3 hz hk hlt HP
      have D_0 := hC.cell 0 rfl
      have D_1 := hC.cell 1 rfl
      have D_2 := hC.cell 2 rfl
      go_wp2_with fail
      first | refine wp_label ?_ | refine wp_seq (wp_label ?_)
      go_wp2_with fail
      clear D_0 D_1 D_2
      go_loopw [7, 12] (fun v i wq => ∃ (j : Nat), i = .int .i64 (x + j) ∧ j ≤ Z ∧ v = .string (Dg (M / 2 ^ j)) ∧ Below w.heap.size w wq) (fun _ i _ => (x + Z - intOf i).toNat)
      case atStart => exact ⟨0, by simp, Nat.zero_le _, by rw [Nat.pow_zero, Nat.div_one], hB⟩
      case round =>
        obtain ⟨j, rfl, hj, rfl, hB2⟩ := hrel
        obtain ⟨p1, p2, p3, hXd, f4, f5⟩ := HS.out
        have hd := HD2.out j wr (hT.below hB2)
        have hst := half_step p1 p2 hj
        obtain ⟨ta, hta⟩ : ∃ t, Dg (M / 2 ^ j) = t := ⟨_, rfl⟩
        obtain ⟨tb, htb⟩ : ∃ t, Dg (M / 2 ^ (j + 1)) = t := ⟨_, rfl⟩
        obtain ⟨r, hr⟩ : ∃ t, M / 2 ^ j % 2 = t := ⟨_, rfl⟩
        rw [hta, htb, hr] at hd
        rw [hta]
        rw [hr] at hst
        obtain ⟨z, hz⟩ : ∃ z : Int, x + (j : Int) = z := ⟨_, rfl⟩
        rw [hz]
        have hwz : IntKind.i64.wrap (z + 1) = z + 1 := IntWalk.i64_in _ (by omega)
        have hz1 : -200 < z := by omega
        have hz2 : z < 2000 := by omega
        have HX := hid (And.intro hta (And.intro htb (And.intro hst (And.intro hB2 (And.intro hz hXd)))))
        clear hta htb hst hB2 hr hj p1 p2 p3 hXd f4 f5 hz hB hC
        by_cases hr0 : r = 0
        · subst hr0
          change Calls _ _ _ _ fun e w' => e = .returned (.tuple #[_, .int .u32 0, _]) ∧ _ at hd
          go_wp2_with fail
          refine hd.mono ?_
          rintro e w31 ⟨rfl, hb31⟩
          clear hd
          go_wp2
          go_roundw
          case rel => exact ⟨j + 1, by rw [← HX.out.2.2.2.2.1]; go_num, HX.out.2.2.1.1 (by first | rfl | trivial), by rw [HX.out.2.1], HX.out.2.2.2.1.trans (hb31.mono HX.out.2.2.2.1.size)⟩
          case measure =>
            have h1 := HX.out.2.2.1.1 (by first | rfl | trivial)
            have h2 := HX.out.2.2.2.2.1
            simp [intOf]; omega
        · have hrne : ((r : Int) != 0) = true := by rw [bne_iff_ne]; omega
          have HR := hid hr0
          clear hr0
          go_wp2_with fail
          refine hd.mono ?_
          rintro e w31 ⟨rfl, hb31⟩
          clear hd
          go_wp2
          rw [Exit.noGoto_ret]
          go_ret3
          refine ⟨?_, HX.out.2.2.2.1.trans (hb31.mono HX.out.2.2.2.1.size)⟩
          obtain ⟨g1, g2⟩ := HX.out.2.2.1.2 HR.out
          rw [HW.out, HX.out.2.2.2.2.2, ← HX.out.2.2.2.2.1, ← HX.out.1, g2, g1]
          rfl
end Go.Proofs.YtfobaeoccpebeaaGreatDoor

/- Package float: OfDec: walked. -/
namespace Go.Proofs.YtfobaeoccpebeaaGreatDoor
open Go.RowKit Go.Shelf
attribute [local go_sem] Oper.semAt_some

set_option maxRecDepth 100000 in
set_option maxHeartbeats 4000000 in
theorem ofDec_not (n : Bool) (s : ByteArray) (x : Int) (hs : s.size ≤ 140737488355328) (hd : decR ⟨n, tx s, x⟩ = false) (w : World) :
    Calls Tryz.prog 14 #[.agg #[.bool n, .string s, .int .i64 x]] w fun e w' => e = .returned (.tuple #[.int .u64 (ofV ⟨n, tx s, x⟩ : Nat), .bool (ofOk ⟨n, tx s, x⟩)]) ∧ Below w.heap.size w w' := by
  have hright := fun W => decRight_calls n s x hs W
  rw [hd] at hright
  have HR := hid (show ofV ⟨n, tx s, x⟩ = 0 ∧ ofOk ⟨n, tx s, x⟩ = false by
    unfold ofV ofOk
    rw [hd]
    exact ⟨rfl, rfl⟩)
  clear hd
  have hD1 := Cls.new w 25 [.bool n, .string s, .int .i64 x]
  have hW1 := below_alloc w (.cells #[.bool n, .string s, .int .i64 x] 25)
  have D_0 := hD1.cell 0 rfl
  have D_1 := hD1.cell 1 rfl
  have D_2 := hD1.cell 2 rfl
  go_enter Tryz.func14, Tryz.ntmps14
  go_wp2_with fail
  refine (hright _).mono ?_
  rintro e w2 ⟨rfl, hb2⟩
  have hW2 := hW1.trans (hb2.mono hW1.size)
  have hD2 := hD1.below hb2
  go_wp2
  go_ret2
  exact ⟨by rw [HR.out.1, HR.out.2] <;> rfl, hW2⟩

set_option maxRecDepth 100000 in
set_option maxHeartbeats 4000000 in
theorem ofDec_zero (n : Bool) (s : ByteArray) (x : Int) (hs : s.size ≤ 140737488355328) (hd : decR ⟨n, tx s, x⟩ = true) (h0 : tx s = [48]) (w : World) :
    Calls Tryz.prog 14 #[.agg #[.bool n, .string s, .int .i64 x]] w fun e w' => e = .returned (.tuple #[.int .u64 (ofV ⟨n, tx s, x⟩ : Nat), .bool (ofOk ⟨n, tx s, x⟩)]) ∧ Below w.heap.size w w' := by
  have hright := fun W => decRight_calls n s x hs W
  rw [hd] at hright
  have HR := hid (show ofV ⟨n, tx s, x⟩ = 0 ∧ ofOk ⟨n, tx s, x⟩ = true by
    unfold ofV ofOk
    rw [hd, decide_eq_true h0]
    exact ⟨rfl, rfl⟩)
  have hb : (s.toList == [48]) = true := by rw [beq_iff_eq, Lib.toList_data]; exact h0
  clear hd h0
  have hD1 := Cls.new w 25 [.bool n, .string s, .int .i64 x]
  have hW1 := below_alloc w (.cells #[.bool n, .string s, .int .i64 x] 25)
  have D_0 := hD1.cell 0 rfl
  have D_1 := hD1.cell 1 rfl
  have D_2 := hD1.cell 2 rfl
  go_enter Tryz.func14, Tryz.ntmps14
  go_wp2_with fail
  refine (hright _).mono ?_
  rintro e w2 ⟨rfl, hb2⟩
  have hW2 := hW1.trans (hb2.mono hW1.size)
  have hD2 := hD1.below hb2
  clear D_0 D_1 D_2
  have D_0 := hD2.cell 0 rfl
  have D_1 := hD2.cell 1 rfl
  have D_2 := hD2.cell 2 rfl
  go_wp2
  go_ret2
  exact ⟨by rw [HR.out.1, HR.out.2] <;> rfl, hW2⟩

set_option maxRecDepth 100000 in
set_option maxHeartbeats 4000000 in
theorem ofDec_part (n : Bool) (s : ByteArray) (x : Int) (hs : s.size ≤ 140737488355328) (hd : decR ⟨n, tx s, x⟩ = true) (h0 : tx s ≠ [48]) (hno : odN ⟨n, tx s, x⟩ % 5 ^ odK ⟨n, tx s, x⟩ ≠ 0) (w : World) (hT : Tabs w) :
    Calls Tryz.prog 14 #[.agg #[.bool n, .string s, .int .i64 x]] w fun e w' => e = .returned (.tuple #[.int .u64 (ofV ⟨n, tx s, x⟩ : Nat), .bool (ofOk ⟨n, tx s, x⟩)]) ∧ Below w.heap.size w w' := by
  have hright := fun W => decRight_calls n s x hs W
  rw [hd] at hright
  have hb : (s.toList == [48]) = false := by rw [beq_eq_false_iff_ne, Lib.toList_data]; exact h0
  have HR := hid (show ofV ⟨n, tx s, x⟩ = 0 ∧ ofOk ⟨n, tx s, x⟩ = false by
    unfold ofV ofOk ofB
    rw [hd, decide_eq_false h0, decide_eq_false hno]
    exact ⟨rfl, rfl⟩)
  have hwh := fun W h => fwhole_calls ⟨n, tx s, x⟩ hd h0 W h
  rw [show whR ⟨n, tx s, x⟩ = .tuple #[.string ⟨#[]⟩, .int .i64 0, .bool false] from if_neg hno, show D.val ⟨n, tx s, x⟩ = .agg #[.bool n, .string s, .int .i64 x] by show DV n (B (tx s)) x = _; rw [B_tx]; rfl] at hwh
  clear hd h0 hno
  have hD1 := Cls.new w 25 [.bool n, .string s, .int .i64 x]
  have hW1 := below_alloc w (.cells #[.bool n, .string s, .int .i64 x] 25)
  have D_0 := hD1.cell 0 rfl
  have D_1 := hD1.cell 1 rfl
  have D_2 := hD1.cell 2 rfl
  go_enter Tryz.func14, Tryz.ntmps14
  go_wp2_with fail
  refine (hright _).mono ?_
  rintro e w2 ⟨rfl, hb2⟩
  have hW2 := hW1.trans (hb2.mono hW1.size)
  have hD2 := hD1.below hb2
  clear D_0 D_1 D_2
  have D_0 := hD2.cell 0 rfl
  have D_1 := hD2.cell 1 rfl
  have D_2 := hD2.cell 2 rfl
  go_wp2_with fail
  refine (wide_calls _).mono ?_
  rintro e w3 ⟨rfl, hb3⟩
  have hW3 := hW2.trans (hb3.mono hW2.size)
  have hD3 := hD2.below hb3
  clear D_0 D_1 D_2
  have hD4 := hD3.alloc (.cells #[.int .i64 52, .int .i64 11, .int .i64 64] 47)
  have hG4 := Cls.new w3 47 [.int .i64 52, .int .i64 11, .int .i64 64]
  have hW4 := hW3.alloc hW3.size (.cells #[.int .i64 52, .int .i64 11, .int .i64 64] 47)
  have D_0 := hD4.cell 0 rfl
  have D_1 := hD4.cell 1 rfl
  have D_2 := hD4.cell 2 rfl
  go_wp2_with fail
  clear D_0 D_1 D_2
  generalize w3.alloc (.cells #[.int .i64 52, .int .i64 11, .int .i64 64] 47) = V9 at *
  refine (hwh _ (hT.below hW4)).mono ?_
  rintro e w5 ⟨rfl, hb5⟩
  have hW5 := hW4.trans (hb5.mono hW4.size)
  have hD5 := hD4.below hb5
  have hG5 := hG4.below hb5
  go_wp2
  go_ret2
  exact ⟨by rw [HR.out.1, HR.out.2] <;> rfl, hW5⟩

set_option maxRecDepth 100000 in
set_option maxHeartbeats 4000000 in
theorem ofDec_whole (n : Bool) (s : ByteArray) (x : Int) (hs : s.size ≤ 140737488355328) (hd : decR ⟨n, tx s, x⟩ = true) (h0 : tx s ≠ [48]) (hB : odN ⟨n, tx s, x⟩ % 5 ^ odK ⟨n, tx s, x⟩ = 0) (w : World) (hT : Tabs w) :
    Calls Tryz.prog 14 #[.agg #[.bool n, .string s, .int .i64 x]] w fun e w' => e = .returned (.tuple #[.int .u64 (ofV ⟨n, tx s, x⟩ : Nat), .bool (ofOk ⟨n, tx s, x⟩)]) ∧ Below w.heap.size w w' := by
  have hright := fun W => decRight_calls n s x hs W
  rw [hd] at hright
  have hb : (s.toList == [48]) = false := by rw [beq_eq_false_iff_ne, Lib.toList_data]; exact h0
  obtain ⟨d, hdd⟩ : ∃ d : D, D.mk n (tx s) x = d := ⟨_, rfl⟩
  have hdx : d.ex = x := by rw [← hdd]
  have hdn : d.neg = n := by rw [← hdd]
  have hdg : d.dg = tx s := by rw [← hdd]
  rw [hdd] at hd hB ⊢
  have h0' : d.dg ≠ [48] := by rw [hdg]; exact h0
  obtain ⟨f1, f2, f3, f4, f5⟩ := od_fit hd h0'
  obtain ⟨p1, p2, p3, p4, p5⟩ := od_parts hd h0' hB
  have hwh := fun W h => fwhole_calls d hd h0' W h
  rw [show whR d = .tuple #[.string (Dg (odO d)), .int .i64 (odX d), .bool true] from if_pos hB, show d.val = .agg #[.bool n, .string s, .int .i64 x] by rw [← hdd]; show DV n (B (tx s)) x = _; rw [B_tx]; rfl] at hwh
  have hO0 : 0 < odO d := by omega
  have hOle : odO d ≤ odN d := Nat.le_trans (Nat.div_le_self _ _) (Nat.div_le_self _ _)
  have hOrt := rt_Dg hOle f1
  have hto := fun W h => natTo_calls (Dg (odO d)) (by have := rt_size hOrt; omega) W h
  have ht1 : toN (Dg (odO d)) = if odO d < 18446744073709551616 then odO d else 0 := by
    unfold toN
    rw [hOrt, tx_Dg, nv_dec, Bool.true_and]
    by_cases h : odO d < 18446744073709551616
    · rw [decide_eq_true h, if_pos rfl, if_pos h]
    · rw [decide_eq_false h, if_neg h]; rfl
  have ht2 : toB (Dg (odO d)) = decide (odO d < 18446744073709551616) := by
    unfold toB
    rw [hOrt, tx_Dg, nv_dec, Bool.true_and]
  rw [ht1, ht2] at hto
  have hV1 : ofOk d = decide (odO d < 2 * A64) := by
    unfold ofOk ofB
    rw [hd, decide_eq_false h0', decide_eq_true hB]; rfl
  have hV2 : ofV d = if odO d < 2 * A64 then (if n then C64 else 0) + (odX d + Lib.bitLen (odO d) + 1022).toNat * A64 + (odO d * 2 ^ (53 - Lib.bitLen (odO d)) - A64) else 0 := by
    unfold ofV ofB
    rw [hd, decide_eq_false h0', decide_eq_true hB, hdn]
    by_cases h : odO d < 2 * A64
    · rw [decide_eq_true h, if_pos (by rfl), if_pos h]
    · rw [decide_eq_false h, if_neg (by decide), if_neg h]
  have hXb : -100 ≤ odX d ∧ odX d ≤ 740 := by have : odX d = d.ex + odZ d := rfl; omega
  obtain ⟨O, hO⟩ : ∃ v, odO d = v := ⟨_, rfl⟩
  obtain ⟨X, hX⟩ : ∃ v, odX d = v := ⟨_, rfl⟩
  rw [hO] at hO0 hto hV1 hV2 hwh
  rw [hX] at hXb hV2 hwh
  rw [hV1]
  clear p1 p2 p3 p4 p5 f1 f2 f3 f4 f5 hOle hOrt ht1 ht2 hO hX hd hB h0 h0' hdd hdx hdn hdg hV1
  have hA53 : 2 * A64 = 9007199254740992 := rfl
  obtain ⟨so, hso⟩ : ∃ v, Dg O = v := ⟨_, rfl⟩
  rw [hso] at hwh hto
  clear hso
  by_cases h64 : O < 18446744073709551616
  · rw [if_pos h64, decide_eq_true h64] at hto
    have hlenf := fun W => Tryz.bits_Len64 (O : Int) W (by omega) (by omega)
    rw [Int.toNat_natCast] at hlenf
    have hL64 := len_64 h64
    by_cases h53 : O < 2 * A64
    · obtain ⟨l1, l2, l3, l4⟩ := len53 hO0 h53
      rw [if_pos h53] at hV2
      rw [decide_eq_true h53]
      obtain ⟨L, hL⟩ : ∃ v, Lib.bitLen O = v := ⟨_, rfl⟩
      rw [hL] at hlenf l1 l2 l3 l4 hV2
      obtain ⟨U, hU⟩ : ∃ v, 53 - L = v := ⟨_, rfl⟩
      rw [hU] at l3 l4 hV2
      obtain ⟨PU, hPU⟩ : ∃ v : Nat, 2 ^ U = v := ⟨_, rfl⟩
      rw [hPU] at l3 l4 hV2
      have hPi : (2 : Int) ^ U = (PU : Int) := by rw [pow_cast, hPU]
      obtain ⟨Y, hY⟩ : ∃ v, O * PU = v := ⟨_, rfl⟩
      rw [hY] at l3 l4 hV2
      have hYi : (O : Int) * (PU : Int) = (Y : Int) := by rw [← hY]; exact (Int.natCast_mul O PU).symm
      have hYw : IntKind.u64.wrap (Y : Int) = (Y : Int) := IntWalk.u64_in _ (by omega)
      obtain ⟨f, hf⟩ : ∃ v, Y - A64 = v := ⟨_, rfl⟩
      have hA : A64 = 4503599627370496 := rfl
      have hfl : f < 4503599627370496 := by omega
      rw [hf] at hV2
      have hand := and_mask (x := Y) (n := 52) (by omega) 4503599627370495 (by decide) (by decide)
      rw [show Y % 2 ^ 52 = f by omega] at hand
      have hop := fun W => ones_calls 52 (by decide) W
      change ∀ W, Calls _ _ #[.int .i64 52] _ fun e w' => e = .returned (.int .u64 4503599627370495) ∧ _ at hop
      obtain ⟨E, hE⟩ : ∃ v : Nat, (X + L + 1022).toNat = v := ⟨_, rfl⟩
      rw [hE] at hV2
      obtain ⟨y1, hy1⟩ : ∃ v : Int, X - (U : Int) = v := ⟨_, rfl⟩
      obtain ⟨y2, hy2⟩ : ∃ v : Int, y1 + 52 = v := ⟨_, rfl⟩
      have hy3 : y2 + 1023 = (E : Int) := by omega
      have hyw1 : IntKind.i64.wrap y1 = y1 := IntWalk.i64_in _ (by omega)
      have hyw2 : IntKind.i64.wrap y2 = y2 := IntWalk.i64_in _ (by omega)
      have hyw3 : IntKind.i64.wrap (E : Int) = (E : Int) := IntWalk.i64_in _ (by omega)
      have hUi : (53 : Int) - (L : Int) = (U : Int) := by omega
      have hUw : IntKind.i64.wrap (U : Int) = (U : Int) := IntWalk.i64_in _ (by omega)
      have hU64 : (U : Int) ≤ 64 := by omega
      have hw53 : IntKind.i64.wrap 53 = 53 := by decide
      obtain ⟨sg, hsg⟩ : ∃ v : Nat, (if n then 1 else 0) = v := ⟨_, rfl⟩
      have hsg2 : sg < 2 := by rw [← hsg]; cases n <;> decide
      have hj := fun W => joined64_calls sg E f hsg2 (by omega) hfl W
      obtain ⟨v, hv⟩ : ∃ v, sg * 9223372036854775808 + E * 4503599627370496 + f = v := ⟨_, rfl⟩
      rw [hv] at hj
      have HR := hid (show ofV d = v by
        rw [hV2, ← hv, ← hsg]
        cases n <;> simp [A64, C64])
      have hn2 : (n = true ∧ sg = 1) ∨ (n = false ∧ sg = 0) := by
        rw [← hsg]; cases n
        · exact .inr ⟨rfl, rfl⟩
        · exact .inl ⟨rfl, rfl⟩
      clear hV2 hv hsg hsg2 hf hfl hE hY hPU hL hU l1 l2 l3 l4 h53 h64 hXb hO0 hA hA53 hL64
      rcases hn2 with ⟨rfl, rfl⟩ | ⟨rfl, rfl⟩
      · change ∀ W, Calls _ _ #[_, .int .u64 1, _, _] _ _ at hj
        have hD1 := Cls.new w 25 [.bool true, .string s, .int .i64 x]
        have hW1 := below_alloc w (.cells #[.bool true, .string s, .int .i64 x] 25)
        have D_0 := hD1.cell 0 rfl
        have D_1 := hD1.cell 1 rfl
        have D_2 := hD1.cell 2 rfl
        go_enter Tryz.func14, Tryz.ntmps14
        go_wp2_with fail
        refine (hright _).mono ?_
        rintro e w2 ⟨rfl, hb2⟩
        have hW2 := hW1.trans (hb2.mono hW1.size)
        have hD2 := hD1.below hb2
        clear D_0 D_1 D_2
        have D_0 := hD2.cell 0 rfl
        have D_1 := hD2.cell 1 rfl
        have D_2 := hD2.cell 2 rfl
        go_wp2_with fail
        refine (wide_calls _).mono ?_
        rintro e w3 ⟨rfl, hb3⟩
        have hW3 := hW2.trans (hb3.mono hW2.size)
        have hD3 := hD2.below hb3
        clear D_0 D_1 D_2
        have hD4 := hD3.alloc (.cells #[.int .i64 52, .int .i64 11, .int .i64 64] 47)
        have hG4 := Cls.new w3 47 [.int .i64 52, .int .i64 11, .int .i64 64]
        have hW4 := hW3.alloc hW3.size (.cells #[.int .i64 52, .int .i64 11, .int .i64 64] 47)
        have D_0 := hD4.cell 0 rfl
        have D_1 := hD4.cell 1 rfl
        have D_2 := hD4.cell 2 rfl
        go_wp2_with fail
        clear D_0 D_1 D_2
        generalize w3.alloc (.cells #[.int .i64 52, .int .i64 11, .int .i64 64] 47) = V9 at *
        refine (hwh _ (hT.below hW4)).mono ?_
        rintro e w5 ⟨rfl, hb5⟩
        have hW5 := hW4.trans (hb5.mono hW4.size)
        have hD5 := hD4.below hb5
        have hG5 := hG4.below hb5
        go_wp2_with fail
        refine (hto _ (hT.below hW5)).mono ?_
        rintro e w6 ⟨rfl, hb6⟩
        have hW6 := hW5.trans (hb6.mono hW5.size)
        have hD6 := hD5.below hb6
        have hG6 := hG5.below hb6
        have G_0 := hG6.cell 0 rfl
        have G_1 := hG6.cell 1 rfl
        have G_2 := hG6.cell 2 rfl
        go_wp2_with fail
        go_quiet ((go_at_call 41; refine Calls.quiet_of_same (hlenf _)))
        clear G_0 G_1 G_2
        have hD_q : Cls (w6.drewN nq) (w.heap.size) 25 [.bool true, .string s, .int .i64 x] := hD6
        have hG_q : Cls (w6.drewN nq) (w3.heap.size) 47 [.int .i64 52, .int .i64 11, .int .i64 64] := hG6
        have hW_q : Below w.heap.size w (w6.drewN nq) := belowN hW6 nq
        generalize w6.drewN nq = Z1 at *
        have D_0 := hD_q.cell 0 rfl
        have D_1 := hD_q.cell 1 rfl
        have D_2 := hD_q.cell 2 rfl
        have G_0 := hG_q.cell 0 rfl
        have G_1 := hG_q.cell 1 rfl
        have G_2 := hG_q.cell 2 rfl
        go_wp2_with fail
        clear D_0 D_1 D_2
        have hhD := hD_q
        have hhG := hG_q
        have hhW := hW_q
        go_region_held3 (fun w' => w'.cell? ⟨w3.heap.size, 0, none⟩ = some (.int .i64 52) ∧ w'.cell? ⟨w3.heap.size, 1, none⟩ = some (.int .i64 11) ∧ w'.cell? ⟨w3.heap.size, 2, none⟩ = some (.int .i64 64) ∧ Cls w' (w.heap.size) 25 [.bool true, .string s, .int .i64 x] ∧ Cls w' (w3.heap.size) 47 [.int .i64 52, .int .i64 11, .int .i64 64] ∧ Below w.heap.size w w')
          (first
            | (refine ⟨?_, ?_, ?_, ?_, ?_, ?_⟩ <;> first | assumption | exact cell_below (by assumption) hbX | exact Cls.below (by assumption) hbX | exact below_nextF (by assumption) hbX | exact Below.drew (by assumption))
            | go_keep
            | (go_split_ands
               refine ⟨?_, ?_, ?_, ?_, ?_, ?_⟩ <;> first | assumption | exact cell_below (by assumption) hbX | exact Cls.below (by assumption) hbX | exact below_nextF (by assumption) hbX | exact Below.drew (by assumption)))
          (first
            | (go_at_call_of 32 (Value.agg #[.int .i64 52, .int .i64 11, .int .i64 64]); refine (bias64_calls _).mono ?_; rintro e wa ⟨rfl, hbX⟩)
            | (go_at_call 43; refine (hop _).mono ?_; rintro e wb ⟨rfl, rfl⟩)
            | (go_at_call 42; refine (hj _).mono ?_; rintro e wc ⟨rfl, hbX⟩))
        all_goals (
          go_wp2
          go_ret2
          go_split_ands
          exact ⟨by rw [HR.out] <;> rfl, by assumption⟩)
      · change ∀ W, Calls _ _ #[_, .int .u64 0, _, _] _ _ at hj
        have hD1 := Cls.new w 25 [.bool false, .string s, .int .i64 x]
        have hW1 := below_alloc w (.cells #[.bool false, .string s, .int .i64 x] 25)
        have D_0 := hD1.cell 0 rfl
        have D_1 := hD1.cell 1 rfl
        have D_2 := hD1.cell 2 rfl
        go_enter Tryz.func14, Tryz.ntmps14
        go_wp2_with fail
        refine (hright _).mono ?_
        rintro e w2 ⟨rfl, hb2⟩
        have hW2 := hW1.trans (hb2.mono hW1.size)
        have hD2 := hD1.below hb2
        clear D_0 D_1 D_2
        have D_0 := hD2.cell 0 rfl
        have D_1 := hD2.cell 1 rfl
        have D_2 := hD2.cell 2 rfl
        go_wp2_with fail
        refine (wide_calls _).mono ?_
        rintro e w3 ⟨rfl, hb3⟩
        have hW3 := hW2.trans (hb3.mono hW2.size)
        have hD3 := hD2.below hb3
        clear D_0 D_1 D_2
        have hD4 := hD3.alloc (.cells #[.int .i64 52, .int .i64 11, .int .i64 64] 47)
        have hG4 := Cls.new w3 47 [.int .i64 52, .int .i64 11, .int .i64 64]
        have hW4 := hW3.alloc hW3.size (.cells #[.int .i64 52, .int .i64 11, .int .i64 64] 47)
        have D_0 := hD4.cell 0 rfl
        have D_1 := hD4.cell 1 rfl
        have D_2 := hD4.cell 2 rfl
        go_wp2_with fail
        clear D_0 D_1 D_2
        generalize w3.alloc (.cells #[.int .i64 52, .int .i64 11, .int .i64 64] 47) = V9 at *
        refine (hwh _ (hT.below hW4)).mono ?_
        rintro e w5 ⟨rfl, hb5⟩
        have hW5 := hW4.trans (hb5.mono hW4.size)
        have hD5 := hD4.below hb5
        have hG5 := hG4.below hb5
        go_wp2_with fail
        refine (hto _ (hT.below hW5)).mono ?_
        rintro e w6 ⟨rfl, hb6⟩
        have hW6 := hW5.trans (hb6.mono hW5.size)
        have hD6 := hD5.below hb6
        have hG6 := hG5.below hb6
        have G_0 := hG6.cell 0 rfl
        have G_1 := hG6.cell 1 rfl
        have G_2 := hG6.cell 2 rfl
        go_wp2_with fail
        go_quiet ((go_at_call 41; refine Calls.quiet_of_same (hlenf _)))
        clear G_0 G_1 G_2
        have hD_q : Cls (w6.drewN nq) (w.heap.size) 25 [.bool false, .string s, .int .i64 x] := hD6
        have hG_q : Cls (w6.drewN nq) (w3.heap.size) 47 [.int .i64 52, .int .i64 11, .int .i64 64] := hG6
        have hW_q : Below w.heap.size w (w6.drewN nq) := belowN hW6 nq
        generalize w6.drewN nq = Z1 at *
        have D_0 := hD_q.cell 0 rfl
        have D_1 := hD_q.cell 1 rfl
        have D_2 := hD_q.cell 2 rfl
        have G_0 := hG_q.cell 0 rfl
        have G_1 := hG_q.cell 1 rfl
        have G_2 := hG_q.cell 2 rfl
        go_wp2_with fail
        clear D_0 D_1 D_2
        have hhD := hD_q
        have hhG := hG_q
        have hhW := hW_q
        go_region_held3 (fun w' => w'.cell? ⟨w3.heap.size, 0, none⟩ = some (.int .i64 52) ∧ w'.cell? ⟨w3.heap.size, 1, none⟩ = some (.int .i64 11) ∧ w'.cell? ⟨w3.heap.size, 2, none⟩ = some (.int .i64 64) ∧ Cls w' (w.heap.size) 25 [.bool false, .string s, .int .i64 x] ∧ Cls w' (w3.heap.size) 47 [.int .i64 52, .int .i64 11, .int .i64 64] ∧ Below w.heap.size w w')
          (first
            | (refine ⟨?_, ?_, ?_, ?_, ?_, ?_⟩ <;> first | assumption | exact cell_below (by assumption) hbX | exact Cls.below (by assumption) hbX | exact below_nextF (by assumption) hbX | exact Below.drew (by assumption))
            | go_keep
            | (go_split_ands
               refine ⟨?_, ?_, ?_, ?_, ?_, ?_⟩ <;> first | assumption | exact cell_below (by assumption) hbX | exact Cls.below (by assumption) hbX | exact below_nextF (by assumption) hbX | exact Below.drew (by assumption)))
          (first
            | (go_at_call_of 32 (Value.agg #[.int .i64 52, .int .i64 11, .int .i64 64]); refine (bias64_calls _).mono ?_; rintro e wa ⟨rfl, hbX⟩)
            | (go_at_call 43; refine (hop _).mono ?_; rintro e wb ⟨rfl, rfl⟩)
            | (go_at_call 42; refine (hj _).mono ?_; rintro e wc ⟨rfl, hbX⟩))
        all_goals (
          go_wp2
          go_ret2
          go_split_ands
          exact ⟨by rw [HR.out] <;> rfl, by assumption⟩)
    · have hL : (53 : Int) < (Lib.bitLen O : Int) := len_gt (n := 53) h64 (by omega) (fun h => h53 h)
      obtain ⟨L, hLe⟩ : ∃ v, Lib.bitLen O = v := ⟨_, rfl⟩
      rw [hLe] at hlenf hL hL64
      rw [if_neg h53] at hV2
      rw [decide_eq_false h53]
      have HR := hid hV2
      have hU : (53 : Int) - (L : Int) < 0 := by omega
      obtain ⟨y, hy⟩ : ∃ y : Int, (53 : Int) - (L : Int) = y := ⟨_, rfl⟩
      rw [hy] at hU
      have hyw : IntKind.i64.wrap y = y := IntWalk.i64_in _ (by omega)
      have hw53 : IntKind.i64.wrap 53 = 53 := by decide
      clear hV2 hLe h53 h64 hXb hO0 hA53 hL hL64
      have hD1 := Cls.new w 25 [.bool n, .string s, .int .i64 x]
      have hW1 := below_alloc w (.cells #[.bool n, .string s, .int .i64 x] 25)
      have D_0 := hD1.cell 0 rfl
      have D_1 := hD1.cell 1 rfl
      have D_2 := hD1.cell 2 rfl
      go_enter Tryz.func14, Tryz.ntmps14
      go_wp2_with fail
      refine (hright _).mono ?_
      rintro e w2 ⟨rfl, hb2⟩
      have hW2 := hW1.trans (hb2.mono hW1.size)
      have hD2 := hD1.below hb2
      clear D_0 D_1 D_2
      have D_0 := hD2.cell 0 rfl
      have D_1 := hD2.cell 1 rfl
      have D_2 := hD2.cell 2 rfl
      go_wp2_with fail
      refine (wide_calls _).mono ?_
      rintro e w3 ⟨rfl, hb3⟩
      have hW3 := hW2.trans (hb3.mono hW2.size)
      have hD3 := hD2.below hb3
      clear D_0 D_1 D_2
      have hD4 := hD3.alloc (.cells #[.int .i64 52, .int .i64 11, .int .i64 64] 47)
      have hG4 := Cls.new w3 47 [.int .i64 52, .int .i64 11, .int .i64 64]
      have hW4 := hW3.alloc hW3.size (.cells #[.int .i64 52, .int .i64 11, .int .i64 64] 47)
      have D_0 := hD4.cell 0 rfl
      have D_1 := hD4.cell 1 rfl
      have D_2 := hD4.cell 2 rfl
      go_wp2_with fail
      clear D_0 D_1 D_2
      generalize w3.alloc (.cells #[.int .i64 52, .int .i64 11, .int .i64 64] 47) = V9 at *
      refine (hwh _ (hT.below hW4)).mono ?_
      rintro e w5 ⟨rfl, hb5⟩
      have hW5 := hW4.trans (hb5.mono hW4.size)
      have hD5 := hD4.below hb5
      have hG5 := hG4.below hb5
      go_wp2_with fail
      refine (hto _ (hT.below hW5)).mono ?_
      rintro e w6 ⟨rfl, hb6⟩
      have hW6 := hW5.trans (hb6.mono hW5.size)
      have hD6 := hD5.below hb6
      have hG6 := hG5.below hb6
      have G_0 := hG6.cell 0 rfl
      have G_1 := hG6.cell 1 rfl
      have G_2 := hG6.cell 2 rfl
      go_wp2_with fail
      go_quiet ((go_at_call 41; refine Calls.quiet_of_same (hlenf _)))
      clear G_0 G_1 G_2
      have hD_q : Cls (w6.drewN nq) (w.heap.size) 25 [.bool n, .string s, .int .i64 x] := hD6
      have hG_q : Cls (w6.drewN nq) (w3.heap.size) 47 [.int .i64 52, .int .i64 11, .int .i64 64] := hG6
      have hW_q : Below w.heap.size w (w6.drewN nq) := belowN hW6 nq
      generalize w6.drewN nq = Z1 at *
      go_wp2
      go_ret2
      exact ⟨by rw [HR.out] <;> rfl, hW_q⟩
  · rw [if_neg h64, decide_eq_false h64] at hto
    have h53 : ¬ O < 2 * A64 := by omega
    rw [if_neg h53] at hV2
    rw [decide_eq_false h53]
    have HR := hid hV2
    have hlenf := fun W => Tryz.bits_Len64 0 W (by omega) (by omega)
    change ∀ W, Calls _ _ _ _ fun e w' => e = .returned (.int .i64 0) ∧ _ at hlenf
    have hw53 : IntKind.i64.wrap 53 = 53 := by decide
    change ∀ W, Tabs W → Calls _ _ _ _ fun e w' => e = .returned (.tuple #[.int .u64 0, _]) ∧ _ at hto
    clear hV2 h53 h64 hXb hO0 hA53
    have hD1 := Cls.new w 25 [.bool n, .string s, .int .i64 x]
    have hW1 := below_alloc w (.cells #[.bool n, .string s, .int .i64 x] 25)
    have D_0 := hD1.cell 0 rfl
    have D_1 := hD1.cell 1 rfl
    have D_2 := hD1.cell 2 rfl
    go_enter Tryz.func14, Tryz.ntmps14
    go_wp2_with fail
    refine (hright _).mono ?_
    rintro e w2 ⟨rfl, hb2⟩
    have hW2 := hW1.trans (hb2.mono hW1.size)
    have hD2 := hD1.below hb2
    clear D_0 D_1 D_2
    have D_0 := hD2.cell 0 rfl
    have D_1 := hD2.cell 1 rfl
    have D_2 := hD2.cell 2 rfl
    go_wp2_with fail
    refine (wide_calls _).mono ?_
    rintro e w3 ⟨rfl, hb3⟩
    have hW3 := hW2.trans (hb3.mono hW2.size)
    have hD3 := hD2.below hb3
    clear D_0 D_1 D_2
    have hD4 := hD3.alloc (.cells #[.int .i64 52, .int .i64 11, .int .i64 64] 47)
    have hG4 := Cls.new w3 47 [.int .i64 52, .int .i64 11, .int .i64 64]
    have hW4 := hW3.alloc hW3.size (.cells #[.int .i64 52, .int .i64 11, .int .i64 64] 47)
    have D_0 := hD4.cell 0 rfl
    have D_1 := hD4.cell 1 rfl
    have D_2 := hD4.cell 2 rfl
    go_wp2_with fail
    clear D_0 D_1 D_2
    generalize w3.alloc (.cells #[.int .i64 52, .int .i64 11, .int .i64 64] 47) = V9 at *
    refine (hwh _ (hT.below hW4)).mono ?_
    rintro e w5 ⟨rfl, hb5⟩
    have hW5 := hW4.trans (hb5.mono hW4.size)
    have hD5 := hD4.below hb5
    have hG5 := hG4.below hb5
    go_wp2_with fail
    refine (hto _ (hT.below hW5)).mono ?_
    rintro e w6 ⟨rfl, hb6⟩
    have hW6 := hW5.trans (hb6.mono hW5.size)
    have hD6 := hD5.below hb6
    have hG6 := hG5.below hb6
    have G_0 := hG6.cell 0 rfl
    have G_1 := hG6.cell 1 rfl
    have G_2 := hG6.cell 2 rfl
    go_wp2_with fail
    go_quiet ((go_at_call 41; refine Calls.quiet_of_same (hlenf _)))
    clear G_0 G_1 G_2
    have hD_q : Cls (w6.drewN nq) (w.heap.size) 25 [.bool n, .string s, .int .i64 x] := hD6
    have hG_q : Cls (w6.drewN nq) (w3.heap.size) 47 [.int .i64 52, .int .i64 11, .int .i64 64] := hG6
    have hW_q : Below w.heap.size w (w6.drewN nq) := belowN hW6 nq
    generalize w6.drewN nq = Z1 at *
    go_wp2
    go_ret2
    exact ⟨by rw [HR.out] <;> rfl, hW_q⟩

theorem ofDec_calls (n : Bool) (s : ByteArray) (x : Int) (hs : s.size ≤ 140737488355328) (w : World) (hT : Tabs w) :
    Calls Tryz.prog 14 #[.agg #[.bool n, .string s, .int .i64 x]] w fun e w' => e = .returned (.tuple #[.int .u64 (ofV ⟨n, tx s, x⟩ : Nat), .bool (ofOk ⟨n, tx s, x⟩)]) ∧ Below w.heap.size w w' := by
  cases hd : decR ⟨n, tx s, x⟩ with
  | false => exact ofDec_not n s x hs hd w
  | true =>
    by_cases h0 : tx s = [48]
    · exact ofDec_zero n s x hs hd h0 w
    · by_cases hB : odN ⟨n, tx s, x⟩ % 5 ^ odK ⟨n, tx s, x⟩ = 0
      · exact ofDec_whole n s x hs hd h0 hB w hT
      · exact ofDec_part n s x hs hd h0 hB w hT
end Go.Proofs.YtfobaeoccpebeaaGreatDoor

