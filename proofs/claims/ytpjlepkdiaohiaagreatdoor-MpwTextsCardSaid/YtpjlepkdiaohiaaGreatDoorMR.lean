/- The statement MpwTexts: walked. -/
import Derived.Test.YtpjlepkdiaohiaaGreatDoorMQ
import Derived.Lib.ValidLaws
import Derived.Laws.IdiomStrings
import Derived.Laws.MakeOwn
namespace Go.Proofs.YtpjlepkdiaohiaaGreatDoor
open Go.RowKit
attribute [local go_sem] Oper.semAt_some

/-- so many zeros. -/
def zb (a : Nat) : ByteArray := B (List.replicate a 0)
theorem zb_size (a : Nat) : (zb a).size = a := by unfold zb; rw [size_B, List.length_replicate]
theorem zb_utf (a : Nat) : utfOk (zb a) = true := by
  unfold utfOk zb
  show Lib.validD (tx (B _)) = true
  rw [tx_B]
  induction a with
  | zero => rfl
  | succ a ih => rw [List.replicate_succ, Lib.validD_cons 0 _ (by decide)]; exact ih
def zT (k : Int) (a : Nat) : Tr := .nd { kP k with s := zb a } []
theorem zT_own (k : Int) (hk : k = 5 ∨ k = 6) (a : Nat) (ha : a ≤ 400) : chk (zT k a) 4 = 0 := by
  refine leaf_chk ?_ ?_
  · have hs : onlyP ({ kP k with s := zb a } : Pay) { Pay.z with s := ({ kP k with s := zb a } : Pay).s } = true := Pay.same_iff.2 rfl
    rcases hk with rfl | rfl
    · rw [own_5 rfl, hs]
      show (true && (true && (decide ((zb a).size ≤ 400) && utfOk (zb a)))) = true
      rw [zb_size, zb_utf, decide_eq_true ha]; rfl
    · rw [own_6 rfl, hs]
      show (true && (true && decide ((zb a).size ≤ 400))) = true
      rw [zb_size, decide_eq_true ha]; rfl
  · rcases hk with rfl | rfl <;> rfl
theorem zT_fine (k : Int) (hk : k = 5 ∨ k = 6) (a : Nat) (ha : a ≤ 400) : (zT k a).fine :=
  leaf_fine' (raw_fine k (by omega) 0 (by decide) (zb a) (by rw [zb_size]; omega))
theorem txtE_ln (a : Nat) (ha : a ≤ 400) : (txtE a).length = if a < 32 then 1 else if a < 256 then 2 else 3 := by
  unfold txtE
  split
  · rfl
  unfold sizedE
  by_cases c : a < 256
  · rw [if_pos ⟨c, by decide⟩, if_pos c, List.length_cons, beL_len]
  · rw [if_neg (fun h => c h.1), if_pos (by omega), if_neg c, List.length_cons, beL_len]
theorem binE_ln (a : Nat) (ha : a ≤ 400) : (binE a).length = if a < 256 then 2 else 3 := by
  unfold binE sizedE
  by_cases c : a < 256
  · rw [if_pos ⟨c, by decide⟩, if_pos c, List.length_cons, beL_len]
  · rw [if_neg (fun h => c h.1), if_pos (by omega), if_neg c, List.length_cons, beL_len]
theorem text_size (a : Nat) (ha : a ≤ 400) : (wrtS (zT 5 a)).size = (if a < 32 then 1 else if a < 256 then 2 else 3) + a := by
  rw [wrtS_ok (zT_own 5 (.inl rfl) a ha), size_B]
  unfold zT
  rw [leaf_enc, hdE_5, zb_size, txtE_ln a ha]
theorem bin_size (a : Nat) (ha : a ≤ 400) : (wrtS (zT 6 a)).size = (if a < 256 then 2 else 3) + a := by
  rw [wrtS_ok (zT_own 6 (.inr rfl) a ha), size_B]
  unfold zT
  rw [leaf_enc, hdE_6, zb_size, binE_ln a ha]
theorem made_zero (a : Nat) : (madeCells (Value.int .u8 0).cells (a * 1)).toList = Lib.byteCells (List.replicate a 0) := by
  unfold madeCells Lib.byteCells
  apply List.ext_getElem?
  intro i
  simp only [Nat.mul_one, Array.toList_map, Array.toList_range, List.getElem?_map, List.map_replicate]
  by_cases h : i < a
  · simp [h, Value.cells]
    rw [Nat.mod_one]; rfl
  · simp [h]
theorem mk_bytes (a : Nat) (ha : a ≤ 400) (W : World) : (Instr.makeSlice 41 (.int .i64 (a : Int)) (.int .i64 (a : Int))).run Tryz.prog W = .ok (.slice (some ⟨W.heap.size, 0, none⟩) a a) (W.alloc (.cells (Lib.byteCells (List.replicate a 0)).toArray 5)) := by
  obtain ⟨i, hi, hz, hs, hb⟩ := info_parts byte_info
  have h := run_make (P := Tryz.prog) W 41 5 i (.int .u8 0) Tryz.underlying41 hi hz .i64 .i64 (a : Int) (a : Int) (by omega) (Int.le_refl _) (by rw [hb]; omega) (by omega)
  rw [hs, Int.toNat_natCast] at h
  rw [h, ← made_zero]
theorem cv_bytes (a : Nat) (g : Nat) (W : World) (h : Cls W g 5 (Lib.byteCells (List.replicate a 0))) : (convert 41 9 (.slice (some ⟨g, 0, none⟩) a a)).run Tryz.prog W = .ok (.string (zb a)) W := by
  have hr := run_convert_bytes_back (P := Tryz.prog) W 41 9 5 ⟨g, 0, none⟩ a (List.replicate a 0) Tryz.underlying41 Tryz.underlying5 Tryz.underlying9 (fun j hj => by
    rw [Lib.add_plain]
    exact h.cell (0 + j) (by rw [Nat.zero_add]; unfold Lib.byteCells; rw [List.getElem?_map, List.getElem?_eq_getElem hj]; rfl))
  rw [List.length_replicate] at hr
  exact hr

/-- a node of zeros, made and measured. -/
theorem zero_size (k : Int) (hk : k = 5 ∨ k = 6) (a : Nat) (ha : a ≤ 400) (W : World) {ea eb : Addr} (hT : TabT W ea eb) :
    Calls Tryz.prog 20 #[.agg #[.int .i64 k, .bool false, .bool false, .string ⟨#[]⟩, .int .i64 0, .int .u64 0, .int .i64 0, .string (zb a), .slice none 0 0]] W fun e w' => e = .returned (.tuple #[.int .i64 (wrtS (zT k a)).size, .int .i64 0]) ∧ Below W.heap.size W w' := by
  have := size_calls (zT k a) (zT_fine k hk a ha) (by unfold zT; rw [leaf_dep]; decide) (by unfold zT; rw [leaf_cnt]; decide) (.slice none 0 0) W hT (InT.leaf _ _ _ _)
  rw [zT_own k hk a ha] at this
  exact this

set_option maxRecDepth 100000 in
set_option maxHeartbeats 8000000 in
theorem texts_law15 (x : Int) (hx : -9223372036854775808 ≤ x ∧ x ≤ 9223372036854775807) (y : Int) (hy : -9223372036854775808 ≤ y ∧ y ≤ 9223372036854775807) (w : World) {ea eb : Addr} (hT : TabT w ea eb) :
    Calls Tryz.prog 7 #[.int .i64 x, .int .i64 y] w fun e w' => e = .returned (.bool true) ∧ Below w.heap.size w w' := by
  have hsh := shown15_calls w hT
  by_cases hbad : x < 0 ∨ y < x ∨ 400 < y
  · have hg : x < 0 ∨ (0 ≤ x ∧ y < x) ∨ (0 ≤ x ∧ x ≤ y ∧ 400 < y) := by omega
    clear hbad hx hy
    rcases hg with h1 | ⟨h0, h1⟩ | ⟨h0, h2, h1⟩
    all_goals (
      go_enter Tryz.func7, Tryz.ntmps7
      go_wp2_with fail
      refine hsh.mono ?_
      rintro e w1 ⟨rfl, hb1⟩
      have HB := hid hb1
      clear hsh hb1
      go_wp2
      go_ret
      exact ⟨rfl, HB.out⟩)
  · obtain ⟨a, rfl⟩ : ∃ a : Nat, x = (a : Int) := ⟨x.toNat, by omega⟩
    obtain ⟨b, rfl⟩ : ∃ b : Nat, y = (b : Int) := ⟨y.toNat, by omega⟩
    have hab : a ≤ b := by omega
    have hb4 : b ≤ 400 := by omega
    have ha4 : a ≤ 400 := by omega
    have hS := text_size a ha4
    have hTt := text_size b hb4
    have hU := bin_size a ha4
    have zs := fun W hW => zero_size 5 (.inl rfl) a ha4 W (ea := ea) (eb := eb) hW
    have zt := fun W hW => zero_size 5 (.inl rfl) b hb4 W (ea := ea) (eb := eb) hW
    have zu := fun W hW => zero_size 6 (.inr rfl) a ha4 W (ea := ea) (eb := eb) hW
    obtain ⟨S, hS2⟩ : ∃ S, (wrtS (zT 5 a)).size = S := ⟨_, rfl⟩
    obtain ⟨R, hR2⟩ : ∃ R, (wrtS (zT 5 b)).size = R := ⟨_, rfl⟩
    obtain ⟨U, hU2⟩ : ∃ U, (wrtS (zT 6 a)).size = U := ⟨_, rfl⟩
    rw [hS2] at hS zs
    rw [hR2] at hTt zt
    rw [hU2] at hU zu
    have hSR : S ≤ R := by
      rw [hS, hTt]
      repeat' (first | omega | split)
    have hSa : a < S := by
      rw [hS]
      repeat' (first | omega | split)
    have hS3 : S ≤ a + 3 := by
      rw [hS]
      repeat' (first | omega | split)
    have hUS : (a < 32 ∧ U = S + 1) ∨ (¬ a < 32 ∧ U = S) := by
      rw [hS, hU]
      by_cases h : a < 32
      · exact .inl ⟨h, by rw [if_pos h, if_pos (by omega)]; omega⟩
      · exact .inr ⟨h, by rw [if_neg h]⟩
    have hS9 : (S : Int) ≤ 500 := by omega
    have mA := mk_bytes a ha4
    have mB := mk_bytes b hb4
    have cA := fun W : World => cv_bytes a W.heap.size (W.alloc (.cells (Lib.byteCells (List.replicate a 0)).toArray 5)) (Cls.new W _ _)
    have cB := fun W : World => cv_bytes b W.heap.size (W.alloc (.cells (Lib.byteCells (List.replicate b 0)).toArray 5)) (Cls.new W _ _)
    obtain ⟨LA, hLA⟩ : ∃ LA, (Lib.byteCells (List.replicate a 0)).toArray = LA := ⟨_, rfl⟩
    obtain ⟨LB, hLB⟩ : ∃ LB, (Lib.byteCells (List.replicate b 0)).toArray = LB := ⟨_, rfl⟩
    simp only [hLA] at mA cA
    simp only [hLB] at mB cB
    obtain ⟨ZA, hZA⟩ : ∃ ZA, zb a = ZA := ⟨_, rfl⟩
    obtain ⟨ZB, hZB⟩ : ∃ ZB, zb b = ZB := ⟨_, rfl⟩
    simp only [hZA] at cA zs zu
    simp only [hZB] at cB zt
    have HX := hid (And.intro hT (And.intro zs (And.intro zt zu)))
    clear hT zs zt zu hbad hx hy hS hTt hU hS2 hR2 hU2 hLA hLB hZA hZB
    have hx0 : (0 : Int) ≤ (a : Int) := by omega
    have hxy : (a : Int) ≤ (b : Int) := by omega
    have hy4 : (b : Int) ≤ 400 := by omega
    have hSRi : (S : Int) ≤ (R : Int) := by omega
    have hSai : (a : Int) < (S : Int) := by omega
    have hS3i : (S : Int) ≤ (a : Int) + 3 := by omega
    go_enter Tryz.func7, Tryz.ntmps7
    go_wp2_with fail
    refine hsh.mono ?_
    rintro e w1 ⟨rfl, hb1⟩
    have HB := hid hb1
    clear hsh hb1
    go_wp2_with fail
    have hbz := below_alloc w1 (.cells LA 5)
    refine (HX.out.2.1 _ (HX.out.1.below (HB.out.trans (hbz.mono HB.out.size)))).mono ?_
    rintro e w2 ⟨rfl, hb2⟩
    have HB := hid ((HB.out.trans (hbz.mono HB.out.size)).trans (hb2.mono (Nat.le_trans HB.out.size hbz.size)))
    clear hb2 hbz
    go_wp2_with fail
    have hbz := below_alloc w2 (.cells LB 5)
    refine (HX.out.2.2.1 _ (HX.out.1.below (HB.out.trans (hbz.mono HB.out.size)))).mono ?_
    rintro e w3 ⟨rfl, hb2⟩
    have HB := hid ((HB.out.trans (hbz.mono HB.out.size)).trans (hb2.mono (Nat.le_trans HB.out.size hbz.size)))
    clear hb2 hbz
    go_wp2_with fail
    have hbz := below_alloc w3 (.cells LA 5)
    refine (HX.out.2.2.2 _ (HX.out.1.below (HB.out.trans (hbz.mono HB.out.size)))).mono ?_
    rintro e w4 ⟨rfl, hb2⟩
    have HB := hid ((HB.out.trans (hbz.mono HB.out.size)).trans (hb2.mono (Nat.le_trans HB.out.size hbz.size)))
    clear hb2 hbz mA mB cA cB
    rcases hUS with ⟨h32, rfl⟩ | ⟨h32, rfl⟩
    · have h32i : (a : Int) < 32 := by omega
      go_wp2
      all_goals (
        go_ret
        exact ⟨by first | rfl | (simp; done), HB.out⟩)
    · have h32i : (32 : Int) ≤ (a : Int) := by omega
      go_wp2
      all_goals (
        go_ret
        exact ⟨by first | rfl | (simp; done), HB.out⟩)
end Go.Proofs.YtpjlepkdiaohiaaGreatDoor

