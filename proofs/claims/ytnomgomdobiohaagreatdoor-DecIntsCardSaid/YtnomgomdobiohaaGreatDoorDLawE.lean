/- The statements DecMakes, DecInts (targumlaw04): walked. -/
import Derived.Test.YtnomgomdobiohaaGreatDoorDLawA
import Derived.Test.YtnomgomdobiohaaGreatDoorRDecE
namespace Go.Proofs.YtnomgomdobiohaaGreatDoor
open Go.RowKit Go.Shelf
attribute [local go_sem] Oper.semAt_some

theorem below_next {w W W' : World} (h : Below w.heap.size w W) (hb : Below W.heap.size W W') : Below w.heap.size w W' := h.trans (hb.mono h.size)

set_option maxRecDepth 100000 in
set_option maxHeartbeats 4000000 in
theorem makes_law (n : Bool) (s : ByteArray) (x : Int) (neg : Bool) (r : ByteArray) (y : Int) (hy : -9223372036854775808 ≤ y ∧ y ≤ 9223372036854775807) (w : World) (hT : Tabs w) :
    Calls Tryz.prog 3 #[.agg #[.bool n, .string s, .int .i64 x], .bool neg, .string r, .int .i64 y] w fun e w' => e = .returned (.bool true) ∧ Below w.heap.size w w' := by
  have hCut := fun W => dCut_calls n s x W
  obtain ⟨t, ht⟩ : ∃ t, pre 200 s = t := ⟨_, rfl⟩
  have hts : t.size ≤ 200 := by rw [← ht]; exact pre_size _ _
  rw [ht] at hCut
  have hcut := fun W => dcut_calls r W
  obtain ⟨u, hu_u⟩ : ∃ u, pre 420 r = u := ⟨_, rfl⟩
  have hs_u : u.size ≤ 420 := by rw [← hu_u]; exact pre_size _ _
  rw [hu_u] at hcut
  have hf := fun W h => format_calls n t x (by omega) W h
  have hg := fun W => rFormat_calls n t x (by omega) W
  obtain ⟨fs, hfs⟩ : ∃ fs, B (fmtL ⟨n, tx t, x⟩) = fs := ⟨_, rfl⟩
  obtain ⟨fe, hfe⟩ : ∃ fe, fmtE ⟨n, tx t, x⟩ = fe := ⟨_, rfl⟩
  rw [hfs, hfe] at hf hg
  have hm := fun W => decMake_calls neg u y hy (by omega) W
  have hq := fun W => rMake_calls neg u y hy (by omega) W
  obtain ⟨dn, dd, dx, hd⟩ : ∃ dn dd dx, (mk neg (tx u) y).1 = ⟨dn, dd, dx⟩ := ⟨_, _, _, rfl⟩
  obtain ⟨er, her⟩ : ∃ er, (mk neg (tx u) y).2 = er := ⟨_, rfl⟩
  obtain ⟨ds, hds⟩ : ∃ ds, B dd = ds := ⟨_, rfl⟩
  rw [hd, her] at hm hq
  have hm' : ∀ W, Calls Tryz.prog 9 #[.bool neg, .string u, .int .i64 y] W fun e w' => e = .returned (.tuple #[.agg #[.bool dn, .string ds, .int .i64 dx], .int .i64 er]) ∧ Below W.heap.size W w' := by rw [← hds]; exact hm
  have hq' : ∀ W, Calls Tryz.prog 11 #[.bool neg, .string u, .int .i64 y] W fun e w' => e = .returned (.tuple #[.agg #[.bool dn, .string ds, .int .i64 dx], .int .i64 er]) ∧ Below W.heap.size W w' := by rw [← hds]; exact hq
  have hr1 := fun W => decRight_calls n t x (by omega) W
  have hr2 := fun W => rdecRight_calls n t x (by omega) W
  obtain ⟨br, hbr⟩ : ∃ br, decR ⟨n, tx t, x⟩ = br := ⟨_, rfl⟩
  rw [hbr] at hr1 hr2
  have heq := eqD_same dn ds dx
  have hgd := guardD
  clear hm hq hd her hds hfs hfe hbr hu_u ht
  have hBx := Cls.new w 23 [.bool n, .string s, .int .i64 x]
  have hWx := below_alloc w (.cells #[.bool n, .string s, .int .i64 x] 23)
  go_enter Tryz.func3, Tryz.ntmps3
  go_wp2_with fail
  refine (dshown_calls _ (hT.below hWx)).mono ?_
  rintro e w1 ⟨rfl, hb1⟩
  have hW1 := hWx.trans (hb1.mono hWx.size)
  have hD1 := hBx.below hb1
  have D_0 := hD1.cell 0 rfl
  have D_z0 := hD1.frozen 0
  have D_1 := hD1.cell 1 rfl
  have D_z1 := hD1.frozen 1
  have D_2 := hD1.cell 2 rfl
  have D_z2 := hD1.frozen 2
  go_wp2_with fail
  refine (hCut _).mono ?_
  rintro e w2 ⟨rfl, hb2⟩
  have hW2 := hW1.trans (hb2.mono hW1.size)
  have hD2 := hD1.below hb2
  clear D_0 D_z0 D_1 D_z1 D_2 D_z2
  have D_0 := hD2.cell 0 rfl
  have D_z0 := hD2.frozen 0
  have D_1 := hD2.cell 1 rfl
  have D_z1 := hD2.frozen 1
  have D_2 := hD2.cell 2 rfl
  have D_z2 := hD2.frozen 2
  have hD3 := ((hD2.set 0 (.bool n)).set 1 (.string t)).set 2 (.int .i64 x)
  have hW3 := ((hW2.setCell (p := ⟨w.heap.size, 0, none⟩) (Nat.le_refl _) (.bool n)).setCell (p := ⟨w.heap.size, 1, none⟩) (Nat.le_refl _) (.string t)).setCell (p := ⟨w.heap.size, 2, none⟩) (Nat.le_refl _) (.int .i64 x)
  go_wp2_with fail
  generalize ((w2.setCell ⟨w.heap.size, 0, none⟩ (.bool n)).setCell ⟨w.heap.size, 1, none⟩ (.string t)).setCell ⟨w.heap.size, 2, none⟩ (.int .i64 x) = V4 at *
  clear D_0 D_z0 D_1 D_z1 D_2 D_z2
  refine (hf _ (hT.below hW3)).mono ?_
  rintro e w5 ⟨rfl, hb5⟩
  have hW5 := hW3.trans (hb5.mono hW3.size)
  have hD5 := hD3.below hb5
  have D_0 := hD5.cell 0 rfl
  have D_1 := hD5.cell 1 rfl
  have D_2 := hD5.cell 2 rfl
  go_wp2_with fail
  refine (hg _).mono ?_
  rintro e w6 ⟨rfl, hb6⟩
  have hW6 := hW5.trans (hb6.mono hW5.size)
  have hD6 := hD5.below hb6
  clear D_0 D_1 D_2
  go_wp2_with fail
  refine (hcut _).mono ?_
  rintro e v7 ⟨rfl, rfl⟩
  go_wp2_with fail
  refine (hm' _).mono ?_
  rintro e w8 ⟨rfl, hb8⟩
  have hW8 := hW6.trans (hb8.mono hW6.size)
  have hD8 := hD6.below hb8
  have hD9 := hD8.alloc (.cells #[.bool dn, .string ds, .int .i64 dx] 23)
  have hA9 := Cls.new w8 23 [.bool dn, .string ds, .int .i64 dx]
  have hW9 := hW8.alloc hW8.size (.cells #[.bool dn, .string ds, .int .i64 dx] 23)
  go_wp2_with fail
  generalize w8.alloc (.cells #[.bool dn, .string ds, .int .i64 dx] 23) = V10 at *
  refine (hcut _).mono ?_
  rintro e v11 ⟨rfl, rfl⟩
  go_wp2_with fail
  refine (hq' _).mono ?_
  rintro e w12 ⟨rfl, hb12⟩
  have hW12 := hW9.trans (hb12.mono hW9.size)
  have hD12 := hD9.below hb12
  have hA12 := hA9.below hb12
  have hD13 := hD12.alloc (.cells #[.bool dn, .string ds, .int .i64 dx] 23)
  have hA13 := hA12.alloc (.cells #[.bool dn, .string ds, .int .i64 dx] 23)
  have hC13 := Cls.new w12 23 [.bool dn, .string ds, .int .i64 dx]
  have hW13 := hW12.alloc hW12.size (.cells #[.bool dn, .string ds, .int .i64 dx] 23)
  go_wp2_with fail
  generalize w12.alloc (.cells #[.bool dn, .string ds, .int .i64 dx] 23) = V14 at *
  have D_0 := hD13.cell 0 rfl
  have D_1 := hD13.cell 1 rfl
  have D_2 := hD13.cell 2 rfl
  have A_0 := hA13.cell 0 rfl
  have A_1 := hA13.cell 1 rfl
  have A_2 := hA13.cell 2 rfl
  have C_0 := hC13.cell 0 rfl
  have C_1 := hC13.cell 1 rfl
  have C_2 := hC13.cell 2 rfl
  have hWW := hW13
  go_region_held3 (fun w' => w'.cell? ⟨w.heap.size, 0, none⟩ = some (.bool n) ∧ w'.cell? ⟨w.heap.size, 1, none⟩ = some (.string t) ∧ w'.cell? ⟨w.heap.size, 2, none⟩ = some (.int .i64 x) ∧ w'.cell? ⟨w8.heap.size, 0, none⟩ = some (.bool dn) ∧ w'.cell? ⟨w8.heap.size, 1, none⟩ = some (.string ds) ∧ w'.cell? ⟨w8.heap.size, 2, none⟩ = some (.int .i64 dx) ∧ w'.cell? ⟨w12.heap.size, 0, none⟩ = some (.bool dn) ∧ w'.cell? ⟨w12.heap.size, 1, none⟩ = some (.string ds) ∧ w'.cell? ⟨w12.heap.size, 2, none⟩ = some (.int .i64 dx) ∧ Below w.heap.size w w')
    (first
      | (refine ⟨?_, ?_, ?_, ?_, ?_, ?_, ?_, ?_, ?_, ?_⟩ <;> first | assumption | exact cell_below (by assumption) hbX | exact below_next (by assumption) hbX | exact Below.drew (by assumption))
      | go_keep
      | (go_split_ands
         refine ⟨?_, ?_, ?_, ?_, ?_, ?_, ?_, ?_, ?_, ?_⟩ <;> first | assumption | exact cell_below (by assumption) hbX | exact below_next (by assumption) hbX | exact Below.drew (by assumption)))
    (first
      | (go_at_call 12; refine (hr1 _).mono ?_; rintro e wr ⟨rfl, hbX⟩)
      | (go_at_call 13; refine (hr2 _).mono ?_; rintro e wq ⟨rfl, hbX⟩))
  all_goals (
    go_wp2
    go_ret
    go_split_ands
    exact ⟨rfl, by assumption⟩)

set_option maxRecDepth 100000 in
set_option maxHeartbeats 4000000 in
theorem ints_law (neg : Bool) (m : Nat) (hm : m < 18446744073709551616) (n : Bool) (s : ByteArray) (x : Int) (w : World) (hT : Tabs w) :
    Calls Tryz.prog 4 #[.bool neg, .int .u64 m, .agg #[.bool n, .string s, .int .i64 x]] w fun e w' => e = .returned (.bool true) ∧ Below w.heap.size w w' := by
  have hCut := fun W => dCut_calls n s x W
  obtain ⟨t, ht⟩ : ∃ t, pre 200 s = t := ⟨_, rfl⟩
  have hts : t.size ≤ 200 := by rw [← ht]; exact pre_size _ _
  rw [ht] at hCut
  have hf := fun W h => toInt_calls n t x (by omega) W h
  have hg := fun W => rtoInt_calls n t x (by omega) W
  obtain ⟨vb, hvb⟩ : ∃ v, tiB ⟨n, tx t, x⟩ = v := ⟨_, rfl⟩
  obtain ⟨vn, hvn⟩ : ∃ v, tiN ⟨n, tx t, x⟩ = v := ⟨_, rfl⟩
  rw [hvb, hvn] at hf hg
  obtain ⟨va, hva⟩ : ∃ v, (vb && n) = v := ⟨_, rfl⟩
  rw [hva] at hf hg
  have hi := fun W h => ofInt_calls neg m hm W h
  have hq := fun W => rofInt_calls neg m hm W
  obtain ⟨dn, dd, dx, hd⟩ : ∃ dn dd dx, (mk neg (Lib.decDigits m) 0).1 = ⟨dn, dd, dx⟩ := ⟨_, _, _, rfl⟩
  obtain ⟨ds, hds⟩ : ∃ ds, B dd = ds := ⟨_, rfl⟩
  rw [hd] at hi hq
  have hi' : ∀ W, Tabs W → Calls Tryz.prog 16 #[.bool neg, .int .u64 m] W fun e w' => e = .returned (.agg #[.bool dn, .string ds, .int .i64 dx]) ∧ Below W.heap.size W w' := by rw [← hds]; exact hi
  have hq' : ∀ W, Calls Tryz.prog 17 #[.bool neg, .int .u64 m] W fun e w' => e = .returned (.agg #[.bool dn, .string ds, .int .i64 dx]) ∧ Below W.heap.size W w' := by rw [← hds]; exact hq
  have heq := eqD_same dn ds dx
  have hgd := guardD
  clear hi hq hd hds hvb hvn hva ht hm
  have hBx := Cls.new w 23 [.bool n, .string s, .int .i64 x]
  have hWx := below_alloc w (.cells #[.bool n, .string s, .int .i64 x] 23)
  go_enter Tryz.func4, Tryz.ntmps4
  go_wp2_with fail
  refine (dshown_calls _ (hT.below hWx)).mono ?_
  rintro e w1 ⟨rfl, hb1⟩
  have hW1 := hWx.trans (hb1.mono hWx.size)
  have hD1 := hBx.below hb1
  have D_0 := hD1.cell 0 rfl
  have D_z0 := hD1.frozen 0
  have D_1 := hD1.cell 1 rfl
  have D_z1 := hD1.frozen 1
  have D_2 := hD1.cell 2 rfl
  have D_z2 := hD1.frozen 2
  go_wp2_with fail
  refine (hCut _).mono ?_
  rintro e w2 ⟨rfl, hb2⟩
  have hW2 := hW1.trans (hb2.mono hW1.size)
  have hD2 := hD1.below hb2
  clear D_0 D_z0 D_1 D_z1 D_2 D_z2
  have D_0 := hD2.cell 0 rfl
  have D_z0 := hD2.frozen 0
  have D_1 := hD2.cell 1 rfl
  have D_z1 := hD2.frozen 1
  have D_2 := hD2.cell 2 rfl
  have D_z2 := hD2.frozen 2
  have hD3 := ((hD2.set 0 (.bool n)).set 1 (.string t)).set 2 (.int .i64 x)
  have hW3 := ((hW2.setCell (p := ⟨w.heap.size, 0, none⟩) (Nat.le_refl _) (.bool n)).setCell (p := ⟨w.heap.size, 1, none⟩) (Nat.le_refl _) (.string t)).setCell (p := ⟨w.heap.size, 2, none⟩) (Nat.le_refl _) (.int .i64 x)
  go_wp2_with fail
  generalize ((w2.setCell ⟨w.heap.size, 0, none⟩ (.bool n)).setCell ⟨w.heap.size, 1, none⟩ (.string t)).setCell ⟨w.heap.size, 2, none⟩ (.int .i64 x) = V4 at *
  clear D_0 D_z0 D_1 D_z1 D_2 D_z2
  refine (hf _ (hT.below hW3)).mono ?_
  rintro e w5 ⟨rfl, hb5⟩
  have hW5 := hW3.trans (hb5.mono hW3.size)
  have hD5 := hD3.below hb5
  have D_0 := hD5.cell 0 rfl
  have D_1 := hD5.cell 1 rfl
  have D_2 := hD5.cell 2 rfl
  go_wp2_with fail
  refine (hg _).mono ?_
  rintro e w6 ⟨rfl, hb6⟩
  have hW6 := hW5.trans (hb6.mono hW5.size)
  have hD6 := hD5.below hb6
  clear D_0 D_1 D_2
  go_wp2_with fail
  refine (hi' _ (hT.below hW6)).mono ?_
  rintro e w7 ⟨rfl, hb7⟩
  have hW7 := hW6.trans (hb7.mono hW6.size)
  have hD7 := hD6.below hb7
  go_wp2_with fail
  refine (hq' _).mono ?_
  rintro e w8 ⟨rfl, hb8⟩
  have hW8 := hW7.trans (hb8.mono hW7.size)
  have hD8 := hD7.below hb8
  go_wp2
  go_ret
  exact ⟨rfl, hW8⟩
end Go.Proofs.YtnomgomdobiohaaGreatDoor
