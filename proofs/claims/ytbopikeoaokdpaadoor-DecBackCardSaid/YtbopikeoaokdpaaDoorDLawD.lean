/- The statement DecBack (targumlaw04): walked. -/
import Derived.Test.YtbopikeoaokdpaaDoorDLawC
namespace Go.Proofs.YtbopikeoaokdpaaDoor
open Go.RowKit Go.Shelf
attribute [local go_sem] Oper.semAt_some

theorem neqD_same (n : Bool) (s : ByteArray) (x : Int) (w : World) :
    (binOp .neq 24 (.agg #[.bool n, .string s, .int .i64 x]) (.agg #[.bool n, .string s, .int .i64 x])).run Tryd.prog w = .ok (.bool false) w := by
  have hS : Tryd.prog.underlying 24 = some (.struct (Tryd.prog.fieldsOf 24)) := by kernel_rfl
  have hp : Tryd.prog.stoodInHeld 24 = false := by kernel_rfl
  rw [run_neq_struct, show (10000 : Nat) = 9999 + 1 from rfl, run_equalIn_agg w 9999 24 _ _ hS hp]
  simp only [Program.fieldsOf, Tryd.underlying24]
  have u1 := Tryd.underlying4
  have u2 := Tryd.underlying9
  have u3 := Tryd.underlying3
  have a1 := Tryd.isAgg4
  have a2 := Tryd.isAgg9
  have a3 := Tryd.isAgg3
  have z1 := Tryd.sizeOf4
  have z2 := Tryd.sizeOf9
  have z3 := Tryd.sizeOf3
  go_simp

theorem eq_of_txB {s t : ByteArray} (h : tx s = tx t) : s = t := by rw [← B_tx s, ← B_tx t, h]

theorem back_plain (d : D) (rest : List UInt8) (h : decR d = true) (hr : ∀ c, rest.head? = some c → c = 44) : parseD (tx (B (fmtL d) ++ B rest)) = d ∧ B (parseR (tx (B (fmtL d) ++ B rest))) = B rest ∧ parseE (tx (B (fmtL d) ++ B rest)) = 0 := by
  rw [tx_app, tx_B, tx_B]
  have := parse_fmt d rest h hr
  exact ⟨this.1, by rw [this.2.1], this.2.2⟩

set_option maxRecDepth 100000 in
set_option maxHeartbeats 4000000 in
theorem back_law (n : Bool) (s : ByteArray) (x : Int) (r : ByteArray) (w : World) (hT : Tabs w) :
    Calls Tryd.prog 4 #[.agg #[.bool n, .string s, .int .i64 x], .string r] w fun e w' => e = .returned (.bool true) ∧ Below w.heap.size w w' := by
  have hCut := fun W => dCut_calls n s x W
  obtain ⟨t, ht⟩ : ∃ t, pre 200 s = t := ⟨_, rfl⟩
  have hts : t.size ≤ 200 := by rw [← ht]; exact pre_size _ _
  rw [ht] at hCut
  have hcut := fun W => dcut_calls r W
  obtain ⟨u, hu_u⟩ : ∃ u, pre 420 r = u := ⟨_, rfl⟩
  have hs_u : u.size ≤ 420 := by rw [← hu_u]; exact pre_size _ _
  rw [hu_u] at hcut
  have hf := fun W h => format_calls n t x (by omega) W h
  have hrt := fun W => decRight_calls n t x (by omega) W
  obtain ⟨fa, hfa⟩ : ∃ v, B (fmtL ⟨n, tx t, x⟩) = v := ⟨_, rfl⟩
  obtain ⟨ea, hea⟩ : ∃ v, fmtE ⟨n, tx t, x⟩ = v := ⟨_, rfl⟩
  obtain ⟨br, hbr⟩ : ∃ v, decR ⟨n, tx t, x⟩ = v := ⟨_, rfl⟩
  rw [hfa, hea] at hf
  rw [hbr] at hrt
  have hfs : fa.size ≤ 1000 := by rw [← hfa, size_B]; exact fmtL_len _
  have hsz2 : (⟨#[44, 49]⟩ : ByteArray).size = 2 := rfl
  obtain ⟨fc, hfc⟩ : ∃ v, fa ++ ⟨#[44, 49]⟩ = v := ⟨_, rfl⟩
  have hfcs : fc.size ≤ 1002 := by rw [← hfc, size_app]; omega
  have hp0 := fun W h => parse_calls fc (by omega) W h
  obtain ⟨bn, bd, bx, hpd⟩ : ∃ a b c, parseD (tx fc) = ⟨a, b, c⟩ := ⟨_, _, _, rfl⟩
  obtain ⟨bs, hps⟩ : ∃ v, B bd = v := ⟨_, rfl⟩
  obtain ⟨rs, hpr⟩ : ∃ v, B (parseR (tx fc)) = v := ⟨_, rfl⟩
  obtain ⟨fe, hpe⟩ : ∃ v, parseE (tx fc) = v := ⟨_, rfl⟩
  rw [hpd, hpr, hpe] at hp0
  have hp : ∀ W, Tabs W → Calls Tryd.prog 9 #[.string fc] W fun e w' => e = .returned (.tuple #[.agg #[.bool bn, .string bs, .int .i64 bx], .string rs, .int .i64 fe]) ∧ Below W.heap.size W w' := by rw [← hps]; exact hp0
  have hx0 := fun W h => parse_calls u (by omega) W h
  obtain ⟨xn, xd, xx, hxd⟩ : ∃ a b c, parseD (tx u) = ⟨a, b, c⟩ := ⟨_, _, _, rfl⟩
  obtain ⟨xs, hxs⟩ : ∃ v, B xd = v := ⟨_, rfl⟩
  obtain ⟨r2, hxr⟩ : ∃ v, B (parseR (tx u)) = v := ⟨_, rfl⟩
  obtain ⟨ge, hxe0⟩ : ∃ v, parseE (tx u) = v := ⟨_, rfl⟩
  rw [hxd, hxr, hxe0] at hx0
  have hx : ∀ W, Tabs W → Calls Tryd.prog 9 #[.string u] W fun e w' => e = .returned (.tuple #[.agg #[.bool xn, .string xs, .int .i64 xx], .string r2, .int .i64 ge]) ∧ Below W.heap.size W w' := by rw [← hxs]; exact hx0
  have hxsz : xs.size ≤ 1000000 := by
    rw [← hxs, size_B]
    have h1 : (parseD (tx u)).dg.length ≤ 400 := by
      unfold parseD
      split
      · unfold prM mk
        split
        · rename_i hok
          split
          · simp [Dz]
          · split
            · have h3 := Nat.le_trans (stripR_le (stripL (prW (tx u) ++ prP (tx u)))) (stripL_le _)
              unfold mkOk at hok
              rw [Bool.and_eq_true, Bool.and_eq_true, decide_eq_true_eq, decide_eq_true_eq] at hok
              show (stripR (stripL (prW (tx u) ++ prP (tx u)))).length ≤ 400
              omega
            · simp [D0]
        · simp [D0]
      · simp [D0]
    rw [hxd] at h1
    change xd.length ≤ 400 at h1
    omega
  have hg := fun W h => format_calls xn xs xx (by omega) W h
  obtain ⟨ft, hft⟩ : ∃ v, B (fmtL ⟨xn, tx xs, xx⟩) = v := ⟨_, rfl⟩
  obtain ⟨he, hhe⟩ : ∃ v, fmtE ⟨xn, tx xs, xx⟩ = v := ⟨_, rfl⟩
  rw [hft, hhe] at hg
  have hfts : ft.size ≤ 1000 := by rw [← hft, size_B]; exact fmtL_len _
  have hy0 := fun W h => parse_calls ft (by omega) W h
  obtain ⟨yn, yd, yx, hyd⟩ : ∃ a b c, parseD (tx ft) = ⟨a, b, c⟩ := ⟨_, _, _, rfl⟩
  obtain ⟨ys, hys⟩ : ∃ v, B yd = v := ⟨_, rfl⟩
  obtain ⟨ms, hyr⟩ : ∃ v, B (parseR (tx ft)) = v := ⟨_, rfl⟩
  obtain ⟨ie, hye⟩ : ∃ v, parseE (tx ft) = v := ⟨_, rfl⟩
  rw [hyd, hyr, hye] at hy0
  have hy : ∀ W, Tabs W → Calls Tryd.prog 9 #[.string ft] W fun e w' => e = .returned (.tuple #[.agg #[.bool yn, .string ys, .int .i64 yx], .string ms, .int .i64 ie]) ∧ Below W.heap.size W w' := by rw [← hys]; exact hy0
  have hxe : parseD (tx u) = ⟨xn, tx xs, xx⟩ := by rw [hxd, ← hxs, tx_B]
  -- what the law asks
  have q1 : (br = true ∧ ea = 0 ∧ n = bn ∧ t = bs ∧ x = bx ∧ rs = ⟨#[44, 49]⟩ ∧ fe = 0) ∨ (br = false ∧ ea = 40) := by
    cases hb : br with
    | true =>
      rw [hb] at hbr
      have h1 := back_plain ⟨n, tx t, x⟩ [44, 49] hbr (by intro c hc; cases hc; rfl)
      rw [hfa, show B [44, 49] = ⟨#[44, 49]⟩ from rfl, hfc, hpd, hpr, hpe] at h1
      obtain ⟨h1, h2, h3⟩ := h1
      refine .inl ⟨rfl, by rw [← hea]; unfold fmtE; rw [hbr]; rfl, (congrArg D.neg h1).symm, ?_, (congrArg D.ex h1).symm, h2, h3⟩
      rw [← hps, show bd = tx t from congrArg D.dg h1, B_tx]
    | false =>
      rw [hb] at hbr
      exact .inr ⟨rfl, by rw [← hea]; unfold fmtE; rw [hbr]; rfl⟩
  have q2 : (ge = 0 ∧ he = 0 ∧ xn = yn ∧ xs = ys ∧ xx = yx ∧ ms = ⟨#[]⟩ ∧ ie = 0) ∨ ge = 40 := by
    rcases parseE_01 (tx u) with h0 | h0
    · have hr := parse_right h0
      rw [hxe] at hr
      have h1 := back_plain ⟨xn, tx xs, xx⟩ [] hr (by intro c hc; cases hc)
      rw [hft, show ft ++ B [] = ft from eq_of_txB (by rw [tx_app, tx_B, List.append_nil]), hyd, hyr, hye] at h1
      obtain ⟨h1, h2, h3⟩ := h1
      refine .inl ⟨by rw [← hxe0]; exact h0, by rw [← hhe]; unfold fmtE; rw [hr]; rfl, (congrArg D.neg h1).symm, ?_, (congrArg D.ex h1).symm, h2, h3⟩
      rw [← hys, show yd = tx xs from congrArg D.dg h1, B_tx]
    · exact .inr (by rw [← hxe0]; exact h0)
  have heq := eqD_same xn xs xx
  have hneq := neqD_same n t x
  have hgd := guardD
  clear hp0 hx0 hy0 hpd hps hpr hpe hxd hxs hxr hxe0 hyd hys hyr hye hxe hft hhe hfa hea hbr hu_u ht
  have hfz : fa.size ≤ 1000 := hfs
  clear hsz2
  rcases q1 with ⟨rfl, rfl, rfl, rfl, rfl, rfl, rfl⟩ | ⟨rfl, rfl⟩
  · rcases q2 with ⟨rfl, rfl, rfl, rfl, rfl, rfl, rfl⟩ | rfl
    · have hBx := Cls.new w 24 [.bool n, .string s, .int .i64 x]
      have hWx := below_alloc w (.cells #[.bool n, .string s, .int .i64 x] 24)
      go_enter Tryd.func4, Tryd.ntmps4
      go_wp2_with fail
      refine (dshown_calls _ (hT.below hWx)).mono ?_
      rintro e w1 ⟨rfl, hb1⟩
      have hW1 := hWx.trans (hb1.mono hWx.size)
      have hD1 := hBx.below hb1
      have D_0 := hD1.cell 0 rfl
      have D_z0 := hD1.frozen 0
      have D_1 := hD1.cell 1 rfl
      have D_z1 := hD1.frozen 1
      have D_2 := hD1.cell 2 rfl
      have D_z2 := hD1.frozen 2
      go_wp2_with fail
      refine (hCut _).mono ?_
      rintro e w2 ⟨rfl, hb2⟩
      have hW2 := hW1.trans (hb2.mono hW1.size)
      have hD2 := hD1.below hb2
      clear D_0 D_z0 D_1 D_z1 D_2 D_z2
      have D_0 := hD2.cell 0 rfl
      have D_z0 := hD2.frozen 0
      have D_1 := hD2.cell 1 rfl
      have D_z1 := hD2.frozen 1
      have D_2 := hD2.cell 2 rfl
      have D_z2 := hD2.frozen 2
      have hD3 := ((hD2.set 0 (.bool n)).set 1 (.string t)).set 2 (.int .i64 x)
      have hW3 := ((hW2.setCell (p := ⟨w.heap.size, 0, none⟩) (Nat.le_refl _) (.bool n)).setCell (p := ⟨w.heap.size, 1, none⟩) (Nat.le_refl _) (.string t)).setCell (p := ⟨w.heap.size, 2, none⟩) (Nat.le_refl _) (.int .i64 x)
      go_wp2_with fail
      generalize ((w2.setCell ⟨w.heap.size, 0, none⟩ (.bool n)).setCell ⟨w.heap.size, 1, none⟩ (.string t)).setCell ⟨w.heap.size, 2, none⟩ (.int .i64 x) = V4 at *
      clear D_0 D_z0 D_1 D_z1 D_2 D_z2
      refine (hf _ (hT.below hW3)).mono ?_
      rintro e w5 ⟨rfl, hb5⟩
      have hW5 := hW3.trans (hb5.mono hW3.size)
      have hD5 := hD3.below hb5
      go_wp2_with fail
      refine (hp _ (hT.below hW5)).mono ?_
      rintro e w6 ⟨rfl, hb6⟩
      have hW6 := hW5.trans (hb6.mono hW5.size)
      have hD6 := hD5.below hb6
      have hD7 := hD6.alloc (.cells #[.bool n, .string t, .int .i64 x] 24)
      have hP7 := Cls.new w6 24 [.bool n, .string t, .int .i64 x]
      have hW7 := hW6.alloc hW6.size (.cells #[.bool n, .string t, .int .i64 x] 24)
      have D_0 := hD7.cell 0 rfl
      have D_1 := hD7.cell 1 rfl
      have D_2 := hD7.cell 2 rfl
      have P_0 := hP7.cell 0 rfl
      have P_1 := hP7.cell 1 rfl
      have P_2 := hP7.cell 2 rfl
      go_wp2_with fail
      generalize w6.alloc (.cells #[.bool n, .string t, .int .i64 x] 24) = V8 at *
      clear D_0 D_1 D_2
      clear P_0 P_1 P_2
      refine (hcut _).mono ?_
      rintro e v9 ⟨rfl, rfl⟩
      go_wp2_with fail
      refine (hx _ (hT.below hW7)).mono ?_
      rintro e w10 ⟨rfl, hb10⟩
      have hW10 := hW7.trans (hb10.mono hW7.size)
      have hD10 := hD7.below hb10
      have hP10 := hP7.below hb10
      have hD11 := hD10.alloc (.cells #[.bool xn, .string xs, .int .i64 xx] 24)
      have hP11 := hP10.alloc (.cells #[.bool xn, .string xs, .int .i64 xx] 24)
      have hX11 := Cls.new w10 24 [.bool xn, .string xs, .int .i64 xx]
      have hW11 := hW10.alloc hW10.size (.cells #[.bool xn, .string xs, .int .i64 xx] 24)
      have X_0 := hX11.cell 0 rfl
      have X_1 := hX11.cell 1 rfl
      have X_2 := hX11.cell 2 rfl
      go_wp2_with fail
      generalize w10.alloc (.cells #[.bool xn, .string xs, .int .i64 xx] 24) = V12 at *
      clear X_0 X_1 X_2
      refine (hg _ (hT.below hW11)).mono ?_
      rintro e w13 ⟨rfl, hb13⟩
      have hW13 := hW11.trans (hb13.mono hW11.size)
      have hD13 := hD11.below hb13
      have hP13 := hP11.below hb13
      have hX13 := hX11.below hb13
      go_wp2_with fail
      refine (hy _ (hT.below hW13)).mono ?_
      rintro e w14 ⟨rfl, hb14⟩
      have hW14 := hW13.trans (hb14.mono hW13.size)
      have hD14 := hD13.below hb14
      have hP14 := hP13.below hb14
      have hX14 := hX13.below hb14
      have hD15 := hD14.alloc (.cells #[.bool xn, .string xs, .int .i64 xx] 24)
      have hP15 := hP14.alloc (.cells #[.bool xn, .string xs, .int .i64 xx] 24)
      have hX15 := hX14.alloc (.cells #[.bool xn, .string xs, .int .i64 xx] 24)
      have hY15 := Cls.new w14 24 [.bool xn, .string xs, .int .i64 xx]
      have hW15 := hW14.alloc hW14.size (.cells #[.bool xn, .string xs, .int .i64 xx] 24)
      have D_0 := hD15.cell 0 rfl
      have D_1 := hD15.cell 1 rfl
      have D_2 := hD15.cell 2 rfl
      have X_0 := hX15.cell 0 rfl
      have X_1 := hX15.cell 1 rfl
      have X_2 := hX15.cell 2 rfl
      have Y_0 := hY15.cell 0 rfl
      have Y_1 := hY15.cell 1 rfl
      have Y_2 := hY15.cell 2 rfl
      go_wp2_with fail
      generalize w14.alloc (.cells #[.bool xn, .string xs, .int .i64 xx] 24) = V16 at *
      clear D_0 D_1 D_2
      clear X_0 X_1 X_2
      clear Y_0 Y_1 Y_2
      refine (hrt _).mono ?_
      rintro e w17 ⟨rfl, hb17⟩
      have hW17 := hW15.trans (hb17.mono hW15.size)
      have hD17 := hD15.below hb17
      have hP17 := hP15.below hb17
      have hX17 := hX15.below hb17
      have hY17 := hY15.below hb17
      have X_0 := hX17.cell 0 rfl
      have X_1 := hX17.cell 1 rfl
      have X_2 := hX17.cell 2 rfl
      have Y_0 := hY17.cell 0 rfl
      have Y_1 := hY17.cell 1 rfl
      have Y_2 := hY17.cell 2 rfl
      go_wp2
      go_ret
      exact ⟨rfl, hW17⟩
    · have hBx := Cls.new w 24 [.bool n, .string s, .int .i64 x]
      have hWx := below_alloc w (.cells #[.bool n, .string s, .int .i64 x] 24)
      go_enter Tryd.func4, Tryd.ntmps4
      go_wp2_with fail
      refine (dshown_calls _ (hT.below hWx)).mono ?_
      rintro e w1 ⟨rfl, hb1⟩
      have hW1 := hWx.trans (hb1.mono hWx.size)
      have hD1 := hBx.below hb1
      have D_0 := hD1.cell 0 rfl
      have D_z0 := hD1.frozen 0
      have D_1 := hD1.cell 1 rfl
      have D_z1 := hD1.frozen 1
      have D_2 := hD1.cell 2 rfl
      have D_z2 := hD1.frozen 2
      go_wp2_with fail
      refine (hCut _).mono ?_
      rintro e w2 ⟨rfl, hb2⟩
      have hW2 := hW1.trans (hb2.mono hW1.size)
      have hD2 := hD1.below hb2
      clear D_0 D_z0 D_1 D_z1 D_2 D_z2
      have D_0 := hD2.cell 0 rfl
      have D_z0 := hD2.frozen 0
      have D_1 := hD2.cell 1 rfl
      have D_z1 := hD2.frozen 1
      have D_2 := hD2.cell 2 rfl
      have D_z2 := hD2.frozen 2
      have hD3 := ((hD2.set 0 (.bool n)).set 1 (.string t)).set 2 (.int .i64 x)
      have hW3 := ((hW2.setCell (p := ⟨w.heap.size, 0, none⟩) (Nat.le_refl _) (.bool n)).setCell (p := ⟨w.heap.size, 1, none⟩) (Nat.le_refl _) (.string t)).setCell (p := ⟨w.heap.size, 2, none⟩) (Nat.le_refl _) (.int .i64 x)
      go_wp2_with fail
      generalize ((w2.setCell ⟨w.heap.size, 0, none⟩ (.bool n)).setCell ⟨w.heap.size, 1, none⟩ (.string t)).setCell ⟨w.heap.size, 2, none⟩ (.int .i64 x) = V4 at *
      clear D_0 D_z0 D_1 D_z1 D_2 D_z2
      refine (hf _ (hT.below hW3)).mono ?_
      rintro e w5 ⟨rfl, hb5⟩
      have hW5 := hW3.trans (hb5.mono hW3.size)
      have hD5 := hD3.below hb5
      go_wp2_with fail
      refine (hp _ (hT.below hW5)).mono ?_
      rintro e w6 ⟨rfl, hb6⟩
      have hW6 := hW5.trans (hb6.mono hW5.size)
      have hD6 := hD5.below hb6
      have hD7 := hD6.alloc (.cells #[.bool n, .string t, .int .i64 x] 24)
      have hP7 := Cls.new w6 24 [.bool n, .string t, .int .i64 x]
      have hW7 := hW6.alloc hW6.size (.cells #[.bool n, .string t, .int .i64 x] 24)
      have D_0 := hD7.cell 0 rfl
      have D_1 := hD7.cell 1 rfl
      have D_2 := hD7.cell 2 rfl
      have P_0 := hP7.cell 0 rfl
      have P_1 := hP7.cell 1 rfl
      have P_2 := hP7.cell 2 rfl
      go_wp2_with fail
      generalize w6.alloc (.cells #[.bool n, .string t, .int .i64 x] 24) = V8 at *
      clear D_0 D_1 D_2
      clear P_0 P_1 P_2
      refine (hcut _).mono ?_
      rintro e v9 ⟨rfl, rfl⟩
      go_wp2_with fail
      refine (hx _ (hT.below hW7)).mono ?_
      rintro e w10 ⟨rfl, hb10⟩
      have hW10 := hW7.trans (hb10.mono hW7.size)
      have hD10 := hD7.below hb10
      have hP10 := hP7.below hb10
      have hD11 := hD10.alloc (.cells #[.bool xn, .string xs, .int .i64 xx] 24)
      have hP11 := hP10.alloc (.cells #[.bool xn, .string xs, .int .i64 xx] 24)
      have hX11 := Cls.new w10 24 [.bool xn, .string xs, .int .i64 xx]
      have hW11 := hW10.alloc hW10.size (.cells #[.bool xn, .string xs, .int .i64 xx] 24)
      have X_0 := hX11.cell 0 rfl
      have X_1 := hX11.cell 1 rfl
      have X_2 := hX11.cell 2 rfl
      go_wp2_with fail
      generalize w10.alloc (.cells #[.bool xn, .string xs, .int .i64 xx] 24) = V12 at *
      clear X_0 X_1 X_2
      refine (hg _ (hT.below hW11)).mono ?_
      rintro e w13 ⟨rfl, hb13⟩
      have hW13 := hW11.trans (hb13.mono hW11.size)
      have hD13 := hD11.below hb13
      have hP13 := hP11.below hb13
      have hX13 := hX11.below hb13
      go_wp2_with fail
      refine (hy _ (hT.below hW13)).mono ?_
      rintro e w14 ⟨rfl, hb14⟩
      have hW14 := hW13.trans (hb14.mono hW13.size)
      have hD14 := hD13.below hb14
      have hP14 := hP13.below hb14
      have hX14 := hX13.below hb14
      have hD15 := hD14.alloc (.cells #[.bool yn, .string ys, .int .i64 yx] 24)
      have hP15 := hP14.alloc (.cells #[.bool yn, .string ys, .int .i64 yx] 24)
      have hX15 := hX14.alloc (.cells #[.bool yn, .string ys, .int .i64 yx] 24)
      have hY15 := Cls.new w14 24 [.bool yn, .string ys, .int .i64 yx]
      have hW15 := hW14.alloc hW14.size (.cells #[.bool yn, .string ys, .int .i64 yx] 24)
      have D_0 := hD15.cell 0 rfl
      have D_1 := hD15.cell 1 rfl
      have D_2 := hD15.cell 2 rfl
      have X_0 := hX15.cell 0 rfl
      have X_1 := hX15.cell 1 rfl
      have X_2 := hX15.cell 2 rfl
      have Y_0 := hY15.cell 0 rfl
      have Y_1 := hY15.cell 1 rfl
      have Y_2 := hY15.cell 2 rfl
      go_wp2_with fail
      generalize w14.alloc (.cells #[.bool yn, .string ys, .int .i64 yx] 24) = V16 at *
      clear D_0 D_1 D_2
      clear X_0 X_1 X_2
      clear Y_0 Y_1 Y_2
      refine (hrt _).mono ?_
      rintro e w17 ⟨rfl, hb17⟩
      have hW17 := hW15.trans (hb17.mono hW15.size)
      have hD17 := hD15.below hb17
      have hP17 := hP15.below hb17
      have hX17 := hX15.below hb17
      have hY17 := hY15.below hb17
      have X_0 := hX17.cell 0 rfl
      have X_1 := hX17.cell 1 rfl
      have X_2 := hX17.cell 2 rfl
      have Y_0 := hY17.cell 0 rfl
      have Y_1 := hY17.cell 1 rfl
      have Y_2 := hY17.cell 2 rfl
      go_wp2
      go_ret
      exact ⟨rfl, hW17⟩
  · rcases q2 with ⟨rfl, rfl, rfl, rfl, rfl, rfl, rfl⟩ | rfl
    · have hBx := Cls.new w 24 [.bool n, .string s, .int .i64 x]
      have hWx := below_alloc w (.cells #[.bool n, .string s, .int .i64 x] 24)
      go_enter Tryd.func4, Tryd.ntmps4
      go_wp2_with fail
      refine (dshown_calls _ (hT.below hWx)).mono ?_
      rintro e w1 ⟨rfl, hb1⟩
      have hW1 := hWx.trans (hb1.mono hWx.size)
      have hD1 := hBx.below hb1
      have D_0 := hD1.cell 0 rfl
      have D_z0 := hD1.frozen 0
      have D_1 := hD1.cell 1 rfl
      have D_z1 := hD1.frozen 1
      have D_2 := hD1.cell 2 rfl
      have D_z2 := hD1.frozen 2
      go_wp2_with fail
      refine (hCut _).mono ?_
      rintro e w2 ⟨rfl, hb2⟩
      have hW2 := hW1.trans (hb2.mono hW1.size)
      have hD2 := hD1.below hb2
      clear D_0 D_z0 D_1 D_z1 D_2 D_z2
      have D_0 := hD2.cell 0 rfl
      have D_z0 := hD2.frozen 0
      have D_1 := hD2.cell 1 rfl
      have D_z1 := hD2.frozen 1
      have D_2 := hD2.cell 2 rfl
      have D_z2 := hD2.frozen 2
      have hD3 := ((hD2.set 0 (.bool n)).set 1 (.string t)).set 2 (.int .i64 x)
      have hW3 := ((hW2.setCell (p := ⟨w.heap.size, 0, none⟩) (Nat.le_refl _) (.bool n)).setCell (p := ⟨w.heap.size, 1, none⟩) (Nat.le_refl _) (.string t)).setCell (p := ⟨w.heap.size, 2, none⟩) (Nat.le_refl _) (.int .i64 x)
      go_wp2_with fail
      generalize ((w2.setCell ⟨w.heap.size, 0, none⟩ (.bool n)).setCell ⟨w.heap.size, 1, none⟩ (.string t)).setCell ⟨w.heap.size, 2, none⟩ (.int .i64 x) = V4 at *
      clear D_0 D_z0 D_1 D_z1 D_2 D_z2
      refine (hf _ (hT.below hW3)).mono ?_
      rintro e w5 ⟨rfl, hb5⟩
      have hW5 := hW3.trans (hb5.mono hW3.size)
      have hD5 := hD3.below hb5
      go_wp2_with fail
      refine (hp _ (hT.below hW5)).mono ?_
      rintro e w6 ⟨rfl, hb6⟩
      have hW6 := hW5.trans (hb6.mono hW5.size)
      have hD6 := hD5.below hb6
      have hD7 := hD6.alloc (.cells #[.bool bn, .string bs, .int .i64 bx] 24)
      have hP7 := Cls.new w6 24 [.bool bn, .string bs, .int .i64 bx]
      have hW7 := hW6.alloc hW6.size (.cells #[.bool bn, .string bs, .int .i64 bx] 24)
      have D_0 := hD7.cell 0 rfl
      have D_1 := hD7.cell 1 rfl
      have D_2 := hD7.cell 2 rfl
      have P_0 := hP7.cell 0 rfl
      have P_1 := hP7.cell 1 rfl
      have P_2 := hP7.cell 2 rfl
      go_wp2_with fail
      generalize w6.alloc (.cells #[.bool bn, .string bs, .int .i64 bx] 24) = V8 at *
      clear D_0 D_1 D_2
      clear P_0 P_1 P_2
      refine (hcut _).mono ?_
      rintro e v9 ⟨rfl, rfl⟩
      go_wp2_with fail
      refine (hx _ (hT.below hW7)).mono ?_
      rintro e w10 ⟨rfl, hb10⟩
      have hW10 := hW7.trans (hb10.mono hW7.size)
      have hD10 := hD7.below hb10
      have hP10 := hP7.below hb10
      have hD11 := hD10.alloc (.cells #[.bool xn, .string xs, .int .i64 xx] 24)
      have hP11 := hP10.alloc (.cells #[.bool xn, .string xs, .int .i64 xx] 24)
      have hX11 := Cls.new w10 24 [.bool xn, .string xs, .int .i64 xx]
      have hW11 := hW10.alloc hW10.size (.cells #[.bool xn, .string xs, .int .i64 xx] 24)
      have X_0 := hX11.cell 0 rfl
      have X_1 := hX11.cell 1 rfl
      have X_2 := hX11.cell 2 rfl
      go_wp2_with fail
      generalize w10.alloc (.cells #[.bool xn, .string xs, .int .i64 xx] 24) = V12 at *
      clear X_0 X_1 X_2
      refine (hg _ (hT.below hW11)).mono ?_
      rintro e w13 ⟨rfl, hb13⟩
      have hW13 := hW11.trans (hb13.mono hW11.size)
      have hD13 := hD11.below hb13
      have hP13 := hP11.below hb13
      have hX13 := hX11.below hb13
      go_wp2_with fail
      refine (hy _ (hT.below hW13)).mono ?_
      rintro e w14 ⟨rfl, hb14⟩
      have hW14 := hW13.trans (hb14.mono hW13.size)
      have hD14 := hD13.below hb14
      have hP14 := hP13.below hb14
      have hX14 := hX13.below hb14
      have hD15 := hD14.alloc (.cells #[.bool xn, .string xs, .int .i64 xx] 24)
      have hP15 := hP14.alloc (.cells #[.bool xn, .string xs, .int .i64 xx] 24)
      have hX15 := hX14.alloc (.cells #[.bool xn, .string xs, .int .i64 xx] 24)
      have hY15 := Cls.new w14 24 [.bool xn, .string xs, .int .i64 xx]
      have hW15 := hW14.alloc hW14.size (.cells #[.bool xn, .string xs, .int .i64 xx] 24)
      have D_0 := hD15.cell 0 rfl
      have D_1 := hD15.cell 1 rfl
      have D_2 := hD15.cell 2 rfl
      have X_0 := hX15.cell 0 rfl
      have X_1 := hX15.cell 1 rfl
      have X_2 := hX15.cell 2 rfl
      have Y_0 := hY15.cell 0 rfl
      have Y_1 := hY15.cell 1 rfl
      have Y_2 := hY15.cell 2 rfl
      go_wp2_with fail
      generalize w14.alloc (.cells #[.bool xn, .string xs, .int .i64 xx] 24) = V16 at *
      clear D_0 D_1 D_2
      clear X_0 X_1 X_2
      clear Y_0 Y_1 Y_2
      refine (hrt _).mono ?_
      rintro e w17 ⟨rfl, hb17⟩
      have hW17 := hW15.trans (hb17.mono hW15.size)
      have hD17 := hD15.below hb17
      have hP17 := hP15.below hb17
      have hX17 := hX15.below hb17
      have hY17 := hY15.below hb17
      have X_0 := hX17.cell 0 rfl
      have X_1 := hX17.cell 1 rfl
      have X_2 := hX17.cell 2 rfl
      have Y_0 := hY17.cell 0 rfl
      have Y_1 := hY17.cell 1 rfl
      have Y_2 := hY17.cell 2 rfl
      go_wp2
      go_ret
      exact ⟨rfl, hW17⟩
    · have hBx := Cls.new w 24 [.bool n, .string s, .int .i64 x]
      have hWx := below_alloc w (.cells #[.bool n, .string s, .int .i64 x] 24)
      go_enter Tryd.func4, Tryd.ntmps4
      go_wp2_with fail
      refine (dshown_calls _ (hT.below hWx)).mono ?_
      rintro e w1 ⟨rfl, hb1⟩
      have hW1 := hWx.trans (hb1.mono hWx.size)
      have hD1 := hBx.below hb1
      have D_0 := hD1.cell 0 rfl
      have D_z0 := hD1.frozen 0
      have D_1 := hD1.cell 1 rfl
      have D_z1 := hD1.frozen 1
      have D_2 := hD1.cell 2 rfl
      have D_z2 := hD1.frozen 2
      go_wp2_with fail
      refine (hCut _).mono ?_
      rintro e w2 ⟨rfl, hb2⟩
      have hW2 := hW1.trans (hb2.mono hW1.size)
      have hD2 := hD1.below hb2
      clear D_0 D_z0 D_1 D_z1 D_2 D_z2
      have D_0 := hD2.cell 0 rfl
      have D_z0 := hD2.frozen 0
      have D_1 := hD2.cell 1 rfl
      have D_z1 := hD2.frozen 1
      have D_2 := hD2.cell 2 rfl
      have D_z2 := hD2.frozen 2
      have hD3 := ((hD2.set 0 (.bool n)).set 1 (.string t)).set 2 (.int .i64 x)
      have hW3 := ((hW2.setCell (p := ⟨w.heap.size, 0, none⟩) (Nat.le_refl _) (.bool n)).setCell (p := ⟨w.heap.size, 1, none⟩) (Nat.le_refl _) (.string t)).setCell (p := ⟨w.heap.size, 2, none⟩) (Nat.le_refl _) (.int .i64 x)
      go_wp2_with fail
      generalize ((w2.setCell ⟨w.heap.size, 0, none⟩ (.bool n)).setCell ⟨w.heap.size, 1, none⟩ (.string t)).setCell ⟨w.heap.size, 2, none⟩ (.int .i64 x) = V4 at *
      clear D_0 D_z0 D_1 D_z1 D_2 D_z2
      refine (hf _ (hT.below hW3)).mono ?_
      rintro e w5 ⟨rfl, hb5⟩
      have hW5 := hW3.trans (hb5.mono hW3.size)
      have hD5 := hD3.below hb5
      go_wp2_with fail
      refine (hp _ (hT.below hW5)).mono ?_
      rintro e w6 ⟨rfl, hb6⟩
      have hW6 := hW5.trans (hb6.mono hW5.size)
      have hD6 := hD5.below hb6
      have hD7 := hD6.alloc (.cells #[.bool bn, .string bs, .int .i64 bx] 24)
      have hP7 := Cls.new w6 24 [.bool bn, .string bs, .int .i64 bx]
      have hW7 := hW6.alloc hW6.size (.cells #[.bool bn, .string bs, .int .i64 bx] 24)
      have D_0 := hD7.cell 0 rfl
      have D_1 := hD7.cell 1 rfl
      have D_2 := hD7.cell 2 rfl
      have P_0 := hP7.cell 0 rfl
      have P_1 := hP7.cell 1 rfl
      have P_2 := hP7.cell 2 rfl
      go_wp2_with fail
      generalize w6.alloc (.cells #[.bool bn, .string bs, .int .i64 bx] 24) = V8 at *
      clear D_0 D_1 D_2
      clear P_0 P_1 P_2
      refine (hcut _).mono ?_
      rintro e v9 ⟨rfl, rfl⟩
      go_wp2_with fail
      refine (hx _ (hT.below hW7)).mono ?_
      rintro e w10 ⟨rfl, hb10⟩
      have hW10 := hW7.trans (hb10.mono hW7.size)
      have hD10 := hD7.below hb10
      have hP10 := hP7.below hb10
      have hD11 := hD10.alloc (.cells #[.bool xn, .string xs, .int .i64 xx] 24)
      have hP11 := hP10.alloc (.cells #[.bool xn, .string xs, .int .i64 xx] 24)
      have hX11 := Cls.new w10 24 [.bool xn, .string xs, .int .i64 xx]
      have hW11 := hW10.alloc hW10.size (.cells #[.bool xn, .string xs, .int .i64 xx] 24)
      have X_0 := hX11.cell 0 rfl
      have X_1 := hX11.cell 1 rfl
      have X_2 := hX11.cell 2 rfl
      go_wp2_with fail
      generalize w10.alloc (.cells #[.bool xn, .string xs, .int .i64 xx] 24) = V12 at *
      clear X_0 X_1 X_2
      refine (hg _ (hT.below hW11)).mono ?_
      rintro e w13 ⟨rfl, hb13⟩
      have hW13 := hW11.trans (hb13.mono hW11.size)
      have hD13 := hD11.below hb13
      have hP13 := hP11.below hb13
      have hX13 := hX11.below hb13
      go_wp2_with fail
      refine (hy _ (hT.below hW13)).mono ?_
      rintro e w14 ⟨rfl, hb14⟩
      have hW14 := hW13.trans (hb14.mono hW13.size)
      have hD14 := hD13.below hb14
      have hP14 := hP13.below hb14
      have hX14 := hX13.below hb14
      have hD15 := hD14.alloc (.cells #[.bool yn, .string ys, .int .i64 yx] 24)
      have hP15 := hP14.alloc (.cells #[.bool yn, .string ys, .int .i64 yx] 24)
      have hX15 := hX14.alloc (.cells #[.bool yn, .string ys, .int .i64 yx] 24)
      have hY15 := Cls.new w14 24 [.bool yn, .string ys, .int .i64 yx]
      have hW15 := hW14.alloc hW14.size (.cells #[.bool yn, .string ys, .int .i64 yx] 24)
      have D_0 := hD15.cell 0 rfl
      have D_1 := hD15.cell 1 rfl
      have D_2 := hD15.cell 2 rfl
      have X_0 := hX15.cell 0 rfl
      have X_1 := hX15.cell 1 rfl
      have X_2 := hX15.cell 2 rfl
      have Y_0 := hY15.cell 0 rfl
      have Y_1 := hY15.cell 1 rfl
      have Y_2 := hY15.cell 2 rfl
      go_wp2_with fail
      generalize w14.alloc (.cells #[.bool yn, .string ys, .int .i64 yx] 24) = V16 at *
      clear D_0 D_1 D_2
      clear X_0 X_1 X_2
      clear Y_0 Y_1 Y_2
      refine (hrt _).mono ?_
      rintro e w17 ⟨rfl, hb17⟩
      have hW17 := hW15.trans (hb17.mono hW15.size)
      have hD17 := hD15.below hb17
      have hP17 := hP15.below hb17
      have hX17 := hX15.below hb17
      have hY17 := hY15.below hb17
      have X_0 := hX17.cell 0 rfl
      have X_1 := hX17.cell 1 rfl
      have X_2 := hX17.cell 2 rfl
      have Y_0 := hY17.cell 0 rfl
      have Y_1 := hY17.cell 1 rfl
      have Y_2 := hY17.cell 2 rfl
      go_wp2
      go_ret
      exact ⟨rfl, hW17⟩
end Go.Proofs.YtbopikeoaokdpaaDoor
