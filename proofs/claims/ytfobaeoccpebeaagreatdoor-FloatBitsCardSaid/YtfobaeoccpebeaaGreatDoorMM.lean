/- The reference's ToDec (targumref05): walked. -/
import Derived.Test.YtfobaeoccpebeaaGreatDoorMK
import Derived.Test.YtfobaeoccpebeaaGreatDoorML
import Derived.Test.YtfobaeoccpebeaaGreatDoorMH
import Derived.Test.YtfobaeoccpebeaaGreatDoorMJ
namespace Go.Proofs.YtfobaeoccpebeaaGreatDoor
open Go.RowKit Go.Shelf
attribute [local go_sem] Oper.semAt_some

set_option maxRecDepth 100000 in
set_option maxHeartbeats 4000000 in
theorem rtoDec_inf (x : Nat) (hx : x < 18446744073709551616) (hE : x / 4503599627370496 % 2048 = 2047) (w : World) :
    Calls Tryz.prog 13 #[.int .u64 x] w fun e w' => e = .returned (.tuple #[(toDecS x).1.val, .int .i64 (toDecS x).2]) ∧ Below w.heap.size w w' := by
  have hfin := fun W => rIsFinite_calls x hx W
  rw [show finB x = false from decide_eq_false (fun h => h hE)] at hfin
  have HR := hid (show toDecS x = (D0, 50) from if_pos hE)
  clear hE hx
  have hR1 := Cls.new w 25 [.bool false, .string ⟨#[]⟩, .int .i64 0]
  have hW1 := below_alloc w (.cells #[.bool false, .string ⟨#[]⟩, .int .i64 0] 25)
  go_enter Tryz.func13, Tryz.ntmps13
  go_wp2_with fail
  refine (hfin _).mono ?_
  rintro e w2 ⟨rfl, rfl⟩
  generalize w.alloc (.cells #[.bool false, .string ⟨#[]⟩, .int .i64 0] 25) = V1 at *
  have R_0 := hR1.cell 0 rfl
  have R_z0 := hR1.frozen 0
  have R_1 := hR1.cell 1 rfl
  have R_z1 := hR1.frozen 1
  have R_2 := hR1.cell 2 rfl
  have R_z2 := hR1.frozen 2
  go_wp2
  have hQ := ((hR1.set 0 (.bool false)).set 1 (.string ⟨#[]⟩)).set 2 (.int .i64 0)
  have hP := (((hW1.setCell (p := ⟨w.heap.size, 0, none⟩) (Nat.le_refl _) (.bool false)).setCell (p := ⟨w.heap.size, 1, none⟩) (Nat.le_refl _) (.string ⟨#[]⟩)).setCell (p := ⟨w.heap.size, 2, none⟩) (Nat.le_refl _) (.int .i64 0))
  have q0 := hQ.cell 0 rfl
  have q1 := hQ.cell 1 rfl
  have q2 := hQ.cell 2 rfl
  exact bodyPost_ret (v := .tuple #[.agg #[.bool false, .string ⟨#[]⟩, .int .i64 0], .int .i64 50]) (by simp [results, Tryz.results13, go_sem, q0, q1, q2]) rfl ⟨by rw [HR.out] <;> rfl, hP⟩

set_option maxRecDepth 100000 in
set_option maxHeartbeats 4000000 in
theorem rtoDec_zero (x : Nat) (hx : x < 18446744073709551616) (hE : x / 4503599627370496 % 2048 = 0) (hF : x % 4503599627370496 = 0) (w : World) :
    Calls Tryz.prog 13 #[.int .u64 x] w fun e w' => e = .returned (.tuple #[(toDecS x).1.val, .int .i64 (toDecS x).2]) ∧ Below w.heap.size w w' := by
  have hfin := fun W => rIsFinite_calls x hx W
  rw [show finB x = true from decide_eq_true (by show x / 4503599627370496 % 2048 ≠ 2047; omega)] at hfin
  have HR := hid (show toDecS x = (Dz, 0) by
    have hV : tdV x = 0 := by
      show (if x / 4503599627370496 % 2048 = 0 then x % 4503599627370496 else x % 4503599627370496 + 4503599627370496) = 0
      rw [if_pos hE]; exact hF
    unfold toDecS
    rw [if_neg (by rw [show x / A64 % 2048 = 0 from hE]; decide), if_pos hV])
  obtain ⟨q, hq⟩ : ∃ q, x / 4503599627370496 = q := ⟨_, rfl⟩
  have hqd : (x : Int) / 4503599627370496 = (q : Int) := by omega
  have e1 := and_mask (x := q) (n := 11) (by omega) 2047 (by decide) (by decide)
  have e2 := and_mask (x := x) (n := 52) hx 4503599627370495 (by decide) (by decide)
  change _ = ((q % 2048 : Nat) : Int) at e1
  change _ = ((x % 4503599627370496 : Nat) : Int) at e2
  rw [hq] at hE
  rw [hE] at e1
  rw [hF] at e2
  change _ = (0 : Int) at e1
  change _ = (0 : Int) at e2
  clear hE hF hq hx
  have hR1 := Cls.new w 25 [.bool false, .string ⟨#[]⟩, .int .i64 0]
  have hW1 := below_alloc w (.cells #[.bool false, .string ⟨#[]⟩, .int .i64 0] 25)
  go_enter Tryz.func13, Tryz.ntmps13
  go_wp2_with fail
  refine (hfin _).mono ?_
  rintro e w2 ⟨rfl, rfl⟩
  generalize w.alloc (.cells #[.bool false, .string ⟨#[]⟩, .int .i64 0] 25) = V1 at *
  have R_0 := hR1.cell 0 rfl
  have R_z0 := hR1.frozen 0
  have R_1 := hR1.cell 1 rfl
  have R_z1 := hR1.frozen 1
  have R_2 := hR1.cell 2 rfl
  have R_z2 := hR1.frozen 2
  go_wp2
  have hQ := ((hR1.set 0 (.bool false)).set 1 (.string ⟨#[48]⟩)).set 2 (.int .i64 0)
  have hP := (((hW1.setCell (p := ⟨w.heap.size, 0, none⟩) (Nat.le_refl _) (.bool false)).setCell (p := ⟨w.heap.size, 1, none⟩) (Nat.le_refl _) (.string ⟨#[48]⟩)).setCell (p := ⟨w.heap.size, 2, none⟩) (Nat.le_refl _) (.int .i64 0))
  have q0 := hQ.cell 0 rfl
  have q1 := hQ.cell 1 rfl
  have q2 := hQ.cell 2 rfl
  exact bodyPost_ret (v := .tuple #[.agg #[.bool false, .string ⟨#[48]⟩, .int .i64 0], .int .i64 0]) (by simp [results, Tryz.results13, go_sem, q0, q1, q2]) rfl ⟨by rw [HR.out] <;> rfl, hP⟩

/-- how the reference's decimal ends. -/
def TdEnd (x : Nat) (st : ByteArray) (T : Int) (r1 : Bool) (r2 : ByteArray) (r3 r4 : Int) : Prop :=
  (st.toList == []) = true ∧ Hid (toDecS x = (D0, 40)) ∨ (st.toList == []) = false ∧ T < -1000 ∧ Hid (toDecS x = (D0, 40)) ∨ (st.toList == []) = false ∧ ¬ T < -1000 ∧ Hid ((toDecS x).1.val = .agg #[.bool r1, .string r2, .int .i64 r3] ∧ (toDecS x).2 = r4)

set_option maxRecDepth 100000 in
set_option maxHeartbeats 4000000 in
theorem rtoDec_num (x : Nat) (hx : x < 18446744073709551616) (hE : x / 4503599627370496 % 2048 ≠ 2047) (hV0 : tdV x ≠ 0) (w : World) :
    Calls Tryz.prog 13 #[.int .u64 x] w fun e w' => e = .returned (.tuple #[(toDecS x).1.val, .int .i64 (toDecS x).2]) ∧ Below w.heap.size w w' := by
  have hfin := fun W => rIsFinite_calls x hx W
  rw [show finB x = true from decide_eq_true hE] at hfin
  obtain ⟨hVlt, hVO, hodd, hZ52, hOV⟩ := td_odd hV0
  obtain ⟨P1, P2⟩ := rtd_plain (x := x) hE hV0
  have hVdef : tdV x = if x / 4503599627370496 % 2048 = 0 then x % 4503599627370496 else x % 4503599627370496 + 4503599627370496 := rfl
  have hXdef : tdX x = (max (x / 4503599627370496 % 2048) 1 : Nat) - 1075 + tdZ x := rfl
  have hNdef : rtN x = tdO x * tdB x ^ min (tdX x).natAbs 700 := rfl
  have htwo := tdB_two x
  have hstep : ∀ j, j ≤ tdZ x → (tdV x / 2 ^ j % 2 = 0 → j < tdZ x) ∧ (tdV x / 2 ^ j % 2 ≠ 0 → j = tdZ x ∧ tdV x / 2 ^ j = tdO x) := fun j hj => half_step hVO hodd hj
  have hdv : ∀ j, tdV x / 2 ^ j / 2 = tdV x / 2 ^ (j + 1) := fun j => dv_step _ _ _
  have hOlt : tdO x < 18446744073709551616 := by omega
  have hof := fun W => rOf_calls (tdO x) hOlt W
  have hOf : fitE (tdO x) = 0 := by
    unfold fitE; rw [if_pos (by have := dig20 hOlt; omega)]
  have htm2 := fun n (h : n ≤ 1000) W => rtimes_calls (tdO x) 2 n (by decide) hOf (dig_le (k := 0) (by decide) (by decide)) h W
  have htm5 := fun n (h : n ≤ 1000) W => rtimes_calls (tdO x) 5 n (by decide) hOf (dig_le (k := 0) (by decide) (by decide)) h W
  rw [show Dg 2 = ⟨#[50]⟩ by unfold Dg; rw [dec_small (by decide)]; rfl] at htm2
  rw [show Dg 5 = ⟨#[53]⟩ by unfold Dg; rw [dec_small (by decide)]; rfl] at htm5
  obtain ⟨q, hq⟩ : ∃ q, x / 4503599627370496 = q := ⟨_, rfl⟩
  have hqd : (x : Int) / 4503599627370496 = (q : Int) := by omega
  have e1 := and_mask (x := q) (n := 11) (by omega) 2047 (by decide) (by decide)
  have e2 := and_mask (x := x) (n := 52) hx 4503599627370495 (by decide) (by decide)
  change _ = ((q % 2048 : Nat) : Int) at e1
  change _ = ((x % 4503599627370496 : Nat) : Int) at e2
  obtain ⟨s, hs⟩ : ∃ s, x / 9223372036854775808 = s := ⟨_, rfl⟩
  have hsd : (x : Int) / 9223372036854775808 = (s : Int) := by omega
  have hs2 : s < 2 := by omega
  have hsb : ((s : Int) == 1) = decide (s = 1) := by
    rcases (show s = 0 ∨ s = 1 by omega) with rfl | rfl <;> rfl
  obtain ⟨sb, hsb2⟩ : ∃ b, decide (s = 1) = b := ⟨_, rfl⟩
  rw [hsb2] at hsb
  rw [show decide (x / C64 = 1) = sb by rw [show x / C64 = s from hs]; exact hsb2] at P2
  rw [hq] at hVdef hXdef
  obtain ⟨E, hee⟩ : ∃ e, q % 2048 = e := ⟨_, rfl⟩
  obtain ⟨F, hf⟩ : ∃ f, x % 4503599627370496 = f := ⟨_, rfl⟩
  rw [hee] at hVdef hXdef e1
  rw [hf] at hVdef e2
  have hFl : F < 4503599627370496 := by omega
  have hEl : E < 2048 := by omega
  have hwe : IntKind.i64.wrap (E : Int) = (E : Int) := IntWalk.i64_in _ (by omega)
  obtain ⟨V, hV⟩ : ∃ v, tdV x = v := ⟨_, rfl⟩
  obtain ⟨Z, hZ⟩ : ∃ v, tdZ x = v := ⟨_, rfl⟩
  obtain ⟨O, hO⟩ : ∃ v, tdO x = v := ⟨_, rfl⟩
  obtain ⟨X, hX⟩ : ∃ v, tdX x = v := ⟨_, rfl⟩
  obtain ⟨Bn, hBn⟩ : ∃ v, tdB x = v := ⟨_, rfl⟩
  obtain ⟨T, hTt⟩ : ∃ v, tdT x = v := ⟨_, rfl⟩
  obtain ⟨N, hN⟩ : ∃ v, rtN x = v := ⟨_, rfl⟩
  rw [hV] at hVlt hVdef hstep hdv hV0
  rw [hZ] at hXdef hstep hZ52
  rw [hO] at hstep hof htm2 htm5 hNdef hOf hOlt
  rw [hX] at hXdef htwo hNdef
  rw [hBn] at htwo hNdef
  rw [hTt] at htwo P1 P2
  rw [hN] at hNdef P1 P2
  clear hVO hodd hOV hV hZ hO hX hBn hTt hN hE hee hf hq hs hsb2
  obtain ⟨st, hst⟩ : ∃ v, B (fitS N) = v := ⟨_, rfl⟩
  have hsts : st.size ≤ 400 := by rw [← hst, size_B]; exact fit_size N
  have hXb : -1100 ≤ X ∧ X ≤ 3000 := by omega
  have hmk0 := rMake_calls sb st T (by omega) (by omega)
  obtain ⟨mr, hmr⟩ : ∃ r, mk sb (tx st) T = r := ⟨_, rfl⟩
  rw [hmr] at hmk0
  obtain ⟨r1, hr1⟩ : ∃ r, mr.1.neg = r := ⟨_, rfl⟩
  obtain ⟨r2, hr2⟩ : ∃ r, B mr.1.dg = r := ⟨_, rfl⟩
  obtain ⟨r3, hr3⟩ : ∃ r, mr.1.ex = r := ⟨_, rfl⟩
  obtain ⟨r4, hr4⟩ : ∃ r, mr.2 = r := ⟨_, rfl⟩
  have hval : mr.1.val = .agg #[.bool r1, .string r2, .int .i64 r3] := by rw [← hr1, ← hr2, ← hr3]; rfl
  rw [hval, hr4] at hmk0
  have hend : TdEnd x st T r1 r2 r3 r4 := by
    have htl : st.toList = fitS N := by rw [Lib.toList_data]; show tx st = _; rw [← hst, tx_B]
    unfold TdEnd
    rw [htl]
    by_cases h1 : fitS N = []
    · exact .inl ⟨by rw [h1]; rfl, P1 (.inl h1)⟩
    · have h1b : (fitS N == []) = false := beq_eq_false_iff_ne.2 h1
      by_cases h2 : T < -1000
      · exact .inr (.inl ⟨h1b, h2, P1 (.inr h2)⟩)
      · refine .inr (.inr ⟨h1b, h2, ?_⟩)
        have h3 := P2 h1 h2
        rw [show fitS N = tx st by rw [← hst, tx_B], hmr] at h3
        exact ⟨by rw [h3]; exact hval, by rw [h3]; exact hr4⟩
  -- the number's digits, by the three ways
  have hways : (0 < X ∧ T = 0 ∧ ∃ n : Nat, min X 700 = (n : Int) ∧ ∀ W, Calls Tryz.prog 37 #[.string (Dg O), .string ⟨#[50]⟩, .int .i64 n] W fun e w' => e = .returned (.string st) ∧ Below W.heap.size W w') ∨
      (X < 0 ∧ T = X ∧ ∃ n : Nat, min (-X) 700 = (n : Int) ∧ ∀ W, Calls Tryz.prog 37 #[.string (Dg O), .string ⟨#[53]⟩, .int .i64 n] W fun e w' => e = .returned (.string st) ∧ Below W.heap.size W w') ∨ (X = 0 ∧ T = 0 ∧ Dg O = st) := by
    rcases htwo with ⟨h1, rfl, h3⟩ | ⟨h1, rfl, h3⟩
    · refine .inr (.inl ⟨h1, h3, min X.natAbs 700, by omega, fun W => ?_⟩)
      have h := htm5 (min X.natAbs 700) (by omega) W
      rw [← hNdef, hst] at h
      exact h
    · by_cases h4 : X = 0
      · refine .inr (.inr ⟨h4, h3, ?_⟩)
        subst h4
        rw [show min (Int.natAbs 0) 700 = 0 from rfl, Nat.pow_zero, Nat.mul_one] at hNdef
        rw [← hst, hNdef, fitS_dg hOf]; rfl
      · refine .inl ⟨by omega, h3, min X.natAbs 700, by omega, fun W => ?_⟩
        have h := htm2 (min X.natAbs 700) (by omega) W
        rw [← hNdef, hst] at h
        exact h
  obtain ⟨OS, hOS⟩ : ∃ v, Dg O = v := ⟨_, rfl⟩
  rw [show (⟨(Lib.decDigits O).toArray⟩ : ByteArray) = OS from hOS] at hof
  rw [hOS] at hways
  have HK := hid hways
  have HE := hid hend
  clear hways hend hOS
  clear htm2 htm5 hmr hval hr1 hr2 hr3 hr4 hst hsts P1 P2 hNdef htwo hOlt hOf
  have hgt : (((E : Int) == 0) = true ∧ F = V) ∨ (((E : Int) == 0) = false ∧ bits .or .u64 (F : Int) 4503599627370496 = (V : Int)) := by
    by_cases h : E = 0
    · exact .inl ⟨by rw [h]; rfl, by rw [hVdef, if_pos h]⟩
    · refine .inr ⟨by rw [beq_eq_false_iff_ne]; omega, ?_⟩
      rw [hVdef, if_neg h]; exact or_52' hFl
  obtain ⟨M, hM⟩ : ∃ v : Int, max (E : Int) 1 = v := ⟨_, rfl⟩
  have hME : (((E : Int) == 0) = true → M = 1) ∧ (((E : Int) == 0) = false → M = (E : Int)) := by
    refine ⟨fun h => ?_, fun h => ?_⟩
    · rw [beq_iff_eq] at h; omega
    · rw [beq_eq_false_iff_ne] at h; omega
  obtain ⟨y1, hy1⟩ : ∃ y : Int, M - 1023 = y := ⟨_, rfl⟩
  obtain ⟨y2, hy2⟩ : ∃ y : Int, y1 - 52 = y := ⟨_, rfl⟩
  have hy3 : y2 + (Z : Int) = X := by omega
  have hyw1 : IntKind.i64.wrap y1 = y1 := IntWalk.i64_in _ (by omega)
  have hyw2 : IntKind.i64.wrap y2 = y2 := IntWalk.i64_in _ (by omega)
  have hy2b : -1100 ≤ y2 ∧ y2 ≤ 2000 := by omega
  have hVne : ((V : Int) == 0) = false := by rw [beq_eq_false_iff_ne]; omega
  have HP := hid (And.intro hstep (And.intro hdv (And.intro hVlt (And.intro hZ52 (And.intro hy2b (And.intro hy3 hXb))))))
  clear hstep hdv hVlt hZ52 hy2b hy3 hXb hVdef hXdef hM hV0 hFl hEl hs2 hx
  have hR1 := Cls.new w 25 [.bool false, .string ⟨#[]⟩, .int .i64 0]
  have hW1 := below_alloc w (.cells #[.bool false, .string ⟨#[]⟩, .int .i64 0] 25)
  go_enter Tryz.func13, Tryz.ntmps13
  go_wp2_with fail
  refine (hfin _).mono ?_
  rintro e w2 ⟨rfl, rfl⟩
  generalize w.alloc (.cells #[.bool false, .string ⟨#[]⟩, .int .i64 0] 25) = V1 at *
  go_upto_if 19 with (fail)
  go_cut [4, 5] (fun v1 v2 wx => v1 = .int .i64 M ∧ v2 = .int .u64 V ∧ Cls wx (w.heap.size) 25 [.bool false, .string ⟨#[]⟩, .int .i64 0] ∧ Below w.heap.size w wx)
  case first =>
    rcases hgt with ⟨h1, rfl⟩ | ⟨h1, h2⟩
    · obtain rfl := hME.1 h1
      go_wp2
      go_meet
      exact ⟨rfl, rfl, hR1, hW1⟩
    · obtain rfl := hME.2 h1
      go_wp2
      go_meet
      exact ⟨rfl, rfl, hR1, hW1⟩
  case rest =>
    obtain ⟨rfl, rfl, hR5, hW5⟩ := hcut
    clear hgt hME hR1 hW1
    go_wp2
    go_loopw [4, 5] (fun v1 v2 wq => ∃ (j : Nat), j ≤ Z ∧ v1 = .int .i64 (y2 + j) ∧ v2 = .int .u64 (V / 2 ^ j : Nat) ∧ Cls wq (w.heap.size) 25 [.bool false, .string ⟨#[]⟩, .int .i64 0] ∧ Below w.heap.size w wq) (fun v1 _ _ => Z - (intOf v1 - y2).toNat)
    case atStart => exact ⟨0, Nat.zero_le _, by congr 1; omega, by rw [Nat.pow_zero, Nat.div_one], hR5, hW5⟩
    case round =>
      obtain ⟨j, hj, rfl, rfl, hR, hB⟩ := hrel
      obtain ⟨hstep, hdv, hVlt, hZ52, hy2b, hy3, hXb⟩ := HP.out
      have hst := hstep j hj
      have hd := hdv j
      obtain ⟨Y, hY⟩ : ∃ v, V / 2 ^ j = v := ⟨_, rfl⟩
      obtain ⟨Y2, hY2⟩ : ∃ v, V / 2 ^ (j + 1) = v := ⟨_, rfl⟩
      rw [hY] at hst hd ⊢
      rw [hY2] at hd
      by_cases hr : Y % 2 = 0
      · have hr0 : (Y : Int) % 2 = 0 := by omega
        have hjZ := hst.1 hr
        have hdi : (Y : Int) / 2 = (Y2 : Int) := by omega
        obtain ⟨a1, ha1⟩ : ∃ y : Int, y2 + (j : Int) = y := ⟨_, rfl⟩
        obtain ⟨a2, ha2⟩ : ∃ y : Int, a1 + 1 = y := ⟨_, rfl⟩
        have haw : IntKind.i64.wrap a2 = a2 := IntWalk.i64_in _ (by omega)
        have hYV : Y ≤ V := by rw [← hY]; exact Nat.div_le_self _ _
        have hYw : IntKind.u64.wrap (Y2 : Int) = (Y2 : Int) := IntWalk.u64_in _ (by omega)
        rw [ha1]
        have HX := hid (And.intro hY2 (And.intro hjZ ha1))
        clear hst hd hY hY2 hr hstep hdv hVlt hZ52 hy2b hy3 hXb hj hjZ ha1 hYV
        go_wp2
        go_roundw
        case rel =>
          obtain ⟨k1, k2, k3⟩ := HX.out
          refine ⟨j + 1, k2, ?_, by rw [k1], hR, hB⟩
          congr 1
          omega
        case measure =>
          obtain ⟨k1, k2, k3⟩ := HX.out
          simp [intOf]; omega
      · have hr1 : (Y : Int) % 2 = 1 := by omega
        obtain ⟨rfl, rfl⟩ := hst.2 hr
        have hways := HK.out
        have hend := HE.out
        rw [hy3]
        clear hst hd hY hY2 hr hstep hdv hVlt hZ52 hy2b hj HP HK HE hy3
        unfold TdEnd at hend
        rcases hways with ⟨hX0, hT0, n, hn, htm⟩ | ⟨hX0, hT0, n, hn, htm⟩ | ⟨hX0, hT0, hOs⟩
        · have hX1 : ¬ X < 0 := by omega
          go_wp2_with fail
          refine (hof _).mono ?_
          rintro e wy ⟨rfl, hby⟩
          have hWy := hB.trans (hby.mono hB.size)
          have hRy := hR.below hby
          go_wp2_with fail
          refine (htm _).mono ?_
          rintro e wz ⟨rfl, hbz⟩
          have hWz := hWy.trans (hbz.mono hWy.size)
          have hRz := hRy.below hbz
          subst hT0
          clear htm hof
          rcases hend with ⟨g1, HD⟩ | ⟨g1, g2, HD⟩ | ⟨g1, g2, HD⟩
          · skip
            have R_0 := hRz.cell 0 rfl
            have R_z0 := hRz.frozen 0
            have R_1 := hRz.cell 1 rfl
            have R_z1 := hRz.frozen 1
            have R_2 := hRz.cell 2 rfl
            have R_z2 := hRz.frozen 2
            go_wp2
            have hQ := ((hRz.set 0 (.bool false)).set 1 (.string ⟨#[]⟩)).set 2 (.int .i64 0)
            have hP := (((hWz.setCell (p := ⟨w.heap.size, 0, none⟩) (Nat.le_refl _) (.bool false)).setCell (p := ⟨w.heap.size, 1, none⟩) (Nat.le_refl _) (.string ⟨#[]⟩)).setCell (p := ⟨w.heap.size, 2, none⟩) (Nat.le_refl _) (.int .i64 0))
            have q0 := hQ.cell 0 rfl
            have q1 := hQ.cell 1 rfl
            have q2 := hQ.cell 2 rfl
            exact bodyPost_ret (v := .tuple #[.agg #[.bool false, .string ⟨#[]⟩, .int .i64 0], .int .i64 40]) (by simp [results, Tryz.results13, go_sem, q0, q1, q2]) rfl ⟨by rw [HD.out] <;> rfl, hP⟩
          · exact absurd g2 (by decide)
          · skip
            go_wp2_with fail
            refine (hmk0 _).mono ?_
            rintro e wm ⟨rfl, hbm⟩
            have hWm := hWz.trans (hbm.mono hWz.size)
            have hRm := hRz.below hbm
            have R_0 := hRm.cell 0 rfl
            have R_z0 := hRm.frozen 0
            have R_1 := hRm.cell 1 rfl
            have R_z1 := hRm.frozen 1
            have R_2 := hRm.cell 2 rfl
            have R_z2 := hRm.frozen 2
            go_wp2
            have hQ := ((hRm.set 0 (.bool r1)).set 1 (.string r2)).set 2 (.int .i64 r3)
            have hP := (((hWm.setCell (p := ⟨w.heap.size, 0, none⟩) (Nat.le_refl _) (.bool r1)).setCell (p := ⟨w.heap.size, 1, none⟩) (Nat.le_refl _) (.string r2)).setCell (p := ⟨w.heap.size, 2, none⟩) (Nat.le_refl _) (.int .i64 r3))
            have q0 := hQ.cell 0 rfl
            have q1 := hQ.cell 1 rfl
            have q2 := hQ.cell 2 rfl
            exact bodyPost_ret (v := .tuple #[.agg #[.bool r1, .string r2, .int .i64 r3], .int .i64 r4]) (by simp [results, Tryz.results13, go_sem, q0, q1, q2]) rfl ⟨by rw [HD.out.1, HD.out.2], hP⟩
        · have hX1 : ¬ (0 : Int) < X := by omega
          obtain ⟨nX, hnX⟩ : ∃ v : Int, -X = v := ⟨_, rfl⟩
          have hnw : IntKind.i64.wrap nX = nX := IntWalk.i64_in _ (by omega)
          rw [hnX] at hn
          go_wp2_with fail
          refine (hof _).mono ?_
          rintro e wy ⟨rfl, hby⟩
          have hWy := hB.trans (hby.mono hB.size)
          have hRy := hR.below hby
          go_wp2_with fail
          refine (htm _).mono ?_
          rintro e wz ⟨rfl, hbz⟩
          have hWz := hWy.trans (hbz.mono hWy.size)
          have hRz := hRy.below hbz
          subst hT0
          clear htm hof
          rcases hend with ⟨g1, HD⟩ | ⟨g1, g2, HD⟩ | ⟨g1, g2, HD⟩
          · skip
            have R_0 := hRz.cell 0 rfl
            have R_z0 := hRz.frozen 0
            have R_1 := hRz.cell 1 rfl
            have R_z1 := hRz.frozen 1
            have R_2 := hRz.cell 2 rfl
            have R_z2 := hRz.frozen 2
            go_wp2
            have hQ := ((hRz.set 0 (.bool false)).set 1 (.string ⟨#[]⟩)).set 2 (.int .i64 0)
            have hP := (((hWz.setCell (p := ⟨w.heap.size, 0, none⟩) (Nat.le_refl _) (.bool false)).setCell (p := ⟨w.heap.size, 1, none⟩) (Nat.le_refl _) (.string ⟨#[]⟩)).setCell (p := ⟨w.heap.size, 2, none⟩) (Nat.le_refl _) (.int .i64 0))
            have q0 := hQ.cell 0 rfl
            have q1 := hQ.cell 1 rfl
            have q2 := hQ.cell 2 rfl
            exact bodyPost_ret (v := .tuple #[.agg #[.bool false, .string ⟨#[]⟩, .int .i64 0], .int .i64 40]) (by simp [results, Tryz.results13, go_sem, q0, q1, q2]) rfl ⟨by rw [HD.out] <;> rfl, hP⟩
          · skip
            have R_0 := hRz.cell 0 rfl
            have R_z0 := hRz.frozen 0
            have R_1 := hRz.cell 1 rfl
            have R_z1 := hRz.frozen 1
            have R_2 := hRz.cell 2 rfl
            have R_z2 := hRz.frozen 2
            go_wp2
            have hQ := ((hRz.set 0 (.bool false)).set 1 (.string ⟨#[]⟩)).set 2 (.int .i64 0)
            have hP := (((hWz.setCell (p := ⟨w.heap.size, 0, none⟩) (Nat.le_refl _) (.bool false)).setCell (p := ⟨w.heap.size, 1, none⟩) (Nat.le_refl _) (.string ⟨#[]⟩)).setCell (p := ⟨w.heap.size, 2, none⟩) (Nat.le_refl _) (.int .i64 0))
            have q0 := hQ.cell 0 rfl
            have q1 := hQ.cell 1 rfl
            have q2 := hQ.cell 2 rfl
            exact bodyPost_ret (v := .tuple #[.agg #[.bool false, .string ⟨#[]⟩, .int .i64 0], .int .i64 40]) (by simp [results, Tryz.results13, go_sem, q0, q1, q2]) rfl ⟨by rw [HD.out] <;> rfl, hP⟩
          · skip
            go_wp2_with fail
            refine (hmk0 _).mono ?_
            rintro e wm ⟨rfl, hbm⟩
            have hWm := hWz.trans (hbm.mono hWz.size)
            have hRm := hRz.below hbm
            have R_0 := hRm.cell 0 rfl
            have R_z0 := hRm.frozen 0
            have R_1 := hRm.cell 1 rfl
            have R_z1 := hRm.frozen 1
            have R_2 := hRm.cell 2 rfl
            have R_z2 := hRm.frozen 2
            go_wp2
            have hQ := ((hRm.set 0 (.bool r1)).set 1 (.string r2)).set 2 (.int .i64 r3)
            have hP := (((hWm.setCell (p := ⟨w.heap.size, 0, none⟩) (Nat.le_refl _) (.bool r1)).setCell (p := ⟨w.heap.size, 1, none⟩) (Nat.le_refl _) (.string r2)).setCell (p := ⟨w.heap.size, 2, none⟩) (Nat.le_refl _) (.int .i64 r3))
            have q0 := hQ.cell 0 rfl
            have q1 := hQ.cell 1 rfl
            have q2 := hQ.cell 2 rfl
            exact bodyPost_ret (v := .tuple #[.agg #[.bool r1, .string r2, .int .i64 r3], .int .i64 r4]) (by simp [results, Tryz.results13, go_sem, q0, q1, q2]) rfl ⟨by rw [HD.out.1, HD.out.2], hP⟩
        · subst hX0
          go_wp2_with fail
          refine (hof _).mono ?_
          rintro e wy ⟨rfl, hby⟩
          have hWy := hB.trans (hby.mono hB.size)
          have hRy := hR.below hby
          have hWz := hWy
          have hRz := hRy
          subst hT0
          subst hOs
          clear hof
          rcases hend with ⟨g1, HD⟩ | ⟨g1, g2, HD⟩ | ⟨g1, g2, HD⟩
          · skip
            have R_0 := hRz.cell 0 rfl
            have R_z0 := hRz.frozen 0
            have R_1 := hRz.cell 1 rfl
            have R_z1 := hRz.frozen 1
            have R_2 := hRz.cell 2 rfl
            have R_z2 := hRz.frozen 2
            go_wp2
            have hQ := ((hRz.set 0 (.bool false)).set 1 (.string ⟨#[]⟩)).set 2 (.int .i64 0)
            have hP := (((hWz.setCell (p := ⟨w.heap.size, 0, none⟩) (Nat.le_refl _) (.bool false)).setCell (p := ⟨w.heap.size, 1, none⟩) (Nat.le_refl _) (.string ⟨#[]⟩)).setCell (p := ⟨w.heap.size, 2, none⟩) (Nat.le_refl _) (.int .i64 0))
            have q0 := hQ.cell 0 rfl
            have q1 := hQ.cell 1 rfl
            have q2 := hQ.cell 2 rfl
            exact bodyPost_ret (v := .tuple #[.agg #[.bool false, .string ⟨#[]⟩, .int .i64 0], .int .i64 40]) (by simp [results, Tryz.results13, go_sem, q0, q1, q2]) rfl ⟨by rw [HD.out] <;> rfl, hP⟩
          · exact absurd g2 (by decide)
          · skip
            go_wp2_with fail
            refine (hmk0 _).mono ?_
            rintro e wm ⟨rfl, hbm⟩
            have hWm := hWz.trans (hbm.mono hWz.size)
            have hRm := hRz.below hbm
            have R_0 := hRm.cell 0 rfl
            have R_z0 := hRm.frozen 0
            have R_1 := hRm.cell 1 rfl
            have R_z1 := hRm.frozen 1
            have R_2 := hRm.cell 2 rfl
            have R_z2 := hRm.frozen 2
            go_wp2
            have hQ := ((hRm.set 0 (.bool r1)).set 1 (.string r2)).set 2 (.int .i64 r3)
            have hP := (((hWm.setCell (p := ⟨w.heap.size, 0, none⟩) (Nat.le_refl _) (.bool r1)).setCell (p := ⟨w.heap.size, 1, none⟩) (Nat.le_refl _) (.string r2)).setCell (p := ⟨w.heap.size, 2, none⟩) (Nat.le_refl _) (.int .i64 r3))
            have q0 := hQ.cell 0 rfl
            have q1 := hQ.cell 1 rfl
            have q2 := hQ.cell 2 rfl
            exact bodyPost_ret (v := .tuple #[.agg #[.bool r1, .string r2, .int .i64 r3], .int .i64 r4]) (by simp [results, Tryz.results13, go_sem, q0, q1, q2]) rfl ⟨by rw [HD.out.1, HD.out.2], hP⟩

theorem rToDec_calls (x : Nat) (hx : x < 18446744073709551616) (w : World) :
    Calls Tryz.prog 13 #[.int .u64 x] w fun e w' => e = .returned (.tuple #[(toDecS x).1.val, .int .i64 (toDecS x).2]) ∧ Below w.heap.size w w' := by
  by_cases h1 : x / 4503599627370496 % 2048 = 2047
  · exact rtoDec_inf x hx h1 w
  · by_cases h2 : tdV x = 0
    · have h3 : x / 4503599627370496 % 2048 = 0 ∧ x % 4503599627370496 = 0 := by
        have h4 : tdV x = if x / 4503599627370496 % 2048 = 0 then x % 4503599627370496 else x % 4503599627370496 + 4503599627370496 := rfl
        rw [h4] at h2
        split at h2
        · rename_i h5; exact ⟨h5, h2⟩
        · omega
      exact rtoDec_zero x hx h3.1 h3.2 w
    · exact rtoDec_num x hx h1 h2 w
end Go.Proofs.YtfobaeoccpebeaaGreatDoor

/- The reference's OfDec (targumref05): walked. -/
namespace Go.Proofs.YtfobaeoccpebeaaGreatDoor
open Go.RowKit Go.Shelf
attribute [local go_sem] Oper.semAt_some

theorem rdgDiv_calls (n b : Nat) (hb0 : b ≠ 0) (hb32 : b < 4294967296) (hr : isRt (tx (Dg n)) = true) (w : World) :
    Calls Tryz.prog 45 #[.string (Dg n), .int .u32 b] w fun e w' => e = .returned (.tuple #[.string (Dg (n / b)), .int .u32 (n % b : Nat), .int .i64 0]) ∧ Below w.heap.size w w' := by
  have h := rDiv_calls (Dg n) b hb32 (by have := rt_size hr; omega) w
  have h1 : rdivQ (Dg n) b = Lib.decDigits (n / b) := by unfold rdivQ; rw [hr, decide_eq_true hb0, if_pos (by rfl), tx_Dg, nv_dec]
  have h2 : rdivR (Dg n) b = n % b := by unfold rdivR; rw [hr, decide_eq_true hb0, if_pos (by rfl), tx_Dg, nv_dec]
  have h3 : rdivE (Dg n) b = 0 := by unfold rdivE; rw [hr, decide_eq_true hb0, if_pos (by rfl)]
  rw [h1, h2, h3] at h
  exact h
theorem or_63 {y : Nat} (h : y < 9223372036854775808) : bits .or .u64 (y : Int) 9223372036854775808 = ((y + 9223372036854775808 : Nat) : Int) := by
  have e1 := u64_or_nat y 9223372036854775808 (by omega) (by omega)
  have e2 : y ||| 9223372036854775808 = y + 9223372036854775808 := by
    have e3 := Nat.shiftLeft_add_eq_or_of_lt (i := 63) (b := y) (by omega) 1
    rw [Nat.shiftLeft_eq] at e3
    rw [Nat.or_comm, Nat.add_comm]
    exact e3.symm
  rw [e2] at e1
  exact e1

set_option maxRecDepth 100000 in
set_option maxHeartbeats 4000000 in
theorem rofDec_not (n : Bool) (s : ByteArray) (x : Int) (hs : s.size ≤ 140737488355328) (hd : decR ⟨n, tx s, x⟩ = false) (w : World) :
    Calls Tryz.prog 15 #[.agg #[.bool n, .string s, .int .i64 x]] w fun e w' => e = .returned (.tuple #[.int .u64 (ofV ⟨n, tx s, x⟩ : Nat), .bool (ofOk ⟨n, tx s, x⟩)]) ∧ Below w.heap.size w w' := by
  have hright := fun W => rdecRight_calls n s x hs W
  rw [hd] at hright
  have HR := hid (show ofV ⟨n, tx s, x⟩ = 0 ∧ ofOk ⟨n, tx s, x⟩ = false by
    unfold ofV ofOk; rw [hd]; exact ⟨rfl, rfl⟩)
  clear hd hs
  have hD1 := Cls.new w 25 [.bool n, .string s, .int .i64 x]
  have hW1 := below_alloc w (.cells #[.bool n, .string s, .int .i64 x] 25)
  have D_0 := hD1.cell 0 rfl
  have D_1 := hD1.cell 1 rfl
  have D_2 := hD1.cell 2 rfl
  go_enter Tryz.func15, Tryz.ntmps15
  go_wp2_with fail
  clear D_0 D_1 D_2
  refine (hright _).mono ?_
  rintro e w2 ⟨rfl, hb2⟩
  have hW2 := hW1.trans (hb2.mono hW1.size)
  have hD2 := hD1.below hb2
  have D_0 := hD2.cell 0 rfl
  have D_1 := hD2.cell 1 rfl
  have D_2 := hD2.cell 2 rfl
  go_wp2
  go_ret2
  exact ⟨by rw [HR.out.1, HR.out.2] <;> rfl, hW2⟩

set_option maxRecDepth 100000 in
set_option maxHeartbeats 4000000 in
theorem rofDec_zero (n : Bool) (s : ByteArray) (x : Int) (hs : s.size ≤ 140737488355328) (hd : decR ⟨n, tx s, x⟩ = true) (h0 : tx s = [48]) (w : World) :
    Calls Tryz.prog 15 #[.agg #[.bool n, .string s, .int .i64 x]] w fun e w' => e = .returned (.tuple #[.int .u64 (ofV ⟨n, tx s, x⟩ : Nat), .bool (ofOk ⟨n, tx s, x⟩)]) ∧ Below w.heap.size w w' := by
  have hright := fun W => rdecRight_calls n s x hs W
  rw [hd] at hright
  have hb : (s.toList == [48]) = true := by rw [beq_iff_eq, Lib.toList_data]; exact h0
  have HR := hid (show ofV ⟨n, tx s, x⟩ = 0 ∧ ofOk ⟨n, tx s, x⟩ = true by
    unfold ofV ofOk; rw [hd, decide_eq_true (show D.dg ⟨n, tx s, x⟩ = [48] from h0)]; exact ⟨rfl, rfl⟩)
  clear hd hs h0
  have hD1 := Cls.new w 25 [.bool n, .string s, .int .i64 x]
  have hW1 := below_alloc w (.cells #[.bool n, .string s, .int .i64 x] 25)
  have D_0 := hD1.cell 0 rfl
  have D_1 := hD1.cell 1 rfl
  have D_2 := hD1.cell 2 rfl
  go_enter Tryz.func15, Tryz.ntmps15
  go_wp2_with fail
  clear D_0 D_1 D_2
  refine (hright _).mono ?_
  rintro e w2 ⟨rfl, hb2⟩
  have hW2 := hW1.trans (hb2.mono hW1.size)
  have hD2 := hD1.below hb2
  have D_0 := hD2.cell 0 rfl
  have D_1 := hD2.cell 1 rfl
  have D_2 := hD2.cell 2 rfl
  go_wp2
  go_ret2
  exact ⟨by rw [HR.out.1, HR.out.2] <;> rfl, hW2⟩

set_option maxRecDepth 100000 in
set_option maxHeartbeats 4000000 in
theorem rofDec_num (n : Bool) (s : ByteArray) (x : Int) (hs : s.size ≤ 140737488355328) (hd : decR ⟨n, tx s, x⟩ = true) (h0 : tx s ≠ [48]) (w : World) :
    Calls Tryz.prog 15 #[.agg #[.bool n, .string s, .int .i64 x]] w fun e w' => e = .returned (.tuple #[.int .u64 (ofV ⟨n, tx s, x⟩ : Nat), .bool (ofOk ⟨n, tx s, x⟩)]) ∧ Below w.heap.size w w' := by
  have hright := fun W => rdecRight_calls n s x hs W
  rw [hd] at hright
  have hb : (s.toList == [48]) = false := by rw [beq_eq_false_iff_ne, Lib.toList_data]; exact h0
  obtain ⟨d, hdd⟩ : ∃ d : D, D.mk n (tx s) x = d := ⟨_, rfl⟩
  have hdx : d.ex = x := by rw [← hdd]
  have hdn : d.neg = n := by rw [← hdd]
  have hdg : d.dg = tx s := by rw [← hdd]
  rw [hdd] at hd ⊢
  have h0' : d.dg ≠ [48] := by rw [hdg]; exact h0
  obtain ⟨f1, f2, f3, f4, f5⟩ := od_fit hd h0'
  have hpar : odN d % 5 ^ odK d = 0 → odM d = 2 ^ odZ d * odO d ∧ odO d % 2 = 1 ∧ odZ d ≤ 640 := fun h => by
    obtain ⟨_, p2, p3, p4, _⟩ := od_parts hd h0' h
    exact ⟨p2, p3, p4⟩
  have hdec := (dec_num hd h0').2.2
  have hsV : s = Dg (nv d.dg) := by unfold Dg; rw [hdec, hdg, B_tx]
  have hMdef : odM d = odN d / 5 ^ odK d := rfl
  have hXdef : odX d = d.ex + odZ d := rfl
  have hKdef : odK d = (-d.ex).toNat := rfl
  have hNdef : odN d = nv d.dg * 5 ^ d.ex.toNat := rfl
  have hVle : nv d.dg ≤ odN d := by rw [hNdef]; exact Nat.le_mul_of_pos_right _ (Nat.pow_pos (by omega))
  have hVfit : fitE (nv d.dg) = 0 := fit_yes hVle f1
  have hrt5 : ∀ k, isRt (tx (Dg (nv d.dg / 5 ^ k))) = true := fun k => rt_Dg (Nat.div_le_self _ _) hVfit
  have hrt2 : ∀ j, isRt (tx (Dg (odM d / 2 ^ j))) = true := fun j => rt_Dg (Nat.le_trans (Nat.div_le_self _ _) (Nat.div_le_self _ _)) f1
  have hdiv5 := fun k W => rdgDiv_calls (nv d.dg / 5 ^ k) 5 (by decide) (by decide) (hrt5 k) W
  have hdiv2 := fun j W => rdgDiv_calls (odM d / 2 ^ j) 2 (by decide) (by decide) (hrt2 j) W
  simp only [dv_step] at hdiv5 hdiv2
  change ∀ k W, Calls _ _ #[_, .int .u32 5] _ _ at hdiv5
  change ∀ k W, Calls _ _ #[_, .int .u32 2] _ _ at hdiv2
  have htm := fun (p : Nat) (h : p ≤ 1000) W => rtimes_calls (nv d.dg) 5 p (by decide) hVfit (dig_le (k := 0) (by decide) (by decide)) h W
  rw [show Dg 5 = ⟨#[53]⟩ by unfold Dg; rw [dec_small (by decide)]; rfl] at htm
  have hfs : B (fitS (odN d)) = Dg (odN d) := by rw [fitS_dg f1]; rfl
  have hOle : odO d ≤ odN d := Nat.le_trans (Nat.div_le_self _ _) (Nat.div_le_self _ _)
  have hOrt := rt_Dg hOle f1
  have hto := fun W => rTo_calls (Dg (odO d)) (by have := rt_size hOrt; omega) W
  have ht1 : toN (Dg (odO d)) = if odO d < 18446744073709551616 then odO d else 0 := by
    unfold toN
    rw [hOrt, tx_Dg, nv_dec, Bool.true_and]
    by_cases h : odO d < 18446744073709551616
    · rw [decide_eq_true h, if_pos rfl, if_pos h]
    · rw [decide_eq_false h, if_neg h]; rfl
  have ht2 : toB (Dg (odO d)) = decide (odO d < 18446744073709551616) := by
    unfold toB
    rw [hOrt, tx_Dg, nv_dec, Bool.true_and]
  rw [ht1, ht2] at hto
  have hno : odN d % 5 ^ odK d ≠ 0 → ofV d = 0 ∧ ofOk d = false := fun h => by
    unfold ofV ofOk ofB
    rw [hd, decide_eq_false h0', decide_eq_false h]; exact ⟨rfl, rfl⟩
  have hV1 : odN d % 5 ^ odK d = 0 → ofOk d = decide (odO d < 2 * A64) := fun h => by
    unfold ofOk ofB
    rw [hd, decide_eq_false h0', decide_eq_true h]; rfl
  have hV2 : odN d % 5 ^ odK d = 0 → ofV d = if odO d < 2 * A64 then (if n then C64 else 0) + (odX d + Lib.bitLen (odO d) + 1022).toNat * A64 + (odO d * 2 ^ (53 - Lib.bitLen (odO d)) - A64) else 0 := fun hB => by
    unfold ofV ofB
    rw [hd, decide_eq_false h0', decide_eq_true hB, hdn]
    by_cases h : odO d < 2 * A64
    · rw [decide_eq_true h, if_pos (by rfl), if_pos h]
    · rw [decide_eq_false h, if_neg (by decide), if_neg h]
  obtain ⟨V, hV⟩ : ∃ v, nv d.dg = v := ⟨_, rfl⟩
  obtain ⟨N, hN⟩ : ∃ v, odN d = v := ⟨_, rfl⟩
  obtain ⟨K, hK⟩ : ∃ v, odK d = v := ⟨_, rfl⟩
  obtain ⟨M, hM⟩ : ∃ v, odM d = v := ⟨_, rfl⟩
  obtain ⟨Z, hZ⟩ : ∃ v, odZ d = v := ⟨_, rfl⟩
  obtain ⟨O, hO⟩ : ∃ v, odO d = v := ⟨_, rfl⟩
  obtain ⟨X, hX⟩ : ∃ v, odX d = v := ⟨_, rfl⟩
  obtain ⟨rv, hrv⟩ : ∃ v, ofV d = v := ⟨_, rfl⟩
  obtain ⟨rb, hrb⟩ : ∃ v, ofOk d = v := ⟨_, rfl⟩
  rw [hdx] at hXdef hKdef hNdef f4 f5
  rw [hV] at hsV hdiv5 htm hNdef hVle
  rw [hN] at hpar hMdef hNdef hno hV1 hV2 hfs
  rw [hK] at hpar hMdef hKdef hno hV1 hV2
  rw [hM] at hpar hMdef hdiv2
  rw [hZ] at hpar hXdef
  rw [hO] at hpar hto hV1 hV2
  rw [hX] at hXdef hV2
  rw [hrv] at hno hV2
  rw [hrb] at hno hV1
  rw [hrv, hrb]
  clear f1 f2 f3 hrt5 hrt2 hdec hVfit hOle hOrt ht1 ht2 hV hN hK hM hZ hO hX hrv hrb hd h0 h0' hdd hdx hdn hdg hVle
  -- the digits, multiplied by fives
  have hgo : (0 < x ∧ K = 0 ∧ M = N ∧ ∃ p : Nat, x = (p : Int) ∧ ∀ W, Calls Tryz.prog 37 #[.string (Dg V), .string ⟨#[53]⟩, .int .i64 p] W fun e w' => e = .returned (.string (Dg M)) ∧ Below W.heap.size W w') ∨ (¬ 0 < x ∧ V = N) := by
    by_cases h : 0 < x
    · have hK0 : K = 0 := by omega
      subst hK0
      rw [Nat.pow_zero, Nat.div_one] at hMdef
      refine .inl ⟨h, rfl, hMdef, x.toNat, by omega, fun W => ?_⟩
      have h2 := htm x.toNat (by omega) W
      rw [← hNdef, hfs, ← hMdef] at h2
      exact h2
    · refine .inr ⟨h, ?_⟩
      rw [show x.toNat = 0 by omega, Nat.pow_zero, Nat.mul_one] at hNdef
      exact hNdef.symm
  have hmd : ∀ k, k ≤ K → V % 5 ^ k ≠ 0 → N % 5 ^ K ≠ 0 := fun k hk h => by
    rcases hgo with ⟨-, h2, -⟩ | ⟨-, h2⟩
    · exfalso
      rw [show k = 0 by omega, Nat.pow_zero] at h
      exact h (Nat.mod_one _)
    · rw [← h2]; exact fun h3 => h (mod_less hk h3)
  clear htm hfs hNdef
  have hnx : -x = (K : Int) ∨ (0 < x ∧ K = 0) := by omega
  have hxw : IntKind.i64.wrap (-x) = -x := IntWalk.i64_in _ (by omega)
  obtain ⟨nx, hnx1⟩ : ∃ v : Int, -x = v := ⟨_, rfl⟩
  rw [hnx1] at hxw hnx
  have HP := hid (And.intro hpar (And.intro hno (And.intro hV1 (And.intro hV2 (And.intro hMdef (And.intro hXdef (And.intro hKdef (And.intro f4 f5))))))))
  have HG := hid (And.intro hgo (And.intro hmd (And.intro hnx hnx1)))
  have HD5 := hid hdiv5
  have HD2 := hid hdiv2
  have HTO := hid hto
  have HS := hid hsV
  have HK := hid (show K ≤ 100 by omega)
  clear hpar hno hV1 hV2 hMdef hXdef hKdef f4 f5 hdiv5 hdiv2 hto hsV hgo hmd hnx hs
  have hD1 := Cls.new w 25 [.bool n, .string s, .int .i64 x]
  have hW1 := below_alloc w (.cells #[.bool n, .string s, .int .i64 x] 25)
  have D_0 := hD1.cell 0 rfl
  have D_1 := hD1.cell 1 rfl
  have D_2 := hD1.cell 2 rfl
  go_enter Tryz.func15, Tryz.ntmps15
  go_wp2_with fail
  clear D_0 D_1 D_2
  refine (hright _).mono ?_
  rintro e w2 ⟨rfl, hb2⟩
  have hW2 := hW1.trans (hb2.mono hW1.size)
  have hD2 := hD1.below hb2
  have D_0 := hD2.cell 0 rfl
  have D_1 := hD2.cell 1 rfl
  have D_2 := hD2.cell 2 rfl
  go_wp2
  clear D_0 D_1 D_2
  go_loopw [4, 6] (fun v i wq => ∃ (k : Nat), i = .int .i64 k ∧ k ≤ K ∧ v = .string (Dg (V / 5 ^ k)) ∧ V % 5 ^ k = 0 ∧ Cls wq w.heap.size 25 [.bool n, .string s, .int .i64 x] ∧ Below w.heap.size w wq) (fun _ i _ => K - (intOf i).toNat)
  case atStart => exact ⟨0, rfl, Nat.zero_le _, by rw [Nat.pow_zero, Nat.div_one, ← HS.out], Nat.mod_one _, hD2, hW2⟩
  case round =>
    obtain ⟨k, rfl, hk, rfl, hz, hC, hB⟩ := hrel
    have D_2 := hC.cell 2 rfl
    by_cases hlt : k < K
    · have hlt' : (k : Int) < nx := by have := HG.out.2.2.1; omega
      have hk100 : (k : Int) < 100 := by have := HK.out; omega
      have hd := HD5.out k wr
      obtain ⟨ta, hta⟩ : ∃ t, Dg (V / 5 ^ k) = t := ⟨_, rfl⟩
      obtain ⟨tb, htb⟩ : ∃ t, Dg (V / 5 ^ (k + 1)) = t := ⟨_, rfl⟩
      obtain ⟨r, hr⟩ : ∃ t, V / 5 ^ k % 5 = t := ⟨_, rfl⟩
      rw [hta, htb, hr] at hd
      rw [hta]
      have hst := mod_step hz
      rw [hr] at hst
      have HX := hid (And.intro htb (And.intro hst (And.intro hC (And.intro hB hlt))))
      clear hta htb hst hC hz hr hk hlt
      by_cases hr0 : r = 0
      · subst hr0
        change Calls _ _ _ _ fun e w' => e = .returned (.tuple #[_, .int .u32 0, _]) ∧ _ at hd
        go_wp2_with fail
        refine hd.mono ?_
        rintro e w21 ⟨rfl, hb21⟩
        clear hd D_2
        go_wp2
        go_roundw
        case rel => exact ⟨k + 1, by go_num, HX.out.2.2.2.2, by rw [HX.out.1], HX.out.2.1.1 (by first | rfl | trivial), HX.out.2.2.1.below hb21, HX.out.2.2.2.1.trans (hb21.mono HX.out.2.2.2.1.size)⟩
        case measure =>
          have := HX.out.2.2.2.2
          simp [intOf]; omega
      · have hrne : ((r : Int) != 0) = true := by rw [bne_iff_ne]; omega
        have HR := hid hr0
        clear hr0
        go_wp2_with fail
        refine hd.mono ?_
        rintro e w21 ⟨rfl, hb21⟩
        clear hd D_2
        go_wp2
        go_ret2
        refine ⟨?_, HX.out.2.2.2.1.trans (hb21.mono HX.out.2.2.2.1.size)⟩
        obtain ⟨g1, g2⟩ := HP.out.2.1 (HG.out.2.1 (k + 1) HX.out.2.2.2.2 (HX.out.2.1.2 HR.out))
        rw [g1, g2]
        rfl
    · have hlt' : ¬ (k : Int) < nx := by have := HG.out.2.2.1; omega
      obtain rfl : k = K := by omega
      obtain ⟨hgo, hmd, hnx, hnx1⟩ := HG.out
      obtain ⟨hpar, hno, hV1, hV2, hMdef, hXdef, hKdef, f4, f5⟩ := HP.out
      have hz2 : N % 5 ^ k = 0 := by
        rcases hgo with ⟨-, h2, -⟩ | ⟨-, h2⟩
        · rw [h2, Nat.pow_zero]; exact Nat.mod_one _
        · rw [← h2]; exact hz
      have HW := hid (And.intro (hV1 hz2) (hV2 hz2))
      obtain ⟨p1, p2, p3⟩ := hpar hz2
      have HS2 := hid (And.intro p1 (And.intro p2 (And.intro p3 (And.intro hXdef (And.intro f4 f5)))))
      have hgo2 : (0 < x ∧ ∃ p : Nat, x = (p : Int) ∧ ∀ W, Calls Tryz.prog 37 #[.string (Dg (V / 5 ^ k)), .string ⟨#[53]⟩, .int .i64 p] W fun e w' => e = .returned (.string (Dg M)) ∧ Below W.heap.size W w') ∨ (¬ 0 < x ∧ Dg (V / 5 ^ k) = Dg M) := by
        rcases hgo with ⟨h1, h2, h3, p, h4, h5⟩ | ⟨h1, h2⟩
        · refine .inl ⟨h1, p, h4, ?_⟩
          rw [h2, Nat.pow_zero, Nat.div_one]; exact h5
        · exact .inr ⟨by omega, by rw [hMdef, h2]⟩
      obtain ⟨ta, hta⟩ : ∃ t, Dg (V / 5 ^ k) = t := ⟨_, rfl⟩
      obtain ⟨tm, htm⟩ : ∃ t, Dg M = t := ⟨_, rfl⟩
      rw [hta, htm] at hgo2
      rw [hta]
      clear hpar hno hV1 hV2 hMdef hXdef hKdef f4 f5 p1 p2 p3 hz hz2 hk hlt HP HG hgo hmd hnx hnx1 hta HD5 HK
      go_upto_if 44 with (fail)
      go_cut [4] (fun v wx => v = .string tm ∧ Cls wx w.heap.size 25 [.bool n, .string s, .int .i64 x] ∧ Below w.heap.size w wx)
      case first =>
        rcases hgo2 with ⟨hx0, p, hp, hc⟩ | ⟨hx0, rfl⟩
        · subst hp
          go_wp2_with fail
          refine (hc _).mono ?_
          rintro e w30 ⟨rfl, hb30⟩
          clear hc D_2
          go_wp2
          go_meet
          exact ⟨rfl, hC.below hb30, hB.trans (hb30.mono hB.size)⟩
        · go_wp2
          go_meet
          exact ⟨rfl, hC, hB⟩
      case rest =>
        obtain ⟨rfl, hC5, hB5⟩ := hcut
        clear hgo2 hC hB D_2
        go_wp2
        go_loopw [4, 5] (fun v i wq => ∃ (j : Nat), i = .int .i64 (x + j) ∧ j ≤ Z ∧ v = .string (Dg (M / 2 ^ j)) ∧ Cls wq w.heap.size 25 [.bool n, .string s, .int .i64 x] ∧ Below w.heap.size w wq) (fun _ i _ => (x + Z - intOf i).toNat)
        case atStart => exact ⟨0, by simp, Nat.zero_le _, by rw [Nat.pow_zero, Nat.div_one, htm], hC5, hB5⟩
        case round =>
          obtain ⟨j, rfl, hj, rfl, hC6, hB6⟩ := hrel
          obtain ⟨p1, p2, p3, hXd, f4, f5⟩ := HS2.out
          have hd := HD2.out j wr
          have hst := half_step p1 p2 hj
          obtain ⟨ta, hta⟩ : ∃ t, Dg (M / 2 ^ j) = t := ⟨_, rfl⟩
          obtain ⟨tb, htb⟩ : ∃ t, Dg (M / 2 ^ (j + 1)) = t := ⟨_, rfl⟩
          obtain ⟨r, hr⟩ : ∃ t, M / 2 ^ j % 2 = t := ⟨_, rfl⟩
          rw [hta, htb, hr] at hd
          rw [hta]
          rw [hr] at hst
          obtain ⟨z, hz⟩ : ∃ z : Int, x + (j : Int) = z := ⟨_, rfl⟩
          rw [hz]
          have hwz : IntKind.i64.wrap (z + 1) = z + 1 := IntWalk.i64_in _ (by omega)
          have hz1 : -200 < z := by omega
          have hz2 : z < 2000 := by omega
          have HX := hid (And.intro hta (And.intro htb (And.intro hst (And.intro hB6 (And.intro hz (And.intro hXd hC6))))))
          clear hta htb hst hr hj p1 p2 p3 hXd f4 f5 hz hB5 hC5 htm
          by_cases hr0 : r = 0
          · subst hr0
            change Calls _ _ _ _ fun e w' => e = .returned (.tuple #[_, .int .u32 0, _]) ∧ _ at hd
            clear hC6 hB6
            go_wp2_with fail
            refine hd.mono ?_
            rintro e w31 ⟨rfl, hb31⟩
            clear hd
            go_wp2
            go_roundw
            case rel =>
              obtain ⟨k1, k2, k3, k4, k5, k6, k7⟩ := HX.out
              exact ⟨j + 1, by rw [← k5]; go_num, k3.1 (by first | rfl | trivial), by rw [k2], k7.below hb31, k4.trans (hb31.mono k4.size)⟩
            case measure =>
              have h1 := HX.out.2.2.1.1 (by first | rfl | trivial)
              have h2 := HX.out.2.2.2.2.1
              simp [intOf]; omega
          · have hrne : ((r : Int) != 0) = true := by rw [bne_iff_ne]; omega
            have hO : ta = Dg O ∧ z = X := by
              obtain ⟨k1, k2, k3, k4, k5, k6, k7⟩ := HX.out
              obtain ⟨g1, g2⟩ := k3.2 hr0
              exact ⟨by rw [← k1, g2], by rw [k6, ← k5, g1]⟩
            obtain ⟨hOt, rfl⟩ := hO
            have hto := HTO.out
            rw [← hOt] at hto
            have hX740 : -100 ≤ z ∧ z ≤ 740 := by
              obtain ⟨p1, p2, p3, hXd, f4, f5⟩ := HS2.out
              omega
            have hOodd := HS2.out.2.1
            have hO0 : 0 < O := by omega
            clear hr0 hwz hOt HTO HS2 HX HD2
            go_wp2_with fail
            refine hd.mono ?_
            rintro e w31 ⟨rfl, hb31⟩
            have hC7 := hC6.below hb31
            have hB7 := hB6.trans (hb31.mono hB6.size)
            clear hd hC6 hB6 hb31
            by_cases h53 : O < 2 * A64
            · have hA53 : 2 * A64 = 9007199254740992 := rfl
              have hO53 : ¬ (9007199254740992 : Int) ≤ (O : Int) := by omega
              rw [if_pos (show O < 18446744073709551616 by omega), decide_eq_true (show O < 18446744073709551616 by omega)] at hto
              obtain ⟨l1, l2, l3, l4⟩ := len53 hO0 h53
              obtain ⟨hW1', hW2'⟩ := HW.out
              rw [if_pos h53] at hW2'
              rw [decide_eq_true h53] at hW1'
              subst hW1'
              obtain ⟨L, hL⟩ : ∃ v, Lib.bitLen O = v := ⟨_, rfl⟩
              rw [hL] at l1 l2 l3 l4 hW2'
              obtain ⟨U, hU⟩ : ∃ v, 53 - L = v := ⟨_, rfl⟩
              rw [hU] at l3 l4 hW2'
              have hstep : ∀ j, j < U → O * 2 ^ j < A64 := by
                intro j hj
                have h1 : O * 2 ^ (j + 1) ≤ O * 2 ^ U := Nat.mul_le_mul_left _ (pow_le hj)
                rw [Nat.pow_succ, ← Nat.mul_assoc] at h1
                omega
              obtain ⟨E, hE⟩ : ∃ v : Nat, (z + L + 1022).toNat = v := ⟨_, rfl⟩
              rw [hE] at hW2'
              obtain ⟨Y, hY⟩ : ∃ v, O * 2 ^ U = v := ⟨_, rfl⟩
              rw [hY] at l3 l4 hW2'
              have hA : A64 = 4503599627370496 := rfl
              obtain ⟨f, hf⟩ : ∃ v, Y - A64 = v := ⟨_, rfl⟩
              have hfl : f < 4503599627370496 := by omega
              rw [hf] at hW2'
              have hYf : Y % 4503599627370496 = f := by omega
              obtain ⟨y1, hy1⟩ : ∃ v : Int, z - (U : Int) = v := ⟨_, rfl⟩
              obtain ⟨y2, hy2⟩ : ∃ v : Int, y1 + 52 = v := ⟨_, rfl⟩
              have hy3 : y2 + 1023 = (E : Int) := by omega
              have hE2 : E < 2047 := by omega
              obtain ⟨ev, hev⟩ : ∃ v : Nat, E * 4503599627370496 = v := ⟨_, rfl⟩
              have hem : (E : Int) * 4503599627370496 = (ev : Int) := by omega
              obtain ⟨o1, ho1⟩ : ∃ v : Nat, ev + f = v := ⟨_, rfl⟩
              have ho1l : o1 < 9223372036854775808 := by omega
              have hyw1 : IntKind.i64.wrap y1 = y1 := IntWalk.i64_in _ (by omega)
              have hyw2 : IntKind.i64.wrap y2 = y2 := IntWalk.i64_in _ (by omega)
              have hyw3 : IntKind.i64.wrap (E : Int) = (E : Int) := IntWalk.i64_in _ (by omega)
              have hyw4 : IntKind.u64.wrap (E : Int) = (E : Int) := IntWalk.u64_in _ (by omega)
              have hew : IntKind.u64.wrap (ev : Int) = (ev : Int) := IntWalk.u64_in _ (by omega)
              have hend : (n = true ∧ rv = o1 + 9223372036854775808) ∨ (n = false ∧ rv = o1) := by
                rw [hW2', ← ho1, ← hev]
                cases n
                · refine .inr ⟨rfl, ?_⟩
                  show (0 : Nat) + E * A64 + f = _
                  rw [Nat.zero_add]; rfl
                · refine .inl ⟨rfl, ?_⟩
                  show C64 + E * A64 + f = _
                  rw [Nat.add_assoc, Nat.add_comm C64]; rfl
              have hand := and_mask (x := Y) (n := 52) (by omega) 4503599627370495 (by decide) (by decide)
              change _ = ((Y % 4503599627370496 : Nat) : Int) at hand
              rw [hYf] at hand
              have g1 := or_add (a := E) (b := f) (n := 52) hfl (by omega)
              change bits .or .u64 ((E * 4503599627370496 : Nat) : Int) (f : Int) = ((E * 4503599627370496 + f : Nat) : Int) at g1
              rw [hev, ho1] at g1
              have g2 := or_63 ho1l
              obtain ⟨o2, ho2⟩ : ∃ v : Nat, o1 + 9223372036854775808 = v := ⟨_, rfl⟩
              rw [ho2] at g2 hend
              have HQ := hid (And.intro hstep (And.intro l3 (And.intro l4 (And.intro hY (And.intro hX740 (show U ≤ 53 by omega))))))
              have HE := hid hend
              clear hW2' hL hU hE hY l1 l2 l3 l4 hf hfl hYf hE2 hev ho1 ho1l hstep h53 hA53 hX740 hOodd hO0 hend HW ho2 hA
              have HY := hid hy1
              go_wp2_with fail
              refine (hto _).mono ?_
              rintro e w32 ⟨rfl, hb32⟩
              have hC8 := hC7.below hb32
              have hB8 := hB7.trans (hb32.mono hB7.size)
              clear hto hC7 hB7 hb32 hrne
              go_upto_if 70 with (fail)
              rw [decide_eq_false (show ¬ (9007199254740992 : Int) ≤ (O : Int) by omega)]
              clear hO53
              go_wp2
              go_loopw [5, 13] (fun v1 v2 wq => ∃ (j : Nat), j ≤ U ∧ v1 = .int .i64 (z - (j : Int)) ∧ v2 = .int .u64 (O * 2 ^ j : Nat) ∧ Cls wq w.heap.size 25 [.bool n, .string s, .int .i64 x] ∧ Below w.heap.size w wq) (fun v1 _ _ => U - (z - intOf v1).toNat)
              case atStart => exact ⟨0, Nat.zero_le _, by congr 1; omega, by rw [Nat.pow_zero, Nat.mul_one], hC8, hB8⟩
              case round =>
                obtain ⟨i, hi, rfl, rfl, hC9, hB9⟩ := hrel
                obtain ⟨hstep, l3, l4, hY, hX740, hU53⟩ := HQ.out
                obtain ⟨S, hS⟩ : ∃ v, O * 2 ^ i = v := ⟨_, rfl⟩
                have hA : A64 = 4503599627370496 := rfl
                by_cases hlt : S < A64
                · have hiU : i < U := by
                    rcases Nat.lt_or_ge i U with h | h
                    · exact h
                    · obtain rfl : i = U := by omega
                      omega
                  have hSl : (S : Int) < 4503599627370496 := by omega
                  obtain ⟨S2, hS2⟩ : ∃ v, O * 2 ^ (i + 1) = v := ⟨_, rfl⟩
                  have hSS : 2 * (S : Int) = (S2 : Int) := by rw [← hS2, Nat.pow_succ, ← Nat.mul_assoc, hS]; omega
                  have hSw : IntKind.u64.wrap (S2 : Int) = (S2 : Int) := IntWalk.u64_in _ (by omega)
                  obtain ⟨a1, ha1⟩ : ∃ y : Int, z - (i : Int) = y := ⟨_, rfl⟩
                  obtain ⟨a2, ha2⟩ : ∃ y : Int, a1 - 1 = y := ⟨_, rfl⟩
                  have haw : IntKind.i64.wrap a2 = a2 := IntWalk.i64_in _ (by omega)
                  rw [hS, ha1]
                  have HX := hid (And.intro hS2 (And.intro hiU ha1))
                  clear hS hS2 hlt hstep l3 l4 hY hX740 hU53 hi hiU ha1 hand g1 g2 hem hA
                  go_wp2
                  go_roundw
                  case rel =>
                    obtain ⟨k1, k2, k3⟩ := HX.out
                    refine ⟨i + 1, k2, ?_, by rw [k1], hC9, hB9⟩
                    congr 1
                    omega
                  case measure =>
                    obtain ⟨k1, k2, k3⟩ := HX.out
                    simp [intOf]; omega
                · have hiU : i = U := by
                    rcases Nat.lt_or_ge i U with h | h
                    · exact absurd (hS ▸ hstep i h) hlt
                    · omega
                  subst hiU
                  obtain rfl : S = Y := by rw [← hS, ← hY]
                  have hSl : ¬ (S : Int) < 4503599627370496 := by omega
                  rw [hS, HY.out]
                  have D_0 := hC9.cell 0 rfl
                  have hend := HE.out
                  clear hS hlt hstep l3 l4 hY hX740 hU53 hi HQ HY hA
                  rcases hend with ⟨rfl, hrv⟩ | ⟨rfl, hrv⟩
                  · have HR := hid hrv
                    clear hrv
                    go_wp2
                    go_ret2
                    exact ⟨by rw [HR.out] <;> rfl, hB9⟩
                  · have HR := hid hrv
                    clear hrv
                    go_wp2
                    go_ret2
                    exact ⟨by rw [HR.out] <;> rfl, hB9⟩
            · obtain ⟨hW1', hW2'⟩ := HW.out
              rw [if_neg h53] at hW2'
              rw [decide_eq_false h53] at hW1'
              subst hW1' hW2'
              have hA53 : 2 * A64 = 9007199254740992 := rfl
              by_cases h64 : O < 18446744073709551616
              · rw [if_pos h64, decide_eq_true h64] at hto
                have hO53 : (9007199254740992 : Int) ≤ (O : Int) := by omega
                clear h53 h64 HW hA53 hX740 hOodd hO0
                go_wp2_with fail
                refine (hto _).mono ?_
                rintro e w32 ⟨rfl, hb32⟩
                have hC8 := hC7.below hb32
                have hB8 := hB7.trans (hb32.mono hB7.size)
                clear hto hC7 hB7 hb32 hrne
                go_wp2
                go_ret2
                exact ⟨rfl, hB8⟩
              · rw [if_neg h64, decide_eq_false h64] at hto
                clear h53 h64 HW hA53 hX740 hOodd hO0
                go_wp2_with fail
                refine (hto _).mono ?_
                rintro e w32 ⟨rfl, hb32⟩
                have hC8 := hC7.below hb32
                have hB8 := hB7.trans (hb32.mono hB7.size)
                clear hto hC7 hB7 hb32 hrne
                go_wp2
                go_ret2
                exact ⟨rfl, hB8⟩

theorem rOfDec_calls (n : Bool) (s : ByteArray) (x : Int) (hs : s.size ≤ 140737488355328) (w : World) :
    Calls Tryz.prog 15 #[.agg #[.bool n, .string s, .int .i64 x]] w fun e w' => e = .returned (.tuple #[.int .u64 (ofV ⟨n, tx s, x⟩ : Nat), .bool (ofOk ⟨n, tx s, x⟩)]) ∧ Below w.heap.size w w' := by
  cases hd : decR ⟨n, tx s, x⟩ with
  | false => exact rofDec_not n s x hs hd w
  | true =>
    by_cases h0 : tx s = [48]
    · exact rofDec_zero n s x hs hd h0 w
    · exact rofDec_num n s x hs hd h0 w
end Go.Proofs.YtfobaeoccpebeaaGreatDoor

/- The statements FloatWidths, FloatDecimals, FloatBits (targumlaw05): walked. -/
namespace Go.Proofs.YtfobaeoccpebeaaGreatDoor
open Go.RowKit Go.Shelf
attribute [local go_sem] Oper.semAt_some

set_option maxRecDepth 100000 in
set_option maxHeartbeats 4000000 in
theorem fwidths_law (b : Nat) (hb : b < 18446744073709551616) (y : Int) (_hy : -9223372036854775808 ≤ y ∧ y ≤ 9223372036854775807) (w : World) (hT : Tab6 w) :
    Calls Tryz.prog 8 #[.int .u64 b, .int .i64 y] w fun e w' => e = .returned (.bool true) ∧ Below w.heap.size w w' := by
  have h1 := fun W => widen_calls b hb y W
  have g1 := fun W => rWiden_calls b hb y W
  have h2 := fun W => narrow_calls b hb y W
  have g2 := fun W => rNarrow_calls b hb y W
  have h3 := fun W => isWidth_calls y W
  have g3 := fun W => rIsWidth_calls y W
  have h4 := fun W => least_calls b hb W
  have g4 := fun W => rLeast_calls b hb W
  have h5 := fun W => isFinite_calls b hb W
  have g5 := fun W => rIsFinite_calls b hb W
  obtain ⟨v1, kv1⟩ : ∃ v, widS b y = v := ⟨_, rfl⟩
  rw [kv1] at h1 g1
  clear kv1
  obtain ⟨v2, kv2⟩ : ∃ v, widE b y = v := ⟨_, rfl⟩
  rw [kv2] at h1 g1
  clear kv2
  obtain ⟨v3, kv3⟩ : ∃ v, narS b y = v := ⟨_, rfl⟩
  rw [kv3] at h2 g2
  clear kv3
  obtain ⟨v4, kv4⟩ : ∃ v, narB b y = v := ⟨_, rfl⟩
  rw [kv4] at h2 g2
  clear kv4
  obtain ⟨v5, kv5⟩ : ∃ v, isW y = v := ⟨_, rfl⟩
  rw [kv5] at h3 g3
  clear kv5
  obtain ⟨v6, kv6⟩ : ∃ v, leastS b = v := ⟨_, rfl⟩
  rw [kv6] at h4 g4
  clear kv6
  obtain ⟨v7, kv7⟩ : ∃ v, finB b = v := ⟨_, rfl⟩
  rw [kv7] at h5 g5
  clear kv7
  clear hb
  go_enter Tryz.func8, Tryz.ntmps8
  go_wp2_with fail
  refine (fshown_calls _ hT).mono ?_
  rintro e w1 ⟨rfl, hb1⟩
  have hW1 := hb1
  go_wp2_with fail
  refine (h1 _).mono ?_
  rintro e w2 ⟨rfl, hb2⟩
  have hW2 := hW1.trans (hb2.mono hW1.size)
  go_wp2_with fail
  refine (g1 _).mono ?_
  rintro e w3 ⟨rfl, hb3⟩
  have hW3 := hW2.trans (hb3.mono hW2.size)
  go_wp2_with fail
  refine (h2 _).mono ?_
  rintro e w4 ⟨rfl, hb4⟩
  have hW4 := hW3.trans (hb4.mono hW3.size)
  go_wp2_with fail
  refine (g2 _).mono ?_
  rintro e w5 ⟨rfl, hb5⟩
  have hW5 := hW4.trans (hb5.mono hW4.size)
  go_wp2_with fail
  refine (h3 _).mono ?_
  rintro e w6 ⟨rfl, hb6⟩
  have hW6 := hW5.trans (hb6.mono hW5.size)
  go_wp2_with fail
  refine (g3 _).mono ?_
  rintro e v7 ⟨rfl, rfl⟩
  go_wp2_with fail
  refine (h4 _).mono ?_
  rintro e w8 ⟨rfl, hb8⟩
  have hW8 := hW6.trans (hb8.mono hW6.size)
  go_wp2_with fail
  refine (g4 _).mono ?_
  rintro e w9 ⟨rfl, hb9⟩
  have hW9 := hW8.trans (hb9.mono hW8.size)
  go_wp2_with fail
  refine (h5 _).mono ?_
  rintro e w10 ⟨rfl, hb10⟩
  have hW10 := hW9.trans (hb10.mono hW9.size)
  go_wp2_with fail
  refine (g5 _).mono ?_
  rintro e v11 ⟨rfl, rfl⟩
  go_wp2
  go_ret
  exact ⟨rfl, hW10⟩

set_option maxRecDepth 100000 in
set_option maxHeartbeats 4000000 in
theorem fdecimals_law (x : Nat) (hx : x < 18446744073709551616) (w : World) (hT : Tab6 w) :
    Calls Tryz.prog 3 #[.int .u64 x] w fun e w' => e = .returned (.bool true) ∧ Below w.heap.size w w' := by
  have h1 := fun W h => toDec_calls x hx W h
  have g1 := fun W => rToDec_calls x hx W
  obtain ⟨a1, ha1⟩ : ∃ r, ((toDecS x).1).neg = r := ⟨_, rfl⟩
  obtain ⟨a2, ha2⟩ : ∃ r, B ((toDecS x).1).dg = r := ⟨_, rfl⟩
  obtain ⟨a3, ha3⟩ : ∃ r, ((toDecS x).1).ex = r := ⟨_, rfl⟩
  have hav : ((toDecS x).1).val = .agg #[.bool a1, .string a2, .int .i64 a3] := by rw [← ha1, ← ha2, ← ha3]; rfl
  obtain ⟨e1, he1⟩ : ∃ r, (toDecS x).2 = r := ⟨_, rfl⟩
  rw [hav, he1] at h1 g1
  have heq := eqD_same5 a1 a2 a3
  have hg := guardD
  clear hav he1 ha1 ha2 ha3 hx
  go_enter Tryz.func3, Tryz.ntmps3
  go_wp2_with fail
  refine (fshown_calls _ hT).mono ?_
  rintro e w1 ⟨rfl, hb1⟩
  have hW1 := hb1
  go_wp2_with fail
  refine (h1 _ (hT.below hW1)).mono ?_
  rintro e w2 ⟨rfl, hb2⟩
  have hW2 := hW1.trans (hb2.mono hW1.size)
  have hA3 := Cls.new w2 25 [.bool a1, .string a2, .int .i64 a3]
  have hW3 := hW2.alloc hW2.size (.cells #[.bool a1, .string a2, .int .i64 a3] 25)
  go_wp2_with fail
  generalize w2.alloc (.cells #[.bool a1, .string a2, .int .i64 a3] 25) = V8 at *
  refine (g1 _).mono ?_
  rintro e w4 ⟨rfl, hb4⟩
  have hW4 := hW3.trans (hb4.mono hW3.size)
  have hA4 := hA3.below hb4
  have hA5 := hA4.alloc (.cells #[.bool a1, .string a2, .int .i64 a3] 25)
  have hB5 := Cls.new w4 25 [.bool a1, .string a2, .int .i64 a3]
  have hW5 := hW4.alloc hW4.size (.cells #[.bool a1, .string a2, .int .i64 a3] 25)
  have A_0 := hA5.cell 0 rfl
  have A_1 := hA5.cell 1 rfl
  have A_2 := hA5.cell 2 rfl
  have B_0 := hB5.cell 0 rfl
  have B_1 := hB5.cell 1 rfl
  have B_2 := hB5.cell 2 rfl
  go_wp2
  go_ret
  exact ⟨rfl, hW5⟩

set_option maxRecDepth 100000 in
set_option maxHeartbeats 4000000 in
theorem fbits_law (n : Bool) (s : ByteArray) (y : Int) (w : World) (hT : Tab6 w) :
    Calls Tryz.prog 4 #[.agg #[.bool n, .string s, .int .i64 y]] w fun e w' => e = .returned (.bool true) ∧ Below w.heap.size w w' := by
  obtain ⟨t, ht⟩ : ∃ t, fpre s = t := ⟨_, rfl⟩
  have hp : s.extract 0 (min (s.size : Int) 150).toNat = t := by rw [← ht, fpre]; congr 1; omega
  have hts : t.size ≤ 150 := by rw [← ht]; exact fpre_size _
  clear ht
  have h3 := fun W h => ofDec_calls n t y (by omega) W h
  have g3 := fun W => rOfDec_calls n t y (by omega) W
  obtain ⟨c, hc⟩ : ∃ v, ofV ⟨n, tx t, y⟩ = v := ⟨_, rfl⟩
  obtain ⟨oi, hoi⟩ : ∃ v, ofOk ⟨n, tx t, y⟩ = v := ⟨_, rfl⟩
  rw [hc, hoi] at h3 g3
  clear hc hoi hts
  have hD1 := Cls.new w 25 [.bool n, .string s, .int .i64 y]
  have hW1 := below_alloc w (.cells #[.bool n, .string s, .int .i64 y] 25)
  go_enter Tryz.func4, Tryz.ntmps4
  go_wp2_with fail
  refine (fshown_calls _ (hT.below hW1)).mono ?_
  rintro e w2 ⟨rfl, hb2⟩
  have hW2 := hW1.trans (hb2.mono hW1.size)
  have hD2 := hD1.below hb2
  have D_0 := hD2.cell 0 rfl
  have D_z0 := hD2.frozen 0
  have D_1 := hD2.cell 1 rfl
  have D_z1 := hD2.frozen 1
  have D_2 := hD2.cell 2 rfl
  have D_z2 := hD2.frozen 2
  have hD9 := hD2.set 1 (.string t)
  have hW9 := hW2.setCell (p := ⟨w.heap.size, 1, none⟩) (Nat.le_refl _) (.string t)
  go_wp2_with fail
  clear D_0 D_z0 D_1 D_z1 D_2 D_z2
  generalize w2.setCell ⟨w.heap.size, 1, none⟩ (.string t) = V9 at *
  refine (h3 _ (Tab6.tabs (hT.below hW9))).mono ?_
  rintro e w11 ⟨rfl, hb11⟩
  have hW11 := hW9.trans (hb11.mono hW9.size)
  have hD11 := hD9.below hb11
  have D_0 := hD11.cell 0 rfl
  have D_1 := hD11.cell 1 rfl
  have D_2 := hD11.cell 2 rfl
  go_wp2_with fail
  clear D_0 D_1 D_2
  refine (g3 _).mono ?_
  rintro e w12 ⟨rfl, hb12⟩
  have hW12 := hW11.trans (hb12.mono hW11.size)
  have hD12 := hD11.below hb12
  go_wp2
  go_ret
  exact ⟨rfl, hW12⟩
end Go.Proofs.YtfobaeoccpebeaaGreatDoor

