/- The statement DecSame (targumlaw04): walked. -/
import Derived.Test.YtbopikeoaokdpaaDoorDLawC
import Derived.Test.YtbopikeoaokdpaaDoorRDecA
import Derived.Test.YtbopikeoaokdpaaDoorDecB
namespace Go.Proofs.YtbopikeoaokdpaaDoor
open Go.RowKit Go.Shelf
attribute [local go_sem] Oper.semAt_some

theorem eq_of_txS {s t : ByteArray} (h : tx s = tx t) : s = t := by rw [← B_tx s, ← B_tx t, h]
/-- a point that is moved makes no difference. -/
theorem same_plain (d : D) (a : Nat) (h : decR d = true) (h1 : 1 ≤ a) (h2 : a ≤ d.dg.length) (h50 : d.dg.length ≤ 50) (q : Int) (hq : q = d.ex + (d.dg.length - a : Nat)) :
    parseD (wr d.neg (d.dg.take a) (d.dg.drop a) (69 :: Lib.itoa q) []) = d ∧ parseR (wr d.neg (d.dg.take a) (d.dg.drop a) (69 :: Lib.itoa q) []) = [] ∧ parseE (wr d.neg (d.dg.take a) (d.dg.drop a) (69 :: Lib.itoa q) []) = 0 := by
  have hbd := decR_bounds h
  have hrt : isRt d.dg = true := by
    by_cases h0 : d.dg = [48]
    · rw [h0]; rfl
    · exact (decR_parts h h0).1
  have hdg := rt_dgs hrt
  have hhd : d.dg.head? = some 48 → d.dg = [48] := fun e => by
    by_cases h0 : d.dg = [48]
    · exact h0
    · exact absurd e (decR_parts h h0).2.2.2.2.2
  have htn : d.dg.take a ≠ [] := by intro e; have := congrArg List.length e; rw [List.length_take, List.length_nil] at this; omega
  have hsh : Shape (d.dg.take a) (d.dg.drop a) (69 :: Lib.itoa q) [] q := by
    refine ⟨htn, fun c hc => hdg c (List.mem_of_mem_take hc), ?_, fun c hc => hdg c (List.mem_of_mem_drop hc), (fun c hc => by cases hc), .inr ?_⟩
    · intro e
      rw [List.head?_take, if_neg (by omega)] at e
      rw [hhd e] at h2 ⊢
      have : a = 1 := by simp at h2; omega
      rw [this]; rfl
    · unfold Lib.itoa
      have hl : ∀ u : Nat, u ≤ 200 → (Lib.decDigits u).length ≤ 4 := fun u hu => by rw [Lib.decDigits_length]; exact rdig_lt 3 u (by omega)
      split
      · refine ⟨69, [45], Lib.decDigits q.natAbs, rfl, .inr rfl, fun c hc => dec_isDg _ c hc, dec_ne_nil _, hl _ (by omega), .inr ⟨rfl, ?_⟩⟩
        rw [nv_dec]; omega
      · refine ⟨69, [], Lib.decDigits q.toNat, rfl, .inr rfl, fun c hc => dec_isDg _ c hc, dec_ne_nil _, hl _ (by omega), .inl ⟨rfl, ?_⟩⟩
        rw [nv_dec]; omega
  refine parse_shape d.neg hsh d ?_
  have := mk_zeros d 0 0 h (by omega) (by omega)
  rw [List.take_append_drop, List.length_drop]
  rw [show q - ((d.dg.length - a : Nat) : Int) = d.ex - ((0 : Nat) : Int) by rw [hq]; omega]
  simpa using this

set_option maxRecDepth 100000 in
set_option maxHeartbeats 4000000 in
theorem same_bad (n : Bool) (s : ByteArray) (x z v : Int) (hs : s.size ≤ 140737488355328) (w : World) (hT : Tabs w) (r : Bool) (hr : decR ⟨n, tx s, x⟩ = r)
    (hbad : r = false ∨ (r = true ∧ ((50 : Int) < s.size ∨ (¬ (50 : Int) < s.size ∧ (z < 0 ∨ (¬ z < 0 ∧ (50 < z ∨ (¬ 50 < z ∧ (v < 0 ∨ (¬ v < 0 ∧ 50 < v)))))))))) :
    Calls Tryd.prog 5 #[.agg #[.bool n, .string s, .int .i64 x], .int .i64 z, .int .i64 v] w fun e w' => e = .returned (.bool true) ∧ Below w.heap.size w w' := by
  have hrt := fun W => decRight_calls n s x hs W
  rw [hr] at hrt
  clear hr
  rcases hbad with rfl | ⟨rfl, h1 | ⟨h1, h2 | ⟨h2, h3 | ⟨h3, h4 | ⟨h4, h5⟩⟩⟩⟩⟩
  all_goals (
    have hBx := Cls.new w 24 [.bool n, .string s, .int .i64 x]
    have hWx := below_alloc w (.cells #[.bool n, .string s, .int .i64 x] 24)
    go_enter Tryd.func5, Tryd.ntmps5
    go_wp2_with fail
    refine (dshown_calls _ (hT.below hWx)).mono ?_
    rintro e w1 ⟨rfl, hb1⟩
    have hW1 := hWx.trans (hb1.mono hWx.size)
    have hD1 := hBx.below hb1
    have D_0 := hD1.cell 0 rfl
    have D_1 := hD1.cell 1 rfl
    have D_2 := hD1.cell 2 rfl
    go_wp2_with fail
    refine (hrt _).mono ?_
    rintro e w2 ⟨rfl, hb2⟩
    have hW2 := hW1.trans (hb2.mono hW1.size)
    have hD2 := hD1.below hb2
    clear D_0 D_1 D_2
    have D_0 := hD2.cell 0 rfl
    have D_1 := hD2.cell 1 rfl
    have D_2 := hD2.cell 2 rfl
    go_wp2
    go_ret
    exact ⟨rfl, hW2⟩)

set_option maxRecDepth 100000 in
set_option maxHeartbeats 4000000 in
theorem same_good (n : Bool) (s : ByteArray) (x : Int) (z v : Nat) (w : World) (hT : Tabs w) (hr : decR ⟨n, tx s, x⟩ = true) (hs : s.size ≤ 50) (hz : z ≤ 50) (hv : v ≤ 50) :
    Calls Tryd.prog 5 #[.agg #[.bool n, .string s, .int .i64 x], .int .i64 z, .int .i64 v] w fun e w' => e = .returned (.bool true) ∧ Below w.heap.size w w' := by
  have hrt := fun W => decRight_calls n s x (by omega) W
  rw [hr] at hrt
  have hbd := decR_bounds hr
  rw [txs_len] at hbd
  obtain ⟨-, hs1, hx1, hx2⟩ := hbd
  change -100 ≤ x at hx1
  change x ≤ 100 at hx2
  have hl := txs_len s
  have h1 : ¬ (50 : Int) < (s.size : Int) := by omega
  have h2 : ¬ (z : Int) < 0 := by omega
  have h3 : ¬ (50 : Int) < (z : Int) := by omega
  have h4 : ¬ (v : Int) < 0 := by omega
  have h5 : ¬ (50 : Int) < (v : Int) := by omega
  -- zeros ahead and behind
  obtain ⟨zs, hzs⟩ : ∃ zs, B (List.replicate z (48 : UInt8)) = zs := ⟨_, rfl⟩
  have hzx : tx zs = List.replicate z 48 := by rw [← hzs, tx_B]
  have hzl : zs.size = z := by rw [← txs_len, hzx, List.length_replicate]
  obtain ⟨m1, hm1⟩ : ∃ m, zs ++ s = m := ⟨_, rfl⟩
  obtain ⟨m2, hm2⟩ : ∃ m, m1 ++ zs = m := ⟨_, rfl⟩
  have hm1s : m1.size ≤ 100 := by rw [← hm1, size_app]; omega
  have hm2s : m2.size ≤ 150 := by rw [← hm2, size_app]; omega
  have hm2x : tx m2 = List.replicate z 48 ++ tx s ++ List.replicate z 48 := by rw [← hm2, tx_app, ← hm1, tx_app, hzx]
  obtain ⟨y, hy⟩ : ∃ y, x - (z : Int) = y := ⟨_, rfl⟩
  have hmk := mk_zeros ⟨n, tx s, x⟩ z z hr (by show z + (tx s).length + z ≤ 400; omega) (by show -1000 ≤ x - (z : Int) ∧ x - (z : Int) ≤ 1000; omega)
  change mk n (List.replicate z 48 ++ tx s ++ List.replicate z 48) (x - (z : Int)) = _ at hmk
  rw [← hm2x, hy] at hmk
  have hmake := fun W => decMake_calls n m2 y ⟨by omega, by omega⟩ (by omega) W
  rw [hmk] at hmake
  have hmake' : ∀ W, Calls Tryd.prog 15 #[.bool n, .string m2, .int .i64 y] W fun e w' => e = .returned (.tuple #[.agg #[.bool n, .string s, .int .i64 x], .int .i64 0]) ∧ Below W.heap.size W w' := by
    have h : (⟨n, tx s, x⟩ : D).val = .agg #[.bool n, .string s, .int .i64 x] := by unfold D.val DV; rw [show B (D.mk n (tx s) x).dg = s from B_tx s]
    rw [← h]; exact hmake
  -- where the point goes
  obtain ⟨a, ha⟩ : ∃ a : Nat, max (1 : Int) ((s.size : Int) - (v : Int)) = (a : Int) := ⟨(max (1 : Int) ((s.size : Int) - (v : Int))).toNat, by omega⟩
  have ha1 : 1 ≤ a := by omega
  have ha2 : a ≤ s.size := by omega
  have ha3 : (a : Int) ≤ (s.size : Int) := by omega
  obtain ⟨k, hk⟩ : ∃ k : Nat, (s.size : Int) - (a : Int) = (k : Int) := ⟨s.size - a, by omega⟩
  obtain ⟨q, hq⟩ : ∃ q : Int, x + (k : Int) = q := ⟨_, rfl⟩
  have hnum := fun W => rNum_calls q (by omega) (by omega) W
  obtain ⟨ns, hns⟩ : ∃ ns, B (Lib.itoa q) = ns := ⟨_, rfl⟩
  have hnx : tx ns = Lib.itoa q := by rw [← hns, tx_B]
  have hnl : ns.size ≤ 10 := by rw [← txs_len, hnx]; exact itoa_len q (by omega)
  rw [hns] at hnum
  obtain ⟨s1, hs1e⟩ : ∃ s1, s.extract 0 a = s1 := ⟨_, rfl⟩
  obtain ⟨s2, hs2e⟩ : ∃ s2, s.extract a s.size = s2 := ⟨_, rfl⟩
  have hs1x : tx s1 = (tx s).take a := by rw [← hs1e]; exact extract_take s a
  have hs2x : tx s2 = (tx s).drop a := by rw [← hs2e]; unfold tx; rw [Lib.extract_data, List.take_of_length_le (by rw [List.length_drop, len_str]; omega)]
  have hs1l : s1.size ≤ 50 := by rw [← txs_len, hs1x, List.length_take]; omega
  have hs2l : s2.size ≤ 50 := by rw [← txs_len, hs2x, List.length_drop]; omega
  have hsp := same_plain ⟨n, tx s, x⟩ a hr ha1 (by show a ≤ (tx s).length; omega) (by show (tx s).length ≤ 50; omega) q (by show q = x + ((tx s).length - a : Nat); omega)
  have z1 : (⟨#[46]⟩ : ByteArray).size = 1 := rfl
  have z2 : (⟨#[69]⟩ : ByteArray).size = 1 := rfl
  have z3 : (⟨#[45]⟩ : ByteArray).size = 1 := rfl
  have z4 : (⟨#[]⟩ : ByteArray).size = 0 := rfl
  obtain ⟨v1, hv1⟩ : ∃ u, (if n then ⟨#[45]⟩ else ⟨#[]⟩ : ByteArray) ++ s1 = u := ⟨_, rfl⟩
  have hv1l : v1.size ≤ 60 := by rw [← hv1, size_app]; cases n <;> simp <;> omega
  obtain ⟨v2, hv2⟩ : ∃ u, v1 ++ ⟨#[46]⟩ = u := ⟨_, rfl⟩
  have hv2l : v2.size ≤ 70 := by rw [← hv2, size_app]; omega
  obtain ⟨v3, hv3⟩ : ∃ u, v2 ++ s2 = u := ⟨_, rfl⟩
  have hv3l : v3.size ≤ 120 := by rw [← hv3, size_app]; omega
  obtain ⟨v4, hv4⟩ : ∃ u, (if k = 0 then v1 else v3) ++ ⟨#[69]⟩ = u := ⟨_, rfl⟩
  have hv4l : v4.size ≤ 130 := by rw [← hv4, size_app]; split <;> omega
  obtain ⟨fc, hfc⟩ : ∃ u, v4 ++ ns = u := ⟨_, rfl⟩
  have hfcl : fc.size ≤ 150 := by rw [← hfc, size_app]; omega
  have hfx : tx fc = wr n ((tx s).take a) ((tx s).drop a) (69 :: Lib.itoa q) [] := by
    have e1 : tx v1 = (if n then [45] else []) ++ (tx s).take a := by rw [← hv1, tx_app, hs1x]; cases n <;> rfl
    have e3 : tx v3 = (if n then [45] else []) ++ (tx s).take a ++ [46] ++ (tx s).drop a := by rw [← hv3, tx_app, ← hv2, tx_app, e1, hs2x]; rfl
    rw [← hfc, tx_app, ← hv4, tx_app, hnx]
    unfold wr
    by_cases hk0 : k = 0
    · have hd0 : (tx s).drop a = [] := List.drop_of_length_le (by omega)
      rw [if_pos hk0, if_pos hd0, e1]
      show _ ++ [69] ++ _ = _
      simp
    · have hd0 : ¬ (tx s).drop a = [] := fun e => by have := congrArg List.length e; rw [List.length_drop, List.length_nil] at this; omega
      rw [if_neg hk0, if_neg hd0, e3]
      show _ ++ [69] ++ _ = _
      simp
  have hp0 := fun W h => parse_calls fc (by omega) W h
  rw [hfx, hsp.1, hsp.2.1, hsp.2.2] at hp0
  have hp : ∀ W, Tabs W → Calls Tryd.prog 9 #[.string fc] W fun e w' => e = .returned (.tuple #[.agg #[.bool n, .string s, .int .i64 x], .string ⟨#[]⟩, .int .i64 0]) ∧ Below W.heap.size W w' := by
    have h : (⟨n, tx s, x⟩ : D).val = .agg #[.bool n, .string s, .int .i64 x] := by unfold D.val DV; rw [show B (D.mk n (tx s) x).dg = s from B_tx s]
    rw [← h]; exact hp0
  have heq := eqD_same n s x
  have hgd := guardD
  have HZ := hid hzx
  have hzl' : zs.size ≤ 50 := by omega
  have hxk1 : -1000 ≤ y ∧ y ≤ 1000 := by omega
  have hxk2 : -1000 ≤ q ∧ q ≤ 1000 := by omega
  obtain ⟨hy1, hy2⟩ := hxk1
  obtain ⟨hq1, hq2⟩ := hxk2
  have hHB := hid (fun k : Nat => show tx (B (List.replicate k (48 : UInt8)) ++ ⟨#[48]⟩) = List.replicate (k + 1) 48 by rw [tx_app, tx_B, List.replicate_succ']; rfl)
  clear hsp hp0 hfx hmake hmk hm2x hzs hzx hns hnx hs1x hs2x hr hl z1 z2 z3 z4 hzl
  cases n
  · rcases Nat.eq_zero_or_pos k with hk0 | hk0
    · have hv1' : (⟨#[]⟩ : ByteArray) ++ s1 = v1 := hv1
      have hv4' : v1 ++ ⟨#[69]⟩ = v4 := by rw [if_pos hk0] at hv4; exact hv4
      have hki : ¬ (0 : Int) < (k : Int) := by omega
      clear hv1 hv4 hk0
      have hBx := Cls.new w 24 [.bool false, .string s, .int .i64 x]
      have hWx := below_alloc w (.cells #[.bool false, .string s, .int .i64 x] 24)
      go_enter Tryd.func5, Tryd.ntmps5
      go_wp2_with fail
      refine (dshown_calls _ (hT.below hWx)).mono ?_
      rintro e w1 ⟨rfl, hb1⟩
      have hW1 := hWx.trans (hb1.mono hWx.size)
      have hD1 := hBx.below hb1
      have D_0 := hD1.cell 0 rfl
      have D_1 := hD1.cell 1 rfl
      have D_2 := hD1.cell 2 rfl
      go_wp2_with fail
      refine (hrt _).mono ?_
      rintro e w2 ⟨rfl, hb2⟩
      have hW2 := hW1.trans (hb2.mono hW1.size)
      have hD2 := hD1.below hb2
      clear D_0 D_1 D_2
      have D_0 := hD2.cell 0 rfl
      have D_1 := hD2.cell 1 rfl
      have D_2 := hD2.cell 2 rfl
      go_wp2
      go_loop [8, 9] (fun a b => ∃ (u : ByteArray) (i : Nat), a = .string u ∧ b = .int .i64 i ∧ i ≤ z ∧ tx u = List.replicate i 48 ∧ u.size ≤ 50) (fun _ b => z - (intOf b).toNat)
      case atStart => exact ⟨⟨#[]⟩, 0, rfl, rfl, Nat.zero_le _, rfl, Nat.zero_le _⟩
      case round =>
        obtain ⟨u, i, rfl, rfl, hi, hu, hus⟩ := hrel
        by_cases hlt : (i : Int) < (z : Int)
        · have HU := hid (show tx (u ++ ⟨#[48]⟩) = List.replicate (i + 1) 48 by rw [tx_app, hu, List.replicate_succ']; rfl)
          have HV := hid (show (u ++ ⟨#[48]⟩ : ByteArray).size ≤ 50 by rw [← txs_len, HU.out, List.length_replicate]; omega)
          clear hu
          go_wp2
          go_round
          case rel => exact ⟨_, i + 1, rfl, by simp, by omega, HU.out, HV.out⟩
          case measure => simp [intOf]; omega
        · obtain rfl : i = z := by omega
          obtain rfl : u = zs := eq_of_txS (by rw [hu, HZ.out])
          clear hu hus hi
          go_wp2_with fail
          refine (hmake' _).mono ?_
          rintro e w3 ⟨rfl, hb3⟩
          have hW3 := hW2.trans (hb3.mono hW2.size)
          have hD3 := hD2.below hb3
          clear D_0 D_1 D_2
          have hD4 := hD3.alloc (.cells #[.bool false, .string s, .int .i64 x] 24)
          have hA4 := Cls.new w3 24 [.bool false, .string s, .int .i64 x]
          have hW4 := hW3.alloc hW3.size (.cells #[.bool false, .string s, .int .i64 x] 24)
          have D_0 := hD4.cell 0 rfl
          have D_1 := hD4.cell 1 rfl
          have D_2 := hD4.cell 2 rfl
          have A_0 := hA4.cell 0 rfl
          have A_1 := hA4.cell 1 rfl
          have A_2 := hA4.cell 2 rfl
          go_wp2_with fail
          generalize w3.alloc (.cells #[.bool false, .string s, .int .i64 x] 24) = V5 at *
          clear D_0 D_1 D_2
          clear A_0 A_1 A_2
          refine (hnum _).mono ?_
          rintro e w6 ⟨rfl, hb6⟩
          have hW6 := hW4.trans (hb6.mono hW4.size)
          have hD6 := hD4.below hb6
          have hA6 := hA4.below hb6
          go_wp2_with fail
          refine (hp _ (hT.below hW6)).mono ?_
          rintro e w7 ⟨rfl, hb7⟩
          have hW7 := hW6.trans (hb7.mono hW6.size)
          have hD7 := hD6.below hb7
          have hA7 := hA6.below hb7
          have hD8 := hD7.alloc (.cells #[.bool false, .string s, .int .i64 x] 24)
          have hA8 := hA7.alloc (.cells #[.bool false, .string s, .int .i64 x] 24)
          have hP8 := Cls.new w7 24 [.bool false, .string s, .int .i64 x]
          have hW8 := hW7.alloc hW7.size (.cells #[.bool false, .string s, .int .i64 x] 24)
          have D_0 := hD8.cell 0 rfl
          have D_1 := hD8.cell 1 rfl
          have D_2 := hD8.cell 2 rfl
          have A_0 := hA8.cell 0 rfl
          have A_1 := hA8.cell 1 rfl
          have A_2 := hA8.cell 2 rfl
          have P_0 := hP8.cell 0 rfl
          have P_1 := hP8.cell 1 rfl
          have P_2 := hP8.cell 2 rfl
          go_wp2
          go_ret
          exact ⟨rfl, hW8⟩
    · have hv1' : (⟨#[]⟩ : ByteArray) ++ s1 = v1 := hv1
      have hv4' : v3 ++ ⟨#[69]⟩ = v4 := by rw [if_neg (by omega)] at hv4; exact hv4
      have hki :  (0 : Int) < (k : Int) := by omega
      clear hv1 hv4 hk0
      have hBx := Cls.new w 24 [.bool false, .string s, .int .i64 x]
      have hWx := below_alloc w (.cells #[.bool false, .string s, .int .i64 x] 24)
      go_enter Tryd.func5, Tryd.ntmps5
      go_wp2_with fail
      refine (dshown_calls _ (hT.below hWx)).mono ?_
      rintro e w1 ⟨rfl, hb1⟩
      have hW1 := hWx.trans (hb1.mono hWx.size)
      have hD1 := hBx.below hb1
      have D_0 := hD1.cell 0 rfl
      have D_1 := hD1.cell 1 rfl
      have D_2 := hD1.cell 2 rfl
      go_wp2_with fail
      refine (hrt _).mono ?_
      rintro e w2 ⟨rfl, hb2⟩
      have hW2 := hW1.trans (hb2.mono hW1.size)
      have hD2 := hD1.below hb2
      clear D_0 D_1 D_2
      have D_0 := hD2.cell 0 rfl
      have D_1 := hD2.cell 1 rfl
      have D_2 := hD2.cell 2 rfl
      go_wp2
      go_loop [8, 9] (fun a b => ∃ (u : ByteArray) (i : Nat), a = .string u ∧ b = .int .i64 i ∧ i ≤ z ∧ tx u = List.replicate i 48 ∧ u.size ≤ 50) (fun _ b => z - (intOf b).toNat)
      case atStart => exact ⟨⟨#[]⟩, 0, rfl, rfl, Nat.zero_le _, rfl, Nat.zero_le _⟩
      case round =>
        obtain ⟨u, i, rfl, rfl, hi, hu, hus⟩ := hrel
        by_cases hlt : (i : Int) < (z : Int)
        · have HU := hid (show tx (u ++ ⟨#[48]⟩) = List.replicate (i + 1) 48 by rw [tx_app, hu, List.replicate_succ']; rfl)
          have HV := hid (show (u ++ ⟨#[48]⟩ : ByteArray).size ≤ 50 by rw [← txs_len, HU.out, List.length_replicate]; omega)
          clear hu
          go_wp2
          go_round
          case rel => exact ⟨_, i + 1, rfl, by simp, by omega, HU.out, HV.out⟩
          case measure => simp [intOf]; omega
        · obtain rfl : i = z := by omega
          obtain rfl : u = zs := eq_of_txS (by rw [hu, HZ.out])
          clear hu hus hi
          go_wp2_with fail
          refine (hmake' _).mono ?_
          rintro e w3 ⟨rfl, hb3⟩
          have hW3 := hW2.trans (hb3.mono hW2.size)
          have hD3 := hD2.below hb3
          clear D_0 D_1 D_2
          have hD4 := hD3.alloc (.cells #[.bool false, .string s, .int .i64 x] 24)
          have hA4 := Cls.new w3 24 [.bool false, .string s, .int .i64 x]
          have hW4 := hW3.alloc hW3.size (.cells #[.bool false, .string s, .int .i64 x] 24)
          have D_0 := hD4.cell 0 rfl
          have D_1 := hD4.cell 1 rfl
          have D_2 := hD4.cell 2 rfl
          have A_0 := hA4.cell 0 rfl
          have A_1 := hA4.cell 1 rfl
          have A_2 := hA4.cell 2 rfl
          go_wp2_with fail
          generalize w3.alloc (.cells #[.bool false, .string s, .int .i64 x] 24) = V5 at *
          clear D_0 D_1 D_2
          clear A_0 A_1 A_2
          refine (hnum _).mono ?_
          rintro e w6 ⟨rfl, hb6⟩
          have hW6 := hW4.trans (hb6.mono hW4.size)
          have hD6 := hD4.below hb6
          have hA6 := hA4.below hb6
          go_wp2_with fail
          refine (hp _ (hT.below hW6)).mono ?_
          rintro e w7 ⟨rfl, hb7⟩
          have hW7 := hW6.trans (hb7.mono hW6.size)
          have hD7 := hD6.below hb7
          have hA7 := hA6.below hb7
          have hD8 := hD7.alloc (.cells #[.bool false, .string s, .int .i64 x] 24)
          have hA8 := hA7.alloc (.cells #[.bool false, .string s, .int .i64 x] 24)
          have hP8 := Cls.new w7 24 [.bool false, .string s, .int .i64 x]
          have hW8 := hW7.alloc hW7.size (.cells #[.bool false, .string s, .int .i64 x] 24)
          have D_0 := hD8.cell 0 rfl
          have D_1 := hD8.cell 1 rfl
          have D_2 := hD8.cell 2 rfl
          have A_0 := hA8.cell 0 rfl
          have A_1 := hA8.cell 1 rfl
          have A_2 := hA8.cell 2 rfl
          have P_0 := hP8.cell 0 rfl
          have P_1 := hP8.cell 1 rfl
          have P_2 := hP8.cell 2 rfl
          go_wp2
          go_ret
          exact ⟨rfl, hW8⟩
  · rcases Nat.eq_zero_or_pos k with hk0 | hk0
    · have hv1' : (⟨#[45]⟩ : ByteArray) ++ s1 = v1 := hv1
      have hv4' : v1 ++ ⟨#[69]⟩ = v4 := by rw [if_pos hk0] at hv4; exact hv4
      have hki : ¬ (0 : Int) < (k : Int) := by omega
      clear hv1 hv4 hk0
      have hBx := Cls.new w 24 [.bool true, .string s, .int .i64 x]
      have hWx := below_alloc w (.cells #[.bool true, .string s, .int .i64 x] 24)
      go_enter Tryd.func5, Tryd.ntmps5
      go_wp2_with fail
      refine (dshown_calls _ (hT.below hWx)).mono ?_
      rintro e w1 ⟨rfl, hb1⟩
      have hW1 := hWx.trans (hb1.mono hWx.size)
      have hD1 := hBx.below hb1
      have D_0 := hD1.cell 0 rfl
      have D_1 := hD1.cell 1 rfl
      have D_2 := hD1.cell 2 rfl
      go_wp2_with fail
      refine (hrt _).mono ?_
      rintro e w2 ⟨rfl, hb2⟩
      have hW2 := hW1.trans (hb2.mono hW1.size)
      have hD2 := hD1.below hb2
      clear D_0 D_1 D_2
      have D_0 := hD2.cell 0 rfl
      have D_1 := hD2.cell 1 rfl
      have D_2 := hD2.cell 2 rfl
      go_wp2
      go_loop [8, 9] (fun a b => ∃ (u : ByteArray) (i : Nat), a = .string u ∧ b = .int .i64 i ∧ i ≤ z ∧ tx u = List.replicate i 48 ∧ u.size ≤ 50) (fun _ b => z - (intOf b).toNat)
      case atStart => exact ⟨⟨#[]⟩, 0, rfl, rfl, Nat.zero_le _, rfl, Nat.zero_le _⟩
      case round =>
        obtain ⟨u, i, rfl, rfl, hi, hu, hus⟩ := hrel
        by_cases hlt : (i : Int) < (z : Int)
        · have HU := hid (show tx (u ++ ⟨#[48]⟩) = List.replicate (i + 1) 48 by rw [tx_app, hu, List.replicate_succ']; rfl)
          have HV := hid (show (u ++ ⟨#[48]⟩ : ByteArray).size ≤ 50 by rw [← txs_len, HU.out, List.length_replicate]; omega)
          clear hu
          go_wp2
          go_round
          case rel => exact ⟨_, i + 1, rfl, by simp, by omega, HU.out, HV.out⟩
          case measure => simp [intOf]; omega
        · obtain rfl : i = z := by omega
          obtain rfl : u = zs := eq_of_txS (by rw [hu, HZ.out])
          clear hu hus hi
          go_wp2_with fail
          refine (hmake' _).mono ?_
          rintro e w3 ⟨rfl, hb3⟩
          have hW3 := hW2.trans (hb3.mono hW2.size)
          have hD3 := hD2.below hb3
          clear D_0 D_1 D_2
          have hD4 := hD3.alloc (.cells #[.bool true, .string s, .int .i64 x] 24)
          have hA4 := Cls.new w3 24 [.bool true, .string s, .int .i64 x]
          have hW4 := hW3.alloc hW3.size (.cells #[.bool true, .string s, .int .i64 x] 24)
          have D_0 := hD4.cell 0 rfl
          have D_1 := hD4.cell 1 rfl
          have D_2 := hD4.cell 2 rfl
          have A_0 := hA4.cell 0 rfl
          have A_1 := hA4.cell 1 rfl
          have A_2 := hA4.cell 2 rfl
          go_wp2_with fail
          generalize w3.alloc (.cells #[.bool true, .string s, .int .i64 x] 24) = V5 at *
          clear D_0 D_1 D_2
          clear A_0 A_1 A_2
          refine (hnum _).mono ?_
          rintro e w6 ⟨rfl, hb6⟩
          have hW6 := hW4.trans (hb6.mono hW4.size)
          have hD6 := hD4.below hb6
          have hA6 := hA4.below hb6
          go_wp2_with fail
          refine (hp _ (hT.below hW6)).mono ?_
          rintro e w7 ⟨rfl, hb7⟩
          have hW7 := hW6.trans (hb7.mono hW6.size)
          have hD7 := hD6.below hb7
          have hA7 := hA6.below hb7
          have hD8 := hD7.alloc (.cells #[.bool true, .string s, .int .i64 x] 24)
          have hA8 := hA7.alloc (.cells #[.bool true, .string s, .int .i64 x] 24)
          have hP8 := Cls.new w7 24 [.bool true, .string s, .int .i64 x]
          have hW8 := hW7.alloc hW7.size (.cells #[.bool true, .string s, .int .i64 x] 24)
          have D_0 := hD8.cell 0 rfl
          have D_1 := hD8.cell 1 rfl
          have D_2 := hD8.cell 2 rfl
          have A_0 := hA8.cell 0 rfl
          have A_1 := hA8.cell 1 rfl
          have A_2 := hA8.cell 2 rfl
          have P_0 := hP8.cell 0 rfl
          have P_1 := hP8.cell 1 rfl
          have P_2 := hP8.cell 2 rfl
          go_wp2
          go_ret
          exact ⟨rfl, hW8⟩
    · have hv1' : (⟨#[45]⟩ : ByteArray) ++ s1 = v1 := hv1
      have hv4' : v3 ++ ⟨#[69]⟩ = v4 := by rw [if_neg (by omega)] at hv4; exact hv4
      have hki :  (0 : Int) < (k : Int) := by omega
      clear hv1 hv4 hk0
      have hBx := Cls.new w 24 [.bool true, .string s, .int .i64 x]
      have hWx := below_alloc w (.cells #[.bool true, .string s, .int .i64 x] 24)
      go_enter Tryd.func5, Tryd.ntmps5
      go_wp2_with fail
      refine (dshown_calls _ (hT.below hWx)).mono ?_
      rintro e w1 ⟨rfl, hb1⟩
      have hW1 := hWx.trans (hb1.mono hWx.size)
      have hD1 := hBx.below hb1
      have D_0 := hD1.cell 0 rfl
      have D_1 := hD1.cell 1 rfl
      have D_2 := hD1.cell 2 rfl
      go_wp2_with fail
      refine (hrt _).mono ?_
      rintro e w2 ⟨rfl, hb2⟩
      have hW2 := hW1.trans (hb2.mono hW1.size)
      have hD2 := hD1.below hb2
      clear D_0 D_1 D_2
      have D_0 := hD2.cell 0 rfl
      have D_1 := hD2.cell 1 rfl
      have D_2 := hD2.cell 2 rfl
      go_wp2
      go_loop [8, 9] (fun a b => ∃ (u : ByteArray) (i : Nat), a = .string u ∧ b = .int .i64 i ∧ i ≤ z ∧ tx u = List.replicate i 48 ∧ u.size ≤ 50) (fun _ b => z - (intOf b).toNat)
      case atStart => exact ⟨⟨#[]⟩, 0, rfl, rfl, Nat.zero_le _, rfl, Nat.zero_le _⟩
      case round =>
        obtain ⟨u, i, rfl, rfl, hi, hu, hus⟩ := hrel
        by_cases hlt : (i : Int) < (z : Int)
        · have HU := hid (show tx (u ++ ⟨#[48]⟩) = List.replicate (i + 1) 48 by rw [tx_app, hu, List.replicate_succ']; rfl)
          have HV := hid (show (u ++ ⟨#[48]⟩ : ByteArray).size ≤ 50 by rw [← txs_len, HU.out, List.length_replicate]; omega)
          clear hu
          go_wp2
          go_round
          case rel => exact ⟨_, i + 1, rfl, by simp, by omega, HU.out, HV.out⟩
          case measure => simp [intOf]; omega
        · obtain rfl : i = z := by omega
          obtain rfl : u = zs := eq_of_txS (by rw [hu, HZ.out])
          clear hu hus hi
          go_wp2_with fail
          refine (hmake' _).mono ?_
          rintro e w3 ⟨rfl, hb3⟩
          have hW3 := hW2.trans (hb3.mono hW2.size)
          have hD3 := hD2.below hb3
          clear D_0 D_1 D_2
          have hD4 := hD3.alloc (.cells #[.bool true, .string s, .int .i64 x] 24)
          have hA4 := Cls.new w3 24 [.bool true, .string s, .int .i64 x]
          have hW4 := hW3.alloc hW3.size (.cells #[.bool true, .string s, .int .i64 x] 24)
          have D_0 := hD4.cell 0 rfl
          have D_1 := hD4.cell 1 rfl
          have D_2 := hD4.cell 2 rfl
          have A_0 := hA4.cell 0 rfl
          have A_1 := hA4.cell 1 rfl
          have A_2 := hA4.cell 2 rfl
          go_wp2_with fail
          generalize w3.alloc (.cells #[.bool true, .string s, .int .i64 x] 24) = V5 at *
          clear D_0 D_1 D_2
          clear A_0 A_1 A_2
          refine (hnum _).mono ?_
          rintro e w6 ⟨rfl, hb6⟩
          have hW6 := hW4.trans (hb6.mono hW4.size)
          have hD6 := hD4.below hb6
          have hA6 := hA4.below hb6
          go_wp2_with fail
          refine (hp _ (hT.below hW6)).mono ?_
          rintro e w7 ⟨rfl, hb7⟩
          have hW7 := hW6.trans (hb7.mono hW6.size)
          have hD7 := hD6.below hb7
          have hA7 := hA6.below hb7
          have hD8 := hD7.alloc (.cells #[.bool true, .string s, .int .i64 x] 24)
          have hA8 := hA7.alloc (.cells #[.bool true, .string s, .int .i64 x] 24)
          have hP8 := Cls.new w7 24 [.bool true, .string s, .int .i64 x]
          have hW8 := hW7.alloc hW7.size (.cells #[.bool true, .string s, .int .i64 x] 24)
          have D_0 := hD8.cell 0 rfl
          have D_1 := hD8.cell 1 rfl
          have D_2 := hD8.cell 2 rfl
          have A_0 := hA8.cell 0 rfl
          have A_1 := hA8.cell 1 rfl
          have A_2 := hA8.cell 2 rfl
          have P_0 := hP8.cell 0 rfl
          have P_1 := hP8.cell 1 rfl
          have P_2 := hP8.cell 2 rfl
          go_wp2
          go_ret
          exact ⟨rfl, hW8⟩

theorem same_law (n : Bool) (s : ByteArray) (x : Int) (hs : s.size ≤ 140737488355328) (z v : Int) (w : World) (hT : Tabs w) :
    Calls Tryd.prog 5 #[.agg #[.bool n, .string s, .int .i64 x], .int .i64 z, .int .i64 v] w fun e w' => e = .returned (.bool true) ∧ Below w.heap.size w w' := by
  by_cases h : decR ⟨n, tx s, x⟩ = true ∧ ¬ (50 : Int) < s.size ∧ ¬ z < 0 ∧ ¬ 50 < z ∧ ¬ v < 0 ∧ ¬ 50 < v
  · obtain ⟨hr, h1, h2, h3, h4, h5⟩ := h
    obtain ⟨z', rfl⟩ := Int.eq_ofNat_of_zero_le (show 0 ≤ z by omega)
    obtain ⟨v', rfl⟩ := Int.eq_ofNat_of_zero_le (show 0 ≤ v by omega)
    exact same_good n s x z' v' w hT hr (by omega) (by omega) (by omega)
  · refine same_bad n s x z v hs w hT _ rfl ?_
    cases hr : decR ⟨n, tx s, x⟩ with
    | false => exact .inl rfl
    | true =>
      refine .inr ⟨rfl, ?_⟩
      rw [hr] at h
      have h' : ¬ (¬ (50 : Int) < s.size ∧ ¬ z < 0 ∧ ¬ 50 < z ∧ ¬ v < 0 ∧ ¬ 50 < v) := fun e => h ⟨rfl, e⟩
      omega
end Go.Proofs.YtbopikeoaokdpaaDoor
