/- The document's own decimals (targumref04): Format, OfInt, ToInt: walked. -/
import Derived.Test.YtnomgomdobiohaaGreatDoorRDecB
import Derived.Test.YtnomgomdobiohaaGreatDoorDecJ
import Derived.Test.YtnomgomdobiohaaGreatDoorRefV
namespace Go.Proofs.YtnomgomdobiohaaGreatDoor
open Go.RowKit
attribute [local go_sem] Oper.semAt_some

set_option maxRecDepth 100000 in
set_option maxHeartbeats 4000000 in
theorem rformat_no (n : Bool) (s : ByteArray) (x : Int) (hs : s.size ≤ 140737488355328) (w : World) (hno : decR ⟨n, tx s, x⟩ = false) :
    Calls Tryz.prog 8 #[.agg #[.bool n, .string s, .int .i64 x]] w fun e w' => e = .returned (.tuple #[.string ⟨#[]⟩, .int .i64 40]) ∧ Below w.heap.size w w' := by
  have hright := fun W => rdecRight_calls n s x hs W
  rw [hno] at hright
  have hC := Cls.new w 23 [.bool n, .string s, .int .i64 x]
  have hA := below_alloc w (.cells #[.bool n, .string s, .int .i64 x] 23)
  clear hno
  go_enter Tryz.func8, Tryz.ntmps8
  go_wp2_with (go_at_call 13; refine (hright _).mono ?_; rintro e w1 ⟨rfl, hb1⟩)
  go_ret2
  exact ⟨rfl, hA.trans (hb1.mono hA.size)⟩
theorem sgn_out (n : Bool) (l : List UInt8) (q : ByteArray) (h : tx q = l) : B ((if n then [45] else []) ++ l) = if n then ⟨#[45]⟩ ++ q else q := by
  subst h
  cases n
  · exact B_tx q
  · show B ([45] ++ tx q) = ⟨#[45]⟩ ++ q
    rw [← B_tx (⟨#[45]⟩ ++ q), tx_app]; rfl

set_option maxRecDepth 100000 in
set_option maxHeartbeats 4000000 in
theorem rformat_expl (n : Bool) (s : ByteArray) (x : Int) (w : World) (hyes : decR ⟨n, tx s, x⟩ = true) (hk : x < -20) :
    Calls Tryz.prog 8 #[.agg #[.bool n, .string s, .int .i64 x]] w fun e w' => e = .returned (.tuple #[.string (B ((if n then [45] else []) ++ fmtB ⟨n, tx s, x⟩)), .int .i64 0]) ∧ Below w.heap.size w w' := by
  have hbd := decR_bounds hyes
  rw [txs_len] at hbd
  obtain ⟨hs1, hs2, hx1, hx2⟩ := hbd
  change -100 ≤ x at hx1
  change x ≤ 100 at hx2
  have hright := fun W => rdecRight_calls n s x (by omega) W
  rw [hyes] at hright
  have hC := Cls.new w 23 [.bool n, .string s, .int .i64 x]
  have hA := below_alloc w (.cells #[.bool n, .string s, .int .i64 x] 23)
  have hl := txs_len s
  have hF : fmtB ⟨n, tx s, x⟩ = tx s ++ [101] ++ Lib.itoa x := by unfold fmtB; rw [if_neg]; rw [Bool.and_eq_true, decide_eq_true_eq, decide_eq_true_eq]; show ¬ (-20 ≤ x ∧ x ≤ 20); omega
  have hit := fun W => rNum_calls x (by omega) (by omega) W
  obtain ⟨q, hq⟩ : ∃ q, B (Lib.itoa x) = q := ⟨_, rfl⟩
  have hqx : tx q = Lib.itoa x := by rw [← hq, tx_B]
  have hqs : q.size ≤ 10 := by rw [← txs_len, hqx]; exact itoa_len x (by omega)
  rw [hq] at hit
  obtain ⟨X, hX⟩ : ∃ X, s ++ ⟨#[101]⟩ ++ q = X := ⟨_, rfl⟩
  have HR := hid (sgn_out n _ X (show tx X = fmtB ⟨n, tx s, x⟩ by rw [hF, ← hX, tx_app, tx_app, hqx]; rfl))
  have hXs : X.size ≤ 900 := by rw [← hX, size_app, size_app]; have : (⟨#[101]⟩ : ByteArray).size = 1 := rfl; omega
  clear hyes hl hF hq hqx
  cases n
  all_goals (
    go_enter Tryz.func8, Tryz.ntmps8
    go_wp2_with fail
    refine (hright _).mono ?_
    rintro e w1 ⟨rfl, hb1⟩
    have hC1 := hC.below hb1
    have hW1 := hA.trans (hb1.mono hA.size)
    have c0 := hC1.cell 0 rfl
    have c1 := hC1.cell 1 rfl
    have c2 := hC1.cell 2 rfl
    go_wp2_with fail
    refine (hit _).mono ?_
    rintro e w2 ⟨rfl, hb2⟩
    have hC2 := hC1.below hb2
    have hW2 := hW1.trans (hb2.mono hW1.size)
    have d0 := hC2.cell 0 rfl
    have hsz : (s ++ ⟨#[101]⟩ : ByteArray).size ≤ 200 := by rw [size_app]; have : (⟨#[101]⟩ : ByteArray).size = 1 := rfl; omega
    go_wp2
    go_ret2
    exact ⟨congrArg (fun v => Ending.returned (.tuple #[.string v, .int .i64 0])) HR.out.symm, hW2⟩)

set_option maxRecDepth 100000 in
set_option maxHeartbeats 4000000 in
theorem rformat_expg (n : Bool) (s : ByteArray) (x : Int) (w : World) (hyes : decR ⟨n, tx s, x⟩ = true) (hk : ¬ x < -20) (hk2 : 20 < x) :
    Calls Tryz.prog 8 #[.agg #[.bool n, .string s, .int .i64 x]] w fun e w' => e = .returned (.tuple #[.string (B ((if n then [45] else []) ++ fmtB ⟨n, tx s, x⟩)), .int .i64 0]) ∧ Below w.heap.size w w' := by
  have hbd := decR_bounds hyes
  rw [txs_len] at hbd
  obtain ⟨hs1, hs2, hx1, hx2⟩ := hbd
  change -100 ≤ x at hx1
  change x ≤ 100 at hx2
  have hright := fun W => rdecRight_calls n s x (by omega) W
  rw [hyes] at hright
  have hC := Cls.new w 23 [.bool n, .string s, .int .i64 x]
  have hA := below_alloc w (.cells #[.bool n, .string s, .int .i64 x] 23)
  have hl := txs_len s
  have hF : fmtB ⟨n, tx s, x⟩ = tx s ++ [101] ++ Lib.itoa x := by unfold fmtB; rw [if_neg]; rw [Bool.and_eq_true, decide_eq_true_eq, decide_eq_true_eq]; show ¬ (-20 ≤ x ∧ x ≤ 20); omega
  have hit := fun W => rNum_calls x (by omega) (by omega) W
  obtain ⟨q, hq⟩ : ∃ q, B (Lib.itoa x) = q := ⟨_, rfl⟩
  have hqx : tx q = Lib.itoa x := by rw [← hq, tx_B]
  have hqs : q.size ≤ 10 := by rw [← txs_len, hqx]; exact itoa_len x (by omega)
  rw [hq] at hit
  obtain ⟨X, hX⟩ : ∃ X, s ++ ⟨#[101]⟩ ++ q = X := ⟨_, rfl⟩
  have HR := hid (sgn_out n _ X (show tx X = fmtB ⟨n, tx s, x⟩ by rw [hF, ← hX, tx_app, tx_app, hqx]; rfl))
  have hXs : X.size ≤ 900 := by rw [← hX, size_app, size_app]; have : (⟨#[101]⟩ : ByteArray).size = 1 := rfl; omega
  clear hyes hl hF hq hqx
  cases n
  all_goals (
    go_enter Tryz.func8, Tryz.ntmps8
    go_wp2_with fail
    refine (hright _).mono ?_
    rintro e w1 ⟨rfl, hb1⟩
    have hC1 := hC.below hb1
    have hW1 := hA.trans (hb1.mono hA.size)
    have c0 := hC1.cell 0 rfl
    have c1 := hC1.cell 1 rfl
    have c2 := hC1.cell 2 rfl
    go_wp2_with fail
    refine (hit _).mono ?_
    rintro e w2 ⟨rfl, hb2⟩
    have hC2 := hC1.below hb2
    have hW2 := hW1.trans (hb2.mono hW1.size)
    have d0 := hC2.cell 0 rfl
    have hsz : (s ++ ⟨#[101]⟩ : ByteArray).size ≤ 200 := by rw [size_app]; have : (⟨#[101]⟩ : ByteArray).size = 1 := rfl; omega
    go_wp2
    go_ret2
    exact ⟨congrArg (fun v => Ending.returned (.tuple #[.string v, .int .i64 0])) HR.out.symm, hW2⟩)

set_option maxRecDepth 100000 in
set_option maxHeartbeats 4000000 in
theorem rformat_pos (n : Bool) (s : ByteArray) (x : Int) (w : World) (hyes : decR ⟨n, tx s, x⟩ = true) (h0 : 0 ≤ x) (hk2 : ¬ 20 < x) :
    Calls Tryz.prog 8 #[.agg #[.bool n, .string s, .int .i64 x]] w fun e w' => e = .returned (.tuple #[.string (B ((if n then [45] else []) ++ fmtB ⟨n, tx s, x⟩)), .int .i64 0]) ∧ Below w.heap.size w w' := by
  have hbd := decR_bounds hyes
  rw [txs_len] at hbd
  obtain ⟨hs1, hs2, hx1, hx2⟩ := hbd
  change -100 ≤ x at hx1
  change x ≤ 100 at hx2
  have hright := fun W => rdecRight_calls n s x (by omega) W
  rw [hyes] at hright
  have hC := Cls.new w 23 [.bool n, .string s, .int .i64 x]
  have hA := below_alloc w (.cells #[.bool n, .string s, .int .i64 x] 23)
  have hl := txs_len s
  obtain ⟨c, rfl⟩ := Int.eq_ofNat_of_zero_le h0
  have hF : fmtB ⟨n, tx s, (c : Int)⟩ = tx s ++ List.replicate c 48 := by unfold fmtB; rw [if_pos (show (decide (-20 ≤ (c : Int)) && decide ((c : Int) ≤ 20)) = true by rw [Bool.and_eq_true, decide_eq_true_eq, decide_eq_true_eq]; omega), if_pos (show 0 ≤ (c : Int) by omega)]; rfl
  have hit := fun W => rzeros_calls c (by omega) (by omega) W
  obtain ⟨q, hq⟩ : ∃ q, B (List.replicate c (48 : UInt8)) = q := ⟨_, rfl⟩
  have hqx : tx q = List.replicate c 48 := by rw [← hq, tx_B]
  have hqs : q.size ≤ 100 := by rw [← txs_len, hqx, List.length_replicate]; omega
  change ∀ W, Calls _ _ _ _ fun e w' => e = .returned (.string (B (List.replicate c (48 : UInt8)))) ∧ _ at hit
  rw [hq] at hit
  obtain ⟨X, hX⟩ : ∃ X, s ++ q = X := ⟨_, rfl⟩
  have HR := hid (sgn_out n _ X (show tx X = fmtB ⟨n, tx s, (c : Int)⟩ by rw [hF, ← hX, tx_app, hqx]))
  have hXs : X.size ≤ 900 := by rw [← hX, size_app]; omega
  have h5 : ¬ (c : Int) < -20 := by omega
  clear hyes hl hF hq hqx
  cases n
  all_goals (
    go_enter Tryz.func8, Tryz.ntmps8
    go_wp2_with fail
    refine (hright _).mono ?_
    rintro e w1 ⟨rfl, hb1⟩
    have hC1 := hC.below hb1
    have hW1 := hA.trans (hb1.mono hA.size)
    have c0 := hC1.cell 0 rfl
    have c1 := hC1.cell 1 rfl
    have c2 := hC1.cell 2 rfl
    go_wp2_with fail
    refine (hit _).mono ?_
    rintro e w2 ⟨rfl, rfl⟩
    go_wp2
    go_ret2
    exact ⟨congrArg (fun v => Ending.returned (.tuple #[.string v, .int .i64 0])) HR.out.symm, hW1⟩)

set_option maxRecDepth 100000 in
set_option maxHeartbeats 4000000 in
theorem rformat_low (n : Bool) (s : ByteArray) (x : Int) (w : World) (hyes : decR ⟨n, tx s, x⟩ = true) (h0 : x < 0) (hk : ¬ x < -20) :
    Calls Tryz.prog 8 #[.agg #[.bool n, .string s, .int .i64 x]] w fun e w' => e = .returned (.tuple #[.string (B ((if n then [45] else []) ++ fmtB ⟨n, tx s, x⟩)), .int .i64 0]) ∧ Below w.heap.size w w' := by
  have hbd := decR_bounds hyes
  rw [txs_len] at hbd
  obtain ⟨hs1, hs2, hx1, hx2⟩ := hbd
  change -100 ≤ x at hx1
  change x ≤ 100 at hx2
  have hright := fun W => rdecRight_calls n s x (by omega) W
  rw [hyes] at hright
  have hC := Cls.new w 23 [.bool n, .string s, .int .i64 x]
  have hA := below_alloc w (.cells #[.bool n, .string s, .int .i64 x] 23)
  have hl := txs_len s
  obtain ⟨zz, hzz⟩ : ∃ zz : Int, 1 - x - (s.size : Int) = zz := ⟨_, rfl⟩
  have hit := fun W => rzeros_calls zz (by omega) (by omega) W
  obtain ⟨c, hc⟩ : ∃ c, zz.toNat = c := ⟨_, rfl⟩
  rw [hc] at hit
  obtain ⟨q, hq⟩ : ∃ q, B (List.replicate c (48 : UInt8)) = q := ⟨_, rfl⟩
  have hqx : tx q = List.replicate c 48 := by rw [← hq, tx_B]
  have hqs : q.size = c := by rw [← txs_len, hqx, List.length_replicate]
  rw [hq] at hit
  obtain ⟨s2, hs2'⟩ : ∃ s2, q ++ s = s2 := ⟨_, rfl⟩
  have hs2s : s2.size = c + s.size := by rw [← hs2', size_app, hqs]
  obtain ⟨m, hm⟩ : ∃ m : Nat, (s2.size : Int) + x = (m : Int) := ⟨((s2.size : Int) + x).toNat, by omega⟩
  have hms : m ≤ s2.size := by omega
  have hmi : (m : Int) ≤ (s2.size : Int) := by omega
  obtain ⟨X, hX⟩ : ∃ X, s2.extract 0 m ++ ⟨#[46]⟩ ++ s2.extract m s2.size = X := ⟨_, rfl⟩
  have hF : fmtB ⟨n, tx s, x⟩ = (tx s2).take m ++ [46] ++ (tx s2).drop m := by
    rw [← hs2', tx_app, hqx]
    unfold fmtB
    rw [if_pos (show (decide (-20 ≤ x) && decide (x ≤ 20)) = true by rw [Bool.and_eq_true, decide_eq_true_eq, decide_eq_true_eq]; omega), if_neg (show ¬ 0 ≤ x by omega)]
    by_cases h1 : 0 < (s.size : Int) + x
    · rw [if_pos (show 0 < ((tx s).length : Int) + x by rw [hl]; exact h1)]
      have hc0 : c = 0 := by omega
      have hme : (((tx s).length : Int) + x).toNat = m := by rw [hl]; omega
      show (tx s).take (((tx s).length : Int) + x).toNat ++ [46] ++ (tx s).drop (((tx s).length : Int) + x).toNat = _
      rw [hme, hc0]; rfl
    · rw [if_neg (show ¬ 0 < ((tx s).length : Int) + x by rw [hl]; exact h1)]
      have hm1 : m = 1 := by omega
      have hce : (-(((tx s).length : Int) + x)).toNat + 1 = c := by rw [hl]; omega
      show [48, 46] ++ List.replicate (-(((tx s).length : Int) + x)).toNat 48 ++ tx s = _
      rw [hm1, ← hce]; rfl
  have hx1' : tx (s2.extract 0 m) = (tx s2).take m := extract_take s2 m
  have hx2' : tx (s2.extract m s2.size) = (tx s2).drop m := by unfold tx; rw [Lib.extract_data, List.take_of_length_le (by rw [List.length_drop, len_str]; omega)]
  have HR := hid (sgn_out n _ X (show tx X = fmtB ⟨n, tx s, x⟩ by rw [hF, ← hX, tx_app, tx_app, hx1', hx2']; rfl))
  have hqs' : q.size ≤ 200 := by omega
  have hw1 : IntKind.i64.wrap (1 - x) = 1 - x := IntWalk.i64_in _ (by omega)
  have hw2 : IntKind.i64.wrap (1 - x - (s.size : Int)) = zz := by rw [hzz]; exact IntWalk.i64_in _ (by omega)
  have hw3 : IntKind.i64.wrap ((s2.size : Int) + x) = (m : Int) := by rw [hm]; exact IntWalk.i64_in _ (by omega)
  have h5 : ¬ (20 : Int) < x := by omega
  have h6 : ¬ 0 ≤ x := by omega
  have hs2b : s2.size ≤ 400 := by omega
  have hxb : (s2.extract 0 m).size ≤ 400 := by rw [← txs_len, hx1', List.length_take, txs_len]; omega
  have hxc : (s2.extract m s2.size).size ≤ 400 := by rw [← txs_len, hx2', List.length_drop, txs_len]; omega
  have hXs : X.size ≤ 900 := by rw [← hX, size_app, size_app]; have : (⟨#[46]⟩ : ByteArray).size = 1 := rfl; omega
  clear hyes hl hF hq hqx hc hs2s hx1' hx2' hqs
  cases n
  all_goals (
    go_enter Tryz.func8, Tryz.ntmps8
    go_wp2_with fail
    refine (hright _).mono ?_
    rintro e w1 ⟨rfl, hb1⟩
    have hC1 := hC.below hb1
    have hW1 := hA.trans (hb1.mono hA.size)
    have c0 := hC1.cell 0 rfl
    have c1 := hC1.cell 1 rfl
    have c2 := hC1.cell 2 rfl
    go_wp2_with fail
    refine (hit _).mono ?_
    rintro e w2 ⟨rfl, rfl⟩
    have HX := hid hX
    clear hX
    have hW1d := hW1.drew
    go_wp2
    go_region
    all_goals (
      go_wp2
      go_ret2
      exact ⟨by first | exact congrArg (fun v => Ending.returned (.tuple #[.string v, .int .i64 0])) HR.out.symm | (rw [← HX.out] at HR; exact congrArg (fun v => Ending.returned (.tuple #[.string v, .int .i64 0])) HR.out.symm), by first | exact hW1 | exact hW1d⟩))

theorem rFormat_calls (n : Bool) (s : ByteArray) (x : Int) (hs : s.size ≤ 140737488355328) (w : World) :
    Calls Tryz.prog 8 #[.agg #[.bool n, .string s, .int .i64 x]] w fun e w' => e = .returned (.tuple #[.string (B (fmtL ⟨n, tx s, x⟩)), .int .i64 (fmtE ⟨n, tx s, x⟩)]) ∧ Below w.heap.size w w' := by
  unfold fmtL fmtE
  cases h : decR ⟨n, tx s, x⟩ with
  | false => exact rformat_no n s x hs w h
  | true =>
    show Calls _ _ _ _ fun e w' => e = .returned (.tuple #[.string (B ((if n then [45] else []) ++ fmtB ⟨n, tx s, x⟩)), .int .i64 0]) ∧ _
    by_cases h1 : x < -20
    · exact rformat_expl n s x w h h1
    · by_cases h2 : 20 < x
      · exact rformat_expg n s x w h h1 h2
      · by_cases h0 : 0 ≤ x
        · exact rformat_pos n s x w h h0 h2
        · exact rformat_low n s x w h (by omega) h1

set_option maxRecDepth 100000 in
set_option maxHeartbeats 4000000 in
theorem rofInt_calls (neg : Bool) (n : Nat) (hn : n < 18446744073709551616) (w : World) :
    Calls Tryz.prog 17 #[.bool neg, .int .u64 n] w fun e w' => e = .returned (mk neg (Lib.decDigits n) 0).1.val ∧ Below w.heap.size w w' := by
  have hof := fun W => rOf_calls n hn W
  obtain ⟨q, hq⟩ : ∃ q : ByteArray, (⟨(Lib.decDigits n).toArray⟩ : ByteArray) = q := ⟨_, rfl⟩
  have hqx : tx q = Lib.decDigits n := by rw [← hq]; exact tx_B _
  have hqs : q.size ≤ 20 := by rw [← txs_len, hqx, Lib.decDigits_length]; exact rdig_lt 19 n (by omega)
  rw [hq] at hof
  have hmake := fun W => rMake_calls neg q 0 ⟨by omega, by omega⟩ (by omega) W
  rw [hqx] at hmake
  obtain ⟨dn, dd, dx, hd⟩ : ∃ dn dd dx, (mk neg (Lib.decDigits n) 0).1 = ⟨dn, dd, dx⟩ := ⟨_, _, _, rfl⟩
  obtain ⟨er, her⟩ : ∃ er, (mk neg (Lib.decDigits n) 0).2 = er := ⟨_, rfl⟩
  obtain ⟨ds, hds⟩ : ∃ ds, B dd = ds := ⟨_, rfl⟩
  rw [hd, her] at hmake
  have hmake' : ∀ W, Calls Tryz.prog 11 #[.bool neg, .string q, .int .i64 0] W fun e w' => e = .returned (.tuple #[.agg #[.bool dn, .string ds, .int .i64 dx], .int .i64 er]) ∧ Below W.heap.size W w' := by rw [← hds]; exact hmake
  have HR := hid (show (mk neg (Lib.decDigits n) 0).1.val = .agg #[.bool dn, .string ds, .int .i64 dx] by rw [hd, ← hds]; rfl)
  have hC := Cls.new w 23 [.bool false, .string ⟨#[]⟩, .int .i64 0]
  have hA := below_alloc w (.cells #[.bool false, .string ⟨#[]⟩, .int .i64 0] 23)
  clear hmake hd her hds hq hqx hn
  go_enter Tryz.func17, Tryz.ntmps17
  go_wp2_with fail
  refine (hof _).mono ?_
  rintro e w1 ⟨rfl, hb1⟩
  have hW1 := hA.trans (hb1.mono hA.size)
  have hC1 := hC.below hb1
  go_wp2_with fail
  refine (hmake' _).mono ?_
  rintro e w2 ⟨rfl, hb2⟩
  have hW2 := hW1.trans (hb2.mono hW1.size)
  have hC2 := hC1.below hb2
  have hlt : w.heap.size < w2.heap.size := hC2.lt
  have hE := Cls.new w2 23 [.bool dn, .string ds, .int .i64 dx]
  have c0 := hC2.cell 0 rfl
  have c1 := hC2.cell 1 rfl
  have c2 := hC2.cell 2 rfl
  have z0 := hC2.frozen 0
  have z1 := hC2.frozen 1
  have z2 := hC2.frozen 2
  have d0 := hE.cell 0 rfl
  have d1 := hE.cell 1 rfl
  have d2 := hE.cell 2 rfl
  go_wp2
  have hF := (((hC2.set 0 (.bool dn)).set 1 (.string ds)).set 2 (.int .i64 dx)).alloc (.cells #[.bool dn, .string ds, .int .i64 dx] 23)
  have f0 := hF.cell 0 rfl
  have f1 := hF.cell 1 rfl
  have f2 := hF.cell 2 rfl
  have hbG := ((hW2.setCell (p := ⟨w.heap.size, 0, none⟩) (Nat.le_refl _) (.bool dn)).setCell (p := ⟨w.heap.size, 1, none⟩) (Nat.le_refl _) (.string ds)).setCell (p := ⟨w.heap.size, 2, none⟩) (Nat.le_refl _) (.int .i64 dx)
  have hbF := hbG.alloc hbG.size (.cells #[.bool dn, .string ds, .int .i64 dx] 23)
  exact bodyPost_ret (v := .agg #[.bool dn, .string ds, .int .i64 dx]) (by simp [results, Tryz.results17, go_sem, f0, f1, f2]) rfl ⟨by rw [HR.out], hbF⟩

set_option maxRecDepth 100000 in
set_option maxHeartbeats 4000000 in
theorem rtoInt_calls (n : Bool) (s : ByteArray) (x : Int) (hs : s.size ≤ 140737488355328) (w : World) :
    Calls Tryz.prog 15 #[.agg #[.bool n, .string s, .int .i64 x]] w fun e w' => e = .returned (.tuple #[.bool (tiB ⟨n, tx s, x⟩ && n), .int .u64 (tiN ⟨n, tx s, x⟩), .bool (tiB ⟨n, tx s, x⟩)]) ∧ Below w.heap.size w w' := by
  have hC := Cls.new w 23 [.bool n, .string s, .int .i64 x]
  have hA := below_alloc w (.cells #[.bool n, .string s, .int .i64 x] 23)
  have hright := fun W => rdecRight_calls n s x hs W
  cases hG : tiG ⟨n, tx s, x⟩ with
  | false =>
    have HR := hid (show tiB ⟨n, tx s, x⟩ = false ∧ tiN ⟨n, tx s, x⟩ = 0 by unfold tiB tiN; rw [hG]; exact ⟨rfl, rfl⟩)
    cases hr : decR ⟨n, tx s, x⟩ with
    | false =>
      rw [hr] at hright
      clear hr hG
      go_enter Tryz.func15, Tryz.ntmps15
      go_wp2_with (go_at_call 13; refine (hright _).mono ?_; rintro e w1 ⟨rfl, hb1⟩)
      go_ret3
      exact ⟨by rw [HR.out.1, HR.out.2]; rfl, hA.trans (hb1.mono hA.size)⟩
    | true =>
      rw [hr] at hright
      have hcase : x < 0 ∨ (¬ x < 0 ∧ 20 < x) := by
        unfold tiG at hG
        rw [hr, Bool.true_and, Bool.and_eq_false_iff, decide_eq_false_iff_not, decide_eq_false_iff_not] at hG
        change ¬ 0 ≤ x ∨ ¬ x ≤ 20 at hG
        omega
      clear hr hG
      rcases hcase with h1 | ⟨h1, h2⟩
      all_goals (
        go_enter Tryz.func15, Tryz.ntmps15
        go_wp2_with (go_at_call 13; refine (hright _).mono ?_; rintro e w1 ⟨rfl, hb1⟩; have hC1 := hC.below hb1; have c2 := hC1.cell 2 rfl)
        go_ret3
        exact ⟨by rw [HR.out.1, HR.out.2]; rfl, hA.trans (hb1.mono hA.size)⟩)
  | true =>
    have hG' := hG
    unfold tiG at hG'
    rw [Bool.and_eq_true, Bool.and_eq_true, decide_eq_true_eq, decide_eq_true_eq] at hG'
    obtain ⟨hr, hx0, hx2⟩ := hG'
    change 0 ≤ x at hx0
    change x ≤ 20 at hx2
    rw [hr] at hright
    have hbd := (decR_bounds hr).1
    rw [txs_len] at hbd
    obtain ⟨c, rfl⟩ := Int.eq_ofNat_of_zero_le hx0
    have hit := fun W => rzeros_calls c (by omega) (by omega) W
    obtain ⟨q, hq⟩ : ∃ q, B (List.replicate c (48 : UInt8)) = q := ⟨_, rfl⟩
    have hqs : q.size ≤ 20 := by rw [← hq, size_B, List.length_replicate]; omega
    change ∀ W, Calls _ _ _ _ fun e w' => e = .returned (.string (B (List.replicate c (48 : UInt8)))) ∧ _ at hit
    rw [hq] at hit
    have hsq : tiT ⟨n, tx s, (c : Int)⟩ = s ++ q := by
      rw [← B_tx (s ++ q), tx_app, ← hq, tx_B]; rfl
    have hsqs : (s ++ q).size ≤ 120 := by rw [size_app]; omega
    have hto := fun W => rTo_calls (s ++ q) (by omega) W
    have hB : tiB ⟨n, tx s, (c : Int)⟩ = toB (s ++ q) := by unfold tiB; rw [hG, hsq]; rfl
    have hN : tiN ⟨n, tx s, (c : Int)⟩ = toN (s ++ q) := by unfold tiN; rw [hG, hsq]; rfl
    obtain ⟨tb, htb⟩ : ∃ tb, toB (s ++ q) = tb := ⟨_, rfl⟩
    obtain ⟨tn, htn⟩ : ∃ tn, toN (s ++ q) = tn := ⟨_, rfl⟩
    rw [htb, htn] at hto
    rw [htb] at hB
    rw [htn] at hN
    have HR := hid (And.intro hB hN)
    have HZ := hid (show tb = false → tn = 0 by rw [← htb, ← htn]; unfold toB toN; intro e; rw [e]; rfl)
    have hl1 := hC.lt
    have h1 : ¬ (c : Int) < 0 := by omega
    have h2 : ¬ (20 : Int) < (c : Int) := by omega
    clear hr hG hq hsq hB hN htb htn hsqs
    cases tb
    all_goals (
      go_enter Tryz.func15, Tryz.ntmps15
      go_wp2_with fail
      refine (hright _).mono ?_
      rintro e w1 ⟨rfl, hb1⟩
      have hC1 := hC.below hb1
      have hW1 := hA.trans (hb1.mono hA.size)
      have c0 := hC1.cell 0 rfl
      have c1 := hC1.cell 1 rfl
      have c2 := hC1.cell 2 rfl
      go_wp2
      go_region_with (first
        | (go_at_call 26; refine (hit _).mono ?_; rintro e w4 ⟨rfl, rfl⟩)
        | (go_at_call 38; refine (hto _).mono ?_; rintro e w5 ⟨rfl, hb5⟩; have hC5 : Cls w5 w.heap.size 23 _ := (hb5.block w.heap.size hC1.lt).trans hC1; have k0 := hC5.cell 0 rfl))
      all_goals (
        go_wp2
        go_ret3
        exact ⟨by first | (rw [HR.out.1, HR.out.2, HZ.out (by trivial)]; rfl) | (rw [HR.out.1, HR.out.2]; rfl), hW1.drew.trans (hb5.mono hW1.drew.size)⟩))
end Go.Proofs.YtnomgomdobiohaaGreatDoor
