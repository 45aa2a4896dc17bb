/- Package dec: zero, within, isDigit, Right: walked. -/
import Derived.Test.YtbopikeoaokdpaaDoorStd
import Derived.Test.YtbopikeoaokdpaaDoorRefB
import Derived.Test.YtbopikeoaokdpaaDoorRange
import Derived.Laws.StructEq
import Derived.Deep.RegionWith
namespace Go.Proofs.YtbopikeoaokdpaaDoor
open Go.RowKit
attribute [local go_sem] Oper.semAt_some

/-- a decimal: whether it is below 0, its digits, its exponent. -/
structure D where
  neg : Bool
  dg : List UInt8
  ex : Int
theorem D.ext' {a b : D} (h1 : a.neg = b.neg) (h2 : a.dg = b.dg) (h3 : a.ex = b.ex) : a = b := by
  cases a; cases b; simp_all
def DV (n : Bool) (s : ByteArray) (x : Int) : Value := .agg #[.bool n, .string s, .int .i64 x]
def D.val (d : D) : Value := DV d.neg (B d.dg) d.ex

theorem zero_calls (w : World) : Calls Tryd.prog 32 #[] w fun e w' => e = .returned (.agg #[.bool false, .string ⟨#[48]⟩, .int .i64 0]) ∧ Below w.heap.size w w' := by
  go_enter Tryd.func32, Tryd.ntmps32
  go_wp2
  exact bodyPost_ret (v := .agg #[.bool false, .string ⟨#[48]⟩, .int .i64 0]) (by simp [results, Tryd.results32, go_sem]) rfl ⟨rfl, below_alloc _ _⟩

theorem within_calls (n m : Int) (h0 : 0 ≤ m) (h1 : m ≤ 1000) (w : World) :
    Calls Tryd.prog 27 #[.int .i64 n, .int .i64 m] w fun e w' => e = .returned (.bool (decide (-m ≤ n) && decide (n ≤ m))) ∧ w' = w := by
  by_cases h : -m ≤ n
  · by_cases h2 : n ≤ m
    · have HR := hid (show (decide (-m ≤ n) && decide (n ≤ m)) = true by rw [decide_eq_true h, decide_eq_true h2]; rfl)
      have hd : decide (n ≤ m) = true := decide_eq_true h2
      go_enter Tryd.func27, Tryd.ntmps27
      go_wp2
      go_ret
      exact ⟨ret_bool HR.out.symm, rfl⟩
    · have HR := hid (show (decide (-m ≤ n) && decide (n ≤ m)) = false by rw [decide_eq_true h, decide_eq_false h2]; rfl)
      have h3 : m < n := by omega
      have hd : decide (n ≤ m) = false := decide_eq_false h2
      clear h2
      go_enter Tryd.func27, Tryd.ntmps27
      go_wp2
      go_ret
      exact ⟨ret_bool HR.out.symm, rfl⟩
  · have HR := hid (show (decide (-m ≤ n) && decide (n ≤ m)) = false by rw [decide_eq_false h]; rfl)
    have h3 : n < -m := by omega
    clear h
    go_enter Tryd.func27, Tryd.ntmps27
    go_wp2
    go_ret
    exact ⟨ret_bool HR.out.symm, rfl⟩

/-- is a rune a digit? -/
def dgN (x : Nat) : Bool := decide (48 ≤ x) && decide (x ≤ 57)
theorem isDigit_calls (x : Nat) (hx : x ≤ 1114111) (w : World) :
    Calls Tryd.prog 36 #[.int .i32 x] w fun e w' => e = .returned (.bool (dgN x)) ∧ w' = w := by
  have hc : (48 ≤ x ∧ decide ((x : Int) ≤ 57) = true ∧ dgN x = true) ∨ (x < 48 ∧ dgN x = false) ∨ (48 ≤ x ∧ decide ((x : Int) ≤ 57) = false ∧ dgN x = false) := by
    unfold dgN
    by_cases h : 48 ≤ x
    · by_cases h2 : x ≤ 57
      · exact .inl ⟨h, decide_eq_true (by omega), by rw [decide_eq_true h, decide_eq_true h2]; rfl⟩
      · exact .inr (.inr ⟨h, decide_eq_false (by omega), by rw [decide_eq_true h, decide_eq_false h2]; rfl⟩)
    · exact .inr (.inl ⟨by omega, by rw [decide_eq_false h]; rfl⟩)
  rcases hc with ⟨h1, h2, h3⟩ | ⟨h1, h3⟩ | ⟨h1, h2, h3⟩
  all_goals (
    have HR := hid h3
    clear h3
    go_enter Tryd.func36, Tryd.ntmps36
    go_wp2
    go_ret
    exact ⟨ret_bool HR.out.symm, rfl⟩)
theorem other_calls (x : Nat) (hx : x ≤ 1114111) (w : World) :
    Calls Tryd.prog 35 #[.int .i32 x] w fun e w' => e = .returned (.bool (!dgN x)) ∧ w' = w := by
  have hc := isDigit_calls x hx w
  obtain ⟨b, hb⟩ : ∃ b, dgN x = b := ⟨_, rfl⟩
  rw [hb] at hc ⊢
  clear hb
  go_enter Tryd.func35, Tryd.ntmps35
  go_wp2_with (go_at_call 36; refine hc.mono ?_; rintro e w1 ⟨rfl, rfl⟩)
  go_ret
  exact ⟨rfl, rfl⟩

theorem eqD (n n' : Bool) (s s' : ByteArray) (x x' : Int) (w : World) :
    (binOp .eql 24 (.agg #[.bool n, .string s, .int .i64 x]) (.agg #[.bool n', .string s', .int .i64 x'])).run Tryd.prog w = .ok (.bool (n == n' && (s.toList == s'.toList && x == x'))) w := by
  have hS : Tryd.prog.underlying 24 = some (.struct (Tryd.prog.fieldsOf 24)) := by kernel_rfl
  have hp : Tryd.prog.stoodInHeld 24 = false := by kernel_rfl
  rw [run_eql_struct, show (10000 : Nat) = 9999 + 1 from rfl, run_equalIn_agg w 9999 24 _ _ hS hp]
  simp only [Program.fieldsOf, Tryd.underlying24]
  have u1 := Tryd.underlying4
  have u2 := Tryd.underlying9
  have u3 := Tryd.underlying3
  have a1 := Tryd.isAgg4
  have a2 := Tryd.isAgg9
  have a3 := Tryd.isAgg3
  have z1 := Tryd.sizeOf4
  have z2 := Tryd.sizeOf9
  have z3 := Tryd.sizeOf3
  go_simp
  by_cases h1 : n = n' <;> by_cases h2 : (s.toList == s'.toList) = true <;> by_cases h3 : x = x' <;> simp_all

theorem guardD : Tryd.prog.eqGuardType Tryd.prog.depth 24 = false := by kernel_rfl

/-- which decimals are right. -/
def decR (d : D) : Bool := if d.dg = [48] then decide (d.ex = 0) && !d.neg else isRt d.dg && (decide (d.dg.length ≤ 100) && (decide (-100 ≤ d.ex) && decide (d.ex ≤ 100) && !(d.dg.getLast? == some 48)))

theorem suffix_last (l : List UInt8) (h : l ≠ []) : Lib.hasSuffix l [48] = (l.getLast? == some 48) := by
  unfold Lib.hasSuffix
  obtain ⟨r, c, rfl⟩ : ∃ r c, l = r ++ [c] := ⟨l.dropLast, l.getLast h, (List.dropLast_concat_getLast h).symm⟩
  rw [List.getLast?_concat, Bool.eq_iff_iff, List.isSuffixOf_iff_suffix, beq_iff_eq]
  constructor
  · rintro ⟨q, hq⟩
    have := congrArg List.getLast? hq
    rw [List.getLast?_concat, List.getLast?_concat] at this
    exact this.symm
  · intro e
    exact ⟨r, by rw [Option.some.inj e]⟩

theorem decR_other (n : Bool) (s : ByteArray) (x : Int) (hz : (n == false && (s.toList == (⟨#[48]⟩ : ByteArray).toList && x == 0)) = false) :
    decR ⟨n, tx s, x⟩ = (isRt (tx s) && (decide ((tx s).length ≤ 100) && (decide (-100 ≤ x) && decide (x ≤ 100) && !((tx s).getLast? == some 48)))) := by
  unfold decR
  by_cases h : tx s = [48]
  · rw [if_pos h]
    have h2 : (decide (x = 0) && !n) = false := by
      cases e : (decide (x = 0) && !n) with
      | false => rfl
      | true =>
        rw [Bool.and_eq_true, decide_eq_true_eq, Bool.not_eq_true'] at e
        obtain ⟨rfl, rfl⟩ := e
        rw [Lib.toList_data, Lib.toList_data, show s.data.toList = [48] from h] at hz
        exact absurd hz (by decide)
    rw [h2, h]
    simp
  · rw [if_neg h]

set_option maxRecDepth 100000 in
set_option maxHeartbeats 4000000 in
theorem decRight_calls (n : Bool) (s : ByteArray) (x : Int) (hs : s.size ≤ 140737488355328) (w : World) :
    Calls Tryd.prog 14 #[.agg #[.bool n, .string s, .int .i64 x]] w fun e w' => e = .returned (.bool (decR ⟨n, tx s, x⟩)) ∧ Below w.heap.size w w' := by
  have heq := eqD n false s ⟨#[48]⟩ x 0
  have hg := guardD
  have hC := Cls.new w 24 [.bool n, .string s, .int .i64 x]
  have hCl := hC.lt
  have hA := (below_alloc w (.cells #[.bool n, .string s, .int .i64 x] 24)).drew
  by_cases hz : (n == false && (s.toList == (⟨#[48]⟩ : ByteArray).toList && x == 0)) = true
  · have HR := hid (show decR ⟨n, tx s, x⟩ = true by
      rw [Bool.and_eq_true, Bool.and_eq_true, beq_iff_eq, beq_iff_eq, beq_iff_eq] at hz
      obtain ⟨rfl, h2, rfl⟩ := hz
      rw [Lib.toList_data, Lib.toList_data] at h2
      unfold decR
      rw [if_pos (show tx s = [48] from h2)]; rfl)
    rw [hz] at heq
    clear hz
    go_enter Tryd.func14, Tryd.ntmps14
    go_wp2
    go_region_with (go_at_call 32; refine (zero_calls _).mono ?_; rintro e w1 ⟨rfl, hb⟩; have hC1 : Cls w1 w.heap.size 24 [.bool n, .string s, .int .i64 x] := (hb.block w.heap.size hCl).trans hC; have c0 := hC1.cell 0 rfl; have c1 := hC1.cell 1 rfl; have c2 := hC1.cell 2 rfl)
    all_goals (
      go_wp2
      go_ret
      exact ⟨ret_bool HR.out.symm, hA.trans (hb.mono hA.size)⟩)
  · rw [Bool.not_eq_true] at hz
    have hR := decR_other n s x hz
    rw [hz] at heq
    clear hz
    have hlen := txs_len s
    cases h1 : isRt (tx s) with
    | false =>
      have HR := hid (show decR ⟨n, tx s, x⟩ = false by rw [hR, h1]; rfl)
      have hright := fun W => right_calls s W hs
      change ∀ W, Calls _ _ _ _ fun e w' => e = .returned (.bool (isRt (tx s))) ∧ _ at hright
      rw [h1] at hright
      clear hR hlen h1
      go_enter Tryd.func14, Tryd.ntmps14
      go_wp2
      go_region_with (go_at_call 32; refine (zero_calls _).mono ?_; rintro e w1 ⟨rfl, hb⟩; have hC1 : Cls w1 w.heap.size 24 [.bool n, .string s, .int .i64 x] := (hb.block w.heap.size hCl).trans hC; have c0 := hC1.cell 0 rfl; have c1 := hC1.cell 1 rfl; have c2 := hC1.cell 2 rfl)
      all_goals (
        go_wp2_with (go_at_call 33; refine (hright _).mono ?_; rintro e w2 ⟨rfl, hb2⟩)
        go_ret
        exact ⟨ret_bool HR.out.symm, hA.trans ((hb.mono hA.size).trans (hb2.mono (Nat.le_trans hA.size hb.size)))⟩)
    | true =>
      have hright := fun W => right_calls s W hs
      change ∀ W, Calls _ _ _ _ fun e w' => e = .returned (.bool (isRt (tx s))) ∧ _ at hright
      rw [h1] at hright
      have hw := fun W => within_calls x 100 (by omega) (by omega) W
      have hsf := fun W => Tryd.strings_HasSuffix s ⟨#[48]⟩ W (by omega)
      have hsx : Lib.hasSuffix s.data.toList [48] = ((tx s).getLast? == some 48) := suffix_last _ (by intro e; have := (rt_len h1).1; rw [show s.data.toList = tx s from rfl] at e; rw [e] at this; simp at this)
      change ∀ W, Calls _ _ _ _ fun e w' => e = .returned (.bool (Lib.hasSuffix s.data.toList [48])) ∧ _ at hsf
      rw [hsx] at hsf
      rw [h1, hlen, Bool.true_and] at hR
      obtain ⟨bw, hbw⟩ : ∃ bw, (decide (-(100 : Int) ≤ x) && decide (x ≤ 100)) = bw := ⟨_, rfl⟩
      rw [hbw] at hw
      change decR _ = (decide (s.size ≤ 100) && ((decide (-(100 : Int) ≤ x) && decide (x ≤ 100)) && _)) at hR
      rw [hbw] at hR
      obtain ⟨bs, hbs⟩ : ∃ bs, ((tx s).getLast? == some 48) = bs := ⟨_, rfl⟩
      rw [hbs] at hsf hR
      by_cases h3 : s.size ≤ 100
      · rw [decide_eq_true h3, Bool.true_and] at hR
        have h3i : decide ((s.size : Int) ≤ 100) = true := decide_eq_true (by omega)
        have HR := hid hR
        clear hR hlen h1 hsx hbw hbs h3
        cases bw with
        | false =>
          go_enter Tryd.func14, Tryd.ntmps14
          go_wp2
          go_region_with (go_at_call 32; refine (zero_calls _).mono ?_; rintro e w1 ⟨rfl, hb⟩; have hC1 : Cls w1 w.heap.size 24 [.bool n, .string s, .int .i64 x] := (hb.block w.heap.size hCl).trans hC; have c0 := hC1.cell 0 rfl; have c1 := hC1.cell 1 rfl; have c2 := hC1.cell 2 rfl)
          all_goals (
            go_wp2_with (first
              | (go_at_call 33; refine (hright _).mono ?_; rintro e w2 ⟨rfl, hb2⟩; have hC2 : Cls w2 w.heap.size 24 [.bool n, .string s, .int .i64 x] := (hb2.block w.heap.size hC1.lt).trans hC1; have d1 := hC2.cell 1 rfl; have d2 := hC2.cell 2 rfl)
              | (go_at_call 27; refine (hw _).mono ?_; rintro e w3 ⟨rfl, rfl⟩))
            go_ret
            exact ⟨ret_bool HR.out.symm, hA.trans ((hb.mono hA.size).trans (hb2.mono (Nat.le_trans hA.size hb.size)))⟩)
        | true =>
          go_enter Tryd.func14, Tryd.ntmps14
          go_wp2
          go_region_with (go_at_call 32; refine (zero_calls _).mono ?_; rintro e w1 ⟨rfl, hb⟩; have hC1 : Cls w1 w.heap.size 24 [.bool n, .string s, .int .i64 x] := (hb.block w.heap.size hCl).trans hC; have c0 := hC1.cell 0 rfl; have c1 := hC1.cell 1 rfl; have c2 := hC1.cell 2 rfl)
          all_goals (
            go_wp2_with (first
              | (go_at_call 33; refine (hright _).mono ?_; rintro e w2 ⟨rfl, hb2⟩; have hC2 : Cls w2 w.heap.size 24 [.bool n, .string s, .int .i64 x] := (hb2.block w.heap.size hC1.lt).trans hC1; have d1 := hC2.cell 1 rfl; have d2 := hC2.cell 2 rfl)
              | (go_at_call 27; refine (hw _).mono ?_; rintro e w3 ⟨rfl, rfl⟩)
              | (go_at_call 34; refine (hsf _).mono ?_; rintro e w3 ⟨rfl, rfl⟩))
            go_ret
            exact ⟨ret_bool HR.out.symm, hA.trans ((hb.mono hA.size).trans (hb2.mono (Nat.le_trans hA.size hb.size)))⟩)
      · rw [decide_eq_false h3] at hR
        have h3i : decide ((s.size : Int) ≤ 100) = false := decide_eq_false (by omega)
        have HR := hid hR
        clear hR hlen h1 hsx hbw hbs h3
        go_enter Tryd.func14, Tryd.ntmps14
        go_wp2
        go_region_with (go_at_call 32; refine (zero_calls _).mono ?_; rintro e w1 ⟨rfl, hb⟩; have hC1 : Cls w1 w.heap.size 24 [.bool n, .string s, .int .i64 x] := (hb.block w.heap.size hCl).trans hC; have c0 := hC1.cell 0 rfl; have c1 := hC1.cell 1 rfl; have c2 := hC1.cell 2 rfl)
        all_goals (
          go_wp2_with (go_at_call 33; refine (hright _).mono ?_; rintro e w2 ⟨rfl, hb2⟩; have hC2 : Cls w2 w.heap.size 24 [.bool n, .string s, .int .i64 x] := (hb2.block w.heap.size hC1.lt).trans hC1; have d1 := hC2.cell 1 rfl; have d2 := hC2.cell 2 rfl)
          go_ret
          exact ⟨ret_bool HR.out.symm, hA.trans ((hb.mono hA.size).trans (hb2.mono (Nat.le_trans hA.size hb.size)))⟩)
end Go.Proofs.YtbopikeoaokdpaaDoor
