/- Package dec: zero, within, isDigit, Right: walked. -/
import Derived.Test.YtfobaeoccpebeaaGreatDoorMA
import Derived.Laws.StructEq
import Derived.Deep.RegionWith
import Derived.Shelf.GgClosure.StringsIndexFunc
import Derived.WalkMore
import Derived.ScopeJumps
import Derived.Lib.OthersKept
import Derived.Lib.TrimU
import Derived.StillTailTactics
import Derived.RangeFuncNested
import Derived.RangeFuncBound
import Derived.RangeFuncCalls
import Derived.RangeFuncLeaves
import Derived.Shelf.Abstract
import Derived.Shelf.RegionOpen
import Derived.OwnWalkIn
import Derived.TacticsInMore
import Derived.LoopNIn
import Derived.LoopIn
import Derived.Maps.AppendAt
import Derived.Lib.SmallJoins
import Derived.RegionTactic
import Derived.BigRegion
namespace Go.Proofs.YtfobaeoccpebeaaGreatDoor
open Go.RowKit
attribute [local go_sem] Oper.semAt_some

/-- a decimal: whether it is below 0, its digits, its exponent. -/
structure D where
  neg : Bool
  dg : List UInt8
  ex : Int
theorem D.ext' {a b : D} (h1 : a.neg = b.neg) (h2 : a.dg = b.dg) (h3 : a.ex = b.ex) : a = b := by
  cases a; cases b; simp_all
def DV (n : Bool) (s : ByteArray) (x : Int) : Value := .agg #[.bool n, .string s, .int .i64 x]
def D.val (d : D) : Value := DV d.neg (B d.dg) d.ex

theorem zero_calls (w : World) : Calls Tryz.prog 47 #[] w fun e w' => e = .returned (.agg #[.bool false, .string ⟨#[48]⟩, .int .i64 0]) ∧ Below w.heap.size w w' := by
  go_enter Tryz.func47, Tryz.ntmps47
  go_wp2
  exact bodyPost_ret (v := .agg #[.bool false, .string ⟨#[48]⟩, .int .i64 0]) (by simp [results, Tryz.results47, go_sem]) rfl ⟨rfl, below_alloc _ _⟩

theorem within_calls (n m : Int) (h0 : 0 ≤ m) (h1 : m ≤ 1000) (w : World) :
    Calls Tryz.prog 49 #[.int .i64 n, .int .i64 m] w fun e w' => e = .returned (.bool (decide (-m ≤ n) && decide (n ≤ m))) ∧ w' = w := by
  by_cases h : -m ≤ n
  · by_cases h2 : n ≤ m
    · have HR := hid (show (decide (-m ≤ n) && decide (n ≤ m)) = true by rw [decide_eq_true h, decide_eq_true h2]; rfl)
      have hd : decide (n ≤ m) = true := decide_eq_true h2
      go_enter Tryz.func49, Tryz.ntmps49
      go_wp2
      go_ret
      exact ⟨ret_bool HR.out.symm, rfl⟩
    · have HR := hid (show (decide (-m ≤ n) && decide (n ≤ m)) = false by rw [decide_eq_true h, decide_eq_false h2]; rfl)
      have h3 : m < n := by omega
      have hd : decide (n ≤ m) = false := decide_eq_false h2
      clear h2
      go_enter Tryz.func49, Tryz.ntmps49
      go_wp2
      go_ret
      exact ⟨ret_bool HR.out.symm, rfl⟩
  · have HR := hid (show (decide (-m ≤ n) && decide (n ≤ m)) = false by rw [decide_eq_false h]; rfl)
    have h3 : n < -m := by omega
    clear h
    go_enter Tryz.func49, Tryz.ntmps49
    go_wp2
    go_ret
    exact ⟨ret_bool HR.out.symm, rfl⟩

/-- is a rune a digit? -/
def dgN (x : Nat) : Bool := decide (48 ≤ x) && decide (x ≤ 57)
theorem isDigit_calls (x : Nat) (hx : x ≤ 1114111) (w : World) :
    Calls Tryz.prog 55 #[.int .i32 x] w fun e w' => e = .returned (.bool (dgN x)) ∧ w' = w := by
  have hc : (48 ≤ x ∧ decide ((x : Int) ≤ 57) = true ∧ dgN x = true) ∨ (x < 48 ∧ dgN x = false) ∨ (48 ≤ x ∧ decide ((x : Int) ≤ 57) = false ∧ dgN x = false) := by
    unfold dgN
    by_cases h : 48 ≤ x
    · by_cases h2 : x ≤ 57
      · exact .inl ⟨h, decide_eq_true (by omega), by rw [decide_eq_true h, decide_eq_true h2]; rfl⟩
      · exact .inr (.inr ⟨h, decide_eq_false (by omega), by rw [decide_eq_true h, decide_eq_false h2]; rfl⟩)
    · exact .inr (.inl ⟨by omega, by rw [decide_eq_false h]; rfl⟩)
  rcases hc with ⟨h1, h2, h3⟩ | ⟨h1, h3⟩ | ⟨h1, h2, h3⟩
  all_goals (
    have HR := hid h3
    clear h3
    go_enter Tryz.func55, Tryz.ntmps55
    go_wp2
    go_ret
    exact ⟨ret_bool HR.out.symm, rfl⟩)
theorem other_calls (x : Nat) (hx : x ≤ 1114111) (w : World) :
    Calls Tryz.prog 54 #[.int .i32 x] w fun e w' => e = .returned (.bool (!dgN x)) ∧ w' = w := by
  have hc := isDigit_calls x hx w
  obtain ⟨b, hb⟩ : ∃ b, dgN x = b := ⟨_, rfl⟩
  rw [hb] at hc ⊢
  clear hb
  go_enter Tryz.func54, Tryz.ntmps54
  go_wp2_with (go_at_call 55; refine hc.mono ?_; rintro e w1 ⟨rfl, rfl⟩)
  go_ret
  exact ⟨rfl, rfl⟩

theorem eqD (n n' : Bool) (s s' : ByteArray) (x x' : Int) (w : World) :
    (binOp .eql 25 (.agg #[.bool n, .string s, .int .i64 x]) (.agg #[.bool n', .string s', .int .i64 x'])).run Tryz.prog w = .ok (.bool (n == n' && (s.toList == s'.toList && x == x'))) w := by
  have hS : Tryz.prog.underlying 25 = some (.struct (Tryz.prog.fieldsOf 25)) := by kernel_rfl
  have hp : Tryz.prog.stoodInHeld 25 = false := by kernel_rfl
  rw [run_eql_struct, show (10000 : Nat) = 9999 + 1 from rfl, run_equalIn_agg w 9999 25 _ _ hS hp]
  simp only [Program.fieldsOf, Tryz.underlying25]
  have u1 := Tryz.underlying4
  have u2 := Tryz.underlying9
  have u3 := Tryz.underlying3
  have a1 := Tryz.isAgg4
  have a2 := Tryz.isAgg9
  have a3 := Tryz.isAgg3
  have z1 := Tryz.sizeOf4
  have z2 := Tryz.sizeOf9
  have z3 := Tryz.sizeOf3
  go_simp
  by_cases h1 : n = n' <;> by_cases h2 : (s.toList == s'.toList) = true <;> by_cases h3 : x = x' <;> simp_all

theorem guardD : Tryz.prog.eqGuardType Tryz.prog.depth 25 = false := by kernel_rfl

/-- which decimals are right. -/
def decR (d : D) : Bool := if d.dg = [48] then decide (d.ex = 0) && !d.neg else isRt d.dg && (decide (d.dg.length ≤ 100) && (decide (-100 ≤ d.ex) && decide (d.ex ≤ 100) && !(d.dg.getLast? == some 48)))

theorem suffix_last (l : List UInt8) (h : l ≠ []) : Lib.hasSuffix l [48] = (l.getLast? == some 48) := by
  unfold Lib.hasSuffix
  obtain ⟨r, c, rfl⟩ : ∃ r c, l = r ++ [c] := ⟨l.dropLast, l.getLast h, (List.dropLast_concat_getLast h).symm⟩
  rw [List.getLast?_concat, Bool.eq_iff_iff, List.isSuffixOf_iff_suffix, beq_iff_eq]
  constructor
  · rintro ⟨q, hq⟩
    have := congrArg List.getLast? hq
    rw [List.getLast?_concat, List.getLast?_concat] at this
    exact this.symm
  · intro e
    exact ⟨r, by rw [Option.some.inj e]⟩

theorem decR_other (n : Bool) (s : ByteArray) (x : Int) (hz : (n == false && (s.toList == (⟨#[48]⟩ : ByteArray).toList && x == 0)) = false) :
    decR ⟨n, tx s, x⟩ = (isRt (tx s) && (decide ((tx s).length ≤ 100) && (decide (-100 ≤ x) && decide (x ≤ 100) && !((tx s).getLast? == some 48)))) := by
  unfold decR
  by_cases h : tx s = [48]
  · rw [if_pos h]
    have h2 : (decide (x = 0) && !n) = false := by
      cases e : (decide (x = 0) && !n) with
      | false => rfl
      | true =>
        rw [Bool.and_eq_true, decide_eq_true_eq, Bool.not_eq_true'] at e
        obtain ⟨rfl, rfl⟩ := e
        rw [Lib.toList_data, Lib.toList_data, show s.data.toList = [48] from h] at hz
        exact absurd hz (by decide)
    rw [h2, h]
    simp
  · rw [if_neg h]

set_option maxRecDepth 100000 in
set_option maxHeartbeats 4000000 in
theorem decRight_calls (n : Bool) (s : ByteArray) (x : Int) (hs : s.size ≤ 140737488355328) (w : World) :
    Calls Tryz.prog 16 #[.agg #[.bool n, .string s, .int .i64 x]] w fun e w' => e = .returned (.bool (decR ⟨n, tx s, x⟩)) ∧ Below w.heap.size w w' := by
  have heq := eqD n false s ⟨#[48]⟩ x 0
  have hg := guardD
  have hC := Cls.new w 25 [.bool n, .string s, .int .i64 x]
  have hCl := hC.lt
  have hA := (below_alloc w (.cells #[.bool n, .string s, .int .i64 x] 25)).drew
  by_cases hz : (n == false && (s.toList == (⟨#[48]⟩ : ByteArray).toList && x == 0)) = true
  · have HR := hid (show decR ⟨n, tx s, x⟩ = true by
      rw [Bool.and_eq_true, Bool.and_eq_true, beq_iff_eq, beq_iff_eq, beq_iff_eq] at hz
      obtain ⟨rfl, h2, rfl⟩ := hz
      rw [Lib.toList_data, Lib.toList_data] at h2
      unfold decR
      rw [if_pos (show tx s = [48] from h2)]; rfl)
    rw [hz] at heq
    clear hz
    go_enter Tryz.func16, Tryz.ntmps16
    go_wp2
    go_region_with (go_at_call 47; refine (zero_calls _).mono ?_; rintro e w1 ⟨rfl, hb⟩; have hC1 : Cls w1 w.heap.size 25 [.bool n, .string s, .int .i64 x] := (hb.block w.heap.size hCl).trans hC; have c0 := hC1.cell 0 rfl; have c1 := hC1.cell 1 rfl; have c2 := hC1.cell 2 rfl)
    all_goals (
      go_wp2
      go_ret
      exact ⟨ret_bool HR.out.symm, hA.trans (hb.mono hA.size)⟩)
  · rw [Bool.not_eq_true] at hz
    have hR := decR_other n s x hz
    rw [hz] at heq
    clear hz
    have hlen := txs_len s
    cases h1 : isRt (tx s) with
    | false =>
      have HR := hid (show decR ⟨n, tx s, x⟩ = false by rw [hR, h1]; rfl)
      have hright := fun W => right_calls s W hs
      change ∀ W, Calls _ _ _ _ fun e w' => e = .returned (.bool (isRt (tx s))) ∧ _ at hright
      rw [h1] at hright
      clear hR hlen h1
      go_enter Tryz.func16, Tryz.ntmps16
      go_wp2
      go_region_with (go_at_call 47; refine (zero_calls _).mono ?_; rintro e w1 ⟨rfl, hb⟩; have hC1 : Cls w1 w.heap.size 25 [.bool n, .string s, .int .i64 x] := (hb.block w.heap.size hCl).trans hC; have c0 := hC1.cell 0 rfl; have c1 := hC1.cell 1 rfl; have c2 := hC1.cell 2 rfl)
      all_goals (
        go_wp2_with (go_at_call 48; refine (hright _).mono ?_; rintro e w2 ⟨rfl, hb2⟩)
        go_ret
        exact ⟨ret_bool HR.out.symm, hA.trans ((hb.mono hA.size).trans (hb2.mono (Nat.le_trans hA.size hb.size)))⟩)
    | true =>
      have hright := fun W => right_calls s W hs
      change ∀ W, Calls _ _ _ _ fun e w' => e = .returned (.bool (isRt (tx s))) ∧ _ at hright
      rw [h1] at hright
      have hw := fun W => within_calls x 100 (by omega) (by omega) W
      have hsf := fun W => Tryz.strings_HasSuffix s ⟨#[48]⟩ W (by omega)
      have hsx : Lib.hasSuffix s.data.toList [48] = ((tx s).getLast? == some 48) := suffix_last _ (by intro e; have := (rt_len h1).1; rw [show s.data.toList = tx s from rfl] at e; rw [e] at this; simp at this)
      change ∀ W, Calls _ _ _ _ fun e w' => e = .returned (.bool (Lib.hasSuffix s.data.toList [48])) ∧ _ at hsf
      rw [hsx] at hsf
      rw [h1, hlen, Bool.true_and] at hR
      obtain ⟨bw, hbw⟩ : ∃ bw, (decide (-(100 : Int) ≤ x) && decide (x ≤ 100)) = bw := ⟨_, rfl⟩
      rw [hbw] at hw
      change decR _ = (decide (s.size ≤ 100) && ((decide (-(100 : Int) ≤ x) && decide (x ≤ 100)) && _)) at hR
      rw [hbw] at hR
      obtain ⟨bs, hbs⟩ : ∃ bs, ((tx s).getLast? == some 48) = bs := ⟨_, rfl⟩
      rw [hbs] at hsf hR
      by_cases h3 : s.size ≤ 100
      · rw [decide_eq_true h3, Bool.true_and] at hR
        have h3i : decide ((s.size : Int) ≤ 100) = true := decide_eq_true (by omega)
        have HR := hid hR
        clear hR hlen h1 hsx hbw hbs h3
        cases bw with
        | false =>
          go_enter Tryz.func16, Tryz.ntmps16
          go_wp2
          go_region_with (go_at_call 47; refine (zero_calls _).mono ?_; rintro e w1 ⟨rfl, hb⟩; have hC1 : Cls w1 w.heap.size 25 [.bool n, .string s, .int .i64 x] := (hb.block w.heap.size hCl).trans hC; have c0 := hC1.cell 0 rfl; have c1 := hC1.cell 1 rfl; have c2 := hC1.cell 2 rfl)
          all_goals (
            go_wp2_with (first
              | (go_at_call 48; refine (hright _).mono ?_; rintro e w2 ⟨rfl, hb2⟩; have hC2 : Cls w2 w.heap.size 25 [.bool n, .string s, .int .i64 x] := (hb2.block w.heap.size hC1.lt).trans hC1; have d1 := hC2.cell 1 rfl; have d2 := hC2.cell 2 rfl)
              | (go_at_call 49; refine (hw _).mono ?_; rintro e w3 ⟨rfl, rfl⟩))
            go_ret
            exact ⟨ret_bool HR.out.symm, hA.trans ((hb.mono hA.size).trans (hb2.mono (Nat.le_trans hA.size hb.size)))⟩)
        | true =>
          go_enter Tryz.func16, Tryz.ntmps16
          go_wp2
          go_region_with (go_at_call 47; refine (zero_calls _).mono ?_; rintro e w1 ⟨rfl, hb⟩; have hC1 : Cls w1 w.heap.size 25 [.bool n, .string s, .int .i64 x] := (hb.block w.heap.size hCl).trans hC; have c0 := hC1.cell 0 rfl; have c1 := hC1.cell 1 rfl; have c2 := hC1.cell 2 rfl)
          all_goals (
            go_wp2_with (first
              | (go_at_call 48; refine (hright _).mono ?_; rintro e w2 ⟨rfl, hb2⟩; have hC2 : Cls w2 w.heap.size 25 [.bool n, .string s, .int .i64 x] := (hb2.block w.heap.size hC1.lt).trans hC1; have d1 := hC2.cell 1 rfl; have d2 := hC2.cell 2 rfl)
              | (go_at_call 49; refine (hw _).mono ?_; rintro e w3 ⟨rfl, rfl⟩)
              | (go_at_call 50; refine (hsf _).mono ?_; rintro e w3 ⟨rfl, rfl⟩))
            go_ret
            exact ⟨ret_bool HR.out.symm, hA.trans ((hb.mono hA.size).trans (hb2.mono (Nat.le_trans hA.size hb.size)))⟩)
      · rw [decide_eq_false h3] at hR
        have h3i : decide ((s.size : Int) ≤ 100) = false := decide_eq_false (by omega)
        have HR := hid hR
        clear hR hlen h1 hsx hbw hbs h3
        go_enter Tryz.func16, Tryz.ntmps16
        go_wp2
        go_region_with (go_at_call 47; refine (zero_calls _).mono ?_; rintro e w1 ⟨rfl, hb⟩; have hC1 : Cls w1 w.heap.size 25 [.bool n, .string s, .int .i64 x] := (hb.block w.heap.size hCl).trans hC; have c0 := hC1.cell 0 rfl; have c1 := hC1.cell 1 rfl; have c2 := hC1.cell 2 rfl)
        all_goals (
          go_wp2_with (go_at_call 48; refine (hright _).mono ?_; rintro e w2 ⟨rfl, hb2⟩; have hC2 : Cls w2 w.heap.size 25 [.bool n, .string s, .int .i64 x] := (hb2.block w.heap.size hC1.lt).trans hC1; have d1 := hC2.cell 1 rfl; have d2 := hC2.cell 2 rfl)
          go_ret
          exact ⟨ret_bool HR.out.symm, hA.trans ((hb.mono hA.size).trans (hb2.mono (Nat.le_trans hA.size hb.size)))⟩)
end Go.Proofs.YtfobaeoccpebeaaGreatDoor

/- Plain: what dec.Make makes; which texts are digits alone. -/
namespace Go.Proofs.YtfobaeoccpebeaaGreatDoor
open Go Go.RowKit

def D0 : D := ⟨false, [], 0⟩
def Dz : D := ⟨false, [48], 0⟩
def stripL (l : List UInt8) : List UInt8 := l.dropWhile (· == 48)
def stripR (l : List UInt8) : List UInt8 := (l.reverse.dropWhile (· == 48)).reverse
def mkOk (l : List UInt8) (x : Int) : Bool := decide (l ≠ []) && (decide (l.length ≤ 400) && ((decide (-1000 ≤ x) && decide (x ≤ 1000)) && l.all isDg))
def mkD (n : Bool) (l : List UInt8) (x : Int) : D := ⟨n, stripR (stripL l), x + (stripL l).length - (stripR (stripL l)).length⟩
/-- what is made. -/
def mk (n : Bool) (l : List UInt8) (x : Int) : D × Int :=
  if mkOk l x then (if stripL l = [] then (Dz, 0) else if decR (mkD n l x) then (mkD n l x, 0) else (D0, 40)) else (D0, 40)

theorem stripR_le (l : List UInt8) : (stripR l).length ≤ l.length := by
  unfold stripR
  rw [List.length_reverse]
  have := (List.dropWhile_suffix (l := l.reverse) (· == 48)).length_le
  rwa [List.length_reverse] at this
theorem stripL_le (l : List UInt8) : (stripL l).length ≤ l.length := (List.dropWhile_suffix (l := l) (· == 48)).length_le

theorem dgN_isDg (c : UInt8) : dgN c.toNat = isDg c := rfl

/-- where the first rune stands that is no digit. -/
theorem idx_dg (s : ByteArray) : ∀ (f pos : Nat), s.size ≤ pos + f →
    (((tx s).drop pos).all isDg = true ∧ Lib.idxFuncFrom (fun x => !dgN x) true s f pos = -1) ∨ (((tx s).drop pos).all isDg = false ∧ 0 ≤ Lib.idxFuncFrom (fun x => !dgN x) true s f pos) := by
  intro f
  induction f with
  | zero =>
    intro pos h
    refine .inl ⟨?_, rfl⟩
    rw [List.drop_of_length_le (by rw [txs_len]; omega)]; rfl
  | succ f ih =>
    intro pos h
    by_cases hp : pos < s.size
    · have hd : (tx s).drop pos = s[pos] :: (tx s).drop (pos + 1) := by
        rw [List.drop_eq_getElem_cons (by rw [txs_len]; exact hp)]; rfl
      unfold Lib.idxFuncFrom
      rw [if_pos hp, hd, List.all_cons]
      by_cases ha : (s[pos]'hp).toNat < 128
      · rw [decode_ascii s pos hp ha]
        cases hg : isDg (s[pos]'hp) with
        | false =>
          refine .inr ⟨Bool.false_and _, ?_⟩
          rw [if_pos (by show (!dgN _) = true; rw [dgN_isDg, hg]; rfl)]
          omega
        | true =>
          rw [if_neg (by show ¬ (!dgN _) = true; rw [dgN_isDg, hg]; decide), Bool.true_and]
          exact ih (pos + 1) (by omega)
      · have hh := decode_high s pos hp (by omega)
        have hg : isDg (s[pos]'hp) = false := isDg_not (by omega)
        rw [hg]
        refine .inr ⟨Bool.false_and _, ?_⟩
        rw [if_pos (by show (!dgN _) = true; unfold dgN; rw [decide_eq_false (p := (Utf8.decode s pos).1 ≤ 57) (by have := hh.1; omega), Bool.and_false]; rfl)]
        omega
    · refine .inl ⟨by rw [List.drop_of_length_le (by rw [txs_len]; omega)]; rfl, Lib.idxFuncFrom_end _ _ _ _ _ hp⟩
theorem idx_dg0 (s : ByteArray) : ((tx s).all isDg = true ∧ Lib.idxFunc (fun x => !dgN x) true s = -1) ∨ ((tx s).all isDg = false ∧ 0 ≤ Lib.idxFunc (fun x => !dgN x) true s) := by
  have := idx_dg s s.size 0 (by omega)
  rwa [List.drop_zero] at this
end Go.Proofs.YtfobaeoccpebeaaGreatDoor

/- Package dec: Make: walked. -/
namespace Go.Proofs.YtfobaeoccpebeaaGreatDoor
open Go.RowKit
attribute [local go_sem] Oper.semAt_some

theorem jump_ret {l : Nat} {J : Act → World → Prop} {Q : Exit → Act → World → Prop} {a : Act} {w : World} : Exit.jump l J Q .ret a w = Q .ret a w := rfl

theorem other_runes (w : World) : PredAtRunes Tryz.prog 54 #[] (fun x => !dgN x) w := fun W x hx _ => by
  unfold FnGives
  exact (other_calls x hx W).mono fun e w' ⟨he, hw⟩ => ⟨he, 0, hw⟩

/-- the state at the jump. -/
def JumpM (w : World) (a : Act) (w' : World) : Prop := ∃ (u0 u1 u2 u3 u4 u5 u7 u8 u9 u10 u11 u12 u13 u14 u15 u16 u17 u18 u19 u20 u21 u22 u23 u24 u25 u26 u27 u28 u29 u30 u31 u32 u33 u34 u35 u36 u37 u38 u39 u40 u41 u42 u43 u44 u45 u46 u47 u48 u49 : Value), a = { tmps := #[u0, u1, u2, u3, u4, u5, .pointer (some ⟨w.heap.size, 0, none⟩), u7, u8, u9, u10, u11, u12, u13, u14, u15, u16, u17, u18, u19, u20, u21, u22, u23, u24, u25, u26, u27, u28, u29, u30, u31, u32, u33, u34, u35, u36, u37, u38, u39, u40, u41, u42, u43, u44, u45, u46, u47, u48, u49], defers := [] } ∧ Below w.heap.size w w' ∧ Cls w' w.heap.size 25 [.bool false, .string ⟨#[]⟩, .int .i64 0]

set_option maxRecDepth 100000 in
set_option maxHeartbeats 4000000 in
theorem make_no (n : Bool) (s : ByteArray) (x : Int) (_hx : -9223372036854775808 ≤ x ∧ x ≤ 9223372036854775807) (hs : s.size ≤ 140737488355328) (hno : mkOk (tx s) x = false) (w : World) :
    Calls Tryz.prog 28 #[.bool n, .string s, .int .i64 x] w fun e w' => e = .returned (.tuple #[.agg #[.bool false, .string ⟨#[]⟩, .int .i64 0], .int .i64 40]) ∧ Below w.heap.size w w' := by
  have hlen := txs_len s
  have hcase : (s.toList = [] ∧ s.toList.isEmpty = true) ∨ (¬ s.toList = [] ∧ s.toList.isEmpty = false ∧ (((400 : Int) < s.size) ∨ ((s.size : Int) ≤ 400 ∧ ((decide (-1000 ≤ x) && decide (x ≤ 1000)) = false ∨ ((decide (-1000 ≤ x) && decide (x ≤ 1000)) = true ∧ 0 ≤ Lib.idxFunc (fun x => !dgN x) true s))))) := by
    by_cases h0 : s.size = 0
    · obtain ⟨a, b⟩ := emp_of s h0
      exact .inl ⟨a, by rw [a]; rfl⟩
    · obtain ⟨a, b⟩ := ne_of s h0
      refine .inr ⟨a, b, ?_⟩
      by_cases h4 : s.size ≤ 400
      · refine .inr ⟨by omega, ?_⟩
        cases hb : (decide (-1000 ≤ x) && decide (x ≤ 1000)) with
        | false => exact .inl rfl
        | true =>
          refine .inr ⟨rfl, ?_⟩
          rcases idx_dg0 s with ⟨h, _⟩ | ⟨_, h⟩
          · unfold mkOk at hno
            rw [hb, h, hlen, decide_eq_true h4, decide_eq_true (p := tx s ≠ []) (by intro e; rw [e] at hlen; simp at hlen; omega)] at hno
            exact absurd hno (by decide)
          · exact h
      · exact .inl (by omega)
  have hw := fun W => within_calls x 1000 (by omega) (by omega) W
  have hi := fun W => Tryz.strings_IndexFunc_runes 54 #[] (enters_of Tryz.func54 (by kernel_rfl) rfl) (fun x => !dgN x) s W (other_runes W)
  obtain ⟨z, hz⟩ : ∃ z, Lib.idxFunc (fun x => !dgN x) true s = z := ⟨_, rfl⟩
  rw [hz] at hi hcase
  obtain ⟨bw, hbw⟩ : ∃ bw, (decide (-(1000 : Int) ≤ x) && decide (x ≤ 1000)) = bw := ⟨_, rfl⟩
  rw [hbw] at hw
  change _ ∨ (_ ∧ _ ∧ (_ ∨ (_ ∧ ((decide (-(1000 : Int) ≤ x) && decide (x ≤ 1000)) = false ∨ ((decide (-(1000 : Int) ≤ x) && decide (x ≤ 1000)) = true ∧ _))))) at hcase
  rw [hbw] at hcase
  have hC := Cls.new w 25 [.bool false, .string ⟨#[]⟩, .int .i64 0]
  clear hno hlen hbw hz
  have hpass : ∀ a w', JumpM w a w' → True := fun _ _ _ => trivial
  clear hpass
  go_enter Tryz.func28, Tryz.ntmps28
  go_wp2
  refine wp_scope_jumps 0 (JumpM w) (fun _ _ => 0) rfl ?first ?pass
  case pass =>
    rintro a w' ⟨u0, u1, u2, u3, u4, u5, u7, u8, u9, u10, u11, u12, u13, u14, u15, u16, u17, u18, u19, u20, u21, u22, u23, u24, u25, u26, u27, u28, u29, u30, u31, u32, u33, u34, u35, u36, u37, u38, u39, u40, u41, u42, u43, u44, u45, u46, u47, u48, u49, rfl, hb, hC'⟩
    have c0 := hC'.cell 0 rfl
    have c1 := hC'.cell 1 rfl
    have c2 := hC'.cell 2 rfl
    have z0 := hC'.frozen 0
    have z1 := hC'.frozen 1
    have z2 := hC'.frozen 2
    have hF := ((hC'.set 0 (.bool false)).set 1 (.string ⟨#[]⟩)).set 2 (.int .i64 0)
    have f0 := hF.cell 0 rfl
    have f1 := hF.cell 1 rfl
    have f2 := hF.cell 2 rfl
    have hbF := ((hb.setCell (p := ⟨w.heap.size, 0, none⟩) (Nat.le_refl _) (.bool false)).setCell (p := ⟨w.heap.size, 1, none⟩) (Nat.le_refl _) (.string ⟨#[]⟩)).setCell (p := ⟨w.heap.size, 2, none⟩) (Nat.le_refl _) (.int .i64 0)
    have HF := hid (And.intro f0 (And.intro f1 (And.intro f2 hbF)))
    clear f0 f1 f2 hbF hF
    go_wp2
    rw [jump_ret]
    obtain ⟨f0, f1, f2, hbF⟩ := HF.out
    exact bodyPost_ret (v := .tuple #[.agg #[.bool false, .string ⟨#[]⟩, .int .i64 0], .int .i64 40]) (by simp [results, Tryz.results28, go_sem, f0, f1, f2]) rfl ⟨rfl, hbF⟩
  case first =>
    have hsz := hC.lt
    have hBA := (below_alloc w (.cells #[.bool false, .string ⟨#[]⟩, .int .i64 0] 25))
    have hbb : ∀ V : World, Below ((w.alloc (.cells #[.bool false, .string ⟨#[]⟩, .int .i64 0] 25)).alloc (.cells #[.bool false, .string ⟨#[]⟩, .int .i64 0] 25)).heap.size ((w.alloc (.cells #[.bool false, .string ⟨#[]⟩, .int .i64 0] 25)).alloc (.cells #[.bool false, .string ⟨#[]⟩, .int .i64 0] 25)) V → Below w.heap.size w V ∧ Cls V w.heap.size 25 [.bool false, .string ⟨#[]⟩, .int .i64 0] := fun V h => by
      have hA2 := hBA.alloc hBA.size (.cells #[.bool false, .string ⟨#[]⟩, .int .i64 0] 25)
      exact ⟨hA2.trans (h.mono hA2.size), (h.block w.heap.size (by simp; omega)).trans (hC.alloc _)⟩
    have HB := hid hbb
    have HB0 := hid (hbb _ (Below.refl _ _))
    clear hbb hBA
    rcases hcase with ⟨a, b⟩ | ⟨a, b, h4 | ⟨h4, rfl | ⟨rfl, hz⟩⟩⟩
    all_goals (
      go_wp2_with (first
        | (go_at_call 49; refine (hw _).mono ?_; rintro e w1 ⟨rfl, rfl⟩)
        | (go_at_call 56; refine (hi _).mono ?_; rintro e w1 ⟨rfl, hb1⟩; replace HB0 := hid (HB.out _ hb1)))
      go_step3
      go_wp2
      exact ⟨rfl, _, _, _, _, _, _, _, _, _, _, _, _, _, _, _, _, _, _, _, _, _, _, _, _, _, _, _, _, _, _, _, _, _, _, _, _, _, _, _, _, _, _, _, _, _, _, _, _, _, rfl, HB0.out.1, HB0.out.2⟩)

theorem stripR_ne {l : List UInt8} (h : l ≠ []) (h2 : l.head? ≠ some 48) : stripR l ≠ [] := by
  unfold stripR
  intro e
  rw [List.reverse_eq_nil_iff] at e
  obtain ⟨c, r, rfl⟩ : ∃ c r, l = c :: r := by
    cases l with
    | nil => exact absurd rfl h
    | cons c r => exact ⟨c, r, rfl⟩
  rw [dropWhile_nil] at e
  have := e c (by simp)
  simp at this h2
  exact h2 this

set_option maxRecDepth 100000 in
set_option maxHeartbeats 4000000 in
theorem make_yes (n : Bool) (s : ByteArray) (x : Int) (hs : s.size ≤ 140737488355328) (hyes : mkOk (tx s) x = true) (w : World) :
    Calls Tryz.prog 28 #[.bool n, .string s, .int .i64 x] w fun e w' => e = .returned (.tuple #[(mk n (tx s) x).1.val, .int .i64 (mk n (tx s) x).2]) ∧ Below w.heap.size w w' := by
  have hlen := txs_len s
  have hyes' := hyes
  unfold mkOk at hyes'
  rw [Bool.and_eq_true, Bool.and_eq_true, Bool.and_eq_true, decide_eq_true_eq, decide_eq_true_eq] at hyes'
  obtain ⟨g1, g2, g3, g4⟩ := hyes'
  rw [hlen] at g2
  have hne0 : ¬ s.size = 0 := fun e => g1 (List.eq_nil_of_length_eq_zero (by rw [hlen]; exact e))
  obtain ⟨a, b⟩ := ne_of s hne0
  have g2i : (s.size : Int) ≤ 400 := by omega
  have hxb : -1000 ≤ x ∧ x ≤ 1000 := by rw [Bool.and_eq_true, decide_eq_true_eq, decide_eq_true_eq] at g3; exact g3
  obtain ⟨hx1, hx2⟩ := hxb
  have hw := fun W => within_calls x 1000 (by omega) (by omega) W
  change ∀ W, Calls _ _ _ _ fun e w' => e = .returned (.bool (decide (-1000 ≤ x) && decide (x ≤ 1000))) ∧ _ at hw
  rw [g3] at hw
  have hi := fun W => Tryz.strings_IndexFunc_runes 54 #[] (enters_of Tryz.func54 (by kernel_rfl) rfl) (fun x => !dgN x) s W (other_runes W)
  have hz : Lib.idxFunc (fun x => !dgN x) true s = -1 := by
    rcases idx_dg0 s with ⟨_, h⟩ | ⟨h, _⟩
    · exact h
    · rw [g4] at h; cases h
  rw [hz] at hi
  have hL := fun W => Tryz.strings_TrimLeft_one s 48 (by decide) W
  change ∀ W, Calls _ _ _ _ fun e w' => e = .returned (.string (B (stripL (tx s)))) ∧ _ at hL
  have hLl := stripL_le (tx s)
  rw [hlen] at hLl
  obtain ⟨t, ht⟩ : ∃ t, B (stripL (tx s)) = t := ⟨_, rfl⟩
  have htx : tx t = stripL (tx s) := by rw [← ht, tx_B]
  have hts : t.size = (stripL (tx s)).length := by rw [← txs_len, htx]
  rw [ht] at hL
  have hC := Cls.new w 25 [.bool false, .string ⟨#[]⟩, .int .i64 0]
  have hsz := hC.lt
  have hBA := (below_alloc w (.cells #[.bool false, .string ⟨#[]⟩, .int .i64 0] 25))
  have hA2 := hBA.alloc hBA.size (.cells #[.bool false, .string ⟨#[]⟩, .int .i64 0] 25)
  have hC2 := hC.alloc (.cells #[.bool false, .string ⟨#[]⟩, .int .i64 0] 25)
  have hE2 : Cls ((w.alloc (.cells #[.bool false, .string ⟨#[]⟩, .int .i64 0] 25)).alloc (.cells #[.bool false, .string ⟨#[]⟩, .int .i64 0] 25)) (w.heap.size + 1) 25 [.bool false, .string ⟨#[]⟩, .int .i64 0] := by
    have := Cls.new (w.alloc (.cells #[.bool false, .string ⟨#[]⟩, .int .i64 0] 25)) 25 [.bool false, .string ⟨#[]⟩, .int .i64 0]
    rwa [World.size_alloc] at this
  by_cases ht0 : stripL (tx s) = []
  · have HR := hid (show mk n (tx s) x = (Dz, 0) by unfold mk; rw [if_pos hyes, if_pos ht0])
    obtain ⟨q1, q2⟩ := emp_of t (by rw [hts, ht0]; rfl)
    have q3 : t.toList.isEmpty = true := by rw [q1]; rfl
    clear hyes g1 g2 g3 g4 hz ht htx hts hLl ht0 hlen q2 hne0
    go_enter Tryz.func28, Tryz.ntmps28
    go_wp2
    refine wp_scope_jumps 0 (fun _ _ => False) (fun _ _ => 0) rfl ?first (fun _ _ h => h.elim)
    case first =>
      go_wp2_with (first
        | (go_at_call 49; refine (hw _).mono ?_; rintro e w1 ⟨rfl, rfl⟩)
        | (go_at_call 56; refine (hi _).mono ?_; rintro e w1 ⟨rfl, hb1⟩; have hC3 : Cls w1 w.heap.size 25 [.bool false, .string ⟨#[]⟩, .int .i64 0] := hC2.below hb1; have HB1 := hid (hA2.trans (hb1.mono hA2.size)))
        | (go_at_call 57; refine (hL _).mono ?_; rintro e w2 ⟨rfl, hw2⟩; subst hw2)
        | (go_at_call 47; refine (zero_calls _).mono ?_; rintro e w3 ⟨rfl, hb3⟩; have hC4 := hC3.below hb3; have HB3 := hid (HB1.out.trans (hb3.mono HB1.out.size)); have c0 := hC4.cell 0 rfl; have c1 := hC4.cell 1 rfl; have c2 := hC4.cell 2 rfl; have z0 := hC4.frozen 0; have z1 := hC4.frozen 1; have z2 := hC4.frozen 2))
      rw [jump_ret]
      have hF := ((hC4.set 0 (.bool false)).set 1 (.string ⟨#[48]⟩)).set 2 (.int .i64 0)
      have f0 := hF.cell 0 rfl
      have f1 := hF.cell 1 rfl
      have f2 := hF.cell 2 rfl
      have hbF := ((HB3.out.setCell (p := ⟨w.heap.size, 0, none⟩) (Nat.le_refl _) (.bool false)).setCell (p := ⟨w.heap.size, 1, none⟩) (Nat.le_refl _) (.string ⟨#[48]⟩)).setCell (p := ⟨w.heap.size, 2, none⟩) (Nat.le_refl _) (.int .i64 0)
      exact bodyPost_ret (v := .tuple #[.agg #[.bool false, .string ⟨#[48]⟩, .int .i64 0], .int .i64 0]) (by simp [results, Tryz.results28, go_sem, f0, f1, f2]) rfl ⟨by rw [HR.out]; rfl, hbF⟩
  · obtain ⟨q1, q2⟩ := ne_of t (fun e => ht0 (List.eq_nil_of_length_eq_zero (by rw [← hts]; exact e)))
    have hRt := fun W => Tryz.strings_TrimRight_one t 48 (by decide) W (by omega)
    change ∀ W, Calls _ _ _ _ fun e w' => e = .returned (.string (B (stripR (tx t)))) ∧ _ at hRt
    have hRl := stripR_le (tx t)
    obtain ⟨r, hr⟩ : ∃ r, B (stripR (tx t)) = r := ⟨_, rfl⟩
    have hrx : tx r = stripR (tx t) := by rw [← hr, tx_B]
    have hrs : r.size = (stripR (tx t)).length := by rw [← txs_len, hrx]
    rw [hr] at hRt
    rw [← hrs, txs_len] at hRl
    obtain ⟨y, hy⟩ : ∃ y, x + (t.size : Int) - (r.size : Int) = y := ⟨_, rfl⟩
    have hmk : mkD n (tx s) x = ⟨n, tx r, y⟩ := by
      unfold mkD
      rw [← htx, ← hrs, txs_len, hy, hrx]
    have hright := fun W => decRight_calls n r y (by omega) W
    have hR : mk n (tx s) x = if decR ⟨n, tx r, y⟩ then (⟨n, tx r, y⟩, 0) else (D0, 40) := by
      unfold mk
      rw [if_pos hyes, if_neg ht0, hmk]
    obtain ⟨bR, hbR⟩ : ∃ bR, decR ⟨n, tx r, y⟩ = bR := ⟨_, rfl⟩
    rw [hbR] at hright hR
    have hBr := hid (B_tx r)
    have hti : (t.size : Int) ≤ 400 := by omega
    have hri : (r.size : Int) ≤ (t.size : Int) := by omega
    have hE2' := hE2
    have hlt1 : w.heap.size < w.heap.size + 1 := by omega
    clear hyes g1 g2 g3 g4 hz ht htx hts hLl ht0 hlen hne0 hr hrx hrs hmk hbR hRl
    cases bR with
    | true =>
      have HR := hid (show mk n (tx s) x = (⟨n, tx r, y⟩, 0) by rw [hR]; rfl)
      clear hR
      go_enter Tryz.func28, Tryz.ntmps28
      go_wp2
      refine wp_scope_jumps 0 (fun _ _ => False) (fun _ _ => 0) rfl ?first (fun _ _ h => h.elim)
      case first =>
        go_wp2_with (first
          | (go_at_call 49; refine (hw _).mono ?_; rintro e w1 ⟨rfl, rfl⟩)
          | (go_at_call 56; refine (hi _).mono ?_; rintro e w1 ⟨rfl, hb1⟩; have hC3 : Cls w1 w.heap.size 25 [.bool false, .string ⟨#[]⟩, .int .i64 0] := hC2.below hb1; have hE3 : Cls w1 (w.heap.size + 1) 25 [.bool false, .string ⟨#[]⟩, .int .i64 0] := hE2.below hb1; have HB1 := hid (hA2.trans (hb1.mono hA2.size)); have e0 := hE3.cell 0 rfl; have e1 := hE3.cell 1 rfl; have e2 := hE3.cell 2 rfl; have y0 := hE3.frozen 0; have y1 := hE3.frozen 1; have y2 := hE3.frozen 2; have hE5 := ((hE3.set 0 (.bool n)).set 1 (.string r)).set 2 (.int .i64 y); have hC5 := ((hC3.other (off := 0) (b := w.heap.size + 1) (by omega) (.bool n)).other (off := 1) (b := w.heap.size + 1) (by omega) (.string r)).other (off := 2) (b := w.heap.size + 1) (by omega) (.int .i64 y); have HB5 := hid (((HB1.out.setCell (p := ⟨w.heap.size + 1, 0, none⟩) (Nat.le_succ _) (.bool n)).setCell (p := ⟨w.heap.size + 1, 1, none⟩) (Nat.le_succ _) (.string r)).setCell (p := ⟨w.heap.size + 1, 2, none⟩) (Nat.le_succ _) (.int .i64 y)); have k0 := hE5.cell 0 rfl; have k1 := hE5.cell 1 rfl; have k2 := hE5.cell 2 rfl)
          | (go_at_call 57; refine (hL _).mono ?_; rintro e w2 ⟨rfl, hw2⟩; subst hw2)
          | (go_at_call 58; refine (hRt _).mono ?_; rintro e w2 ⟨rfl, hw2⟩; subst hw2)
          | (go_at_call 16; refine (hright _).mono ?_; rintro e w6 ⟨rfl, hb6⟩; have hC6 := hC5.below hb6; have hE6 := hE5.below hb6; have HB6 := hid (HB5.out.trans (hb6.mono HB5.out.size)); have c0 := hC6.cell 0 rfl; have c1 := hC6.cell 1 rfl; have c2 := hC6.cell 2 rfl; have z0 := hC6.frozen 0; have z1 := hC6.frozen 1; have z2 := hC6.frozen 2; have m0 := hE6.cell 0 rfl; have m1 := hE6.cell 1 rfl; have m2 := hE6.cell 2 rfl))
        rw [jump_ret]
        have hF := ((hC6.set 0 (.bool n)).set 1 (.string r)).set 2 (.int .i64 y)
        have f0 := hF.cell 0 rfl
        have f1 := hF.cell 1 rfl
        have f2 := hF.cell 2 rfl
        have hbF := ((HB6.out.setCell (p := ⟨w.heap.size, 0, none⟩) (Nat.le_refl _) (.bool n)).setCell (p := ⟨w.heap.size, 1, none⟩) (Nat.le_refl _) (.string r)).setCell (p := ⟨w.heap.size, 2, none⟩) (Nat.le_refl _) (.int .i64 y)
        exact bodyPost_ret (v := .tuple #[.agg #[.bool n, .string r, .int .i64 y], .int .i64 0]) (by simp [results, Tryz.results28, go_sem, f0, f1, f2]) rfl ⟨by rw [HR.out]; unfold D.val; rw [hBr.out]; rfl, hbF⟩
    | false =>
      have HR := hid (show mk n (tx s) x = (D0, 40) by rw [hR]; rfl)
      clear hR
      go_enter Tryz.func28, Tryz.ntmps28
      go_wp2
      refine wp_scope_jumps 0 (fun _ _ => False) (fun _ _ => 0) rfl ?first (fun _ _ h => h.elim)
      case first =>
        go_wp2_with (first
          | (go_at_call 49; refine (hw _).mono ?_; rintro e w1 ⟨rfl, rfl⟩)
          | (go_at_call 56; refine (hi _).mono ?_; rintro e w1 ⟨rfl, hb1⟩; have hC3 : Cls w1 w.heap.size 25 [.bool false, .string ⟨#[]⟩, .int .i64 0] := hC2.below hb1; have hE3 : Cls w1 (w.heap.size + 1) 25 [.bool false, .string ⟨#[]⟩, .int .i64 0] := hE2.below hb1; have HB1 := hid (hA2.trans (hb1.mono hA2.size)); have e0 := hE3.cell 0 rfl; have e1 := hE3.cell 1 rfl; have e2 := hE3.cell 2 rfl; have y0 := hE3.frozen 0; have y1 := hE3.frozen 1; have y2 := hE3.frozen 2; have hE5 := ((hE3.set 0 (.bool n)).set 1 (.string r)).set 2 (.int .i64 y); have hC5 := ((hC3.other (off := 0) (b := w.heap.size + 1) (by omega) (.bool n)).other (off := 1) (b := w.heap.size + 1) (by omega) (.string r)).other (off := 2) (b := w.heap.size + 1) (by omega) (.int .i64 y); have HB5 := hid (((HB1.out.setCell (p := ⟨w.heap.size + 1, 0, none⟩) (Nat.le_succ _) (.bool n)).setCell (p := ⟨w.heap.size + 1, 1, none⟩) (Nat.le_succ _) (.string r)).setCell (p := ⟨w.heap.size + 1, 2, none⟩) (Nat.le_succ _) (.int .i64 y)); have k0 := hE5.cell 0 rfl; have k1 := hE5.cell 1 rfl; have k2 := hE5.cell 2 rfl)
          | (go_at_call 57; refine (hL _).mono ?_; rintro e w2 ⟨rfl, hw2⟩; subst hw2)
          | (go_at_call 58; refine (hRt _).mono ?_; rintro e w2 ⟨rfl, hw2⟩; subst hw2)
          | (go_at_call 16; refine (hright _).mono ?_; rintro e w6 ⟨rfl, hb6⟩; have hC6 := hC5.below hb6; have hE6 := hE5.below hb6; have HB6 := hid (HB5.out.trans (hb6.mono HB5.out.size)); have c0 := hC6.cell 0 rfl; have c1 := hC6.cell 1 rfl; have c2 := hC6.cell 2 rfl; have z0 := hC6.frozen 0; have z1 := hC6.frozen 1; have z2 := hC6.frozen 2; have m0 := hE6.cell 0 rfl; have m1 := hE6.cell 1 rfl; have m2 := hE6.cell 2 rfl))
        go_step3
        go_wp2
        rw [jump_ret]
        have hF := ((hC6.set 0 (.bool false)).set 1 (.string ⟨#[]⟩)).set 2 (.int .i64 0)
        have f0 := hF.cell 0 rfl
        have f1 := hF.cell 1 rfl
        have f2 := hF.cell 2 rfl
        have hbF := ((HB6.out.setCell (p := ⟨w.heap.size, 0, none⟩) (Nat.le_refl _) (.bool false)).setCell (p := ⟨w.heap.size, 1, none⟩) (Nat.le_refl _) (.string ⟨#[]⟩)).setCell (p := ⟨w.heap.size, 2, none⟩) (Nat.le_refl _) (.int .i64 0)
        exact bodyPost_ret (v := .tuple #[.agg #[.bool false, .string ⟨#[]⟩, .int .i64 0], .int .i64 40]) (by simp [results, Tryz.results28, go_sem, f0, f1, f2]) rfl ⟨by rw [HR.out]; rfl, hbF⟩

theorem decMake_calls (n : Bool) (s : ByteArray) (x : Int) (hx : -9223372036854775808 ≤ x ∧ x ≤ 9223372036854775807) (hs : s.size ≤ 140737488355328) (w : World) :
    Calls Tryz.prog 28 #[.bool n, .string s, .int .i64 x] w fun e w' => e = .returned (.tuple #[(mk n (tx s) x).1.val, .int .i64 (mk n (tx s) x).2]) ∧ Below w.heap.size w w' := by
  cases h : mkOk (tx s) x with
  | true => exact make_yes n s x hs h w
  | false =>
    have := make_no n s x hx hs h w
    unfold mk
    rw [h]
    exact this
end Go.Proofs.YtfobaeoccpebeaaGreatDoor

/- Package dec: the reader: isNext, digits: walked. -/
namespace Go.Proofs.YtfobaeoccpebeaaGreatDoor
open Go.RowKit
attribute [local go_sem] Oper.semAt_some

/-- is the first letter one of some? what is left then. -/
def nxB (cs : List UInt8) (l : List UInt8) : Bool := match l with
  | [] => false
  | c :: _ => cs.contains c
def nxR (cs : List UInt8) (l : List UInt8) : List UInt8 := if nxB cs l then l.tail else l
theorem nxB_nil (cs : List UInt8) : nxB cs [] = false := rfl
theorem nxB_cons (cs : List UInt8) (c : UInt8) (r : List UInt8) : nxB cs (c :: r) = cs.contains c := rfl

theorem tx_head {t : ByteArray} (h : 0 < t.size) : tx t = t[0] :: (tx t).tail := by
  have h1 := head_of t h
  rw [show t.data.toList = tx t from rfl] at h1
  match hm : tx t, h1 with
  | c :: r, h1 => rw [List.head?_cons] at h1; rw [Option.some.inj h1]; rfl
theorem tx_tail (t : ByteArray) : tx (t.extract 1 t.size) = (tx t).tail := by
  unfold tx
  rw [Lib.extract_data, List.take_of_length_le (by rw [List.length_drop, len_str]; omega), List.drop_one]

/-- digits that a text begins with. -/
def dgp (l : List UInt8) : List UInt8 := l.takeWhile isDg
theorem dgp_le (l : List UInt8) : (dgp l).length ≤ l.length := (List.takeWhile_prefix (p := isDg)).length_le
theorem dgp_drop (l : List UInt8) : l = dgp l ++ l.drop (dgp l).length := by
  have := List.takeWhile_append_dropWhile (p := isDg) (l := l)
  unfold dgp
  generalize hh : l.takeWhile isDg = a at *
  rw [← this]
  simp
theorem dgp_take (l : List UInt8) : l.take (dgp l).length = dgp l := by
  have h := dgp_drop l
  have h2 := congrArg (List.take (dgp l).length) h
  rw [List.take_left'] at h2
  · exact h2
  · rfl
theorem dgp_dgs (l : List UInt8) : Dgs (dgp l) := fun c hc => by
  unfold dgp at hc
  induction l with
  | nil => cases hc
  | cons x r ih =>
    rw [List.takeWhile_cons] at hc
    by_cases h : isDg x = true
    · rw [if_pos h] at hc
      rcases List.mem_cons.1 hc with rfl | hc
      · exact h
      · exact ih hc
    · rw [if_neg h] at hc; cases hc
theorem dgp_at_lt (l : List UInt8) {k : Nat} (h1 : k ≤ (dgp l).length) (h2 : k < l.length) : isDg (l[k]) = true ↔ k < (dgp l).length := by
  unfold dgp at *
  induction l generalizing k with
  | nil => simp at h2
  | cons x r ih =>
    rw [List.takeWhile_cons] at h1 ⊢
    by_cases h : isDg x = true
    · rw [if_pos h] at h1 ⊢
      cases k with
      | zero => simp [h]
      | succ k =>
        simp only [List.getElem_cons_succ, List.length_cons, Nat.add_lt_add_iff_right]
        exact ih (by simpa using h1) (by simpa using h2)
    · rw [if_neg h] at h1 ⊢
      simp only [List.length_nil, Nat.le_zero] at h1
      subst h1
      simp [h]

theorem noGoto_normal {Q : Exit → Act → World → Prop} {a : Act} {w : World} : Exit.noGoto Q .normal a w = Q .normal a w := rfl
theorem wide_scope_label {P : Program} {n l : Nat} {c : Code} {a : Act} {w : World} {Q : Exit → Act → World → Prop} (h : c.wpIn Fence.wide n P (Exit.noGoto Q) a w) : (Code.scope ((Code.label l).seq c)).wpIn Fence.wide n P Q a w :=
  wpIn_wide.2 (wp_scope_straight (wp_seq (wp_label (wpIn_wide.1 h))))

def encN (x : Nat) : Array Value := #[.int .i32 x]

/-- what the iterator may turn: it lays blocks, and moves its own place on. -/
def ItR (base : Nat) (A B : World) : Prop := (∃ o, A.alloc o = B) ∨ ∃ k t pos pos', base ≤ k ∧ A.heap[k]? = some (.stringIter t pos) ∧ A.iterAt k t pos' = B

theorem ItR.keeps {base : Nat} {A B : World} (h : ItR base A B) : A.heap.size ≤ B.heap.size ∧ ∀ (k : Nat) (o : Obj), A.heap[k]? = some o → o.isWalk = false → B.heap[k]? = some o := by
  rcases h with ⟨o, rfl⟩ | ⟨k, t, pos, pos', _, hk, rfl⟩
  · exact ⟨by simp, fun k o' hk _ => (Below.heap_alloc _ _ _ (Array.getElem?_eq_some_iff.1 hk).1).trans hk⟩
  · refine ⟨by rw [Lib.iterAt_size]; exact Nat.le_refl _, fun j o hj ho => ?_⟩
    rw [Lib.iterAt_other _ _ _ _ _ (fun e => by subst e; rw [hk] at hj; cases hj; cases ho)]
    exact hj
theorem ItR.cells {base : Nat} {A B : World} (h : ItR base A B) : CellsKept A B := fun k _c _t _fz hk => h.keeps.2 k _ hk rfl
theorem ItR.below {base b : Nat} {W A B : World} (h : ItR base A B) (hb : Below b W A) (hbb : b ≤ base) (hbs : b ≤ A.heap.size) : Below b W B := by
  rcases h with ⟨o, rfl⟩ | ⟨k, t, pos, pos', hk, _, rfl⟩
  · exact hb.alloc hbs _
  · exact Lib.below_iterAt hb (by omega) _ _

end Go.Proofs.YtfobaeoccpebeaaGreatDoor

/- Package dec: the reader: whole, part, power: walked. -/
namespace Go.Proofs.YtfobaeoccpebeaaGreatDoor
open Go.RowKit
attribute [local go_sem] Oper.semAt_some

/-- is the first letter c? what stands behind it. -/
def hdB (c : UInt8) (l : List UInt8) : Bool := l.head? == some c
theorem nxB_one (c : UInt8) (l : List UInt8) : nxB [c] l = hdB c l := by
  cases l with
  | nil => rfl
  | cons x r =>
    rw [nxB_cons]
    unfold hdB
    rw [List.head?_cons, Bool.eq_iff_iff, List.contains_iff_mem, List.mem_singleton, beq_iff_eq]
    exact ⟨fun h => by rw [h], fun h => Option.some.inj h⟩
theorem nxB_two (c d : UInt8) (l : List UInt8) : nxB [c, d] l = (hdB c l || hdB d l) := by
  cases l with
  | nil => rfl
  | cons x r =>
    rw [nxB_cons]
    unfold hdB
    rw [List.head?_cons, Bool.eq_iff_iff, List.contains_iff_mem, Bool.or_eq_true, beq_iff_eq, beq_iff_eq]
    simp
theorem nxR_yes {cs l : List UInt8} (h : nxB cs l = true) : nxR cs l = l.tail := by unfold nxR; rw [h]; rfl
theorem nxR_no {cs l : List UInt8} (h : nxB cs l = false) : nxR cs l = l := by unfold nxR; rw [h]; rfl

def wholeS (l : List UInt8) : List UInt8 := if hdB 48 l then [48] else dgp l
def wholeR (l : List UInt8) : List UInt8 := if hdB 48 l then l.tail else l.drop (dgp l).length
theorem tail_len (l : List UInt8) : l.tail.length ≤ l.length := by rw [List.length_tail]; omega
theorem size_tail (t : ByteArray) : (B (tx t).tail).size ≤ t.size := by rw [size_B, ← txs_len]; exact tail_len _

def partB (l : List UInt8) : Bool := hdB 46 l && decide (dgp l.tail ≠ [])
def partS (l : List UInt8) : List UInt8 := if partB l then dgp l.tail else []
def partR (l : List UInt8) : List UInt8 := if partB l then l.tail.drop (dgp l.tail).length else l

end Go.Proofs.YtfobaeoccpebeaaGreatDoor

/- Package dec: strconv.Atoi at digits; the reader: power: walked. -/
namespace Go.Proofs.YtfobaeoccpebeaaGreatDoor
open Go.RowKit
attribute [local go_sem] Oper.semAt_some

theorem parse10_ok : ∀ (g : List UInt8) (a : Nat), Dgs g → a ≤ 18446744073709551615 → (nvA a g ≤ 18446744073709551615 → Lib.parseUint10 a g = .ok (nvA a g)) ∧ (18446744073709551615 < nvA a g → Lib.parseUint10 a g = .range)
  | [], a, _, ha => by rw [nvA_nil]; exact ⟨fun _ => rfl, fun h => by omega⟩
  | c :: r, a, hd, ha => by
    have hc := dg_bounds (hd c (by simp))
    rw [nvA_cons, Lib.parseUint10, if_pos hc]
    have hge := nvA_ge (a * 10 + (c.toNat - 48)) r
    by_cases e1 : 1844674407370955162 ≤ a
    · rw [if_pos e1]
      exact ⟨fun h => by omega, fun _ => rfl⟩
    · rw [if_neg e1]
      by_cases e2 : 18446744073709551616 ≤ a * 10 + (c.toNat - 48)
      · rw [if_pos e2]
        exact ⟨fun h => by omega, fun _ => rfl⟩
      · rw [if_neg e2]
        exact parse10_ok r _ hd.tail (by omega)

theorem atoi_dg {l : List UInt8} (h0 : l ≠ []) (hd : Dgs l) : (nv l ≤ 9223372036854775807 ∧ Lib.atoiAll l = .ok (nv l : Nat)) ∨ (9223372036854775807 < nv l ∧ Lib.atoiAll l = .range ∧ Lib.atoiSat l = 9223372036854775807) := by
  obtain ⟨c, r, rfl⟩ : ∃ c r, l = c :: r := by
    cases l with
    | nil => exact absurd rfl h0
    | cons c r => exact ⟨c, r, rfl⟩
  have hc := dg_bounds (hd c (by simp))
  have hp := parse10_ok (c :: r) 0 hd (by omega)
  have hm : Lib.parseMag (c :: r) = Lib.parseUint10 0 (c :: r) := by unfold Lib.parseMag; rw [if_neg (by simp)]
  have hs : Lib.atoiSat (c :: r) = 9223372036854775807 := by
    unfold Lib.atoiSat
    rw [List.head?_cons, if_neg]
    show ¬ (some c.toNat = some 45)
    intro e
    have := Option.some.inj e
    omega
  have hn45 : ¬ c.toNat = 45 := by omega
  have hsg : ¬ (c.toNat = 43 ∨ c.toNat = 45) := by omega
  change (nv (c :: r) ≤ _ → Lib.parseUint10 0 (c :: r) = .ok (nv (c :: r))) ∧ (_ < nv (c :: r) → _) at hp
  unfold Lib.atoiAll
  simp only [hsg, if_false, hm]
  by_cases h : nv (c :: r) ≤ 18446744073709551615
  · rw [hp.1 h]
    simp only [hn45, not_false_eq_true, true_and, false_and, if_false]
    by_cases h2 : 9223372036854775808 ≤ nv (c :: r)
    · rw [if_pos h2]
      exact .inr ⟨by omega, rfl, hs⟩
    · rw [if_neg h2]
      exact .inl ⟨by omega, rfl⟩
  · rw [hp.2 (by omega)]
    exact .inr ⟨by omega, rfl, hs⟩

def expB (l : List UInt8) : Bool := hdB 101 l || hdB 69 l
def powL (l : List UInt8) : List UInt8 := if hdB 45 l.tail || hdB 43 l.tail then l.tail.tail else l.tail
def powD (l : List UInt8) : List UInt8 := dgp (powL l)
def powC (l : List UInt8) : Bool := expB l && decide (powD l ≠ [])
def powOk (l : List UInt8) : Bool := !powC l || decide ((powD l).length ≤ 4)
def powV (l : List UInt8) : Int := if powC l then (if hdB 45 l.tail then -(nv (powD l) : Nat) else (nv (powD l) : Nat)) else 0
def powR (l : List UInt8) : List UInt8 := if powC l then (powL l).drop (powD l).length else l

end Go.Proofs.YtfobaeoccpebeaaGreatDoor

/- Package dec: Parse: walked. -/
namespace Go.Proofs.YtfobaeoccpebeaaGreatDoor
open Go.RowKit
attribute [local go_sem] Oper.semAt_some

/-- what a written number is read as: in steps. -/
def pr1 (l : List UInt8) : List UInt8 := if hdB 45 l then l.tail else l
def pr2 (l : List UInt8) : List UInt8 := wholeR (pr1 l)
def pr3 (l : List UInt8) : List UInt8 := partR (pr2 l)
def prW (l : List UInt8) : List UInt8 := wholeS (pr1 l)
def prP (l : List UInt8) : List UInt8 := partS (pr2 l)
def prM (l : List UInt8) : D × Int := mk (hdB 45 l) (prW l ++ prP l) (powV (pr3 l) - (prP l).length)
def prB (l : List UInt8) : Bool := decide (prW l ≠ []) && powOk (pr3 l)
def parseD (l : List UInt8) : D := if prB l && (prM l).2 == 0 then (prM l).1 else D0
def parseR (l : List UInt8) : List UInt8 := if prB l && (prM l).2 == 0 then powR (pr3 l) else l
def parseE (l : List UInt8) : Int := if prB l && (prM l).2 == 0 then 0 else 40

theorem mk_err (n : Bool) (l : List UInt8) (x : Int) : (mk n l x).2 = 0 ∨ (mk n l x).2 = 40 := by
  unfold mk
  split
  · split
    · exact .inl rfl
    · split
      · exact .inl rfl
      · exact .inr rfl
  · exact .inr rfl

theorem wholeR_le (l : List UInt8) : (wholeR l).length ≤ l.length := by
  unfold wholeR; split
  · exact tail_len l
  · rw [List.length_drop]; omega
theorem wholeS_le (l : List UInt8) : (wholeS l).length ≤ l.length + 1 := by
  unfold wholeS; split
  · simp
  · have := dgp_le l; omega
theorem partR_le (l : List UInt8) : (partR l).length ≤ l.length := by
  unfold partR; split
  · rw [List.length_drop, List.length_tail]; omega
  · omega
theorem partS_le (l : List UInt8) : (partS l).length ≤ l.length := by
  unfold partS; split
  · have := dgp_le l.tail; rw [List.length_tail] at this; omega
  · simp
theorem powV_bound {l : List UInt8} (h : powOk l = true) : -10000 ≤ powV l ∧ powV l ≤ 10000 := by
  unfold powOk at h
  unfold powV
  cases hc : powC l with
  | false => simp
  | true =>
    rw [hc, Bool.not_true, Bool.false_or, decide_eq_true_eq] at h
    have h4 := nv_bound (dgp_dgs (powL l))
    change nv (powD l) < 10 ^ (powD l).length at h4
    have : (10 : Nat) ^ (powD l).length ≤ 10 ^ 4 := Nat.pow_le_pow_right (by omega) h
    simp only [if_true]
    split <;> omega

end Go.Proofs.YtfobaeoccpebeaaGreatDoor

/- Package dec: Format: walked. -/
namespace Go.Proofs.YtfobaeoccpebeaaGreatDoor
open Go.RowKit
attribute [local go_sem] Oper.semAt_some

/-- a right decimal's plain writing, without its sign. -/
def fmtB (d : D) : List UInt8 :=
  if decide (-20 ≤ d.ex) && decide (d.ex ≤ 20) then
    (if 0 ≤ d.ex then d.dg ++ List.replicate d.ex.toNat 48
     else if 0 < (d.dg.length : Int) + d.ex then d.dg.take ((d.dg.length : Int) + d.ex).toNat ++ [46] ++ d.dg.drop ((d.dg.length : Int) + d.ex).toNat
     else [48, 46] ++ List.replicate (-((d.dg.length : Int) + d.ex)).toNat 48 ++ d.dg)
  else d.dg ++ [101] ++ Lib.itoa d.ex
def fmtL (d : D) : List UInt8 := if decR d then (if d.neg then [45] else []) ++ fmtB d else []
def fmtE (d : D) : Int := if decR d then 0 else 40

theorem decR_bounds {d : D} (h : decR d = true) : d.dg.length ≤ 100 ∧ 1 ≤ d.dg.length ∧ -100 ≤ d.ex ∧ d.ex ≤ 100 := by
  unfold decR at h
  split at h
  · rename_i h48
    rw [Bool.and_eq_true, decide_eq_true_eq] at h
    rw [h48]
    simp
    omega
  · rw [Bool.and_eq_true, Bool.and_eq_true, Bool.and_eq_true, Bool.and_eq_true, decide_eq_true_eq, decide_eq_true_eq, decide_eq_true_eq] at h
    exact ⟨h.2.1, (rt_len h.1).1, h.2.2.1.1, h.2.2.1.2⟩

theorem itoa_len (n : Int) (h : -1000 ≤ n ∧ n ≤ 1000) : (Lib.itoa n).length ≤ 10 := by
  unfold Lib.itoa
  split
  · rw [List.length_cons, Lib.decDigits_length]; have := rdig_lt 3 n.natAbs (by omega); omega
  · rw [Lib.decDigits_length]; have := rdig_lt 3 n.toNat (by omega); omega

end Go.Proofs.YtfobaeoccpebeaaGreatDoor

/- Package dec: OfInt, ToInt: walked. -/
namespace Go.Proofs.YtfobaeoccpebeaaGreatDoor
open Go.RowKit
attribute [local go_sem] Oper.semAt_some

set_option maxRecDepth 100000 in
set_option maxHeartbeats 4000000 in
theorem ofInt_calls (neg : Bool) (n : Nat) (hn : n < 18446744073709551616) (w : World) (hT : Tabs w) :
    Calls Tryz.prog 27 #[.bool neg, .int .u64 n] w fun e w' => e = .returned (mk neg (Lib.decDigits n) 0).1.val ∧ Below w.heap.size w w' := by
  have hof := fun W h => natOf_calls n hn W h
  obtain ⟨q, hq⟩ : ∃ q : ByteArray, (⟨(Lib.decDigits n).toArray⟩ : ByteArray) = q := ⟨_, rfl⟩
  have hqx : tx q = Lib.decDigits n := by rw [← hq]; exact tx_B _
  have hqs : q.size ≤ 20 := by rw [← txs_len, hqx, Lib.decDigits_length]; exact rdig_lt 19 n (by omega)
  rw [hq] at hof
  have hmake := fun W => decMake_calls neg q 0 ⟨by omega, by omega⟩ (by omega) W
  rw [hqx] at hmake
  obtain ⟨dn, dd, dx, hd⟩ : ∃ dn dd dx, (mk neg (Lib.decDigits n) 0).1 = ⟨dn, dd, dx⟩ := ⟨_, _, _, rfl⟩
  obtain ⟨er, her⟩ : ∃ er, (mk neg (Lib.decDigits n) 0).2 = er := ⟨_, rfl⟩
  obtain ⟨ds, hds⟩ : ∃ ds, B dd = ds := ⟨_, rfl⟩
  rw [hd, her] at hmake
  have hmake' : ∀ W, Calls Tryz.prog 28 #[.bool neg, .string q, .int .i64 0] W fun e w' => e = .returned (.tuple #[.agg #[.bool dn, .string ds, .int .i64 dx], .int .i64 er]) ∧ Below W.heap.size W w' := by rw [← hds]; exact hmake
  have HR := hid (show (mk neg (Lib.decDigits n) 0).1.val = .agg #[.bool dn, .string ds, .int .i64 dx] by rw [hd, ← hds]; rfl)
  have hC := Cls.new w 25 [.bool false, .string ⟨#[]⟩, .int .i64 0]
  have hA := below_alloc w (.cells #[.bool false, .string ⟨#[]⟩, .int .i64 0] 25)
  have hT0 := hT.below hA
  clear hmake hd her hds hq hqx hn
  go_enter Tryz.func27, Tryz.ntmps27
  go_wp2_with fail
  refine (hof _ hT0).mono ?_
  rintro e w1 ⟨rfl, hb1⟩
  have hW1 := hA.trans (hb1.mono hA.size)
  have hC1 := hC.below hb1
  go_wp2_with fail
  refine (hmake' _).mono ?_
  rintro e w2 ⟨rfl, hb2⟩
  have hW2 := hW1.trans (hb2.mono hW1.size)
  have hC2 := hC1.below hb2
  have hlt : w.heap.size < w2.heap.size := hC2.lt
  have hE := Cls.new w2 25 [.bool dn, .string ds, .int .i64 dx]
  have c0 := hC2.cell 0 rfl
  have c1 := hC2.cell 1 rfl
  have c2 := hC2.cell 2 rfl
  have z0 := hC2.frozen 0
  have z1 := hC2.frozen 1
  have z2 := hC2.frozen 2
  have d0 := hE.cell 0 rfl
  have d1 := hE.cell 1 rfl
  have d2 := hE.cell 2 rfl
  go_wp2
  have hF := (((hC2.set 0 (.bool dn)).set 1 (.string ds)).set 2 (.int .i64 dx)).alloc (.cells #[.bool dn, .string ds, .int .i64 dx] 25)
  have f0 := hF.cell 0 rfl
  have f1 := hF.cell 1 rfl
  have f2 := hF.cell 2 rfl
  have hbG := ((hW2.setCell (p := ⟨w.heap.size, 0, none⟩) (Nat.le_refl _) (.bool dn)).setCell (p := ⟨w.heap.size, 1, none⟩) (Nat.le_refl _) (.string ds)).setCell (p := ⟨w.heap.size, 2, none⟩) (Nat.le_refl _) (.int .i64 dx)
  have hbF := hbG.alloc hbG.size (.cells #[.bool dn, .string ds, .int .i64 dx] 25)
  exact bodyPost_ret (v := .agg #[.bool dn, .string ds, .int .i64 dx]) (by simp [results, Tryz.results27, go_sem, f0, f1, f2]) rfl ⟨by rw [HR.out], hbF⟩

/-- the whole number of a decimal. -/
def tiT (d : D) : ByteArray := B (d.dg ++ List.replicate d.ex.toNat 48)
def tiG (d : D) : Bool := decR d && (decide (0 ≤ d.ex) && decide (d.ex ≤ 20))
def tiB (d : D) : Bool := tiG d && toB (tiT d)
def tiN (d : D) : Nat := if tiG d then toN (tiT d) else 0

end Go.Proofs.YtfobaeoccpebeaaGreatDoor

/- Plain: written numbers, and what they are read as. -/
namespace Go.Proofs.YtfobaeoccpebeaaGreatDoor
open Go Go.RowKit

theorem dgp_app {d r : List UInt8} (hd : Dgs d) (hr : ∀ c, r.head? = some c → isDg c = false) : dgp (d ++ r) = d := by
  unfold dgp
  rw [List.takeWhile_append_of_pos (fun c hc => hd c hc)]
  cases r with
  | nil => rw [List.takeWhile_nil, List.append_nil]
  | cons c r => rw [List.takeWhile_cons_of_neg (by rw [hr c rfl]; decide), List.append_nil]
theorem hdB_nil (c : UInt8) : hdB c [] = false := rfl
theorem hdB_cons (c d : UInt8) (l : List UInt8) : hdB c (d :: l) = (d == c) := by
  unfold hdB; rw [List.head?_cons]; rfl
theorem dg_ne {d c : UInt8} (hd : isDg d = true) (hc : isDg c = false) : (d == c) = false := by
  rw [beq_eq_false_iff_ne]
  intro e; rw [e, hc] at hd; cases hd

/-- a written number, in its parts. -/
structure Shape (W P X rest : List UInt8) (v : Int) : Prop where
  hW : W ≠ []
  hWd : Dgs W
  hW0 : W.head? = some 48 → W = [48]
  hP : Dgs P
  hr : ∀ c, rest.head? = some c → c = 44
  hX : (X = [] ∧ v = 0) ∨ ∃ c g D, X = c :: (g ++ D) ∧ (c = 101 ∨ c = 69) ∧ Dgs D ∧ D ≠ [] ∧ D.length ≤ 4 ∧ ((g = [] ∧ v = (nv D : Nat)) ∨ (g = [45] ∧ v = -(nv D : Nat)))
def wr (n : Bool) (W P X rest : List UInt8) : List UInt8 := (if n then [45] else []) ++ (W ++ ((if P = [] then [] else 46 :: P) ++ (X ++ rest)))

theorem Shape.restNo {W P X rest : List UInt8} {v : Int} (h : Shape W P X rest v) : ∀ c, rest.head? = some c → isDg c = false := fun c hc => by
  rw [h.hr c hc]; rfl
theorem Shape.xHead {W P X rest : List UInt8} {v : Int} (h : Shape W P X rest v) : ∀ c, (X ++ rest).head? = some c → c = 44 ∨ c = 101 ∨ c = 69 := fun c hc => by
  rcases h.hX with ⟨rfl, -⟩ | ⟨d, g, D, rfl, hd, -⟩
  · exact .inl (h.hr c hc)
  · rw [List.cons_append, List.head?_cons] at hc
    cases hc
    exact .inr hd
theorem Shape.pow {W P X rest : List UInt8} {v : Int} (h : Shape W P X rest v) : powOk (X ++ rest) = true ∧ powV (X ++ rest) = v ∧ powR (X ++ rest) = rest := by
  rcases h.hX with ⟨rfl, rfl⟩ | ⟨c, g, D, rfl, hc, hD, hD0, hD4, hg⟩
  · rw [List.nil_append]
    have hc : powC rest = false := by
      unfold powC expB
      cases hr : rest with
      | nil => rfl
      | cons a r =>
        have := h.hr a (by rw [hr]; rfl)
        subst this
        rw [hdB_cons, hdB_cons]; rfl
    unfold powOk powV powR
    rw [hc]
    exact ⟨rfl, rfl, rfl⟩
  · have hno := h.restNo
    obtain ⟨d, D', rfl⟩ : ∃ d D', D = d :: D' := by
      cases D with
      | nil => exact absurd rfl hD0
      | cons d D' => exact ⟨d, D', rfl⟩
    have hd : isDg d = true := hD d (by simp)
    have hE : expB ((c :: (g ++ d :: D')) ++ rest) = true := by
      unfold expB
      rw [List.cons_append, hdB_cons, hdB_cons]
      rcases hc with rfl | rfl <;> rfl
    have ht : ((c :: (g ++ d :: D')) ++ rest).tail = g ++ ((d :: D') ++ rest) := by rw [List.cons_append, List.tail_cons, List.append_assoc]
    have hL : powL ((c :: (g ++ d :: D')) ++ rest) = (d :: D') ++ rest := by
      unfold powL
      rw [ht]
      rcases hg with ⟨rfl, -⟩ | ⟨rfl, -⟩
      · rw [List.nil_append, List.cons_append, hdB_cons, hdB_cons, dg_ne hd (by rfl), dg_ne hd (by rfl)]; rfl
      · rfl
    have hDD : powD ((c :: (g ++ d :: D')) ++ rest) = d :: D' := by
      unfold powD
      rw [hL]
      exact dgp_app hD hno
    have hC : powC ((c :: (g ++ d :: D')) ++ rest) = true := by
      unfold powC
      rw [hE, hDD, decide_eq_true (by simp)]; rfl
    have hs : hdB 45 (g ++ ((d :: D') ++ rest)) = decide (g = [45]) := by
      rcases hg with ⟨rfl, -⟩ | ⟨rfl, -⟩
      · rw [List.nil_append, List.cons_append, hdB_cons, dg_ne hd (by rfl)]; rfl
      · rfl
    unfold powOk powV powR
    rw [hC, hL, hDD, ht, hs]
    refine ⟨by rw [decide_eq_true hD4]; rfl, ?_, ?_⟩
    · rcases hg with ⟨rfl, rfl⟩ | ⟨rfl, rfl⟩ <;> rfl
    · rw [if_pos rfl, List.drop_append_of_le_length (Nat.le_refl _), List.drop_length, List.nil_append]

theorem parse_parts (n : Bool) {W P X rest : List UInt8} {v : Int} (h : Shape W P X rest v) :
    hdB 45 (wr n W P X rest) = n ∧ prW (wr n W P X rest) = W ∧ prP (wr n W P X rest) = P ∧ pr3 (wr n W P X rest) = X ++ rest := by
  obtain ⟨d, W', hWe⟩ : ∃ d W', W = d :: W' := by
    cases hw : W with
    | nil => exact absurd hw h.hW
    | cons d W' => exact ⟨d, W', rfl⟩
  have hd : isDg d = true := h.hWd d (by rw [hWe]; simp)
  obtain ⟨T, hT⟩ : ∃ T, (if P = [] then [] else 46 :: P) ++ (X ++ rest) = T := ⟨_, rfl⟩
  have hTn : ∀ c, T.head? = some c → isDg c = false := by
    intro c hc
    rw [← hT] at hc
    split at hc
    · rcases h.xHead c hc with rfl | rfl | rfl <;> rfl
    · cases hc; rfl
  have h1 : hdB 45 (wr n W P X rest) = n := by
    unfold wr
    cases n with
    | true => rfl
    | false =>
      rw [hWe]
      show hdB 45 ((d :: W') ++ _) = false
      rw [List.cons_append, hdB_cons, dg_ne hd (by rfl)]
  have h2 : pr1 (wr n W P X rest) = W ++ T := by
    unfold pr1
    rw [h1, ← hT]
    cases n <;> rfl
  have h3 : wholeS (W ++ T) = W ∧ wholeR (W ++ T) = T := by
    unfold wholeS wholeR
    by_cases h0 : d = 48
    · have hW1 := h.hW0 (by rw [hWe, h0]; rfl)
      rw [hW1]
      exact ⟨rfl, rfl⟩
    · have hx : hdB 48 (W ++ T) = false := by rw [hWe, List.cons_append, hdB_cons, beq_eq_false_iff_ne]; exact h0
      have hg : dgp (W ++ T) = W := dgp_app h.hWd hTn
      rw [hx, hg]
      exact ⟨rfl, by rw [if_neg (by decide), List.drop_append_of_le_length (Nat.le_refl _), List.drop_length, List.nil_append]⟩
  have h4 : partS T = P ∧ partR T = X ++ rest := by
    have hxn : ∀ c, (X ++ rest).head? = some c → isDg c = false := fun c hc => by rcases h.xHead c hc with rfl | rfl | rfl <;> rfl
    by_cases hP : P = []
    · have hp : partB T = false := by
        unfold partB
        rw [← hT, if_pos hP, List.nil_append]
        cases hx : (X ++ rest) with
        | nil => rfl
        | cons a r =>
          rw [hdB_cons]
          rcases h.xHead a (by rw [hx]; rfl) with rfl | rfl | rfl <;> rfl
      unfold partS partR
      rw [hp, hP, ← hT, if_pos hP]
      exact ⟨rfl, rfl⟩
    · have ht : T.tail = P ++ (X ++ rest) := by rw [← hT, if_neg hP]; rfl
      have hg : dgp T.tail = P := by rw [ht]; exact dgp_app h.hP hxn
      have hp : partB T = true := by
        unfold partB
        rw [hg, decide_eq_true hP, ← hT, if_neg hP]
        rfl
      unfold partS partR
      rw [hp, hg, ht]
      exact ⟨rfl, by rw [if_pos rfl, List.drop_append_of_le_length (Nat.le_refl _), List.drop_length, List.nil_append]⟩
  unfold prW prP pr3 pr2
  rw [h2, h3.1, h3.2, h4.1, h4.2]
  exact ⟨h1, rfl, rfl, rfl⟩

/-- what a written number is read as. -/
theorem parse_shape (n : Bool) {W P X rest : List UInt8} {v : Int} (h : Shape W P X rest v) (d : D) (hm : mk n (W ++ P) (v - P.length) = (d, 0)) :
    parseD (wr n W P X rest) = d ∧ parseR (wr n W P X rest) = rest ∧ parseE (wr n W P X rest) = 0 := by
  obtain ⟨h1, h2, h3, h4⟩ := parse_parts n h
  obtain ⟨p1, p2, p3⟩ := h.pow
  have hM : prM (wr n W P X rest) = (d, 0) := by
    unfold prM
    rw [h1, h2, h3, h4, p2]
    exact hm
  have hB : prB (wr n W P X rest) = true := by
    unfold prB
    rw [h2, h4, p1, decide_eq_true h.hW]; rfl
  unfold parseD parseR parseE
  rw [hB, hM, h4, p3]
  exact ⟨rfl, rfl, rfl⟩

theorem drop_zeros (a : Nat) (l : List UInt8) (hl : l.head? ≠ some 48) : stripL (List.replicate a 48 ++ l) = l := by
  unfold stripL
  induction a with
  | zero =>
    cases l with
    | nil => rfl
    | cons c r =>
      rw [show List.replicate 0 (48 : UInt8) ++ c :: r = c :: r from rfl, List.dropWhile_cons_of_neg]
      intro e
      exact hl (by rw [List.head?_cons, beq_iff_eq.1 e])
  | succ a ih => exact ih
theorem strip_zeros (b : Nat) (l : List UInt8) (hl : l.getLast? ≠ some 48) : stripR (l ++ List.replicate b 48) = l := by
  unfold stripR
  rw [List.reverse_append, List.reverse_replicate]
  have := drop_zeros b l.reverse (by rw [List.head?_reverse]; exact hl)
  unfold stripL at this
  rw [this, List.reverse_reverse]

theorem decR_parts {d : D} (h : decR d = true) (h0 : d.dg ≠ [48]) : isRt d.dg = true ∧ d.dg.length ≤ 100 ∧ -100 ≤ d.ex ∧ d.ex ≤ 100 ∧ d.dg.getLast? ≠ some 48 ∧ d.dg.head? ≠ some 48 := by
  unfold decR at h
  rw [if_neg h0, Bool.and_eq_true, Bool.and_eq_true, Bool.and_eq_true, Bool.and_eq_true, decide_eq_true_eq, decide_eq_true_eq, decide_eq_true_eq, Bool.not_eq_true'] at h
  obtain ⟨h1, h2, ⟨h3, h4⟩, h5⟩ := h
  refine ⟨h1, h2, h3, h4, (fun e => by rw [e] at h5; cases h5), fun e => ?_⟩
  by_cases hl : 1 < d.dg.length
  · rw [isRt_zero hl e] at h1; cases h1
  · cases hd : d.dg with
    | nil => rw [hd] at e; cases e
    | cons c r =>
      rw [hd] at hl e
      cases r with
      | nil => rw [hd] at h0; cases e; exact h0 rfl
      | cons c' r' => simp at hl

theorem rt_dgs {l : List UInt8} (h : isRt l = true) : Dgs l := fun c hc => by
  have g := (isRt_iff l).1 h
  exact dec_isDg (nv l) c (by rw [← g.1]; exact hc)

/-- zeros ahead and behind make no difference. -/
theorem mk_zeros (d : D) (a b : Nat) (h : decR d = true) (hlen : a + d.dg.length + b ≤ 400) (hx : -1000 ≤ d.ex - b ∧ d.ex - b ≤ 1000) :
    mk d.neg (List.replicate a 48 ++ d.dg ++ List.replicate b 48) (d.ex - b) = (d, 0) := by
  have hz : ∀ k, Dgs (List.replicate k (48 : UInt8)) := fun k c hc => by rw [(List.mem_replicate.1 hc).2]; rfl
  have hbd := decR_bounds h
  have hok : Dgs d.dg → mkOk (List.replicate a 48 ++ d.dg ++ List.replicate b 48) (d.ex - b) = true := fun hd => by
    unfold mkOk
    rw [decide_eq_true (by intro e; have := congrArg List.length e; rw [List.length_append, List.length_append, List.length_nil] at this; omega), decide_eq_true (by rw [List.length_append, List.length_append, List.length_replicate, List.length_replicate]; omega), decide_eq_true hx.1, decide_eq_true hx.2]
    have hall : (List.replicate a (48 : UInt8) ++ d.dg ++ List.replicate b 48).all isDg = true := by
      rw [List.all_eq_true]
      intro c hc
      rcases List.mem_append.1 hc with hc | hc
      · rcases List.mem_append.1 hc with hc | hc
        · exact hz a c hc
        · exact hd c hc
      · exact hz b c hc
    rw [hall]
    rfl
  by_cases h0 : d.dg = [48]
  · have hd : d = Dz := by
      unfold decR at h
      rw [if_pos h0, Bool.and_eq_true, decide_eq_true_eq, Bool.not_eq_true'] at h
      exact D.ext' h.2 h0 h.1
    unfold mk
    rw [hok (by rw [h0]; intro c hc; rw [List.mem_singleton.1 hc]; rfl), if_pos rfl, if_pos, hd]
    rw [h0, List.append_assoc, show [48] ++ List.replicate b (48 : UInt8) = List.replicate (b + 1) 48 from rfl]
    unfold stripL
    rw [List.replicate_append_replicate]
    have : ∀ k, List.dropWhile (· == (48 : UInt8)) (List.replicate k 48) = [] := fun k => by
      induction k with
      | zero => rfl
      | succ k ih => exact ih
    exact this _
  · obtain ⟨h1, h2, h3, h4, h5, h6⟩ := decR_parts h h0
    have hne : d.dg ≠ [] := by intro e; rw [e] at hbd; simp at hbd
    have hs1 : stripL (List.replicate a 48 ++ d.dg ++ List.replicate b 48) = d.dg ++ List.replicate b 48 := by
      rw [List.append_assoc]
      exact drop_zeros a _ (by rw [head_app hne]; exact h6)
    have hs2 : stripR (d.dg ++ List.replicate b 48) = d.dg := strip_zeros b _ h5
    have hmd : mkD d.neg (List.replicate a 48 ++ d.dg ++ List.replicate b 48) (d.ex - b) = d := by
      unfold mkD
      rw [hs1, hs2]
      exact D.ext' rfl rfl (by show d.ex - b + _ - _ = d.ex; rw [List.length_append, List.length_replicate]; omega)
    unfold mk
    rw [hok (rt_dgs h1), if_pos rfl, if_neg, hmd, h, if_pos rfl]
    rw [hs1]
    intro e
    exact hne (List.append_eq_nil_iff.1 e).1

theorem nv_small {l : List UInt8} (h : Dgs l) : nv l < 10 ^ l.length := nv_bound h

/-- the plain writing is read as what it is. -/
theorem parse_fmt (d : D) (rest : List UInt8) (h : decR d = true) (hr : ∀ c, rest.head? = some c → c = 44) :
    parseD (fmtL d ++ rest) = d ∧ parseR (fmtL d ++ rest) = rest ∧ parseE (fmtL d ++ rest) = 0 := by
  have hbd := decR_bounds h
  have hrt : isRt d.dg = true := by
    by_cases h0 : d.dg = [48]
    · rw [h0]; rfl
    · exact (decR_parts h h0).1
  have hdg := rt_dgs hrt
  have hne : d.dg ≠ [] := by intro e; rw [e] at hbd; simp at hbd
  have hz : ∀ k, Dgs (List.replicate k (48 : UInt8)) := fun k c hc => by rw [(List.mem_replicate.1 hc).2]; rfl
  have app : ∀ {u v : List UInt8}, Dgs u → Dgs v → Dgs (u ++ v) := fun hu hv c hc => by
    rcases List.mem_append.1 hc with hc | hc
    · exact hu c hc
    · exact hv c hc
  -- the whole digits, as they stand
  have key : ∀ (W P X : List UInt8) (v : Int), fmtB d = W ++ ((if P = [] then [] else 46 :: P) ++ X) → Shape W P X rest v → mk d.neg (W ++ P) (v - P.length) = (d, 0) →
      parseD (fmtL d ++ rest) = d ∧ parseR (fmtL d ++ rest) = rest ∧ parseE (fmtL d ++ rest) = 0 := fun W P X v hf hs hm => by
    have he : fmtL d ++ rest = wr d.neg W P X rest := by
      unfold fmtL wr
      rw [h, if_pos rfl, hf]
      simp only [List.append_assoc]
    rw [he]
    exact parse_shape d.neg hs d hm
  have h48 : d.dg = [48] → d.ex = 0 ∧ d.neg = false := fun h0 => by
    unfold decR at h
    rw [if_pos h0, Bool.and_eq_true, decide_eq_true_eq, Bool.not_eq_true'] at h
    exact h
  have hhd : d.dg.head? = some 48 → d.dg = [48] := fun e => by
    by_cases h0 : d.dg = [48]
    · exact h0
    · exact absurd e (decR_parts h h0).2.2.2.2.2
  by_cases hk : (decide (-20 ≤ d.ex) && decide (d.ex ≤ 20)) = true
  · by_cases h0 : 0 ≤ d.ex
    · obtain ⟨c, hc⟩ := Int.eq_ofNat_of_zero_le h0
      have hc20 : c ≤ 20 := by rw [Bool.and_eq_true, decide_eq_true_eq, decide_eq_true_eq] at hk; omega
      refine key (d.dg ++ List.replicate c 48) [] [] 0 ?_ ⟨by simp [hne], app hdg (hz c), ?_, Dgs.nil, hr, .inl ⟨rfl, rfl⟩⟩ ?_
      · unfold fmtB
        rw [if_pos hk, if_pos h0, hc]
        simp
      · rw [head_app hne]
        intro e
        have e2 := hhd e
        have := (h48 e2).1
        rw [e2, show c = 0 by omega]; rfl
      · have := mk_zeros d 0 c h (by omega) (by omega)
        rw [show d.ex - (c : Int) = 0 - (([] : List UInt8).length : Nat) by simp; omega] at this
        rw [List.append_nil]
        exact this
    · have hno : d.dg ≠ [48] := fun e => h0 (by rw [(h48 e).1]; omega)
      by_cases h1 : 0 < (d.dg.length : Int) + d.ex
      · obtain ⟨m, hm⟩ : ∃ m : Nat, (d.dg.length : Int) + d.ex = (m : Int) := ⟨((d.dg.length : Int) + d.ex).toNat, by omega⟩
        have hdl : (d.dg.drop m).length = d.dg.length - m := List.length_drop
        have hdn : d.dg.drop m ≠ [] := by intro e; rw [e] at hdl; simp at hdl; omega
        have htn : d.dg.take m ≠ [] := by intro e; have := congrArg List.length e; rw [List.length_take, List.length_nil] at this; omega
        refine key (d.dg.take m) (d.dg.drop m) [] 0 ?_ ⟨htn, fun c hc => hdg c (List.mem_of_mem_take hc), ?_, fun c hc => hdg c (List.mem_of_mem_drop hc), hr, .inl ⟨rfl, rfl⟩⟩ ?_
        · unfold fmtB
          rw [if_pos hk, if_neg h0, if_pos h1, hm, if_neg hdn]
          simp
        · intro e
          exact absurd (hhd (by rw [← e, List.head?_take, if_neg (by omega)])) hno
        · have := mk_zeros d 0 0 h (by omega) (by omega)
          rw [List.take_append_drop, hdl]
          rw [show d.ex - ((0 : Nat) : Int) = 0 - ((d.dg.length - m : Nat) : Int) by omega] at this
          simpa using this
      · obtain ⟨c, hc⟩ : ∃ c : Nat, -((d.dg.length : Int) + d.ex) = (c : Int) := ⟨(-((d.dg.length : Int) + d.ex)).toNat, by omega⟩
        have hc20 : -20 ≤ d.ex := by rw [Bool.and_eq_true, decide_eq_true_eq, decide_eq_true_eq] at hk; omega
        have hpn : List.replicate c (48 : UInt8) ++ d.dg ≠ [] := by simp [hne]
        refine key [48] (List.replicate c 48 ++ d.dg) [] 0 ?_ ⟨by simp, fun x hx => by rw [List.mem_singleton.1 hx]; rfl, fun _ => rfl, app (hz c) hdg, hr, .inl ⟨rfl, rfl⟩⟩ ?_
        · unfold fmtB
          rw [if_pos hk, if_neg h0, if_neg h1, hc, if_neg hpn]
          simp
        · have := mk_zeros d (c + 1) 0 h (by omega) (by omega)
          rw [show d.ex - ((0 : Nat) : Int) = 0 - ((List.replicate c (48 : UInt8) ++ d.dg).length : Int) by rw [List.length_append, List.length_replicate]; omega] at this
          simpa [List.replicate_succ] using this
  · have hno : d.dg ≠ [48] := fun e => hk (by rw [(h48 e).1]; rfl)
    refine key d.dg [] (101 :: Lib.itoa d.ex) d.ex ?_ ⟨hne, hdg, hhd, Dgs.nil, hr, .inr ?_⟩ ?_
    · unfold fmtB
      rw [if_neg hk]
      simp
    · have hi := itoa_len d.ex (by omega)
      unfold Lib.itoa
      have hl : ∀ u : Nat, u ≤ 100 → (Lib.decDigits u).length ≤ 4 := fun u hu => by rw [Lib.decDigits_length]; exact rdig_lt 3 u (by omega)
      split
      · refine ⟨101, [45], Lib.decDigits d.ex.natAbs, rfl, .inl rfl, fun c hc => dec_isDg _ c hc, dec_ne_nil _, hl _ (by omega), .inr ⟨rfl, ?_⟩⟩
        rw [nv_dec]; omega
      · refine ⟨101, [], Lib.decDigits d.ex.toNat, rfl, .inl rfl, fun c hc => dec_isDg _ c hc, dec_ne_nil _, hl _ (by omega), .inl ⟨rfl, ?_⟩⟩
        rw [nv_dec]; omega
    · have := mk_zeros d 0 0 h (by omega) (by omega)
      simpa using this

/-- what is made is right. -/
theorem mk_right {n : Bool} {l : List UInt8} {x : Int} (h : (mk n l x).2 = 0) : decR (mk n l x).1 = true := by
  unfold mk at h ⊢
  split at h
  · rename_i h1
    rw [if_pos h1]
    split at h
    · rename_i h2
      rw [if_pos h2]; rfl
    · rename_i h2
      rw [if_neg h2]
      split at h
      · rename_i h3
        rw [if_pos h3]; exact h3
      · exact absurd h (by decide)
  · exact absurd h (by decide)
theorem parse_right {l : List UInt8} (h : parseE l = 0) : decR (parseD l) = true := by
  unfold parseE at h
  split at h
  · rename_i h1
    unfold parseD
    rw [if_pos h1]
    rw [Bool.and_eq_true, beq_iff_eq] at h1
    exact mk_right h1.2
  · exact absurd h (by decide)
theorem parseE_01 (l : List UInt8) : parseE l = 0 ∨ parseE l = 40 := by
  unfold parseE; split
  · exact .inl rfl
  · exact .inr rfl
end Go.Proofs.YtfobaeoccpebeaaGreatDoor

/- Plain: zeros behind; a whole number's decimal. -/
namespace Go.Proofs.YtfobaeoccpebeaaGreatDoor
open Go Go.RowKit

theorem stripR_snoc (l : List UInt8) : stripR (l ++ [48]) = stripR l := by
  unfold stripR
  rw [List.reverse_append]; rfl
theorem stripR_other {l : List UInt8} (h : l.getLast? ≠ some 48) : stripR l = l := by
  have := strip_zeros 0 l h
  rw [List.replicate_zero, List.append_nil] at this
  exact this
theorem stripL_head (l : List UInt8) : (stripL l).head? ≠ some 48 := by
  unfold stripL
  induction l with
  | nil => intro e; cases e
  | cons c r ih =>
    by_cases h : c = 48
    · subst h; exact ih
    · rw [List.dropWhile_cons_of_neg (by rw [beq_iff_eq]; exact h)]
      intro e; cases e; exact h rfl

theorem strip_split (l : List UInt8) : l = stripR l ++ List.replicate (l.length - (stripR l).length) 48 := by
  have h1 : l.reverse = l.reverse.takeWhile (· == 48) ++ l.reverse.dropWhile (· == 48) := (List.takeWhile_append_dropWhile).symm
  have h2 : ∀ m : List UInt8, m.takeWhile (· == 48) = List.replicate (m.takeWhile (· == 48)).length 48 := fun m => by
    rw [List.eq_replicate_iff]
    exact ⟨rfl, fun c hc => by
      have := List.all_takeWhile (l := m) (p := (· == 48))
      rw [List.all_eq_true] at this
      exact beq_iff_eq.1 (this c hc)⟩
  have h3 := congrArg List.reverse h1
  rw [List.reverse_reverse, List.reverse_append] at h3
  have h4 : l = stripR l ++ (l.reverse.takeWhile (· == 48)).reverse := h3
  have h5 := congrArg List.length h4
  rw [List.length_append, List.length_reverse] at h5
  rw [h2, List.reverse_replicate] at h4
  rw [show l.length - (stripR l).length = (l.reverse.takeWhile (· == 48)).length by omega]
  exact h4
theorem stripR_last (l : List UInt8) : (stripR l).getLast? ≠ some 48 := by
  unfold stripR
  rw [List.getLast?_reverse]
  exact stripL_head l.reverse
theorem stripL_id {l : List UInt8} (h : l.head? ≠ some 48) : stripL l = l := by
  have := drop_zeros 0 l h
  exact this
theorem dec_head1 {n : Nat} (h : 0 < n) : (Lib.decDigits n).head? ≠ some 48 := by
  by_cases h10 : n < 10
  · rw [dec_small h10, List.head?_cons]
    intro e
    have := congrArg UInt8.toNat (Option.some.inj e)
    rw [byte_toNat (by omega)] at this
    have h48 : (48 : UInt8).toNat = 48 := rfl
    omega
  · exact dec_head (by omega)

/-- a whole number's decimal. -/
theorem whole_plain (neg : Bool) (n : Nat) (hn : n < 18446744073709551616) (d : D) (hd : (mk neg (Lib.decDigits n) 0).1 = d) :
    decR d = true ∧ 0 ≤ d.ex ∧ d.ex ≤ 20 ∧ d.dg ++ List.replicate d.ex.toNat 48 = Lib.decDigits n ∧ d.neg = (neg && decide (0 < n)) := by
  subst hd
  rcases Nat.eq_zero_or_pos n with h0 | h0
  · subst h0
    rw [show Lib.decDigits 0 = [48] from by rw [dec_small (by omega)]; rfl]
    cases neg <;> exact ⟨rfl, by decide, by decide, rfl, rfl⟩
  · have hh := dec_head1 h0
    have hne := dec_ne_nil n
    have hdg := dec_isDg n
    have hlen : (Lib.decDigits n).length ≤ 20 := by rw [Lib.decDigits_length]; exact rdig_lt 19 n (by omega)
    obtain ⟨l, hl⟩ : ∃ l, Lib.decDigits n = l := ⟨_, rfl⟩
    rw [hl] at hh hne hdg hlen ⊢
    have hsL := stripL_id hh
    have hsp := strip_split l
    have hle := stripR_le l
    have hsn := stripR_ne hne hh
    have hsl := List.length_pos_iff.2 hsn
    have hok : mkOk l 0 = true := by
      unfold mkOk
      rw [decide_eq_true hne, decide_eq_true (show l.length ≤ 400 by omega), show l.all isDg = true from List.all_eq_true.2 hdg]
      rfl
    have hhd : (stripR l).head? = l.head? := by
      conv => rhs; rw [hsp]
      rw [head_app hsn]
    have hR : decR (mkD neg l 0) = true := by
      unfold mkD decR
      rw [hsL]
      have hn48 : ¬ stripR l = [48] := by intro e; rw [e] at hhd; exact hh (by rw [← hhd]; rfl)
      show (if stripR l = [48] then _ else _) = true
      rw [if_neg hn48]
      show (isRt (stripR l) && (decide ((stripR l).length ≤ 100) && (decide (-100 ≤ (0 : Int) + l.length - (stripR l).length) && decide ((0 : Int) + l.length - (stripR l).length ≤ 100) && !((stripR l).getLast? == some 48)))) = true
      rw [isRt_main (by omega) (by omega) (by rw [hhd]; exact fun h => hh h.2), show (stripR l).all isDg = true from List.all_eq_true.2 (fun c hc => hdg c (by rw [hsp]; exact List.mem_append_left _ hc)), decide_eq_true (show (stripR l).length ≤ 100 by omega), decide_eq_true (show (-100 : Int) ≤ (0 : Int) + l.length - (stripR l).length by omega), decide_eq_true (show (0 : Int) + l.length - (stripR l).length ≤ 100 by omega), show ((stripR l).getLast? == some 48) = false from beq_eq_false_iff_ne.2 (stripR_last l)]
      rfl
    have hm : mk neg l 0 = (mkD neg l 0, 0) := by
      unfold mk
      rw [if_pos hok, if_neg (by rw [hsL]; exact hne), if_pos hR]
    rw [hm]
    refine ⟨hR, ?_, ?_, ?_, ?_⟩
    · show (0 : Int) ≤ 0 + (stripL l).length - (stripR (stripL l)).length
      rw [hsL]; omega
    · show (0 : Int) + (stripL l).length - (stripR (stripL l)).length ≤ 20
      rw [hsL]; omega
    · show stripR (stripL l) ++ List.replicate ((0 : Int) + (stripL l).length - (stripR (stripL l)).length).toNat 48 = l
      rw [hsL, show ((0 : Int) + l.length - (stripR l).length).toNat = l.length - (stripR l).length by omega]
      exact hsp.symm
    · show neg = _
      rw [decide_eq_true h0, Bool.and_true]

end Go.Proofs.YtfobaeoccpebeaaGreatDoor

