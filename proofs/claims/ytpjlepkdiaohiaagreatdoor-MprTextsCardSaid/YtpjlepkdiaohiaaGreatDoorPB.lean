/- PB: DecA DecP DecB DecG DecJ. -/
import Derived.Test.YtpjlepkdiaohiaaGreatDoorPA
import Derived.Laws.StructEq
import Derived.Deep.RegionWith
import Derived.Shelf.GgClosure.StringsIndexFunc
import Derived.WalkMore
import Derived.ScopeJumps
/- Package dec: zero, within, isDigit, Right: walked. -/
namespace Go.Proofs.YtpjlepkdiaohiaaGreatDoor
open Go.RowKit
attribute [local go_sem] Oper.semAt_some

/-- a decimal: whether it is below 0, its digits, its exponent. -/
structure D where
  neg : Bool
  dg : List UInt8
  ex : Int
theorem D.ext' {a b : D} (h1 : a.neg = b.neg) (h2 : a.dg = b.dg) (h3 : a.ex = b.ex) : a = b := by
  cases a; cases b; simp_all
def DV (n : Bool) (s : ByteArray) (x : Int) : Value := .agg #[.bool n, .string s, .int .i64 x]
def D.val (d : D) : Value := DV d.neg (B d.dg) d.ex

theorem zero_calls (w : World) : Calls Tryz.prog 151 #[] w fun e w' => e = .returned (.agg #[.bool false, .string ⟨#[48]⟩, .int .i64 0]) ∧ Below w.heap.size w w' := by
  go_enter Tryz.func151, Tryz.ntmps151
  go_wp2
  exact bodyPost_ret (v := .agg #[.bool false, .string ⟨#[48]⟩, .int .i64 0]) (by simp [results, Tryz.results151, go_sem]) rfl ⟨rfl, below_alloc _ _⟩

theorem within_calls (n m : Int) (h0 : 0 ≤ m) (h1 : m ≤ 1000) (w : World) :
    Calls Tryz.prog 153 #[.int .i64 n, .int .i64 m] w fun e w' => e = .returned (.bool (decide (-m ≤ n) && decide (n ≤ m))) ∧ w' = w := by
  by_cases h : -m ≤ n
  · by_cases h2 : n ≤ m
    · have HR := hid (show (decide (-m ≤ n) && decide (n ≤ m)) = true by rw [decide_eq_true h, decide_eq_true h2]; rfl)
      have hd : decide (n ≤ m) = true := decide_eq_true h2
      go_enter Tryz.func153, Tryz.ntmps153
      go_wp2
      go_ret
      exact ⟨ret_bool HR.out.symm, rfl⟩
    · have HR := hid (show (decide (-m ≤ n) && decide (n ≤ m)) = false by rw [decide_eq_true h, decide_eq_false h2]; rfl)
      have h3 : m < n := by omega
      have hd : decide (n ≤ m) = false := decide_eq_false h2
      clear h2
      go_enter Tryz.func153, Tryz.ntmps153
      go_wp2
      go_ret
      exact ⟨ret_bool HR.out.symm, rfl⟩
  · have HR := hid (show (decide (-m ≤ n) && decide (n ≤ m)) = false by rw [decide_eq_false h]; rfl)
    have h3 : n < -m := by omega
    clear h
    go_enter Tryz.func153, Tryz.ntmps153
    go_wp2
    go_ret
    exact ⟨ret_bool HR.out.symm, rfl⟩

/-- is a rune a digit? -/
def dgN (x : Nat) : Bool := decide (48 ≤ x) && decide (x ≤ 57)
theorem isDigit_calls (x : Nat) (hx : x ≤ 1114111) (w : World) :
    Calls Tryz.prog 167 #[.int .i32 x] w fun e w' => e = .returned (.bool (dgN x)) ∧ w' = w := by
  have hc : (48 ≤ x ∧ decide ((x : Int) ≤ 57) = true ∧ dgN x = true) ∨ (x < 48 ∧ dgN x = false) ∨ (48 ≤ x ∧ decide ((x : Int) ≤ 57) = false ∧ dgN x = false) := by
    unfold dgN
    by_cases h : 48 ≤ x
    · by_cases h2 : x ≤ 57
      · exact .inl ⟨h, decide_eq_true (by omega), by rw [decide_eq_true h, decide_eq_true h2]; rfl⟩
      · exact .inr (.inr ⟨h, decide_eq_false (by omega), by rw [decide_eq_true h, decide_eq_false h2]; rfl⟩)
    · exact .inr (.inl ⟨by omega, by rw [decide_eq_false h]; rfl⟩)
  rcases hc with ⟨h1, h2, h3⟩ | ⟨h1, h3⟩ | ⟨h1, h2, h3⟩
  all_goals (
    have HR := hid h3
    clear h3
    go_enter Tryz.func167, Tryz.ntmps167
    go_wp2
    go_ret
    exact ⟨ret_bool HR.out.symm, rfl⟩)
theorem other_calls (x : Nat) (hx : x ≤ 1114111) (w : World) :
    Calls Tryz.prog 166 #[.int .i32 x] w fun e w' => e = .returned (.bool (!dgN x)) ∧ w' = w := by
  have hc := isDigit_calls x hx w
  obtain ⟨b, hb⟩ : ∃ b, dgN x = b := ⟨_, rfl⟩
  rw [hb] at hc ⊢
  clear hb
  go_enter Tryz.func166, Tryz.ntmps166
  go_wp2_with (go_at_call 167; refine hc.mono ?_; rintro e w1 ⟨rfl, rfl⟩)
  go_ret
  exact ⟨rfl, rfl⟩

theorem eqD (n n' : Bool) (s s' : ByteArray) (x x' : Int) (w : World) :
    (binOp .eql 23 (.agg #[.bool n, .string s, .int .i64 x]) (.agg #[.bool n', .string s', .int .i64 x'])).run Tryz.prog w = .ok (.bool (n == n' && (s.toList == s'.toList && x == x'))) w := by
  have hS : Tryz.prog.underlying 23 = some (.struct (Tryz.prog.fieldsOf 23)) := by kernel_rfl
  have hp : Tryz.prog.stoodInHeld 23 = false := by kernel_rfl
  rw [run_eql_struct, show (10000 : Nat) = 9999 + 1 from rfl, run_equalIn_agg w 9999 23 _ _ hS hp]
  simp only [Program.fieldsOf, Tryz.underlying23]
  have u1 := Tryz.underlying4
  have u2 := Tryz.underlying9
  have u3 := Tryz.underlying3
  have a1 := Tryz.isAgg4
  have a2 := Tryz.isAgg9
  have a3 := Tryz.isAgg3
  have z1 := Tryz.sizeOf4
  have z2 := Tryz.sizeOf9
  have z3 := Tryz.sizeOf3
  go_simp
  by_cases h1 : n = n' <;> by_cases h2 : (s.toList == s'.toList) = true <;> by_cases h3 : x = x' <;> simp_all

theorem guardD : Tryz.prog.eqGuardType Tryz.prog.depth 23 = false := by kernel_rfl

/-- which decimals are right. -/
def decR (d : D) : Bool := if d.dg = [48] then decide (d.ex = 0) && !d.neg else isRt d.dg && (decide (d.dg.length ≤ 100) && (decide (-100 ≤ d.ex) && decide (d.ex ≤ 100) && !(d.dg.getLast? == some 48)))

theorem suffix_last (l : List UInt8) (h : l ≠ []) : Lib.hasSuffix l [48] = (l.getLast? == some 48) := by
  unfold Lib.hasSuffix
  obtain ⟨r, c, rfl⟩ : ∃ r c, l = r ++ [c] := ⟨l.dropLast, l.getLast h, (List.dropLast_concat_getLast h).symm⟩
  rw [List.getLast?_concat, Bool.eq_iff_iff, List.isSuffixOf_iff_suffix, beq_iff_eq]
  constructor
  · rintro ⟨q, hq⟩
    have := congrArg List.getLast? hq
    rw [List.getLast?_concat, List.getLast?_concat] at this
    exact this.symm
  · intro e
    exact ⟨r, by rw [Option.some.inj e]⟩

theorem decR_other (n : Bool) (s : ByteArray) (x : Int) (hz : (n == false && (s.toList == (⟨#[48]⟩ : ByteArray).toList && x == 0)) = false) :
    decR ⟨n, tx s, x⟩ = (isRt (tx s) && (decide ((tx s).length ≤ 100) && (decide (-100 ≤ x) && decide (x ≤ 100) && !((tx s).getLast? == some 48)))) := by
  unfold decR
  by_cases h : tx s = [48]
  · rw [if_pos h]
    have h2 : (decide (x = 0) && !n) = false := by
      cases e : (decide (x = 0) && !n) with
      | false => rfl
      | true =>
        rw [Bool.and_eq_true, decide_eq_true_eq, Bool.not_eq_true'] at e
        obtain ⟨rfl, rfl⟩ := e
        rw [Lib.toList_data, Lib.toList_data, show s.data.toList = [48] from h] at hz
        exact absurd hz (by decide)
    rw [h2, h]
    simp
  · rw [if_neg h]

set_option maxRecDepth 100000 in
set_option maxHeartbeats 4000000 in
theorem decRight_calls (n : Bool) (s : ByteArray) (x : Int) (hs : s.size ≤ 140737488355328) (w : World) :
    Calls Tryz.prog 125 #[.agg #[.bool n, .string s, .int .i64 x]] w fun e w' => e = .returned (.bool (decR ⟨n, tx s, x⟩)) ∧ Below w.heap.size w w' := by
  have heq := eqD n false s ⟨#[48]⟩ x 0
  have hg := guardD
  have hC := Cls.new w 23 [.bool n, .string s, .int .i64 x]
  have hCl := hC.lt
  have hA := (below_alloc w (.cells #[.bool n, .string s, .int .i64 x] 23)).drew
  by_cases hz : (n == false && (s.toList == (⟨#[48]⟩ : ByteArray).toList && x == 0)) = true
  · have HR := hid (show decR ⟨n, tx s, x⟩ = true by
      rw [Bool.and_eq_true, Bool.and_eq_true, beq_iff_eq, beq_iff_eq, beq_iff_eq] at hz
      obtain ⟨rfl, h2, rfl⟩ := hz
      rw [Lib.toList_data, Lib.toList_data] at h2
      unfold decR
      rw [if_pos (show tx s = [48] from h2)]; rfl)
    rw [hz] at heq
    clear hz
    go_enter Tryz.func125, Tryz.ntmps125
    go_wp2
    go_region_with (go_at_call 151; refine (zero_calls _).mono ?_; rintro e w1 ⟨rfl, hb⟩; have hC1 : Cls w1 w.heap.size 23 [.bool n, .string s, .int .i64 x] := (hb.block w.heap.size hCl).trans hC; have c0 := hC1.cell 0 rfl; have c1 := hC1.cell 1 rfl; have c2 := hC1.cell 2 rfl)
    all_goals (
      go_wp2
      go_ret
      exact ⟨ret_bool HR.out.symm, hA.trans (hb.mono hA.size)⟩)
  · rw [Bool.not_eq_true] at hz
    have hR := decR_other n s x hz
    rw [hz] at heq
    clear hz
    have hlen := txs_len s
    cases h1 : isRt (tx s) with
    | false =>
      have HR := hid (show decR ⟨n, tx s, x⟩ = false by rw [hR, h1]; rfl)
      have hright := fun W => right_calls s W hs
      change ∀ W, Calls _ _ _ _ fun e w' => e = .returned (.bool (isRt (tx s))) ∧ _ at hright
      rw [h1] at hright
      clear hR hlen h1
      go_enter Tryz.func125, Tryz.ntmps125
      go_wp2
      go_region_with (go_at_call 151; refine (zero_calls _).mono ?_; rintro e w1 ⟨rfl, hb⟩; have hC1 : Cls w1 w.heap.size 23 [.bool n, .string s, .int .i64 x] := (hb.block w.heap.size hCl).trans hC; have c0 := hC1.cell 0 rfl; have c1 := hC1.cell 1 rfl; have c2 := hC1.cell 2 rfl)
      all_goals (
        go_wp2_with (go_at_call 152; refine (hright _).mono ?_; rintro e w2 ⟨rfl, hb2⟩)
        go_ret
        exact ⟨ret_bool HR.out.symm, hA.trans ((hb.mono hA.size).trans (hb2.mono (Nat.le_trans hA.size hb.size)))⟩)
    | true =>
      have hright := fun W => right_calls s W hs
      change ∀ W, Calls _ _ _ _ fun e w' => e = .returned (.bool (isRt (tx s))) ∧ _ at hright
      rw [h1] at hright
      have hw := fun W => within_calls x 100 (by omega) (by omega) W
      have hsf := fun W => Tryz.strings_HasSuffix s ⟨#[48]⟩ W (by omega)
      have hsx : Lib.hasSuffix s.data.toList [48] = ((tx s).getLast? == some 48) := suffix_last _ (by intro e; have := (rt_len h1).1; rw [show s.data.toList = tx s from rfl] at e; rw [e] at this; simp at this)
      change ∀ W, Calls _ _ _ _ fun e w' => e = .returned (.bool (Lib.hasSuffix s.data.toList [48])) ∧ _ at hsf
      rw [hsx] at hsf
      rw [h1, hlen, Bool.true_and] at hR
      obtain ⟨bw, hbw⟩ : ∃ bw, (decide (-(100 : Int) ≤ x) && decide (x ≤ 100)) = bw := ⟨_, rfl⟩
      rw [hbw] at hw
      change decR _ = (decide (s.size ≤ 100) && ((decide (-(100 : Int) ≤ x) && decide (x ≤ 100)) && _)) at hR
      rw [hbw] at hR
      obtain ⟨bs, hbs⟩ : ∃ bs, ((tx s).getLast? == some 48) = bs := ⟨_, rfl⟩
      rw [hbs] at hsf hR
      by_cases h3 : s.size ≤ 100
      · rw [decide_eq_true h3, Bool.true_and] at hR
        have h3i : decide ((s.size : Int) ≤ 100) = true := decide_eq_true (by omega)
        have HR := hid hR
        clear hR hlen h1 hsx hbw hbs h3
        cases bw with
        | false =>
          go_enter Tryz.func125, Tryz.ntmps125
          go_wp2
          go_region_with (go_at_call 151; refine (zero_calls _).mono ?_; rintro e w1 ⟨rfl, hb⟩; have hC1 : Cls w1 w.heap.size 23 [.bool n, .string s, .int .i64 x] := (hb.block w.heap.size hCl).trans hC; have c0 := hC1.cell 0 rfl; have c1 := hC1.cell 1 rfl; have c2 := hC1.cell 2 rfl)
          all_goals (
            go_wp2_with (first
              | (go_at_call 152; refine (hright _).mono ?_; rintro e w2 ⟨rfl, hb2⟩; have hC2 : Cls w2 w.heap.size 23 [.bool n, .string s, .int .i64 x] := (hb2.block w.heap.size hC1.lt).trans hC1; have d1 := hC2.cell 1 rfl; have d2 := hC2.cell 2 rfl)
              | (go_at_call 153; refine (hw _).mono ?_; rintro e w3 ⟨rfl, rfl⟩))
            go_ret
            exact ⟨ret_bool HR.out.symm, hA.trans ((hb.mono hA.size).trans (hb2.mono (Nat.le_trans hA.size hb.size)))⟩)
        | true =>
          go_enter Tryz.func125, Tryz.ntmps125
          go_wp2
          go_region_with (go_at_call 151; refine (zero_calls _).mono ?_; rintro e w1 ⟨rfl, hb⟩; have hC1 : Cls w1 w.heap.size 23 [.bool n, .string s, .int .i64 x] := (hb.block w.heap.size hCl).trans hC; have c0 := hC1.cell 0 rfl; have c1 := hC1.cell 1 rfl; have c2 := hC1.cell 2 rfl)
          all_goals (
            go_wp2_with (first
              | (go_at_call 152; refine (hright _).mono ?_; rintro e w2 ⟨rfl, hb2⟩; have hC2 : Cls w2 w.heap.size 23 [.bool n, .string s, .int .i64 x] := (hb2.block w.heap.size hC1.lt).trans hC1; have d1 := hC2.cell 1 rfl; have d2 := hC2.cell 2 rfl)
              | (go_at_call 153; refine (hw _).mono ?_; rintro e w3 ⟨rfl, rfl⟩)
              | (go_at_call 154; refine (hsf _).mono ?_; rintro e w3 ⟨rfl, rfl⟩))
            go_ret
            exact ⟨ret_bool HR.out.symm, hA.trans ((hb.mono hA.size).trans (hb2.mono (Nat.le_trans hA.size hb.size)))⟩)
      · rw [decide_eq_false h3] at hR
        have h3i : decide ((s.size : Int) ≤ 100) = false := decide_eq_false (by omega)
        have HR := hid hR
        clear hR hlen h1 hsx hbw hbs h3
        go_enter Tryz.func125, Tryz.ntmps125
        go_wp2
        go_region_with (go_at_call 151; refine (zero_calls _).mono ?_; rintro e w1 ⟨rfl, hb⟩; have hC1 : Cls w1 w.heap.size 23 [.bool n, .string s, .int .i64 x] := (hb.block w.heap.size hCl).trans hC; have c0 := hC1.cell 0 rfl; have c1 := hC1.cell 1 rfl; have c2 := hC1.cell 2 rfl)
        all_goals (
          go_wp2_with (go_at_call 152; refine (hright _).mono ?_; rintro e w2 ⟨rfl, hb2⟩; have hC2 : Cls w2 w.heap.size 23 [.bool n, .string s, .int .i64 x] := (hb2.block w.heap.size hC1.lt).trans hC1; have d1 := hC2.cell 1 rfl; have d2 := hC2.cell 2 rfl)
          go_ret
          exact ⟨ret_bool HR.out.symm, hA.trans ((hb.mono hA.size).trans (hb2.mono (Nat.le_trans hA.size hb.size)))⟩)
end Go.Proofs.YtpjlepkdiaohiaaGreatDoor

/- Plain: what dec.Make makes; which texts are digits alone. -/
namespace Go.Proofs.YtpjlepkdiaohiaaGreatDoor
open Go Go.RowKit

def D0 : D := ⟨false, [], 0⟩
def Dz : D := ⟨false, [48], 0⟩
def stripL (l : List UInt8) : List UInt8 := l.dropWhile (· == 48)
def stripR (l : List UInt8) : List UInt8 := (l.reverse.dropWhile (· == 48)).reverse
def mkOk (l : List UInt8) (x : Int) : Bool := decide (l ≠ []) && (decide (l.length ≤ 400) && ((decide (-1000 ≤ x) && decide (x ≤ 1000)) && l.all isDg))
def mkD (n : Bool) (l : List UInt8) (x : Int) : D := ⟨n, stripR (stripL l), x + (stripL l).length - (stripR (stripL l)).length⟩
/-- what is made. -/
def mk (n : Bool) (l : List UInt8) (x : Int) : D × Int :=
  if mkOk l x then (if stripL l = [] then (Dz, 0) else if decR (mkD n l x) then (mkD n l x, 0) else (D0, 40)) else (D0, 40)

theorem stripR_le (l : List UInt8) : (stripR l).length ≤ l.length := by
  unfold stripR
  rw [List.length_reverse]
  have := (List.dropWhile_suffix (l := l.reverse) (· == 48)).length_le
  rwa [List.length_reverse] at this
theorem stripL_le (l : List UInt8) : (stripL l).length ≤ l.length := (List.dropWhile_suffix (l := l) (· == 48)).length_le

theorem dgN_isDg (c : UInt8) : dgN c.toNat = isDg c := rfl

/-- where the first rune stands that is no digit. -/
theorem idx_dg (s : ByteArray) : ∀ (f pos : Nat), s.size ≤ pos + f →
    (((tx s).drop pos).all isDg = true ∧ Lib.idxFuncFrom (fun x => !dgN x) true s f pos = -1) ∨ (((tx s).drop pos).all isDg = false ∧ 0 ≤ Lib.idxFuncFrom (fun x => !dgN x) true s f pos) := by
  intro f
  induction f with
  | zero =>
    intro pos h
    refine .inl ⟨?_, rfl⟩
    rw [List.drop_of_length_le (by rw [txs_len]; omega)]; rfl
  | succ f ih =>
    intro pos h
    by_cases hp : pos < s.size
    · have hd : (tx s).drop pos = s[pos] :: (tx s).drop (pos + 1) := by
        rw [List.drop_eq_getElem_cons (by rw [txs_len]; exact hp)]; rfl
      unfold Lib.idxFuncFrom
      rw [if_pos hp, hd, List.all_cons]
      by_cases ha : (s[pos]'hp).toNat < 128
      · rw [decode_ascii s pos hp ha]
        cases hg : isDg (s[pos]'hp) with
        | false =>
          refine .inr ⟨Bool.false_and _, ?_⟩
          rw [if_pos (by show (!dgN _) = true; rw [dgN_isDg, hg]; rfl)]
          omega
        | true =>
          rw [if_neg (by show ¬ (!dgN _) = true; rw [dgN_isDg, hg]; decide), Bool.true_and]
          exact ih (pos + 1) (by omega)
      · have hh := decode_high s pos hp (by omega)
        have hg : isDg (s[pos]'hp) = false := isDg_not (by omega)
        rw [hg]
        refine .inr ⟨Bool.false_and _, ?_⟩
        rw [if_pos (by show (!dgN _) = true; unfold dgN; rw [decide_eq_false (p := (Utf8.decode s pos).1 ≤ 57) (by have := hh.1; omega), Bool.and_false]; rfl)]
        omega
    · refine .inl ⟨by rw [List.drop_of_length_le (by rw [txs_len]; omega)]; rfl, Lib.idxFuncFrom_end _ _ _ _ _ hp⟩
theorem idx_dg0 (s : ByteArray) : ((tx s).all isDg = true ∧ Lib.idxFunc (fun x => !dgN x) true s = -1) ∨ ((tx s).all isDg = false ∧ 0 ≤ Lib.idxFunc (fun x => !dgN x) true s) := by
  have := idx_dg s s.size 0 (by omega)
  rwa [List.drop_zero] at this
end Go.Proofs.YtpjlepkdiaohiaaGreatDoor

/- Package dec: Make: walked. -/
namespace Go.Proofs.YtpjlepkdiaohiaaGreatDoor
open Go.RowKit
attribute [local go_sem] Oper.semAt_some

theorem jump_ret {l : Nat} {J : Act → World → Prop} {Q : Exit → Act → World → Prop} {a : Act} {w : World} : Exit.jump l J Q .ret a w = Q .ret a w := rfl

theorem other_runes (w : World) : PredAtRunes Tryz.prog 166 #[] (fun x => !dgN x) w := fun W x hx _ => by
  unfold FnGives
  exact (other_calls x hx W).mono fun e w' ⟨he, hw⟩ => ⟨he, 0, hw⟩

/-- the state at the jump. -/
def JumpM (w : World) (a : Act) (w' : World) : Prop := ∃ (u0 u1 u2 u3 u4 u5 u7 u8 u9 u10 u11 u12 u13 u14 u15 u16 u17 u18 u19 u20 u21 u22 u23 u24 u25 u26 u27 u28 u29 u30 u31 u32 u33 u34 u35 u36 u37 u38 u39 u40 u41 u42 u43 u44 u45 u46 u47 u48 u49 : Value), a = { tmps := #[u0, u1, u2, u3, u4, u5, .pointer (some ⟨w.heap.size, 0, none⟩), u7, u8, u9, u10, u11, u12, u13, u14, u15, u16, u17, u18, u19, u20, u21, u22, u23, u24, u25, u26, u27, u28, u29, u30, u31, u32, u33, u34, u35, u36, u37, u38, u39, u40, u41, u42, u43, u44, u45, u46, u47, u48, u49], defers := [] } ∧ Below w.heap.size w w' ∧ Cls w' w.heap.size 23 [.bool false, .string ⟨#[]⟩, .int .i64 0]

set_option maxRecDepth 100000 in
set_option maxHeartbeats 4000000 in
theorem make_no (n : Bool) (s : ByteArray) (x : Int) (_hx : -9223372036854775808 ≤ x ∧ x ≤ 9223372036854775807) (hs : s.size ≤ 140737488355328) (hno : mkOk (tx s) x = false) (w : World) :
    Calls Tryz.prog 143 #[.bool n, .string s, .int .i64 x] w fun e w' => e = .returned (.tuple #[.agg #[.bool false, .string ⟨#[]⟩, .int .i64 0], .int .i64 40]) ∧ Below w.heap.size w w' := by
  have hlen := txs_len s
  have hcase : (s.toList = [] ∧ s.toList.isEmpty = true) ∨ (¬ s.toList = [] ∧ s.toList.isEmpty = false ∧ (((400 : Int) < s.size) ∨ ((s.size : Int) ≤ 400 ∧ ((decide (-1000 ≤ x) && decide (x ≤ 1000)) = false ∨ ((decide (-1000 ≤ x) && decide (x ≤ 1000)) = true ∧ 0 ≤ Lib.idxFunc (fun x => !dgN x) true s))))) := by
    by_cases h0 : s.size = 0
    · obtain ⟨a, b⟩ := emp_of s h0
      exact .inl ⟨a, by rw [a]; rfl⟩
    · obtain ⟨a, b⟩ := ne_of s h0
      refine .inr ⟨a, b, ?_⟩
      by_cases h4 : s.size ≤ 400
      · refine .inr ⟨by omega, ?_⟩
        cases hb : (decide (-1000 ≤ x) && decide (x ≤ 1000)) with
        | false => exact .inl rfl
        | true =>
          refine .inr ⟨rfl, ?_⟩
          rcases idx_dg0 s with ⟨h, _⟩ | ⟨_, h⟩
          · unfold mkOk at hno
            rw [hb, h, hlen, decide_eq_true h4, decide_eq_true (p := tx s ≠ []) (by intro e; rw [e] at hlen; simp at hlen; omega)] at hno
            exact absurd hno (by decide)
          · exact h
      · exact .inl (by omega)
  have hw := fun W => within_calls x 1000 (by omega) (by omega) W
  have hi := fun W => Tryz.strings_IndexFunc_runes 166 #[] (enters_of Tryz.func166 (by kernel_rfl) rfl) (fun x => !dgN x) s W (other_runes W)
  obtain ⟨z, hz⟩ : ∃ z, Lib.idxFunc (fun x => !dgN x) true s = z := ⟨_, rfl⟩
  rw [hz] at hi hcase
  obtain ⟨bw, hbw⟩ : ∃ bw, (decide (-(1000 : Int) ≤ x) && decide (x ≤ 1000)) = bw := ⟨_, rfl⟩
  rw [hbw] at hw
  change _ ∨ (_ ∧ _ ∧ (_ ∨ (_ ∧ ((decide (-(1000 : Int) ≤ x) && decide (x ≤ 1000)) = false ∨ ((decide (-(1000 : Int) ≤ x) && decide (x ≤ 1000)) = true ∧ _))))) at hcase
  rw [hbw] at hcase
  have hC := Cls.new w 23 [.bool false, .string ⟨#[]⟩, .int .i64 0]
  clear hno hlen hbw hz
  have hpass : ∀ a w', JumpM w a w' → True := fun _ _ _ => trivial
  clear hpass
  go_enter Tryz.func143, Tryz.ntmps143
  go_wp2
  refine wp_scope_jumps 0 (JumpM w) (fun _ _ => 0) rfl ?first ?pass
  case pass =>
    rintro a w' ⟨u0, u1, u2, u3, u4, u5, u7, u8, u9, u10, u11, u12, u13, u14, u15, u16, u17, u18, u19, u20, u21, u22, u23, u24, u25, u26, u27, u28, u29, u30, u31, u32, u33, u34, u35, u36, u37, u38, u39, u40, u41, u42, u43, u44, u45, u46, u47, u48, u49, rfl, hb, hC'⟩
    have c0 := hC'.cell 0 rfl
    have c1 := hC'.cell 1 rfl
    have c2 := hC'.cell 2 rfl
    have z0 := hC'.frozen 0
    have z1 := hC'.frozen 1
    have z2 := hC'.frozen 2
    have hF := ((hC'.set 0 (.bool false)).set 1 (.string ⟨#[]⟩)).set 2 (.int .i64 0)
    have f0 := hF.cell 0 rfl
    have f1 := hF.cell 1 rfl
    have f2 := hF.cell 2 rfl
    have hbF := ((hb.setCell (p := ⟨w.heap.size, 0, none⟩) (Nat.le_refl _) (.bool false)).setCell (p := ⟨w.heap.size, 1, none⟩) (Nat.le_refl _) (.string ⟨#[]⟩)).setCell (p := ⟨w.heap.size, 2, none⟩) (Nat.le_refl _) (.int .i64 0)
    have HF := hid (And.intro f0 (And.intro f1 (And.intro f2 hbF)))
    clear f0 f1 f2 hbF hF
    go_wp2
    rw [jump_ret]
    obtain ⟨f0, f1, f2, hbF⟩ := HF.out
    exact bodyPost_ret (v := .tuple #[.agg #[.bool false, .string ⟨#[]⟩, .int .i64 0], .int .i64 40]) (by simp [results, Tryz.results143, go_sem, f0, f1, f2]) rfl ⟨rfl, hbF⟩
  case first =>
    have hsz := hC.lt
    have hBA := (below_alloc w (.cells #[.bool false, .string ⟨#[]⟩, .int .i64 0] 23))
    have hbb : ∀ V : World, Below ((w.alloc (.cells #[.bool false, .string ⟨#[]⟩, .int .i64 0] 23)).alloc (.cells #[.bool false, .string ⟨#[]⟩, .int .i64 0] 23)).heap.size ((w.alloc (.cells #[.bool false, .string ⟨#[]⟩, .int .i64 0] 23)).alloc (.cells #[.bool false, .string ⟨#[]⟩, .int .i64 0] 23)) V → Below w.heap.size w V ∧ Cls V w.heap.size 23 [.bool false, .string ⟨#[]⟩, .int .i64 0] := fun V h => by
      have hA2 := hBA.alloc hBA.size (.cells #[.bool false, .string ⟨#[]⟩, .int .i64 0] 23)
      exact ⟨hA2.trans (h.mono hA2.size), (h.block w.heap.size (by simp; omega)).trans (hC.alloc _)⟩
    have HB := hid hbb
    have HB0 := hid (hbb _ (Below.refl _ _))
    clear hbb hBA
    rcases hcase with ⟨a, b⟩ | ⟨a, b, h4 | ⟨h4, rfl | ⟨rfl, hz⟩⟩⟩
    all_goals (
      go_wp2_with (first
        | (go_at_call 153; refine (hw _).mono ?_; rintro e w1 ⟨rfl, rfl⟩)
        | (go_at_call 168; refine (hi _).mono ?_; rintro e w1 ⟨rfl, hb1⟩; replace HB0 := hid (HB.out _ hb1)))
      go_step3
      go_wp2
      exact ⟨rfl, _, _, _, _, _, _, _, _, _, _, _, _, _, _, _, _, _, _, _, _, _, _, _, _, _, _, _, _, _, _, _, _, _, _, _, _, _, _, _, _, _, _, _, _, _, _, _, _, _, rfl, HB0.out.1, HB0.out.2⟩)

theorem stripR_ne {l : List UInt8} (h : l ≠ []) (h2 : l.head? ≠ some 48) : stripR l ≠ [] := by
  unfold stripR
  intro e
  rw [List.reverse_eq_nil_iff] at e
  obtain ⟨c, r, rfl⟩ : ∃ c r, l = c :: r := by
    cases l with
    | nil => exact absurd rfl h
    | cons c r => exact ⟨c, r, rfl⟩
  rw [dropWhile_nil] at e
  have := e c (by simp)
  simp at this h2
  exact h2 this

set_option maxRecDepth 100000 in
set_option maxHeartbeats 4000000 in
theorem make_yes (n : Bool) (s : ByteArray) (x : Int) (hs : s.size ≤ 140737488355328) (hyes : mkOk (tx s) x = true) (w : World) :
    Calls Tryz.prog 143 #[.bool n, .string s, .int .i64 x] w fun e w' => e = .returned (.tuple #[(mk n (tx s) x).1.val, .int .i64 (mk n (tx s) x).2]) ∧ Below w.heap.size w w' := by
  have hlen := txs_len s
  have hyes' := hyes
  unfold mkOk at hyes'
  rw [Bool.and_eq_true, Bool.and_eq_true, Bool.and_eq_true, decide_eq_true_eq, decide_eq_true_eq] at hyes'
  obtain ⟨g1, g2, g3, g4⟩ := hyes'
  rw [hlen] at g2
  have hne0 : ¬ s.size = 0 := fun e => g1 (List.eq_nil_of_length_eq_zero (by rw [hlen]; exact e))
  obtain ⟨a, b⟩ := ne_of s hne0
  have g2i : (s.size : Int) ≤ 400 := by omega
  have hxb : -1000 ≤ x ∧ x ≤ 1000 := by rw [Bool.and_eq_true, decide_eq_true_eq, decide_eq_true_eq] at g3; exact g3
  obtain ⟨hx1, hx2⟩ := hxb
  have hw := fun W => within_calls x 1000 (by omega) (by omega) W
  change ∀ W, Calls _ _ _ _ fun e w' => e = .returned (.bool (decide (-1000 ≤ x) && decide (x ≤ 1000))) ∧ _ at hw
  rw [g3] at hw
  have hi := fun W => Tryz.strings_IndexFunc_runes 166 #[] (enters_of Tryz.func166 (by kernel_rfl) rfl) (fun x => !dgN x) s W (other_runes W)
  have hz : Lib.idxFunc (fun x => !dgN x) true s = -1 := by
    rcases idx_dg0 s with ⟨_, h⟩ | ⟨h, _⟩
    · exact h
    · rw [g4] at h; cases h
  rw [hz] at hi
  have hL := fun W => Tryz.strings_TrimLeft_one s 48 (by decide) W
  change ∀ W, Calls _ _ _ _ fun e w' => e = .returned (.string (B (stripL (tx s)))) ∧ _ at hL
  have hLl := stripL_le (tx s)
  rw [hlen] at hLl
  obtain ⟨t, ht⟩ : ∃ t, B (stripL (tx s)) = t := ⟨_, rfl⟩
  have htx : tx t = stripL (tx s) := by rw [← ht, tx_B]
  have hts : t.size = (stripL (tx s)).length := by rw [← txs_len, htx]
  rw [ht] at hL
  have hC := Cls.new w 23 [.bool false, .string ⟨#[]⟩, .int .i64 0]
  have hsz := hC.lt
  have hBA := (below_alloc w (.cells #[.bool false, .string ⟨#[]⟩, .int .i64 0] 23))
  have hA2 := hBA.alloc hBA.size (.cells #[.bool false, .string ⟨#[]⟩, .int .i64 0] 23)
  have hC2 := hC.alloc (.cells #[.bool false, .string ⟨#[]⟩, .int .i64 0] 23)
  have hE2 : Cls ((w.alloc (.cells #[.bool false, .string ⟨#[]⟩, .int .i64 0] 23)).alloc (.cells #[.bool false, .string ⟨#[]⟩, .int .i64 0] 23)) (w.heap.size + 1) 23 [.bool false, .string ⟨#[]⟩, .int .i64 0] := by
    have := Cls.new (w.alloc (.cells #[.bool false, .string ⟨#[]⟩, .int .i64 0] 23)) 23 [.bool false, .string ⟨#[]⟩, .int .i64 0]
    rwa [World.size_alloc] at this
  by_cases ht0 : stripL (tx s) = []
  · have HR := hid (show mk n (tx s) x = (Dz, 0) by unfold mk; rw [if_pos hyes, if_pos ht0])
    obtain ⟨q1, q2⟩ := emp_of t (by rw [hts, ht0]; rfl)
    have q3 : t.toList.isEmpty = true := by rw [q1]; rfl
    clear hyes g1 g2 g3 g4 hz ht htx hts hLl ht0 hlen q2 hne0
    go_enter Tryz.func143, Tryz.ntmps143
    go_wp2
    refine wp_scope_jumps 0 (fun _ _ => False) (fun _ _ => 0) rfl ?first (fun _ _ h => h.elim)
    case first =>
      go_wp2_with (first
        | (go_at_call 153; refine (hw _).mono ?_; rintro e w1 ⟨rfl, rfl⟩)
        | (go_at_call 168; refine (hi _).mono ?_; rintro e w1 ⟨rfl, hb1⟩; have hC3 : Cls w1 w.heap.size 23 [.bool false, .string ⟨#[]⟩, .int .i64 0] := hC2.below hb1; have HB1 := hid (hA2.trans (hb1.mono hA2.size)))
        | (go_at_call 169; refine (hL _).mono ?_; rintro e w2 ⟨rfl, hw2⟩; subst hw2)
        | (go_at_call 151; refine (zero_calls _).mono ?_; rintro e w3 ⟨rfl, hb3⟩; have hC4 := hC3.below hb3; have HB3 := hid (HB1.out.trans (hb3.mono HB1.out.size)); have c0 := hC4.cell 0 rfl; have c1 := hC4.cell 1 rfl; have c2 := hC4.cell 2 rfl; have z0 := hC4.frozen 0; have z1 := hC4.frozen 1; have z2 := hC4.frozen 2))
      rw [jump_ret]
      have hF := ((hC4.set 0 (.bool false)).set 1 (.string ⟨#[48]⟩)).set 2 (.int .i64 0)
      have f0 := hF.cell 0 rfl
      have f1 := hF.cell 1 rfl
      have f2 := hF.cell 2 rfl
      have hbF := ((HB3.out.setCell (p := ⟨w.heap.size, 0, none⟩) (Nat.le_refl _) (.bool false)).setCell (p := ⟨w.heap.size, 1, none⟩) (Nat.le_refl _) (.string ⟨#[48]⟩)).setCell (p := ⟨w.heap.size, 2, none⟩) (Nat.le_refl _) (.int .i64 0)
      exact bodyPost_ret (v := .tuple #[.agg #[.bool false, .string ⟨#[48]⟩, .int .i64 0], .int .i64 0]) (by simp [results, Tryz.results143, go_sem, f0, f1, f2]) rfl ⟨by rw [HR.out]; rfl, hbF⟩
  · obtain ⟨q1, q2⟩ := ne_of t (fun e => ht0 (List.eq_nil_of_length_eq_zero (by rw [← hts]; exact e)))
    have hRt := fun W => Tryz.strings_TrimRight_one t 48 (by decide) W (by omega)
    change ∀ W, Calls _ _ _ _ fun e w' => e = .returned (.string (B (stripR (tx t)))) ∧ _ at hRt
    have hRl := stripR_le (tx t)
    obtain ⟨r, hr⟩ : ∃ r, B (stripR (tx t)) = r := ⟨_, rfl⟩
    have hrx : tx r = stripR (tx t) := by rw [← hr, tx_B]
    have hrs : r.size = (stripR (tx t)).length := by rw [← txs_len, hrx]
    rw [hr] at hRt
    rw [← hrs, txs_len] at hRl
    obtain ⟨y, hy⟩ : ∃ y, x + (t.size : Int) - (r.size : Int) = y := ⟨_, rfl⟩
    have hmk : mkD n (tx s) x = ⟨n, tx r, y⟩ := by
      unfold mkD
      rw [← htx, ← hrs, txs_len, hy, hrx]
    have hright := fun W => decRight_calls n r y (by omega) W
    have hR : mk n (tx s) x = if decR ⟨n, tx r, y⟩ then (⟨n, tx r, y⟩, 0) else (D0, 40) := by
      unfold mk
      rw [if_pos hyes, if_neg ht0, hmk]
    obtain ⟨bR, hbR⟩ : ∃ bR, decR ⟨n, tx r, y⟩ = bR := ⟨_, rfl⟩
    rw [hbR] at hright hR
    have hBr := hid (B_tx r)
    have hti : (t.size : Int) ≤ 400 := by omega
    have hri : (r.size : Int) ≤ (t.size : Int) := by omega
    have hE2' := hE2
    have hlt1 : w.heap.size < w.heap.size + 1 := by omega
    clear hyes g1 g2 g3 g4 hz ht htx hts hLl ht0 hlen hne0 hr hrx hrs hmk hbR hRl
    cases bR with
    | true =>
      have HR := hid (show mk n (tx s) x = (⟨n, tx r, y⟩, 0) by rw [hR]; rfl)
      clear hR
      go_enter Tryz.func143, Tryz.ntmps143
      go_wp2
      refine wp_scope_jumps 0 (fun _ _ => False) (fun _ _ => 0) rfl ?first (fun _ _ h => h.elim)
      case first =>
        go_wp2_with (first
          | (go_at_call 153; refine (hw _).mono ?_; rintro e w1 ⟨rfl, rfl⟩)
          | (go_at_call 168; refine (hi _).mono ?_; rintro e w1 ⟨rfl, hb1⟩; have hC3 : Cls w1 w.heap.size 23 [.bool false, .string ⟨#[]⟩, .int .i64 0] := hC2.below hb1; have hE3 : Cls w1 (w.heap.size + 1) 23 [.bool false, .string ⟨#[]⟩, .int .i64 0] := hE2.below hb1; have HB1 := hid (hA2.trans (hb1.mono hA2.size)); have e0 := hE3.cell 0 rfl; have e1 := hE3.cell 1 rfl; have e2 := hE3.cell 2 rfl; have y0 := hE3.frozen 0; have y1 := hE3.frozen 1; have y2 := hE3.frozen 2; have hE5 := ((hE3.set 0 (.bool n)).set 1 (.string r)).set 2 (.int .i64 y); have hC5 := ((hC3.other (off := 0) (b := w.heap.size + 1) (by omega) (.bool n)).other (off := 1) (b := w.heap.size + 1) (by omega) (.string r)).other (off := 2) (b := w.heap.size + 1) (by omega) (.int .i64 y); have HB5 := hid (((HB1.out.setCell (p := ⟨w.heap.size + 1, 0, none⟩) (Nat.le_succ _) (.bool n)).setCell (p := ⟨w.heap.size + 1, 1, none⟩) (Nat.le_succ _) (.string r)).setCell (p := ⟨w.heap.size + 1, 2, none⟩) (Nat.le_succ _) (.int .i64 y)); have k0 := hE5.cell 0 rfl; have k1 := hE5.cell 1 rfl; have k2 := hE5.cell 2 rfl)
          | (go_at_call 169; refine (hL _).mono ?_; rintro e w2 ⟨rfl, hw2⟩; subst hw2)
          | (go_at_call 170; refine (hRt _).mono ?_; rintro e w2 ⟨rfl, hw2⟩; subst hw2)
          | (go_at_call 125; refine (hright _).mono ?_; rintro e w6 ⟨rfl, hb6⟩; have hC6 := hC5.below hb6; have hE6 := hE5.below hb6; have HB6 := hid (HB5.out.trans (hb6.mono HB5.out.size)); have c0 := hC6.cell 0 rfl; have c1 := hC6.cell 1 rfl; have c2 := hC6.cell 2 rfl; have z0 := hC6.frozen 0; have z1 := hC6.frozen 1; have z2 := hC6.frozen 2; have m0 := hE6.cell 0 rfl; have m1 := hE6.cell 1 rfl; have m2 := hE6.cell 2 rfl))
        rw [jump_ret]
        have hF := ((hC6.set 0 (.bool n)).set 1 (.string r)).set 2 (.int .i64 y)
        have f0 := hF.cell 0 rfl
        have f1 := hF.cell 1 rfl
        have f2 := hF.cell 2 rfl
        have hbF := ((HB6.out.setCell (p := ⟨w.heap.size, 0, none⟩) (Nat.le_refl _) (.bool n)).setCell (p := ⟨w.heap.size, 1, none⟩) (Nat.le_refl _) (.string r)).setCell (p := ⟨w.heap.size, 2, none⟩) (Nat.le_refl _) (.int .i64 y)
        exact bodyPost_ret (v := .tuple #[.agg #[.bool n, .string r, .int .i64 y], .int .i64 0]) (by simp [results, Tryz.results143, go_sem, f0, f1, f2]) rfl ⟨by rw [HR.out]; unfold D.val; rw [hBr.out]; rfl, hbF⟩
    | false =>
      have HR := hid (show mk n (tx s) x = (D0, 40) by rw [hR]; rfl)
      clear hR
      go_enter Tryz.func143, Tryz.ntmps143
      go_wp2
      refine wp_scope_jumps 0 (fun _ _ => False) (fun _ _ => 0) rfl ?first (fun _ _ h => h.elim)
      case first =>
        go_wp2_with (first
          | (go_at_call 153; refine (hw _).mono ?_; rintro e w1 ⟨rfl, rfl⟩)
          | (go_at_call 168; refine (hi _).mono ?_; rintro e w1 ⟨rfl, hb1⟩; have hC3 : Cls w1 w.heap.size 23 [.bool false, .string ⟨#[]⟩, .int .i64 0] := hC2.below hb1; have hE3 : Cls w1 (w.heap.size + 1) 23 [.bool false, .string ⟨#[]⟩, .int .i64 0] := hE2.below hb1; have HB1 := hid (hA2.trans (hb1.mono hA2.size)); have e0 := hE3.cell 0 rfl; have e1 := hE3.cell 1 rfl; have e2 := hE3.cell 2 rfl; have y0 := hE3.frozen 0; have y1 := hE3.frozen 1; have y2 := hE3.frozen 2; have hE5 := ((hE3.set 0 (.bool n)).set 1 (.string r)).set 2 (.int .i64 y); have hC5 := ((hC3.other (off := 0) (b := w.heap.size + 1) (by omega) (.bool n)).other (off := 1) (b := w.heap.size + 1) (by omega) (.string r)).other (off := 2) (b := w.heap.size + 1) (by omega) (.int .i64 y); have HB5 := hid (((HB1.out.setCell (p := ⟨w.heap.size + 1, 0, none⟩) (Nat.le_succ _) (.bool n)).setCell (p := ⟨w.heap.size + 1, 1, none⟩) (Nat.le_succ _) (.string r)).setCell (p := ⟨w.heap.size + 1, 2, none⟩) (Nat.le_succ _) (.int .i64 y)); have k0 := hE5.cell 0 rfl; have k1 := hE5.cell 1 rfl; have k2 := hE5.cell 2 rfl)
          | (go_at_call 169; refine (hL _).mono ?_; rintro e w2 ⟨rfl, hw2⟩; subst hw2)
          | (go_at_call 170; refine (hRt _).mono ?_; rintro e w2 ⟨rfl, hw2⟩; subst hw2)
          | (go_at_call 125; refine (hright _).mono ?_; rintro e w6 ⟨rfl, hb6⟩; have hC6 := hC5.below hb6; have hE6 := hE5.below hb6; have HB6 := hid (HB5.out.trans (hb6.mono HB5.out.size)); have c0 := hC6.cell 0 rfl; have c1 := hC6.cell 1 rfl; have c2 := hC6.cell 2 rfl; have z0 := hC6.frozen 0; have z1 := hC6.frozen 1; have z2 := hC6.frozen 2; have m0 := hE6.cell 0 rfl; have m1 := hE6.cell 1 rfl; have m2 := hE6.cell 2 rfl))
        go_step3
        go_wp2
        rw [jump_ret]
        have hF := ((hC6.set 0 (.bool false)).set 1 (.string ⟨#[]⟩)).set 2 (.int .i64 0)
        have f0 := hF.cell 0 rfl
        have f1 := hF.cell 1 rfl
        have f2 := hF.cell 2 rfl
        have hbF := ((HB6.out.setCell (p := ⟨w.heap.size, 0, none⟩) (Nat.le_refl _) (.bool false)).setCell (p := ⟨w.heap.size, 1, none⟩) (Nat.le_refl _) (.string ⟨#[]⟩)).setCell (p := ⟨w.heap.size, 2, none⟩) (Nat.le_refl _) (.int .i64 0)
        exact bodyPost_ret (v := .tuple #[.agg #[.bool false, .string ⟨#[]⟩, .int .i64 0], .int .i64 40]) (by simp [results, Tryz.results143, go_sem, f0, f1, f2]) rfl ⟨by rw [HR.out]; rfl, hbF⟩

theorem decMake_calls (n : Bool) (s : ByteArray) (x : Int) (hx : -9223372036854775808 ≤ x ∧ x ≤ 9223372036854775807) (hs : s.size ≤ 140737488355328) (w : World) :
    Calls Tryz.prog 143 #[.bool n, .string s, .int .i64 x] w fun e w' => e = .returned (.tuple #[(mk n (tx s) x).1.val, .int .i64 (mk n (tx s) x).2]) ∧ Below w.heap.size w w' := by
  cases h : mkOk (tx s) x with
  | true => exact make_yes n s x hs h w
  | false =>
    have := make_no n s x hx hs h w
    unfold mk
    rw [h]
    exact this
end Go.Proofs.YtpjlepkdiaohiaaGreatDoor

/- Package dec: Format: walked. -/
namespace Go.Proofs.YtpjlepkdiaohiaaGreatDoor
open Go.RowKit
attribute [local go_sem] Oper.semAt_some

/-- a right decimal's plain writing, without its sign. -/
def fmtB (d : D) : List UInt8 :=
  if decide (-20 ≤ d.ex) && decide (d.ex ≤ 20) then
    (if 0 ≤ d.ex then d.dg ++ List.replicate d.ex.toNat 48
     else if 0 < (d.dg.length : Int) + d.ex then d.dg.take ((d.dg.length : Int) + d.ex).toNat ++ [46] ++ d.dg.drop ((d.dg.length : Int) + d.ex).toNat
     else [48, 46] ++ List.replicate (-((d.dg.length : Int) + d.ex)).toNat 48 ++ d.dg)
  else d.dg ++ [101] ++ Lib.itoa d.ex
def fmtL (d : D) : List UInt8 := if decR d then (if d.neg then [45] else []) ++ fmtB d else []
def fmtE (d : D) : Int := if decR d then 0 else 40

theorem decR_bounds {d : D} (h : decR d = true) : d.dg.length ≤ 100 ∧ 1 ≤ d.dg.length ∧ -100 ≤ d.ex ∧ d.ex ≤ 100 := by
  unfold decR at h
  split at h
  · rename_i h48
    rw [Bool.and_eq_true, decide_eq_true_eq] at h
    rw [h48]
    simp
    omega
  · rw [Bool.and_eq_true, Bool.and_eq_true, Bool.and_eq_true, Bool.and_eq_true, decide_eq_true_eq, decide_eq_true_eq, decide_eq_true_eq] at h
    exact ⟨h.2.1, (rt_len h.1).1, h.2.2.1.1, h.2.2.1.2⟩

end Go.Proofs.YtpjlepkdiaohiaaGreatDoor

/- Package dec: OfInt, ToInt: walked. -/
namespace Go.Proofs.YtpjlepkdiaohiaaGreatDoor
open Go.RowKit
attribute [local go_sem] Oper.semAt_some

set_option maxRecDepth 100000 in
set_option maxHeartbeats 4000000 in
theorem ofInt_calls (neg : Bool) (n : Nat) (hn : n < 18446744073709551616) (w : World) (hT : Tabs w) :
    Calls Tryz.prog 112 #[.bool neg, .int .u64 n] w fun e w' => e = .returned (mk neg (Lib.decDigits n) 0).1.val ∧ Below w.heap.size w w' := by
  have hof := fun W h => natOf_calls n hn W h
  obtain ⟨q, hq⟩ : ∃ q : ByteArray, (⟨(Lib.decDigits n).toArray⟩ : ByteArray) = q := ⟨_, rfl⟩
  have hqx : tx q = Lib.decDigits n := by rw [← hq]; exact tx_B _
  have hqs : q.size ≤ 20 := by rw [← txs_len, hqx, Lib.decDigits_length]; exact rdig_lt 19 n (by omega)
  rw [hq] at hof
  have hmake := fun W => decMake_calls neg q 0 ⟨by omega, by omega⟩ (by omega) W
  rw [hqx] at hmake
  obtain ⟨dn, dd, dx, hd⟩ : ∃ dn dd dx, (mk neg (Lib.decDigits n) 0).1 = ⟨dn, dd, dx⟩ := ⟨_, _, _, rfl⟩
  obtain ⟨er, her⟩ : ∃ er, (mk neg (Lib.decDigits n) 0).2 = er := ⟨_, rfl⟩
  obtain ⟨ds, hds⟩ : ∃ ds, B dd = ds := ⟨_, rfl⟩
  rw [hd, her] at hmake
  have hmake' : ∀ W, Calls Tryz.prog 143 #[.bool neg, .string q, .int .i64 0] W fun e w' => e = .returned (.tuple #[.agg #[.bool dn, .string ds, .int .i64 dx], .int .i64 er]) ∧ Below W.heap.size W w' := by rw [← hds]; exact hmake
  have HR := hid (show (mk neg (Lib.decDigits n) 0).1.val = .agg #[.bool dn, .string ds, .int .i64 dx] by rw [hd, ← hds]; rfl)
  have hC := Cls.new w 23 [.bool false, .string ⟨#[]⟩, .int .i64 0]
  have hA := below_alloc w (.cells #[.bool false, .string ⟨#[]⟩, .int .i64 0] 23)
  have hT0 := hT.below hA
  clear hmake hd her hds hq hqx hn
  go_enter Tryz.func112, Tryz.ntmps112
  go_wp2_with fail
  refine (hof _ hT0).mono ?_
  rintro e w1 ⟨rfl, hb1⟩
  have hW1 := hA.trans (hb1.mono hA.size)
  have hC1 := hC.below hb1
  go_wp2_with fail
  refine (hmake' _).mono ?_
  rintro e w2 ⟨rfl, hb2⟩
  have hW2 := hW1.trans (hb2.mono hW1.size)
  have hC2 := hC1.below hb2
  have hlt : w.heap.size < w2.heap.size := hC2.lt
  have hE := Cls.new w2 23 [.bool dn, .string ds, .int .i64 dx]
  have c0 := hC2.cell 0 rfl
  have c1 := hC2.cell 1 rfl
  have c2 := hC2.cell 2 rfl
  have z0 := hC2.frozen 0
  have z1 := hC2.frozen 1
  have z2 := hC2.frozen 2
  have d0 := hE.cell 0 rfl
  have d1 := hE.cell 1 rfl
  have d2 := hE.cell 2 rfl
  go_wp2
  have hF := (((hC2.set 0 (.bool dn)).set 1 (.string ds)).set 2 (.int .i64 dx)).alloc (.cells #[.bool dn, .string ds, .int .i64 dx] 23)
  have f0 := hF.cell 0 rfl
  have f1 := hF.cell 1 rfl
  have f2 := hF.cell 2 rfl
  have hbG := ((hW2.setCell (p := ⟨w.heap.size, 0, none⟩) (Nat.le_refl _) (.bool dn)).setCell (p := ⟨w.heap.size, 1, none⟩) (Nat.le_refl _) (.string ds)).setCell (p := ⟨w.heap.size, 2, none⟩) (Nat.le_refl _) (.int .i64 dx)
  have hbF := hbG.alloc hbG.size (.cells #[.bool dn, .string ds, .int .i64 dx] 23)
  exact bodyPost_ret (v := .agg #[.bool dn, .string ds, .int .i64 dx]) (by simp [results, Tryz.results112, go_sem, f0, f1, f2]) rfl ⟨by rw [HR.out], hbF⟩

/-- the whole number of a decimal. -/
def tiT (d : D) : ByteArray := B (d.dg ++ List.replicate d.ex.toNat 48)
def tiG (d : D) : Bool := decR d && (decide (0 ≤ d.ex) && decide (d.ex ≤ 20))
def tiB (d : D) : Bool := tiG d && toB (tiT d)
def tiN (d : D) : Nat := if tiG d then toN (tiT d) else 0

set_option maxRecDepth 100000 in
set_option maxHeartbeats 4000000 in
theorem toInt_calls (n : Bool) (s : ByteArray) (x : Int) (hs : s.size ≤ 140737488355328) (w : World) (hT : Tabs w) :
    Calls Tryz.prog 96 #[.agg #[.bool n, .string s, .int .i64 x]] w fun e w' => e = .returned (.tuple #[.bool (tiB ⟨n, tx s, x⟩ && n), .int .u64 (tiN ⟨n, tx s, x⟩), .bool (tiB ⟨n, tx s, x⟩)]) ∧ Below w.heap.size w w' := by
  have hC := Cls.new w 23 [.bool n, .string s, .int .i64 x]
  have hA := below_alloc w (.cells #[.bool n, .string s, .int .i64 x] 23)
  have hright := fun W => decRight_calls n s x hs W
  cases hG : tiG ⟨n, tx s, x⟩ with
  | false =>
    have HR := hid (show tiB ⟨n, tx s, x⟩ = false ∧ tiN ⟨n, tx s, x⟩ = 0 by unfold tiB tiN; rw [hG]; exact ⟨rfl, rfl⟩)
    cases hr : decR ⟨n, tx s, x⟩ with
    | false =>
      rw [hr] at hright
      clear hr hG
      go_enter Tryz.func96, Tryz.ntmps96
      go_wp2_with (go_at_call 125; refine (hright _).mono ?_; rintro e w1 ⟨rfl, hb1⟩)
      go_ret3
      exact ⟨by rw [HR.out.1, HR.out.2]; rfl, hA.trans (hb1.mono hA.size)⟩
    | true =>
      rw [hr] at hright
      have hcase : x < 0 ∨ (¬ x < 0 ∧ 20 < x) := by
        unfold tiG at hG
        rw [hr, Bool.true_and, Bool.and_eq_false_iff, decide_eq_false_iff_not, decide_eq_false_iff_not] at hG
        change ¬ 0 ≤ x ∨ ¬ x ≤ 20 at hG
        omega
      clear hr hG
      rcases hcase with h1 | ⟨h1, h2⟩
      all_goals (
        go_enter Tryz.func96, Tryz.ntmps96
        go_wp2_with (go_at_call 125; refine (hright _).mono ?_; rintro e w1 ⟨rfl, hb1⟩; have hC1 := hC.below hb1; have c2 := hC1.cell 2 rfl)
        go_ret3
        exact ⟨by rw [HR.out.1, HR.out.2]; rfl, hA.trans (hb1.mono hA.size)⟩)
  | true =>
    have hG' := hG
    unfold tiG at hG'
    rw [Bool.and_eq_true, Bool.and_eq_true, decide_eq_true_eq, decide_eq_true_eq] at hG'
    obtain ⟨hr, hx0, hx2⟩ := hG'
    change 0 ≤ x at hx0
    change x ≤ 20 at hx2
    rw [hr] at hright
    have hbd := (decR_bounds hr).1
    rw [txs_len] at hbd
    obtain ⟨c, rfl⟩ := Int.eq_ofNat_of_zero_le hx0
    have hit := fun W => repeat_calls c (by omega) W
    obtain ⟨q, hq⟩ : ∃ q, B (List.replicate c (48 : UInt8)) = q := ⟨_, rfl⟩
    have hqs : q.size ≤ 20 := by rw [← hq, size_B, List.length_replicate]; omega
    rw [hq] at hit
    have hsq : tiT ⟨n, tx s, (c : Int)⟩ = s ++ q := by
      rw [← B_tx (s ++ q), tx_app, ← hq, tx_B]; rfl
    have hsqs : (s ++ q).size ≤ 120 := by rw [size_app]; omega
    have hto := fun W h => natTo_calls (s ++ q) (by omega) W h
    have hB : tiB ⟨n, tx s, (c : Int)⟩ = toB (s ++ q) := by unfold tiB; rw [hG, hsq]; rfl
    have hN : tiN ⟨n, tx s, (c : Int)⟩ = toN (s ++ q) := by unfold tiN; rw [hG, hsq]; rfl
    obtain ⟨tb, htb⟩ : ∃ tb, toB (s ++ q) = tb := ⟨_, rfl⟩
    obtain ⟨tn, htn⟩ : ∃ tn, toN (s ++ q) = tn := ⟨_, rfl⟩
    rw [htb, htn] at hto
    rw [htb] at hB
    rw [htn] at hN
    have HR := hid (And.intro hB hN)
    have hl1 := hC.lt
    have h1 : ¬ (c : Int) < 0 := by omega
    have h2 : ¬ (20 : Int) < (c : Int) := by omega
    clear hr hG hq hsq hB hN htb htn hsqs
    cases tb
    all_goals (
      go_enter Tryz.func96, Tryz.ntmps96
      go_wp2_with fail
      refine (hright _).mono ?_
      rintro e w1 ⟨rfl, hb1⟩
      have hC1 := hC.below hb1
      have hW1 := hA.trans (hb1.mono hA.size)
      have c0 := hC1.cell 0 rfl
      have c1 := hC1.cell 1 rfl
      have c2 := hC1.cell 2 rfl
      have HT1 := hid (hT.below hW1)
      go_wp2
      go_region_with (first
        | (go_at_call 139; refine (hit _).mono ?_; rintro e w4 ⟨rfl, hb4⟩; have hC4 : Cls w4 w.heap.size 23 _ := (hb4.block w.heap.size hC1.lt).trans hC1; have e0 := hC4.cell 0 rfl; have e1 := hC4.cell 1 rfl; have e2 := hC4.cell 2 rfl; have hW4 : Below w.heap.size w w4 := hW1.drew.trans (hb4.mono hW1.drew.size))
        | (go_at_call 138; refine (hto _ (hT.below hW4)).mono ?_; rintro e w5 ⟨rfl, hb5⟩; have hC5 := hC4.below hb5; have k0 := hC5.cell 0 rfl))
      all_goals (
        go_wp2
        go_ret3
        exact ⟨by rw [HR.out.1, HR.out.2]; rfl, hW4.trans (hb5.mono hW4.size)⟩))
end Go.Proofs.YtpjlepkdiaohiaaGreatDoor

