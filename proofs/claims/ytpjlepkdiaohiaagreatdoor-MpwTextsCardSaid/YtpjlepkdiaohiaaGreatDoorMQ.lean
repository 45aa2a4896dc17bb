/- The statement MpwNumbers: walked. -/
import Derived.Test.YtpjlepkdiaohiaaGreatDoorMO
namespace Go.Proofs.YtpjlepkdiaohiaaGreatDoor
open Go.RowKit
attribute [local go_sem] Oper.semAt_some

theorem leaf_chk {p : Pay} (h1 : ownP p [] = true) (h2 : fitN p [] 4 = true) : chk (.nd p []) 4 = 0 := by
  have hc : (Tr.nd p []).cnt = 1 := leaf_cnt p
  have hd : (Tr.nd p []).dep = 1 := leaf_dep p
  have ha : (Tr.nd p []).all = true := by rw [Tr.all, h1, allL]; rfl
  have hf : (Tr.nd p []).fit 4 = true := by rw [Tr.fit, h2, fitL]; rfl
  unfold chk Tr.right
  rw [hc, hd, ha, hf]
  rfl
theorem num_own (neg : Bool) (n : Nat) (hn : n < 18446744073709551616) (h : neg = true → n ≤ 9223372036854775808) : chk (.nd (decP neg n) []) 4 = 0 := by
  obtain ⟨h1, h2, h3, h4, -, -⟩ := dec_whole neg n hn
  refine leaf_chk ?_ ?_
  · rw [own_3 rfl, show decR ⟨(decP neg n).n, tx (decP neg n).dg, (decP neg n).ex⟩ = true from h1, Bool.and_true]
    show (List.isEmpty [] && onlyP (decP neg n) _) = true
    unfold onlyP
    rw [show Pay.same (decP neg n) { ({ Pay.z with n := (decP neg n).n, dg := (decP neg n).dg, ex := (decP neg n).ex } : Pay) with k := (decP neg n).k } = true from Pay.same_iff.2 rfl]
    rfl
  · unfold fitN
    rw [if_neg (show ¬ (decP neg n).k = 4 by show ¬ (3 : Int) = 4; decide), if_pos (show (decP neg n).k = 3 from rfl), h2, h3, h4]
    cases neg with
    | false => rfl
    | true =>
      rw [decide_eq_true (h rfl)]
      simp [formB]
def numLn (neg : Bool) (n : Nat) : Nat := (numE (neg && decide (0 < n)) n).length
theorem num_size (neg : Bool) (n : Nat) (hn : n < 18446744073709551616) (h : neg = true → n ≤ 9223372036854775808) : (wrtS (.nd (decP neg n) [])).size = numLn neg n := by
  rw [wrtS_ok (num_own neg n hn h), size_B, leaf_enc, decP_len neg n hn]
  rfl
/-- how many bytes a number has that is above a width's numbers. -/
theorem minusE_ln (n : Nat) : (minusE n).length = if n ≤ 32 then 1 else if n ≤ 128 then 2 else if n ≤ 32768 then 3 else if n ≤ 2147483648 then 5 else 9 := by
  unfold minusE
  split
  · rfl
  split
  · rw [List.length_cons, beL_len]
  split
  · rw [List.length_cons, beL_len]
  split
  · rw [List.length_cons, beL_len]
  · rw [List.length_cons, beL_len]
theorem plusE_ln (n : Nat) : (numE false n).length = if n < 128 then 1 else if n < 256 then 2 else if n < 65536 then 3 else if n < 4294967296 then 5 else 9 := by
  unfold numE
  rw [if_neg (by decide)]
  by_cases c1 : n < 128
  · rw [if_pos c1, if_pos c1]; rfl
  rw [if_neg c1, if_neg c1]
  unfold sizedE
  by_cases c2 : n < 256
  · rw [if_pos ⟨c2, by decide⟩, if_pos c2, List.length_cons, beL_len]
  rw [if_neg (fun h => c2 h.1), if_neg c2]
  split
  · rw [List.length_cons, beL_len]
  split
  · rw [List.length_cons, beL_len]
  · rw [List.length_cons, beL_len]
theorem numLn_eq (neg : Bool) (n : Nat) : numLn neg n = if neg then (if n ≤ 32 then 1 else if n ≤ 128 then 2 else if n ≤ 32768 then 3 else if n ≤ 2147483648 then 5 else 9) else (if n < 128 then 1 else if n < 256 then 2 else if n < 65536 then 3 else if n < 4294967296 then 5 else 9) := by
  unfold numLn
  cases neg with
  | false => rw [Bool.false_and, plusE_ln]; rfl
  | true =>
    rw [Bool.true_and, if_pos rfl]
    by_cases h0 : 0 < n
    · rw [decide_eq_true h0]; exact minusE_ln n
    · rw [decide_eq_false h0, plusE_ln, if_pos (by omega), if_pos (by omega)]
theorem numLn_in (neg : Bool) (n : Nat) : numLn neg n = 1 ∨ numLn neg n = 2 ∨ numLn neg n = 3 ∨ numLn neg n = 5 ∨ numLn neg n = 9 := by
  rw [numLn_eq]
  cases neg
  · rw [if_neg (by decide)]
    repeat' (first | omega | split)
  · rw [if_pos rfl]
    repeat' (first | omega | split)
theorem numLn_mono (neg : Bool) {n m : Nat} (h : n ≤ m) : numLn neg n ≤ numLn neg m := by
  rw [numLn_eq, numLn_eq]
  cases neg
  · simp only [Bool.false_eq_true, if_false]
    repeat' (first | omega | split)
  · simp only [if_true]
    repeat' (first | omega | split)
theorem numLn_one (neg : Bool) (n : Nat) (h : neg = false ∧ n ≤ 127 ∨ neg = true ∧ n ≤ 32) : numLn neg n = 1 := by
  rw [numLn_eq]
  rcases h with ⟨rfl, h⟩ | ⟨rfl, h⟩
  · simp only [Bool.false_eq_true, if_false]; rw [if_pos (by omega)]
  · simp only [if_true]; rw [if_pos h]

/-- the node of a number, made and measured. -/
theorem num_made (neg : Bool) (n : Nat) (hn : n < 18446744073709551616) (h : neg = true → n ≤ 9223372036854775808) :
    ∃ (dn : Bool) (ds : ByteArray) (dx : Int), (∀ W, Calls Tryz.prog 21 #[.bool neg, .int .u64 n] W fun e w' => e = .returned (.agg #[.bool dn, .string ds, .int .i64 dx]) ∧ Below W.heap.size W w') ∧
      ∀ W {ea eb : Addr}, TabT W ea eb → Calls Tryz.prog 20 #[.agg #[.int .i64 3, .bool false, .bool dn, .string ds, .int .i64 dx, .int .u64 0, .int .i64 0, .string ⟨#[]⟩, .slice none 0 0]] W fun e w' => e = .returned (.tuple #[.int .i64 (numLn neg n), .int .i64 0]) ∧ Below W.heap.size W w' := by
  refine ⟨(decP neg n).n, (decP neg n).dg, (decP neg n).ex, fun W => rofInt_calls neg n hn W, fun W ea eb hT => ?_⟩
  have := size_calls (.nd (decP neg n) []) (leaf_fine' (dec_fine neg n hn)) (by rw [leaf_dep]; decide) (by rw [leaf_cnt]; decide) (.slice none 0 0) W hT (InT.leaf _ _ _ _)
  rw [num_own neg n hn h, num_size neg n hn h] at this
  exact this

set_option maxRecDepth 100000 in
set_option maxHeartbeats 8000000 in
theorem numbers_law15 (neg : Bool) (n : Nat) (hn : n < 18446744073709551616) (m : Nat) (hm : m < 18446744073709551616) (w : World) {ea eb : Addr} (hT : TabT w ea eb) :
    Calls Tryz.prog 5 #[.bool neg, .int .u64 n, .int .u64 m] w fun e w' => e = .returned (.bool true) ∧ Below w.heap.size w w' := by
  have hsh := shown15_calls w hT
  obtain ⟨Z, hZ⟩ : ∃ Z : Nat, (9223372036854775808 : Nat) = Z := ⟨_, rfl⟩
  by_cases hg : neg = true ∧ (9223372036854775808 < n ∨ 9223372036854775808 < m)
  · obtain ⟨rfl, hg⟩ := hg
    have hgi : decide ((9223372036854775808 : Int) < (n : Int)) = true ∨ (decide ((9223372036854775808 : Int) < (n : Int)) = false ∧ decide ((9223372036854775808 : Int) < (m : Int)) = true) := by
      by_cases h : 9223372036854775808 < n
      · exact .inl (decide_eq_true (by omega))
      · exact .inr ⟨decide_eq_false (by omega), decide_eq_true (by omega)⟩
    clear hZ hg hn hm
    go_enter Tryz.func5, Tryz.ntmps5
    go_wp2_with fail
    refine hsh.mono ?_
    rintro e w1 ⟨rfl, hb1⟩
    have HB := hid hb1
    clear hsh hb1 hT
    rcases hgi with hgi | ⟨hgi, hgj⟩
    · go_wp2
      go_ret
      exact ⟨rfl, HB.out⟩
    · go_wp2
      go_ret
      exact ⟨rfl, HB.out⟩
  · have h1 : neg = true → n ≤ 9223372036854775808 := fun h => by
      rcases Nat.lt_or_ge 9223372036854775808 n with h2 | h2
      · exact absurd ⟨h, .inl h2⟩ hg
      · exact h2
    have h2 : neg = true → m ≤ 9223372036854775808 := fun h => by
      rcases Nat.lt_or_ge 9223372036854775808 m with h2 | h2
      · exact absurd ⟨h, .inr h2⟩ hg
      · exact h2
    obtain ⟨dn, ds, dx, ho1, hs1⟩ := num_made neg n hn h1
    obtain ⟨en, es, ex, ho2, hs2⟩ := num_made neg m hm h2
    have hin := numLn_in neg n
    have hmo := numLn_mono neg (n := n) (m := m)
    have hon := numLn_one neg n
    obtain ⟨A, hA⟩ : ∃ A, numLn neg n = A := ⟨_, rfl⟩
    obtain ⟨C, hC⟩ : ∃ C, numLn neg m = C := ⟨_, rfl⟩
    rw [hA] at hs1 hin hmo hon
    rw [hC] at hs2 hmo
    have hgi : neg = false ∨ (neg = true ∧ decide ((9223372036854775808 : Int) < (n : Int)) = false ∧ decide ((9223372036854775808 : Int) < (m : Int)) = false) := by
      cases neg with
      | false => exact .inl rfl
      | true => exact .inr ⟨rfl, decide_eq_false (by have := h1 rfl; omega), decide_eq_false (by have := h2 rfl; omega)⟩
    have hord : m < n ∨ (n ≤ m ∧ A ≤ C) := by
      by_cases h : m < n
      · exact .inl h
      · exact .inr ⟨by omega, hmo (by omega)⟩
    have hsm : A = 1 ∨ (A ≠ 1 ∧ (neg = false → 127 < n) ∧ (neg = true → 32 < n)) := by
      by_cases h : A = 1
      · exact .inl h
      · refine .inr ⟨h, fun h3 => ?_, fun h3 => ?_⟩
        · rcases Nat.lt_or_ge 127 n with h4 | h4
          · omega
          · exact absurd (hon (.inl ⟨h3, h4⟩)) h
        · rcases Nat.lt_or_ge 32 n with h4 | h4
          · omega
          · exact absurd (hon (.inr ⟨h3, h4⟩)) h
    have HX := hid (And.intro hin (And.intro hord (And.intro hsm hT)))
    have HS := hid (And.intro (hs1) hs2)
    clear hZ hg hn hm h1 h2 hin hmo hon hA hC hord hsm hT hs1 hs2
    rcases hgi with rfl | ⟨rfl, hgi, hgj⟩
    · go_enter Tryz.func5, Tryz.ntmps5
      go_wp2_with fail
      refine hsh.mono ?_
      rintro e w1 ⟨rfl, hb1⟩
      have HB := hid hb1
      clear hsh hb1
      go_wp2_with fail
      refine (ho1 _).mono ?_
      rintro e w2 ⟨rfl, hb2⟩
      have HB := hid (HB.out.trans (hb2.mono HB.out.size))
      clear ho1 hb2
      go_wp2_with fail
      refine (HS.out.1 _ (HX.out.2.2.2.below HB.out)).mono ?_
      rintro e w3 ⟨rfl, hb3⟩
      have HB := hid (HB.out.trans (hb3.mono HB.out.size))
      clear hb3
      go_wp2_with fail
      refine (ho2 _).mono ?_
      rintro e w4 ⟨rfl, hb4⟩
      have HB := hid (HB.out.trans (hb4.mono HB.out.size))
      clear ho2 hb4
      go_wp2_with fail
      refine (HS.out.2 _ (HX.out.2.2.2.below HB.out)).mono ?_
      rintro e w5 ⟨rfl, hb5⟩
      have HB := hid (HB.out.trans (hb5.mono HB.out.size))
      clear hb5
      obtain ⟨hin, hord, hsm, -⟩ := HX.out
      rcases hord with ho | ⟨ho, hp⟩
      · rcases hin with rfl | rfl | rfl | rfl | rfl
        · clear hsm
          go_wp2
          all_goals (
            go_ret
            exact ⟨by first | rfl | (simp; done), HB.out⟩)
        · have hsi : (127 : Int) < (n : Int) := by have := (hsm.resolve_left (by decide)).2.1 (by first | rfl | trivial); omega
          clear hsm
          go_wp2
          all_goals (
            go_ret
            exact ⟨by first | rfl | (simp; done), HB.out⟩)
        · have hsi : (127 : Int) < (n : Int) := by have := (hsm.resolve_left (by decide)).2.1 (by first | rfl | trivial); omega
          clear hsm
          go_wp2
          all_goals (
            go_ret
            exact ⟨by first | rfl | (simp; done), HB.out⟩)
        · have hsi : (127 : Int) < (n : Int) := by have := (hsm.resolve_left (by decide)).2.1 (by first | rfl | trivial); omega
          clear hsm
          go_wp2
          all_goals (
            go_ret
            exact ⟨by first | rfl | (simp; done), HB.out⟩)
        · have hsi : (127 : Int) < (n : Int) := by have := (hsm.resolve_left (by decide)).2.1 (by first | rfl | trivial); omega
          clear hsm
          go_wp2
          all_goals (
            go_ret
            exact ⟨by first | rfl | (simp; done), HB.out⟩)
      · rcases hin with rfl | rfl | rfl | rfl | rfl
        · have hpi : (1 : Int) ≤ (C : Int) := by omega
          clear hsm hp
          go_wp2
          all_goals (
            go_ret
            exact ⟨by first | rfl | (simp; done), HB.out⟩)
        · have hpi : (2 : Int) ≤ (C : Int) := by omega
          have hsi : (127 : Int) < (n : Int) := by have := (hsm.resolve_left (by decide)).2.1 (by first | rfl | trivial); omega
          clear hsm hp
          go_wp2
          all_goals (
            go_ret
            exact ⟨by first | rfl | (simp; done), HB.out⟩)
        · have hpi : (3 : Int) ≤ (C : Int) := by omega
          have hsi : (127 : Int) < (n : Int) := by have := (hsm.resolve_left (by decide)).2.1 (by first | rfl | trivial); omega
          clear hsm hp
          go_wp2
          all_goals (
            go_ret
            exact ⟨by first | rfl | (simp; done), HB.out⟩)
        · have hpi : (5 : Int) ≤ (C : Int) := by omega
          have hsi : (127 : Int) < (n : Int) := by have := (hsm.resolve_left (by decide)).2.1 (by first | rfl | trivial); omega
          clear hsm hp
          go_wp2
          all_goals (
            go_ret
            exact ⟨by first | rfl | (simp; done), HB.out⟩)
        · have hpi : (9 : Int) ≤ (C : Int) := by omega
          have hsi : (127 : Int) < (n : Int) := by have := (hsm.resolve_left (by decide)).2.1 (by first | rfl | trivial); omega
          clear hsm hp
          go_wp2
          all_goals (
            go_ret
            exact ⟨by first | rfl | (simp; done), HB.out⟩)
    · go_enter Tryz.func5, Tryz.ntmps5
      go_wp2_with fail
      refine hsh.mono ?_
      rintro e w1 ⟨rfl, hb1⟩
      have HB := hid hb1
      clear hsh hb1
      go_wp2_with fail
      refine (ho1 _).mono ?_
      rintro e w2 ⟨rfl, hb2⟩
      have HB := hid (HB.out.trans (hb2.mono HB.out.size))
      clear ho1 hb2
      go_wp2_with fail
      refine (HS.out.1 _ (HX.out.2.2.2.below HB.out)).mono ?_
      rintro e w3 ⟨rfl, hb3⟩
      have HB := hid (HB.out.trans (hb3.mono HB.out.size))
      clear hb3
      go_wp2_with fail
      refine (ho2 _).mono ?_
      rintro e w4 ⟨rfl, hb4⟩
      have HB := hid (HB.out.trans (hb4.mono HB.out.size))
      clear ho2 hb4
      go_wp2_with fail
      refine (HS.out.2 _ (HX.out.2.2.2.below HB.out)).mono ?_
      rintro e w5 ⟨rfl, hb5⟩
      have HB := hid (HB.out.trans (hb5.mono HB.out.size))
      clear hb5
      obtain ⟨hin, hord, hsm, -⟩ := HX.out
      rcases hord with ho | ⟨ho, hp⟩
      · rcases hin with rfl | rfl | rfl | rfl | rfl
        · clear hsm
          go_wp2
          all_goals (
            go_ret
            exact ⟨by first | rfl | (simp; done), HB.out⟩)
        · have hsi : (32 : Int) < (n : Int) := by have := (hsm.resolve_left (by decide)).2.2 (by first | rfl | trivial); omega
          clear hsm
          go_wp2
          all_goals (
            go_ret
            exact ⟨by first | rfl | (simp; done), HB.out⟩)
        · have hsi : (32 : Int) < (n : Int) := by have := (hsm.resolve_left (by decide)).2.2 (by first | rfl | trivial); omega
          clear hsm
          go_wp2
          all_goals (
            go_ret
            exact ⟨by first | rfl | (simp; done), HB.out⟩)
        · have hsi : (32 : Int) < (n : Int) := by have := (hsm.resolve_left (by decide)).2.2 (by first | rfl | trivial); omega
          clear hsm
          go_wp2
          all_goals (
            go_ret
            exact ⟨by first | rfl | (simp; done), HB.out⟩)
        · have hsi : (32 : Int) < (n : Int) := by have := (hsm.resolve_left (by decide)).2.2 (by first | rfl | trivial); omega
          clear hsm
          go_wp2
          all_goals (
            go_ret
            exact ⟨by first | rfl | (simp; done), HB.out⟩)
      · rcases hin with rfl | rfl | rfl | rfl | rfl
        · have hpi : (1 : Int) ≤ (C : Int) := by omega
          clear hsm hp
          go_wp2
          all_goals (
            go_ret
            exact ⟨by first | rfl | (simp; done), HB.out⟩)
        · have hpi : (2 : Int) ≤ (C : Int) := by omega
          have hsi : (32 : Int) < (n : Int) := by have := (hsm.resolve_left (by decide)).2.2 (by first | rfl | trivial); omega
          clear hsm hp
          go_wp2
          all_goals (
            go_ret
            exact ⟨by first | rfl | (simp; done), HB.out⟩)
        · have hpi : (3 : Int) ≤ (C : Int) := by omega
          have hsi : (32 : Int) < (n : Int) := by have := (hsm.resolve_left (by decide)).2.2 (by first | rfl | trivial); omega
          clear hsm hp
          go_wp2
          all_goals (
            go_ret
            exact ⟨by first | rfl | (simp; done), HB.out⟩)
        · have hpi : (5 : Int) ≤ (C : Int) := by omega
          have hsi : (32 : Int) < (n : Int) := by have := (hsm.resolve_left (by decide)).2.2 (by first | rfl | trivial); omega
          clear hsm hp
          go_wp2
          all_goals (
            go_ret
            exact ⟨by first | rfl | (simp; done), HB.out⟩)
        · have hpi : (9 : Int) ≤ (C : Int) := by omega
          have hsi : (32 : Int) < (n : Int) := by have := (hsm.resolve_left (by decide)).2.2 (by first | rfl | trivial); omega
          clear hsm hp
          go_wp2
          all_goals (
            go_ret
            exact ⟨by first | rfl | (simp; done), HB.out⟩)
end Go.Proofs.YtpjlepkdiaohiaaGreatDoor

