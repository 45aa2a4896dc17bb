/- Package dec: Make: walked. -/
import Derived.Test.YtbopikeoaokdpaaDoorDecP
import Derived.WalkMore
import Derived.ScopeJumps
namespace Go.Proofs.YtbopikeoaokdpaaDoor
open Go.RowKit
attribute [local go_sem] Oper.semAt_some

theorem jump_ret {l : Nat} {J : Act → World → Prop} {Q : Exit → Act → World → Prop} {a : Act} {w : World} : Exit.jump l J Q .ret a w = Q .ret a w := rfl

theorem other_runes (w : World) : PredAtRunes Tryd.prog 35 #[] (fun x => !dgN x) w := fun W x hx _ => by
  unfold FnGives
  exact (other_calls x hx W).mono fun e w' ⟨he, hw⟩ => ⟨he, 0, hw⟩

/-- the state at the jump. -/
def JumpM (w : World) (a : Act) (w' : World) : Prop := ∃ (u0 u1 u2 u3 u4 u5 u7 u8 u9 u10 u11 u12 u13 u14 u15 u16 u17 u18 u19 u20 u21 u22 u23 u24 u25 u26 u27 u28 u29 u30 u31 u32 u33 u34 u35 u36 u37 u38 u39 u40 u41 u42 u43 u44 u45 u46 u47 u48 u49 : Value), a = { tmps := #[u0, u1, u2, u3, u4, u5, .pointer (some ⟨w.heap.size, 0, none⟩), u7, u8, u9, u10, u11, u12, u13, u14, u15, u16, u17, u18, u19, u20, u21, u22, u23, u24, u25, u26, u27, u28, u29, u30, u31, u32, u33, u34, u35, u36, u37, u38, u39, u40, u41, u42, u43, u44, u45, u46, u47, u48, u49], defers := [] } ∧ Below w.heap.size w w' ∧ Cls w' w.heap.size 24 [.bool false, .string ⟨#[]⟩, .int .i64 0]

set_option maxRecDepth 100000 in
set_option maxHeartbeats 4000000 in
theorem make_no (n : Bool) (s : ByteArray) (x : Int) (_hx : -9223372036854775808 ≤ x ∧ x ≤ 9223372036854775807) (hs : s.size ≤ 140737488355328) (hno : mkOk (tx s) x = false) (w : World) :
    Calls Tryd.prog 15 #[.bool n, .string s, .int .i64 x] w fun e w' => e = .returned (.tuple #[.agg #[.bool false, .string ⟨#[]⟩, .int .i64 0], .int .i64 40]) ∧ Below w.heap.size w w' := by
  have hlen := txs_len s
  have hcase : (s.toList = [] ∧ s.toList.isEmpty = true) ∨ (¬ s.toList = [] ∧ s.toList.isEmpty = false ∧ (((400 : Int) < s.size) ∨ ((s.size : Int) ≤ 400 ∧ ((decide (-1000 ≤ x) && decide (x ≤ 1000)) = false ∨ ((decide (-1000 ≤ x) && decide (x ≤ 1000)) = true ∧ 0 ≤ Lib.idxFunc (fun x => !dgN x) true s))))) := by
    by_cases h0 : s.size = 0
    · obtain ⟨a, b⟩ := emp_of s h0
      exact .inl ⟨a, by rw [a]; rfl⟩
    · obtain ⟨a, b⟩ := ne_of s h0
      refine .inr ⟨a, b, ?_⟩
      by_cases h4 : s.size ≤ 400
      · refine .inr ⟨by omega, ?_⟩
        cases hb : (decide (-1000 ≤ x) && decide (x ≤ 1000)) with
        | false => exact .inl rfl
        | true =>
          refine .inr ⟨rfl, ?_⟩
          rcases idx_dg0 s with ⟨h, _⟩ | ⟨_, h⟩
          · unfold mkOk at hno
            rw [hb, h, hlen, decide_eq_true h4, decide_eq_true (p := tx s ≠ []) (by intro e; rw [e] at hlen; simp at hlen; omega)] at hno
            exact absurd hno (by decide)
          · exact h
      · exact .inl (by omega)
  have hw := fun W => within_calls x 1000 (by omega) (by omega) W
  have hi := fun W => Tryd.strings_IndexFunc_runes 35 #[] (enters_of Tryd.func35 (by kernel_rfl) rfl) (fun x => !dgN x) s W (other_runes W)
  obtain ⟨z, hz⟩ : ∃ z, Lib.idxFunc (fun x => !dgN x) true s = z := ⟨_, rfl⟩
  rw [hz] at hi hcase
  obtain ⟨bw, hbw⟩ : ∃ bw, (decide (-(1000 : Int) ≤ x) && decide (x ≤ 1000)) = bw := ⟨_, rfl⟩
  rw [hbw] at hw
  change _ ∨ (_ ∧ _ ∧ (_ ∨ (_ ∧ ((decide (-(1000 : Int) ≤ x) && decide (x ≤ 1000)) = false ∨ ((decide (-(1000 : Int) ≤ x) && decide (x ≤ 1000)) = true ∧ _))))) at hcase
  rw [hbw] at hcase
  have hC := Cls.new w 24 [.bool false, .string ⟨#[]⟩, .int .i64 0]
  clear hno hlen hbw hz
  have hpass : ∀ a w', JumpM w a w' → True := fun _ _ _ => trivial
  clear hpass
  go_enter Tryd.func15, Tryd.ntmps15
  go_wp2
  refine wp_scope_jumps 0 (JumpM w) (fun _ _ => 0) rfl ?first ?pass
  case pass =>
    rintro a w' ⟨u0, u1, u2, u3, u4, u5, u7, u8, u9, u10, u11, u12, u13, u14, u15, u16, u17, u18, u19, u20, u21, u22, u23, u24, u25, u26, u27, u28, u29, u30, u31, u32, u33, u34, u35, u36, u37, u38, u39, u40, u41, u42, u43, u44, u45, u46, u47, u48, u49, rfl, hb, hC'⟩
    have c0 := hC'.cell 0 rfl
    have c1 := hC'.cell 1 rfl
    have c2 := hC'.cell 2 rfl
    have z0 := hC'.frozen 0
    have z1 := hC'.frozen 1
    have z2 := hC'.frozen 2
    have hF := ((hC'.set 0 (.bool false)).set 1 (.string ⟨#[]⟩)).set 2 (.int .i64 0)
    have f0 := hF.cell 0 rfl
    have f1 := hF.cell 1 rfl
    have f2 := hF.cell 2 rfl
    have hbF := ((hb.setCell (p := ⟨w.heap.size, 0, none⟩) (Nat.le_refl _) (.bool false)).setCell (p := ⟨w.heap.size, 1, none⟩) (Nat.le_refl _) (.string ⟨#[]⟩)).setCell (p := ⟨w.heap.size, 2, none⟩) (Nat.le_refl _) (.int .i64 0)
    have HF := hid (And.intro f0 (And.intro f1 (And.intro f2 hbF)))
    clear f0 f1 f2 hbF hF
    go_wp2
    rw [jump_ret]
    obtain ⟨f0, f1, f2, hbF⟩ := HF.out
    exact bodyPost_ret (v := .tuple #[.agg #[.bool false, .string ⟨#[]⟩, .int .i64 0], .int .i64 40]) (by simp [results, Tryd.results15, go_sem, f0, f1, f2]) rfl ⟨rfl, hbF⟩
  case first =>
    have hsz := hC.lt
    have hBA := (below_alloc w (.cells #[.bool false, .string ⟨#[]⟩, .int .i64 0] 24))
    have hbb : ∀ V : World, Below ((w.alloc (.cells #[.bool false, .string ⟨#[]⟩, .int .i64 0] 24)).alloc (.cells #[.bool false, .string ⟨#[]⟩, .int .i64 0] 24)).heap.size ((w.alloc (.cells #[.bool false, .string ⟨#[]⟩, .int .i64 0] 24)).alloc (.cells #[.bool false, .string ⟨#[]⟩, .int .i64 0] 24)) V → Below w.heap.size w V ∧ Cls V w.heap.size 24 [.bool false, .string ⟨#[]⟩, .int .i64 0] := fun V h => by
      have hA2 := hBA.alloc hBA.size (.cells #[.bool false, .string ⟨#[]⟩, .int .i64 0] 24)
      exact ⟨hA2.trans (h.mono hA2.size), (h.block w.heap.size (by simp; omega)).trans (hC.alloc _)⟩
    have HB := hid hbb
    have HB0 := hid (hbb _ (Below.refl _ _))
    clear hbb hBA
    rcases hcase with ⟨a, b⟩ | ⟨a, b, h4 | ⟨h4, rfl | ⟨rfl, hz⟩⟩⟩
    all_goals (
      go_wp2_with (first
        | (go_at_call 27; refine (hw _).mono ?_; rintro e w1 ⟨rfl, rfl⟩)
        | (go_at_call 37; refine (hi _).mono ?_; rintro e w1 ⟨rfl, hb1⟩; replace HB0 := hid (HB.out _ hb1)))
      go_step3
      go_wp2
      exact ⟨rfl, _, _, _, _, _, _, _, _, _, _, _, _, _, _, _, _, _, _, _, _, _, _, _, _, _, _, _, _, _, _, _, _, _, _, _, _, _, _, _, _, _, _, _, _, _, _, _, _, _, rfl, HB0.out.1, HB0.out.2⟩)

theorem stripR_ne {l : List UInt8} (h : l ≠ []) (h2 : l.head? ≠ some 48) : stripR l ≠ [] := by
  unfold stripR
  intro e
  rw [List.reverse_eq_nil_iff] at e
  obtain ⟨c, r, rfl⟩ : ∃ c r, l = c :: r := by
    cases l with
    | nil => exact absurd rfl h
    | cons c r => exact ⟨c, r, rfl⟩
  rw [dropWhile_nil] at e
  have := e c (by simp)
  simp at this h2
  exact h2 this

set_option maxRecDepth 100000 in
set_option maxHeartbeats 4000000 in
theorem make_yes (n : Bool) (s : ByteArray) (x : Int) (hs : s.size ≤ 140737488355328) (hyes : mkOk (tx s) x = true) (w : World) :
    Calls Tryd.prog 15 #[.bool n, .string s, .int .i64 x] w fun e w' => e = .returned (.tuple #[(mk n (tx s) x).1.val, .int .i64 (mk n (tx s) x).2]) ∧ Below w.heap.size w w' := by
  have hlen := txs_len s
  have hyes' := hyes
  unfold mkOk at hyes'
  rw [Bool.and_eq_true, Bool.and_eq_true, Bool.and_eq_true, decide_eq_true_eq, decide_eq_true_eq] at hyes'
  obtain ⟨g1, g2, g3, g4⟩ := hyes'
  rw [hlen] at g2
  have hne0 : ¬ s.size = 0 := fun e => g1 (List.eq_nil_of_length_eq_zero (by rw [hlen]; exact e))
  obtain ⟨a, b⟩ := ne_of s hne0
  have g2i : (s.size : Int) ≤ 400 := by omega
  have hxb : -1000 ≤ x ∧ x ≤ 1000 := by rw [Bool.and_eq_true, decide_eq_true_eq, decide_eq_true_eq] at g3; exact g3
  obtain ⟨hx1, hx2⟩ := hxb
  have hw := fun W => within_calls x 1000 (by omega) (by omega) W
  change ∀ W, Calls _ _ _ _ fun e w' => e = .returned (.bool (decide (-1000 ≤ x) && decide (x ≤ 1000))) ∧ _ at hw
  rw [g3] at hw
  have hi := fun W => Tryd.strings_IndexFunc_runes 35 #[] (enters_of Tryd.func35 (by kernel_rfl) rfl) (fun x => !dgN x) s W (other_runes W)
  have hz : Lib.idxFunc (fun x => !dgN x) true s = -1 := by
    rcases idx_dg0 s with ⟨_, h⟩ | ⟨h, _⟩
    · exact h
    · rw [g4] at h; cases h
  rw [hz] at hi
  have hL := fun W => Tryd.strings_TrimLeft_one s 48 (by decide) W
  change ∀ W, Calls _ _ _ _ fun e w' => e = .returned (.string (B (stripL (tx s)))) ∧ _ at hL
  have hLl := stripL_le (tx s)
  rw [hlen] at hLl
  obtain ⟨t, ht⟩ : ∃ t, B (stripL (tx s)) = t := ⟨_, rfl⟩
  have htx : tx t = stripL (tx s) := by rw [← ht, tx_B]
  have hts : t.size = (stripL (tx s)).length := by rw [← txs_len, htx]
  rw [ht] at hL
  have hC := Cls.new w 24 [.bool false, .string ⟨#[]⟩, .int .i64 0]
  have hsz := hC.lt
  have hBA := (below_alloc w (.cells #[.bool false, .string ⟨#[]⟩, .int .i64 0] 24))
  have hA2 := hBA.alloc hBA.size (.cells #[.bool false, .string ⟨#[]⟩, .int .i64 0] 24)
  have hC2 := hC.alloc (.cells #[.bool false, .string ⟨#[]⟩, .int .i64 0] 24)
  have hE2 : Cls ((w.alloc (.cells #[.bool false, .string ⟨#[]⟩, .int .i64 0] 24)).alloc (.cells #[.bool false, .string ⟨#[]⟩, .int .i64 0] 24)) (w.heap.size + 1) 24 [.bool false, .string ⟨#[]⟩, .int .i64 0] := by
    have := Cls.new (w.alloc (.cells #[.bool false, .string ⟨#[]⟩, .int .i64 0] 24)) 24 [.bool false, .string ⟨#[]⟩, .int .i64 0]
    rwa [World.size_alloc] at this
  by_cases ht0 : stripL (tx s) = []
  · have HR := hid (show mk n (tx s) x = (Dz, 0) by unfold mk; rw [if_pos hyes, if_pos ht0])
    obtain ⟨q1, q2⟩ := emp_of t (by rw [hts, ht0]; rfl)
    have q3 : t.toList.isEmpty = true := by rw [q1]; rfl
    clear hyes g1 g2 g3 g4 hz ht htx hts hLl ht0 hlen q2 hne0
    go_enter Tryd.func15, Tryd.ntmps15
    go_wp2
    refine wp_scope_jumps 0 (fun _ _ => False) (fun _ _ => 0) rfl ?first (fun _ _ h => h.elim)
    case first =>
      go_wp2_with (first
        | (go_at_call 27; refine (hw _).mono ?_; rintro e w1 ⟨rfl, rfl⟩)
        | (go_at_call 37; refine (hi _).mono ?_; rintro e w1 ⟨rfl, hb1⟩; have hC3 : Cls w1 w.heap.size 24 [.bool false, .string ⟨#[]⟩, .int .i64 0] := hC2.below hb1; have HB1 := hid (hA2.trans (hb1.mono hA2.size)))
        | (go_at_call 38; refine (hL _).mono ?_; rintro e w2 ⟨rfl, hw2⟩; subst hw2)
        | (go_at_call 32; refine (zero_calls _).mono ?_; rintro e w3 ⟨rfl, hb3⟩; have hC4 := hC3.below hb3; have HB3 := hid (HB1.out.trans (hb3.mono HB1.out.size)); have c0 := hC4.cell 0 rfl; have c1 := hC4.cell 1 rfl; have c2 := hC4.cell 2 rfl; have z0 := hC4.frozen 0; have z1 := hC4.frozen 1; have z2 := hC4.frozen 2))
      rw [jump_ret]
      have hF := ((hC4.set 0 (.bool false)).set 1 (.string ⟨#[48]⟩)).set 2 (.int .i64 0)
      have f0 := hF.cell 0 rfl
      have f1 := hF.cell 1 rfl
      have f2 := hF.cell 2 rfl
      have hbF := ((HB3.out.setCell (p := ⟨w.heap.size, 0, none⟩) (Nat.le_refl _) (.bool false)).setCell (p := ⟨w.heap.size, 1, none⟩) (Nat.le_refl _) (.string ⟨#[48]⟩)).setCell (p := ⟨w.heap.size, 2, none⟩) (Nat.le_refl _) (.int .i64 0)
      exact bodyPost_ret (v := .tuple #[.agg #[.bool false, .string ⟨#[48]⟩, .int .i64 0], .int .i64 0]) (by simp [results, Tryd.results15, go_sem, f0, f1, f2]) rfl ⟨by rw [HR.out]; rfl, hbF⟩
  · obtain ⟨q1, q2⟩ := ne_of t (fun e => ht0 (List.eq_nil_of_length_eq_zero (by rw [← hts]; exact e)))
    have hRt := fun W => Tryd.strings_TrimRight_one t 48 (by decide) W (by omega)
    change ∀ W, Calls _ _ _ _ fun e w' => e = .returned (.string (B (stripR (tx t)))) ∧ _ at hRt
    have hRl := stripR_le (tx t)
    obtain ⟨r, hr⟩ : ∃ r, B (stripR (tx t)) = r := ⟨_, rfl⟩
    have hrx : tx r = stripR (tx t) := by rw [← hr, tx_B]
    have hrs : r.size = (stripR (tx t)).length := by rw [← txs_len, hrx]
    rw [hr] at hRt
    rw [← hrs, txs_len] at hRl
    obtain ⟨y, hy⟩ : ∃ y, x + (t.size : Int) - (r.size : Int) = y := ⟨_, rfl⟩
    have hmk : mkD n (tx s) x = ⟨n, tx r, y⟩ := by
      unfold mkD
      rw [← htx, ← hrs, txs_len, hy, hrx]
    have hright := fun W => decRight_calls n r y (by omega) W
    have hR : mk n (tx s) x = if decR ⟨n, tx r, y⟩ then (⟨n, tx r, y⟩, 0) else (D0, 40) := by
      unfold mk
      rw [if_pos hyes, if_neg ht0, hmk]
    obtain ⟨bR, hbR⟩ : ∃ bR, decR ⟨n, tx r, y⟩ = bR := ⟨_, rfl⟩
    rw [hbR] at hright hR
    have hBr := hid (B_tx r)
    have hti : (t.size : Int) ≤ 400 := by omega
    have hri : (r.size : Int) ≤ (t.size : Int) := by omega
    have hE2' := hE2
    have hlt1 : w.heap.size < w.heap.size + 1 := by omega
    clear hyes g1 g2 g3 g4 hz ht htx hts hLl ht0 hlen hne0 hr hrx hrs hmk hbR hRl
    cases bR with
    | true =>
      have HR := hid (show mk n (tx s) x = (⟨n, tx r, y⟩, 0) by rw [hR]; rfl)
      clear hR
      go_enter Tryd.func15, Tryd.ntmps15
      go_wp2
      refine wp_scope_jumps 0 (fun _ _ => False) (fun _ _ => 0) rfl ?first (fun _ _ h => h.elim)
      case first =>
        go_wp2_with (first
          | (go_at_call 27; refine (hw _).mono ?_; rintro e w1 ⟨rfl, rfl⟩)
          | (go_at_call 37; refine (hi _).mono ?_; rintro e w1 ⟨rfl, hb1⟩; have hC3 : Cls w1 w.heap.size 24 [.bool false, .string ⟨#[]⟩, .int .i64 0] := hC2.below hb1; have hE3 : Cls w1 (w.heap.size + 1) 24 [.bool false, .string ⟨#[]⟩, .int .i64 0] := hE2.below hb1; have HB1 := hid (hA2.trans (hb1.mono hA2.size)); have e0 := hE3.cell 0 rfl; have e1 := hE3.cell 1 rfl; have e2 := hE3.cell 2 rfl; have y0 := hE3.frozen 0; have y1 := hE3.frozen 1; have y2 := hE3.frozen 2; have hE5 := ((hE3.set 0 (.bool n)).set 1 (.string r)).set 2 (.int .i64 y); have hC5 := ((hC3.other (off := 0) (b := w.heap.size + 1) (by omega) (.bool n)).other (off := 1) (b := w.heap.size + 1) (by omega) (.string r)).other (off := 2) (b := w.heap.size + 1) (by omega) (.int .i64 y); have HB5 := hid (((HB1.out.setCell (p := ⟨w.heap.size + 1, 0, none⟩) (Nat.le_succ _) (.bool n)).setCell (p := ⟨w.heap.size + 1, 1, none⟩) (Nat.le_succ _) (.string r)).setCell (p := ⟨w.heap.size + 1, 2, none⟩) (Nat.le_succ _) (.int .i64 y)); have k0 := hE5.cell 0 rfl; have k1 := hE5.cell 1 rfl; have k2 := hE5.cell 2 rfl)
          | (go_at_call 38; refine (hL _).mono ?_; rintro e w2 ⟨rfl, hw2⟩; subst hw2)
          | (go_at_call 39; refine (hRt _).mono ?_; rintro e w2 ⟨rfl, hw2⟩; subst hw2)
          | (go_at_call 14; refine (hright _).mono ?_; rintro e w6 ⟨rfl, hb6⟩; have hC6 := hC5.below hb6; have hE6 := hE5.below hb6; have HB6 := hid (HB5.out.trans (hb6.mono HB5.out.size)); have c0 := hC6.cell 0 rfl; have c1 := hC6.cell 1 rfl; have c2 := hC6.cell 2 rfl; have z0 := hC6.frozen 0; have z1 := hC6.frozen 1; have z2 := hC6.frozen 2; have m0 := hE6.cell 0 rfl; have m1 := hE6.cell 1 rfl; have m2 := hE6.cell 2 rfl))
        rw [jump_ret]
        have hF := ((hC6.set 0 (.bool n)).set 1 (.string r)).set 2 (.int .i64 y)
        have f0 := hF.cell 0 rfl
        have f1 := hF.cell 1 rfl
        have f2 := hF.cell 2 rfl
        have hbF := ((HB6.out.setCell (p := ⟨w.heap.size, 0, none⟩) (Nat.le_refl _) (.bool n)).setCell (p := ⟨w.heap.size, 1, none⟩) (Nat.le_refl _) (.string r)).setCell (p := ⟨w.heap.size, 2, none⟩) (Nat.le_refl _) (.int .i64 y)
        exact bodyPost_ret (v := .tuple #[.agg #[.bool n, .string r, .int .i64 y], .int .i64 0]) (by simp [results, Tryd.results15, go_sem, f0, f1, f2]) rfl ⟨by rw [HR.out]; unfold D.val; rw [hBr.out]; rfl, hbF⟩
    | false =>
      have HR := hid (show mk n (tx s) x = (D0, 40) by rw [hR]; rfl)
      clear hR
      go_enter Tryd.func15, Tryd.ntmps15
      go_wp2
      refine wp_scope_jumps 0 (fun _ _ => False) (fun _ _ => 0) rfl ?first (fun _ _ h => h.elim)
      case first =>
        go_wp2_with (first
          | (go_at_call 27; refine (hw _).mono ?_; rintro e w1 ⟨rfl, rfl⟩)
          | (go_at_call 37; refine (hi _).mono ?_; rintro e w1 ⟨rfl, hb1⟩; have hC3 : Cls w1 w.heap.size 24 [.bool false, .string ⟨#[]⟩, .int .i64 0] := hC2.below hb1; have hE3 : Cls w1 (w.heap.size + 1) 24 [.bool false, .string ⟨#[]⟩, .int .i64 0] := hE2.below hb1; have HB1 := hid (hA2.trans (hb1.mono hA2.size)); have e0 := hE3.cell 0 rfl; have e1 := hE3.cell 1 rfl; have e2 := hE3.cell 2 rfl; have y0 := hE3.frozen 0; have y1 := hE3.frozen 1; have y2 := hE3.frozen 2; have hE5 := ((hE3.set 0 (.bool n)).set 1 (.string r)).set 2 (.int .i64 y); have hC5 := ((hC3.other (off := 0) (b := w.heap.size + 1) (by omega) (.bool n)).other (off := 1) (b := w.heap.size + 1) (by omega) (.string r)).other (off := 2) (b := w.heap.size + 1) (by omega) (.int .i64 y); have HB5 := hid (((HB1.out.setCell (p := ⟨w.heap.size + 1, 0, none⟩) (Nat.le_succ _) (.bool n)).setCell (p := ⟨w.heap.size + 1, 1, none⟩) (Nat.le_succ _) (.string r)).setCell (p := ⟨w.heap.size + 1, 2, none⟩) (Nat.le_succ _) (.int .i64 y)); have k0 := hE5.cell 0 rfl; have k1 := hE5.cell 1 rfl; have k2 := hE5.cell 2 rfl)
          | (go_at_call 38; refine (hL _).mono ?_; rintro e w2 ⟨rfl, hw2⟩; subst hw2)
          | (go_at_call 39; refine (hRt _).mono ?_; rintro e w2 ⟨rfl, hw2⟩; subst hw2)
          | (go_at_call 14; refine (hright _).mono ?_; rintro e w6 ⟨rfl, hb6⟩; have hC6 := hC5.below hb6; have hE6 := hE5.below hb6; have HB6 := hid (HB5.out.trans (hb6.mono HB5.out.size)); have c0 := hC6.cell 0 rfl; have c1 := hC6.cell 1 rfl; have c2 := hC6.cell 2 rfl; have z0 := hC6.frozen 0; have z1 := hC6.frozen 1; have z2 := hC6.frozen 2; have m0 := hE6.cell 0 rfl; have m1 := hE6.cell 1 rfl; have m2 := hE6.cell 2 rfl))
        go_step3
        go_wp2
        rw [jump_ret]
        have hF := ((hC6.set 0 (.bool false)).set 1 (.string ⟨#[]⟩)).set 2 (.int .i64 0)
        have f0 := hF.cell 0 rfl
        have f1 := hF.cell 1 rfl
        have f2 := hF.cell 2 rfl
        have hbF := ((HB6.out.setCell (p := ⟨w.heap.size, 0, none⟩) (Nat.le_refl _) (.bool false)).setCell (p := ⟨w.heap.size, 1, none⟩) (Nat.le_refl _) (.string ⟨#[]⟩)).setCell (p := ⟨w.heap.size, 2, none⟩) (Nat.le_refl _) (.int .i64 0)
        exact bodyPost_ret (v := .tuple #[.agg #[.bool false, .string ⟨#[]⟩, .int .i64 0], .int .i64 40]) (by simp [results, Tryd.results15, go_sem, f0, f1, f2]) rfl ⟨by rw [HR.out]; rfl, hbF⟩

theorem decMake_calls (n : Bool) (s : ByteArray) (x : Int) (hx : -9223372036854775808 ≤ x ∧ x ≤ 9223372036854775807) (hs : s.size ≤ 140737488355328) (w : World) :
    Calls Tryd.prog 15 #[.bool n, .string s, .int .i64 x] w fun e w' => e = .returned (.tuple #[(mk n (tx s) x).1.val, .int .i64 (mk n (tx s) x).2]) ∧ Below w.heap.size w w' := by
  cases h : mkOk (tx s) x with
  | true => exact make_yes n s x hs h w
  | false =>
    have := make_no n s x hx hs h w
    unfold mk
    rw [h]
    exact this
end Go.Proofs.YtbopikeoaokdpaaDoor
