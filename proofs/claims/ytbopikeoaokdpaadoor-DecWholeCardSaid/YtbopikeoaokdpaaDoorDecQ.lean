/- Plain: written numbers, and what they are read as. -/
import Derived.Test.YtbopikeoaokdpaaDoorDecF
import Derived.Test.YtbopikeoaokdpaaDoorDecG
namespace Go.Proofs.YtbopikeoaokdpaaDoor
open Go Go.RowKit

theorem dgp_app {d r : List UInt8} (hd : Dgs d) (hr : ∀ c, r.head? = some c → isDg c = false) : dgp (d ++ r) = d := by
  unfold dgp
  rw [List.takeWhile_append_of_pos (fun c hc => hd c hc)]
  cases r with
  | nil => rw [List.takeWhile_nil, List.append_nil]
  | cons c r => rw [List.takeWhile_cons_of_neg (by rw [hr c rfl]; decide), List.append_nil]
theorem hdB_nil (c : UInt8) : hdB c [] = false := rfl
theorem hdB_cons (c d : UInt8) (l : List UInt8) : hdB c (d :: l) = (d == c) := by
  unfold hdB; rw [List.head?_cons]; rfl
theorem dg_ne {d c : UInt8} (hd : isDg d = true) (hc : isDg c = false) : (d == c) = false := by
  rw [beq_eq_false_iff_ne]
  intro e; rw [e, hc] at hd; cases hd

/-- a written number, in its parts. -/
structure Shape (W P X rest : List UInt8) (v : Int) : Prop where
  hW : W ≠ []
  hWd : Dgs W
  hW0 : W.head? = some 48 → W = [48]
  hP : Dgs P
  hr : ∀ c, rest.head? = some c → c = 44
  hX : (X = [] ∧ v = 0) ∨ ∃ c g D, X = c :: (g ++ D) ∧ (c = 101 ∨ c = 69) ∧ Dgs D ∧ D ≠ [] ∧ D.length ≤ 4 ∧ ((g = [] ∧ v = (nv D : Nat)) ∨ (g = [45] ∧ v = -(nv D : Nat)))
def wr (n : Bool) (W P X rest : List UInt8) : List UInt8 := (if n then [45] else []) ++ (W ++ ((if P = [] then [] else 46 :: P) ++ (X ++ rest)))

theorem Shape.restNo {W P X rest : List UInt8} {v : Int} (h : Shape W P X rest v) : ∀ c, rest.head? = some c → isDg c = false := fun c hc => by
  rw [h.hr c hc]; rfl
theorem Shape.xHead {W P X rest : List UInt8} {v : Int} (h : Shape W P X rest v) : ∀ c, (X ++ rest).head? = some c → c = 44 ∨ c = 101 ∨ c = 69 := fun c hc => by
  rcases h.hX with ⟨rfl, -⟩ | ⟨d, g, D, rfl, hd, -⟩
  · exact .inl (h.hr c hc)
  · rw [List.cons_append, List.head?_cons] at hc
    cases hc
    exact .inr hd
theorem Shape.pow {W P X rest : List UInt8} {v : Int} (h : Shape W P X rest v) : powOk (X ++ rest) = true ∧ powV (X ++ rest) = v ∧ powR (X ++ rest) = rest := by
  rcases h.hX with ⟨rfl, rfl⟩ | ⟨c, g, D, rfl, hc, hD, hD0, hD4, hg⟩
  · rw [List.nil_append]
    have hc : powC rest = false := by
      unfold powC expB
      cases hr : rest with
      | nil => rfl
      | cons a r =>
        have := h.hr a (by rw [hr]; rfl)
        subst this
        rw [hdB_cons, hdB_cons]; rfl
    unfold powOk powV powR
    rw [hc]
    exact ⟨rfl, rfl, rfl⟩
  · have hno := h.restNo
    obtain ⟨d, D', rfl⟩ : ∃ d D', D = d :: D' := by
      cases D with
      | nil => exact absurd rfl hD0
      | cons d D' => exact ⟨d, D', rfl⟩
    have hd : isDg d = true := hD d (by simp)
    have hE : expB ((c :: (g ++ d :: D')) ++ rest) = true := by
      unfold expB
      rw [List.cons_append, hdB_cons, hdB_cons]
      rcases hc with rfl | rfl <;> rfl
    have ht : ((c :: (g ++ d :: D')) ++ rest).tail = g ++ ((d :: D') ++ rest) := by rw [List.cons_append, List.tail_cons, List.append_assoc]
    have hL : powL ((c :: (g ++ d :: D')) ++ rest) = (d :: D') ++ rest := by
      unfold powL
      rw [ht]
      rcases hg with ⟨rfl, -⟩ | ⟨rfl, -⟩
      · rw [List.nil_append, List.cons_append, hdB_cons, hdB_cons, dg_ne hd (by rfl), dg_ne hd (by rfl)]; rfl
      · rfl
    have hDD : powD ((c :: (g ++ d :: D')) ++ rest) = d :: D' := by
      unfold powD
      rw [hL]
      exact dgp_app hD hno
    have hC : powC ((c :: (g ++ d :: D')) ++ rest) = true := by
      unfold powC
      rw [hE, hDD, decide_eq_true (by simp)]; rfl
    have hs : hdB 45 (g ++ ((d :: D') ++ rest)) = decide (g = [45]) := by
      rcases hg with ⟨rfl, -⟩ | ⟨rfl, -⟩
      · rw [List.nil_append, List.cons_append, hdB_cons, dg_ne hd (by rfl)]; rfl
      · rfl
    unfold powOk powV powR
    rw [hC, hL, hDD, ht, hs]
    refine ⟨by rw [decide_eq_true hD4]; rfl, ?_, ?_⟩
    · rcases hg with ⟨rfl, rfl⟩ | ⟨rfl, rfl⟩ <;> rfl
    · rw [if_pos rfl, List.drop_append_of_le_length (Nat.le_refl _), List.drop_length, List.nil_append]

theorem parse_parts (n : Bool) {W P X rest : List UInt8} {v : Int} (h : Shape W P X rest v) :
    hdB 45 (wr n W P X rest) = n ∧ prW (wr n W P X rest) = W ∧ prP (wr n W P X rest) = P ∧ pr3 (wr n W P X rest) = X ++ rest := by
  obtain ⟨d, W', hWe⟩ : ∃ d W', W = d :: W' := by
    cases hw : W with
    | nil => exact absurd hw h.hW
    | cons d W' => exact ⟨d, W', rfl⟩
  have hd : isDg d = true := h.hWd d (by rw [hWe]; simp)
  obtain ⟨T, hT⟩ : ∃ T, (if P = [] then [] else 46 :: P) ++ (X ++ rest) = T := ⟨_, rfl⟩
  have hTn : ∀ c, T.head? = some c → isDg c = false := by
    intro c hc
    rw [← hT] at hc
    split at hc
    · rcases h.xHead c hc with rfl | rfl | rfl <;> rfl
    · cases hc; rfl
  have h1 : hdB 45 (wr n W P X rest) = n := by
    unfold wr
    cases n with
    | true => rfl
    | false =>
      rw [hWe]
      show hdB 45 ((d :: W') ++ _) = false
      rw [List.cons_append, hdB_cons, dg_ne hd (by rfl)]
  have h2 : pr1 (wr n W P X rest) = W ++ T := by
    unfold pr1
    rw [h1, ← hT]
    cases n <;> rfl
  have h3 : wholeS (W ++ T) = W ∧ wholeR (W ++ T) = T := by
    unfold wholeS wholeR
    by_cases h0 : d = 48
    · have hW1 := h.hW0 (by rw [hWe, h0]; rfl)
      rw [hW1]
      exact ⟨rfl, rfl⟩
    · have hx : hdB 48 (W ++ T) = false := by rw [hWe, List.cons_append, hdB_cons, beq_eq_false_iff_ne]; exact h0
      have hg : dgp (W ++ T) = W := dgp_app h.hWd hTn
      rw [hx, hg]
      exact ⟨rfl, by rw [if_neg (by decide), List.drop_append_of_le_length (Nat.le_refl _), List.drop_length, List.nil_append]⟩
  have h4 : partS T = P ∧ partR T = X ++ rest := by
    have hxn : ∀ c, (X ++ rest).head? = some c → isDg c = false := fun c hc => by rcases h.xHead c hc with rfl | rfl | rfl <;> rfl
    by_cases hP : P = []
    · have hp : partB T = false := by
        unfold partB
        rw [← hT, if_pos hP, List.nil_append]
        cases hx : (X ++ rest) with
        | nil => rfl
        | cons a r =>
          rw [hdB_cons]
          rcases h.xHead a (by rw [hx]; rfl) with rfl | rfl | rfl <;> rfl
      unfold partS partR
      rw [hp, hP, ← hT, if_pos hP]
      exact ⟨rfl, rfl⟩
    · have ht : T.tail = P ++ (X ++ rest) := by rw [← hT, if_neg hP]; rfl
      have hg : dgp T.tail = P := by rw [ht]; exact dgp_app h.hP hxn
      have hp : partB T = true := by
        unfold partB
        rw [hg, decide_eq_true hP, ← hT, if_neg hP]
        rfl
      unfold partS partR
      rw [hp, hg, ht]
      exact ⟨rfl, by rw [if_pos rfl, List.drop_append_of_le_length (Nat.le_refl _), List.drop_length, List.nil_append]⟩
  unfold prW prP pr3 pr2
  rw [h2, h3.1, h3.2, h4.1, h4.2]
  exact ⟨h1, rfl, rfl, rfl⟩

/-- what a written number is read as. -/
theorem parse_shape (n : Bool) {W P X rest : List UInt8} {v : Int} (h : Shape W P X rest v) (d : D) (hm : mk n (W ++ P) (v - P.length) = (d, 0)) :
    parseD (wr n W P X rest) = d ∧ parseR (wr n W P X rest) = rest ∧ parseE (wr n W P X rest) = 0 := by
  obtain ⟨h1, h2, h3, h4⟩ := parse_parts n h
  obtain ⟨p1, p2, p3⟩ := h.pow
  have hM : prM (wr n W P X rest) = (d, 0) := by
    unfold prM
    rw [h1, h2, h3, h4, p2]
    exact hm
  have hB : prB (wr n W P X rest) = true := by
    unfold prB
    rw [h2, h4, p1, decide_eq_true h.hW]; rfl
  unfold parseD parseR parseE
  rw [hB, hM, h4, p3]
  exact ⟨rfl, rfl, rfl⟩

theorem drop_zeros (a : Nat) (l : List UInt8) (hl : l.head? ≠ some 48) : stripL (List.replicate a 48 ++ l) = l := by
  unfold stripL
  induction a with
  | zero =>
    cases l with
    | nil => rfl
    | cons c r =>
      rw [show List.replicate 0 (48 : UInt8) ++ c :: r = c :: r from rfl, List.dropWhile_cons_of_neg]
      intro e
      exact hl (by rw [List.head?_cons, beq_iff_eq.1 e])
  | succ a ih => exact ih
theorem strip_zeros (b : Nat) (l : List UInt8) (hl : l.getLast? ≠ some 48) : stripR (l ++ List.replicate b 48) = l := by
  unfold stripR
  rw [List.reverse_append, List.reverse_replicate]
  have := drop_zeros b l.reverse (by rw [List.head?_reverse]; exact hl)
  unfold stripL at this
  rw [this, List.reverse_reverse]

theorem decR_parts {d : D} (h : decR d = true) (h0 : d.dg ≠ [48]) : isRt d.dg = true ∧ d.dg.length ≤ 100 ∧ -100 ≤ d.ex ∧ d.ex ≤ 100 ∧ d.dg.getLast? ≠ some 48 ∧ d.dg.head? ≠ some 48 := by
  unfold decR at h
  rw [if_neg h0, Bool.and_eq_true, Bool.and_eq_true, Bool.and_eq_true, Bool.and_eq_true, decide_eq_true_eq, decide_eq_true_eq, decide_eq_true_eq, Bool.not_eq_true'] at h
  obtain ⟨h1, h2, ⟨h3, h4⟩, h5⟩ := h
  refine ⟨h1, h2, h3, h4, (fun e => by rw [e] at h5; cases h5), fun e => ?_⟩
  by_cases hl : 1 < d.dg.length
  · rw [isRt_zero hl e] at h1; cases h1
  · cases hd : d.dg with
    | nil => rw [hd] at e; cases e
    | cons c r =>
      rw [hd] at hl e
      cases r with
      | nil => rw [hd] at h0; cases e; exact h0 rfl
      | cons c' r' => simp at hl

theorem rt_dgs {l : List UInt8} (h : isRt l = true) : Dgs l := fun c hc => by
  have g := (isRt_iff l).1 h
  exact dec_isDg (nv l) c (by rw [← g.1]; exact hc)

/-- zeros ahead and behind make no difference. -/
theorem mk_zeros (d : D) (a b : Nat) (h : decR d = true) (hlen : a + d.dg.length + b ≤ 400) (hx : -1000 ≤ d.ex - b ∧ d.ex - b ≤ 1000) :
    mk d.neg (List.replicate a 48 ++ d.dg ++ List.replicate b 48) (d.ex - b) = (d, 0) := by
  have hz : ∀ k, Dgs (List.replicate k (48 : UInt8)) := fun k c hc => by rw [(List.mem_replicate.1 hc).2]; rfl
  have hbd := decR_bounds h
  have hok : Dgs d.dg → mkOk (List.replicate a 48 ++ d.dg ++ List.replicate b 48) (d.ex - b) = true := fun hd => by
    unfold mkOk
    rw [decide_eq_true (by intro e; have := congrArg List.length e; rw [List.length_append, List.length_append, List.length_nil] at this; omega), decide_eq_true (by rw [List.length_append, List.length_append, List.length_replicate, List.length_replicate]; omega), decide_eq_true hx.1, decide_eq_true hx.2]
    have hall : (List.replicate a (48 : UInt8) ++ d.dg ++ List.replicate b 48).all isDg = true := by
      rw [List.all_eq_true]
      intro c hc
      rcases List.mem_append.1 hc with hc | hc
      · rcases List.mem_append.1 hc with hc | hc
        · exact hz a c hc
        · exact hd c hc
      · exact hz b c hc
    rw [hall]
    rfl
  by_cases h0 : d.dg = [48]
  · have hd : d = Dz := by
      unfold decR at h
      rw [if_pos h0, Bool.and_eq_true, decide_eq_true_eq, Bool.not_eq_true'] at h
      exact D.ext' h.2 h0 h.1
    unfold mk
    rw [hok (by rw [h0]; intro c hc; rw [List.mem_singleton.1 hc]; rfl), if_pos rfl, if_pos, hd]
    rw [h0, List.append_assoc, show [48] ++ List.replicate b (48 : UInt8) = List.replicate (b + 1) 48 from rfl]
    unfold stripL
    rw [List.replicate_append_replicate]
    have : ∀ k, List.dropWhile (· == (48 : UInt8)) (List.replicate k 48) = [] := fun k => by
      induction k with
      | zero => rfl
      | succ k ih => exact ih
    exact this _
  · obtain ⟨h1, h2, h3, h4, h5, h6⟩ := decR_parts h h0
    have hne : d.dg ≠ [] := by intro e; rw [e] at hbd; simp at hbd
    have hs1 : stripL (List.replicate a 48 ++ d.dg ++ List.replicate b 48) = d.dg ++ List.replicate b 48 := by
      rw [List.append_assoc]
      exact drop_zeros a _ (by rw [head_app hne]; exact h6)
    have hs2 : stripR (d.dg ++ List.replicate b 48) = d.dg := strip_zeros b _ h5
    have hmd : mkD d.neg (List.replicate a 48 ++ d.dg ++ List.replicate b 48) (d.ex - b) = d := by
      unfold mkD
      rw [hs1, hs2]
      exact D.ext' rfl rfl (by show d.ex - b + _ - _ = d.ex; rw [List.length_append, List.length_replicate]; omega)
    unfold mk
    rw [hok (rt_dgs h1), if_pos rfl, if_neg, hmd, h, if_pos rfl]
    rw [hs1]
    intro e
    exact hne (List.append_eq_nil_iff.1 e).1

theorem nv_small {l : List UInt8} (h : Dgs l) : nv l < 10 ^ l.length := nv_bound h

/-- the plain writing is read as what it is. -/
theorem parse_fmt (d : D) (rest : List UInt8) (h : decR d = true) (hr : ∀ c, rest.head? = some c → c = 44) :
    parseD (fmtL d ++ rest) = d ∧ parseR (fmtL d ++ rest) = rest ∧ parseE (fmtL d ++ rest) = 0 := by
  have hbd := decR_bounds h
  have hrt : isRt d.dg = true := by
    by_cases h0 : d.dg = [48]
    · rw [h0]; rfl
    · exact (decR_parts h h0).1
  have hdg := rt_dgs hrt
  have hne : d.dg ≠ [] := by intro e; rw [e] at hbd; simp at hbd
  have hz : ∀ k, Dgs (List.replicate k (48 : UInt8)) := fun k c hc => by rw [(List.mem_replicate.1 hc).2]; rfl
  have app : ∀ {u v : List UInt8}, Dgs u → Dgs v → Dgs (u ++ v) := fun hu hv c hc => by
    rcases List.mem_append.1 hc with hc | hc
    · exact hu c hc
    · exact hv c hc
  -- the whole digits, as they stand
  have key : ∀ (W P X : List UInt8) (v : Int), fmtB d = W ++ ((if P = [] then [] else 46 :: P) ++ X) → Shape W P X rest v → mk d.neg (W ++ P) (v - P.length) = (d, 0) →
      parseD (fmtL d ++ rest) = d ∧ parseR (fmtL d ++ rest) = rest ∧ parseE (fmtL d ++ rest) = 0 := fun W P X v hf hs hm => by
    have he : fmtL d ++ rest = wr d.neg W P X rest := by
      unfold fmtL wr
      rw [h, if_pos rfl, hf]
      simp only [List.append_assoc]
    rw [he]
    exact parse_shape d.neg hs d hm
  have h48 : d.dg = [48] → d.ex = 0 ∧ d.neg = false := fun h0 => by
    unfold decR at h
    rw [if_pos h0, Bool.and_eq_true, decide_eq_true_eq, Bool.not_eq_true'] at h
    exact h
  have hhd : d.dg.head? = some 48 → d.dg = [48] := fun e => by
    by_cases h0 : d.dg = [48]
    · exact h0
    · exact absurd e (decR_parts h h0).2.2.2.2.2
  by_cases hk : (decide (-20 ≤ d.ex) && decide (d.ex ≤ 20)) = true
  · by_cases h0 : 0 ≤ d.ex
    · obtain ⟨c, hc⟩ := Int.eq_ofNat_of_zero_le h0
      have hc20 : c ≤ 20 := by rw [Bool.and_eq_true, decide_eq_true_eq, decide_eq_true_eq] at hk; omega
      refine key (d.dg ++ List.replicate c 48) [] [] 0 ?_ ⟨by simp [hne], app hdg (hz c), ?_, Dgs.nil, hr, .inl ⟨rfl, rfl⟩⟩ ?_
      · unfold fmtB
        rw [if_pos hk, if_pos h0, hc]
        simp
      · rw [head_app hne]
        intro e
        have e2 := hhd e
        have := (h48 e2).1
        rw [e2, show c = 0 by omega]; rfl
      · have := mk_zeros d 0 c h (by omega) (by omega)
        rw [show d.ex - (c : Int) = 0 - (([] : List UInt8).length : Nat) by simp; omega] at this
        rw [List.append_nil]
        exact this
    · have hno : d.dg ≠ [48] := fun e => h0 (by rw [(h48 e).1]; omega)
      by_cases h1 : 0 < (d.dg.length : Int) + d.ex
      · obtain ⟨m, hm⟩ : ∃ m : Nat, (d.dg.length : Int) + d.ex = (m : Int) := ⟨((d.dg.length : Int) + d.ex).toNat, by omega⟩
        have hdl : (d.dg.drop m).length = d.dg.length - m := List.length_drop
        have hdn : d.dg.drop m ≠ [] := by intro e; rw [e] at hdl; simp at hdl; omega
        have htn : d.dg.take m ≠ [] := by intro e; have := congrArg List.length e; rw [List.length_take, List.length_nil] at this; omega
        refine key (d.dg.take m) (d.dg.drop m) [] 0 ?_ ⟨htn, fun c hc => hdg c (List.mem_of_mem_take hc), ?_, fun c hc => hdg c (List.mem_of_mem_drop hc), hr, .inl ⟨rfl, rfl⟩⟩ ?_
        · unfold fmtB
          rw [if_pos hk, if_neg h0, if_pos h1, hm, if_neg hdn]
          simp
        · intro e
          exact absurd (hhd (by rw [← e, List.head?_take, if_neg (by omega)])) hno
        · have := mk_zeros d 0 0 h (by omega) (by omega)
          rw [List.take_append_drop, hdl]
          rw [show d.ex - ((0 : Nat) : Int) = 0 - ((d.dg.length - m : Nat) : Int) by omega] at this
          simpa using this
      · obtain ⟨c, hc⟩ : ∃ c : Nat, -((d.dg.length : Int) + d.ex) = (c : Int) := ⟨(-((d.dg.length : Int) + d.ex)).toNat, by omega⟩
        have hc20 : -20 ≤ d.ex := by rw [Bool.and_eq_true, decide_eq_true_eq, decide_eq_true_eq] at hk; omega
        have hpn : List.replicate c (48 : UInt8) ++ d.dg ≠ [] := by simp [hne]
        refine key [48] (List.replicate c 48 ++ d.dg) [] 0 ?_ ⟨by simp, fun x hx => by rw [List.mem_singleton.1 hx]; rfl, fun _ => rfl, app (hz c) hdg, hr, .inl ⟨rfl, rfl⟩⟩ ?_
        · unfold fmtB
          rw [if_pos hk, if_neg h0, if_neg h1, hc, if_neg hpn]
          simp
        · have := mk_zeros d (c + 1) 0 h (by omega) (by omega)
          rw [show d.ex - ((0 : Nat) : Int) = 0 - ((List.replicate c (48 : UInt8) ++ d.dg).length : Int) by rw [List.length_append, List.length_replicate]; omega] at this
          simpa [List.replicate_succ] using this
  · have hno : d.dg ≠ [48] := fun e => hk (by rw [(h48 e).1]; rfl)
    refine key d.dg [] (101 :: Lib.itoa d.ex) d.ex ?_ ⟨hne, hdg, hhd, Dgs.nil, hr, .inr ?_⟩ ?_
    · unfold fmtB
      rw [if_neg hk]
      simp
    · have hi := itoa_len d.ex (by omega)
      unfold Lib.itoa
      have hl : ∀ u : Nat, u ≤ 100 → (Lib.decDigits u).length ≤ 4 := fun u hu => by rw [Lib.decDigits_length]; exact rdig_lt 3 u (by omega)
      split
      · refine ⟨101, [45], Lib.decDigits d.ex.natAbs, rfl, .inl rfl, fun c hc => dec_isDg _ c hc, dec_ne_nil _, hl _ (by omega), .inr ⟨rfl, ?_⟩⟩
        rw [nv_dec]; omega
      · refine ⟨101, [], Lib.decDigits d.ex.toNat, rfl, .inl rfl, fun c hc => dec_isDg _ c hc, dec_ne_nil _, hl _ (by omega), .inl ⟨rfl, ?_⟩⟩
        rw [nv_dec]; omega
    · have := mk_zeros d 0 0 h (by omega) (by omega)
      simpa using this

/-- what is made is right. -/
theorem mk_right {n : Bool} {l : List UInt8} {x : Int} (h : (mk n l x).2 = 0) : decR (mk n l x).1 = true := by
  unfold mk at h ⊢
  split at h
  · rename_i h1
    rw [if_pos h1]
    split at h
    · rename_i h2
      rw [if_pos h2]; rfl
    · rename_i h2
      rw [if_neg h2]
      split at h
      · rename_i h3
        rw [if_pos h3]; exact h3
      · exact absurd h (by decide)
  · exact absurd h (by decide)
theorem parse_right {l : List UInt8} (h : parseE l = 0) : decR (parseD l) = true := by
  unfold parseE at h
  split at h
  · rename_i h1
    unfold parseD
    rw [if_pos h1]
    rw [Bool.and_eq_true, beq_iff_eq] at h1
    exact mk_right h1.2
  · exact absurd h (by decide)
theorem parseE_01 (l : List UInt8) : parseE l = 0 ∨ parseE l = 40 := by
  unfold parseE; split
  · exact .inl rfl
  · exact .inr rfl
end Go.Proofs.YtbopikeoaokdpaaDoor
