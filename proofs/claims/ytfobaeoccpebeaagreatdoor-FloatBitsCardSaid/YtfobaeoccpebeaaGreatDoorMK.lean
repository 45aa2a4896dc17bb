/- Plain: what the reference's ways of reckoning with floating numbers come to. -/
import Derived.Test.YtfobaeoccpebeaaGreatDoorMH
import Derived.Test.YtfobaeoccpebeaaGreatDoorMA
import Derived.StillTailTactics
import Derived.Shelf.RegionOpen
import Derived.Test.YtfobaeoccpebeaaGreatDoorMC
import Derived.Test.YtfobaeoccpebeaaGreatDoorMB
namespace Go.Proofs.YtfobaeoccpebeaaGreatDoor
open Go Go.RowKit

theorem fit_no {a b : Nat} (h : a ≤ b) (ha : fitE a ≠ 0) : fitS b = [] ∧ fitE b ≠ 0 := by
  have := rdig_up h
  unfold fitE at ha
  unfold fitS fitE
  split at ha
  · exact absurd rfl ha
  · rw [if_neg (by omega), if_neg (by omega)]; exact ⟨rfl, by decide⟩
theorem fit_yes {a b : Nat} (h : a ≤ b) (hb : fitE b = 0) : fitE a = 0 := by
  by_cases ha : fitE a = 0
  · exact ha
  · exact absurd hb (fit_no h ha).2
theorem fitS_dg {n : Nat} (h : fitE n = 0) : fitS n = Lib.decDigits n := by
  unfold fitE at h
  unfold fitS
  split at h
  · rename_i g; rw [if_pos g]
  · cases h
theorem fitE_of {n : Nat} (h : fitS n ≠ []) : fitE n = 0 := by
  unfold fitS at h
  unfold fitE
  split at h
  · rename_i g; rw [if_pos g]
  · exact absurd rfl h
theorem fitS_nil {n : Nat} (h : fitE n ≠ 0) : fitS n = [] := (fit_no (Nat.le_refl n) h).1

theorem mk_no {n : Bool} {l : List UInt8} {x : Int} (h : (mk n l x).2 ≠ 0) : mk n l x = (D0, 40) := by
  unfold mk at h ⊢
  split
  · rename_i h1
    rw [if_pos h1] at h
    split
    · rename_i h2; rw [if_pos h2] at h; exact absurd rfl h
    · rename_i h2
      rw [if_neg h2] at h
      split
      · rename_i h3; rw [if_pos h3] at h; exact absurd rfl h
      · rfl
  · rfl

theorem td_odd {x : Nat} (h0 : tdV x ≠ 0) : tdV x < 9007199254740992 ∧ tdV x = 2 ^ tdZ x * tdO x ∧ tdO x % 2 = 1 ∧ tdZ x ≤ 52 ∧ tdO x ≤ tdV x := by
  have hV : tdV x < 9007199254740992 := by
    have hF : x % A64 < A64 := Nat.mod_lt _ (by decide)
    have hA : A64 = 4503599627370496 := rfl
    unfold tdV; split <;> omega
  obtain ⟨m, hm, _⟩ := Lib.ctzFrom_spec 64 (tdV x) (by omega) (Nat.lt_trans hV (by decide))
  have hZ : tdZ x = Lib.ctzFrom 64 (tdV x) := by unfold tdZ Lib.ctz; rw [if_neg h0]
  have hm2 : tdV x = 2 ^ tdZ x * (2 * m + 1) := by rw [hZ]; exact hm
  have hO : tdO x = 2 * m + 1 := by
    unfold tdO
    have h2 : tdV x / 2 ^ tdZ x = 2 ^ tdZ x * (2 * m + 1) / 2 ^ tdZ x := congrArg (· / 2 ^ tdZ x) hm2
    rw [h2, Nat.mul_comm, Nat.mul_div_cancel _ (Nat.pow_pos (by omega))]
  refine ⟨hV, by rw [hO]; exact hm2, by omega, ?_, Nat.div_le_self _ _⟩
  have h3 : 2 ^ tdZ x < 2 ^ 53 := by
    refine Nat.lt_of_le_of_lt ?_ (show tdV x < 2 ^ 53 from hV)
    conv => rhs; rw [hm2]
    exact Nat.le_mul_of_pos_right _ (by omega)
  have := pow_lt_inv h3
  omega
theorem ten_five (k : Nat) : (10 : Nat) ^ k ≤ 5 ^ (2 * k) := by
  rw [Nat.pow_mul]
  exact Nat.pow_le_pow_left (by decide) k
theorem five_two (k : Nat) : (2 : Nat) ^ (2 * k) ≤ 5 ^ k := by
  rw [Nat.pow_mul]
  exact Nat.pow_le_pow_left (by decide) k
theorem odd_pow {o j : Nat} (h : o % 2 = 1) : (o * 5 ^ j) % 2 = 1 := by
  rw [Nat.mul_mod, Nat.pow_mod, h, show 5 % 2 = 1 from rfl, Nat.one_pow]
/-- far powers are no decimals. -/
theorem far5 {n : Bool} {o j : Nat} {t : Int} {X : D} (ho : o % 2 = 1) (hj : 400 < j) (h : mk n (Lib.decDigits (o * 5 ^ j)) t = (X, 0)) : False := by
  have hN0 : 0 < o * 5 ^ j := Nat.mul_pos (by omega) (Nat.pow_pos (by omega))
  obtain ⟨-, h2, h3, k, -, h5⟩ := mk_num hN0 h
  obtain ⟨g1, g2, -⟩ := decR_parts h2 h3
  have hb := nv_bound (rt_dgs g1)
  have hodd := odd_pow (j := j) ho
  have hk : k = 0 := by
    rcases Nat.eq_zero_or_pos k with h6 | h6
    · exact h6
    · obtain ⟨i, rfl⟩ : ∃ i, k = i + 1 := ⟨k - 1, by omega⟩
      rw [← h5, Nat.pow_succ, ← Nat.mul_assoc] at hodd
      omega
  subst hk
  rw [Nat.pow_zero, Nat.mul_one] at h5
  obtain ⟨i, hi⟩ : ∃ i, i = 200 := ⟨_, rfl⟩
  have a1 : nv X.dg < 10 ^ i := Nat.lt_of_lt_of_le hb (ten_le (by omega))
  have a2 : 5 ^ (2 * i) ≤ 5 ^ j := Nat.pow_le_pow_right (by omega) (by omega)
  have a3 : 5 ^ j ≤ o * 5 ^ j := Nat.le_mul_of_pos_left _ (by omega)
  rw [← h5] at a3
  exact Nat.lt_irrefl _ (Nat.lt_of_lt_of_le a1 (Nat.le_trans (ten_five i) (Nat.le_trans a2 a3)))
theorem far2 {n : Bool} {o j : Nat} {t : Int} {X : D} (ho : o % 2 = 1) (ho2 : o < 9007199254740992) (hj : 400 < j) (h : mk n (Lib.decDigits (o * 2 ^ j)) t = (X, 0)) : False := by
  have hN0 : 0 < o * 2 ^ j := Nat.mul_pos (by omega) (Nat.pow_pos (by omega))
  obtain ⟨-, h2, h3, k, -, h5⟩ := mk_num hN0 h
  obtain ⟨g1, g2, -⟩ := decR_parts h2 h3
  have hb := nv_bound (rt_dgs g1)
  have hd : 5 ^ k ∣ o * 2 ^ j := by
    rw [← h5, show (10 : Nat) = 5 * 2 from rfl, Nat.mul_pow]
    exact ⟨nv X.dg * 2 ^ k, by rw [Nat.mul_left_comm]⟩
  have hd2 : 5 ^ k ∣ o := Nat.Coprime.dvd_of_dvd_mul_right (Nat.Coprime.pow k j (by decide)) hd
  have hle : 5 ^ k ≤ o := Nat.le_of_dvd (by omega) hd2
  have hk : k ≤ 26 := by
    have a1 := five_two k
    have a2 : 2 ^ (2 * k) < 2 ^ 53 := Nat.lt_of_le_of_lt (Nat.le_trans a1 hle) ho2
    have := pow_lt_inv a2
    omega
  have e1 : nv X.dg * 2 ^ k * 5 ^ k = o * 2 ^ j := by rw [← h5, show (10 : Nat) = 5 * 2 from rfl, Nat.mul_pow, Nat.mul_assoc, Nat.mul_comm (2 ^ k)]
  have e2 : 5 ^ k * 2 ^ j ≤ 5 ^ k * (nv X.dg * 2 ^ k) := by
    rw [Nat.mul_comm (5 ^ k) (nv X.dg * 2 ^ k), e1]
    exact Nat.mul_le_mul_right _ hle
  have e3 := Nat.le_of_mul_le_mul_left e2 (Nat.pow_pos (by omega))
  have e4 : 2 ^ j = 2 ^ (j - k) * 2 ^ k := by rw [← Nat.pow_add]; congr 1; omega
  rw [e4] at e3
  have e5 : 2 ^ (j - k) ≤ nv X.dg := Nat.le_of_mul_le_mul_right e3 (Nat.pow_pos (by omega))
  obtain ⟨i, hi⟩ : ∃ i, i = 34 := ⟨_, rfl⟩
  have a1 : nv X.dg < 10 ^ (3 * i) := Nat.lt_of_lt_of_le hb (ten_le (by omega))
  have a2 : 2 ^ (10 * i) ≤ 2 ^ (j - k) := pow_le (by omega)
  exact Nat.lt_irrefl _ (Nat.lt_of_lt_of_le a1 (Nat.le_trans (ten_pow i) (Nat.le_trans a2 e5)))

theorem pow_fit {b m : Nat} (hb : b < 10) (hm : m ≤ 400) : fitE (b ^ m) = 0 := by
  cases m with
  | zero => exact dig_le (k := 0) (by rw [Nat.pow_zero]; decide) (by decide)
  | succ k => exact dig_le (k := k) (Nat.pow_lt_pow_left hb (by omega)) hm
theorem tdB_two (x : Nat) : (tdX x < 0 ∧ tdB x = 5 ∧ tdT x = tdX x) ∨ (¬ tdX x < 0 ∧ tdB x = 2 ∧ tdT x = 0) := by
  unfold tdB tdT
  by_cases h : tdX x < 0
  · rw [if_pos h, if_pos h]; exact .inl ⟨h, rfl, rfl⟩
  · rw [if_neg h, if_neg h]; exact .inr ⟨h, rfl, rfl⟩

/-- what the reference multiplies out. -/
def rtN (x : Nat) : Nat := tdO x * tdB x ^ min (tdX x).natAbs 700
/-- the reference's decimal is the program's. -/
theorem rtd_plain {x : Nat} (h1 : x / A64 % 2048 ≠ 2047) (h0 : tdV x ≠ 0) :
    ((fitS (rtN x) = [] ∨ tdT x < -1000) → toDecS x = (D0, 40)) ∧ (fitS (rtN x) ≠ [] → ¬ tdT x < -1000 → toDecS x = mk (decide (x / C64 = 1)) (fitS (rtN x)) (tdT x)) := by
  obtain ⟨hV, hVO, hodd, hZ, hOV⟩ := td_odd h0
  have hO53 : tdO x < 9007199254740992 := Nat.lt_of_le_of_lt hOV hV
  have htd : toDecS x = if tdP x then mk (decide (x / C64 = 1)) (Lib.decDigits (tdN x)) (tdT x) else (D0, 40) := by
    unfold toDecS; rw [if_neg h1, if_neg h0]
  have htwo := tdB_two x
  have hb : tdB x < 10 := by rcases htwo with ⟨-, h, -⟩ | ⟨-, h, -⟩ <;> rw [h] <;> decide
  obtain ⟨m, hm⟩ : ∃ m, (tdX x).natAbs = m := ⟨_, rfl⟩
  by_cases hmm : m ≤ 400
  · have hpe : powE (tdB x) (m : Nat) = 0 := powE_ok hmm (pow_fit hb hmm)
    have hN : rtN x = tdN x := by unfold rtN tdN; rw [hm, show min m 700 = m by omega]
    have hP : tdP x = decide (fitE (tdN x) = 0) := by unfold tdP; rw [hm, hpe]; rfl
    have hT : ¬ tdT x < -1000 := by
      rcases htwo with ⟨-, -, h⟩ | ⟨-, -, h⟩ <;> rw [h] <;> omega
    rw [hN]
    refine ⟨fun h => ?_, fun h _ => ?_⟩
    · have hf : fitE (tdN x) ≠ 0 := by
        rcases h with h | h
        · intro h2
          rw [fitS_dg h2] at h
          exact dec_ne_nil _ h
        · exact absurd h hT
      rw [htd, hP, decide_eq_false hf]; rfl
    · have hf := fitE_of h
      rw [htd, hP, decide_eq_true hf, if_pos rfl, fitS_dg hf]
  · have hP : tdP x = false := by
      unfold tdP
      rw [hm, decide_eq_false (powE_no (by omega))]; rfl
    have hD : toDecS x = (D0, 40) := by rw [htd, hP]; rfl
    rw [hD]
    refine ⟨fun _ => rfl, fun h _ => ?_⟩
    have hf := fitE_of h
    rw [fitS_dg hf]
    by_cases hz : (mk (decide (x / C64 = 1)) (Lib.decDigits (rtN x)) (tdT x)).2 = 0
    · exfalso
      have he : mk (decide (x / C64 = 1)) (Lib.decDigits (rtN x)) (tdT x) = ((mk (decide (x / C64 = 1)) (Lib.decDigits (rtN x)) (tdT x)).1, 0) := by rw [← hz]
      have hr : rtN x = tdO x * tdB x ^ min m 700 := by unfold rtN; rw [hm]
      rcases htwo with ⟨-, hB, -⟩ | ⟨-, hB, -⟩
      · rw [hr, hB] at he
        exact far5 hodd (by omega) he
      · rw [hr, hB] at he
        exact far2 hodd hO53 (by omega) he
    · exact (mk_no hz).symm

/-- what the reference narrows to, to be widened again and compared. -/
def rnO (m : Fm) (x : Nat) : Nat :=
  if x / A64 % 2048 = 2047 then x / C64 * m.C + (m.B - 1) * m.A + x % A64 / m.D
  else if 1023 < x / A64 % 2048 + m.bias ∧ x / A64 % 2048 + m.bias < 1023 + m.B - 1 then x / C64 * m.C + (x / A64 % 2048 + m.bias - 1023) * m.A + x % A64 / m.D
  else if 0 < x / A64 % 2048 ∧ x / A64 % 2048 + m.bias ≤ 1023 ∧ 1023 < x / A64 % 2048 + m.bias + m.p then x / C64 * m.C + (x % A64 + A64) / (m.D * 2 ^ (1024 - m.bias - x / A64 % 2048))
  else x / C64 * m.C
theorem rnO_lt (m : Fm) (hm : m.ok) {x : Nat} (hx : x < 18446744073709551616) : rnO m x < 2 * m.C := by
  have hs : x / C64 < 2 := by unfold C64; omega
  have hF : x % A64 < A64 := Nat.mod_lt _ (by decide)
  have hc : m.A * m.D = A64 ∧ 0 < m.D ∧ m.A * m.B = m.C ∧ m.bias ≤ 127 ∧ 0 < m.A ∧ 1 < m.B ∧ 0 < m.C := by
    rcases hm with rfl | rfl <;> refine ⟨by decide, by decide, by decide, by decide, by decide, by decide, by decide⟩
  obtain ⟨c1, c2, c3, c4, c5, c6, c7⟩ := hc
  have hFD : x % A64 / m.D < m.A := by rw [Nat.div_lt_iff_lt_mul c2, c1]; exact hF
  have hsC : x / C64 * m.C + m.C ≤ 2 * m.C := by
    generalize x / C64 = s at hs ⊢
    rcases (show s = 0 ∨ s = 1 by omega) with rfl | rfl
    · rw [Nat.zero_mul]; omega
    · rw [Nat.one_mul]; omega
  have hk : ∀ e f, e < m.B → f < m.A → x / C64 * m.C + e * m.A + f < 2 * m.C := by
    intro e f he hf
    have h2 : (e + 1) * m.A ≤ m.B * m.A := Nat.mul_le_mul_right _ he
    rw [Nat.succ_mul, Nat.mul_comm m.B, c3] at h2
    omega
  unfold rnO
  split
  · exact hk _ _ (by omega) hFD
  · split
    · exact hk _ _ (by omega) hFD
    · split
      · rename_i h1 h2 h3
        have hq : (x % A64 + A64) / (m.D * 2 ^ (1024 - m.bias - x / A64 % 2048)) < m.A := by
          rw [Nat.div_lt_iff_lt_mul (Nat.mul_pos c2 (Nat.pow_pos (by omega)))]
          have h4 : 2 ^ 1 ≤ 2 ^ (1024 - m.bias - x / A64 % 2048) := pow_le (by omega)
          have h5 : m.A * m.D * 2 ^ 1 ≤ m.A * m.D * 2 ^ (1024 - m.bias - x / A64 % 2048) := Nat.mul_le_mul_left _ h4
          rw [← Nat.mul_assoc]
          rw [c1] at h5 ⊢
          omega
        have := hk 0 _ (by omega) hq
        rw [Nat.zero_mul, Nat.add_zero] at this
        exact this
      · omega
theorem rnO_some (m : Fm) (hm : m.ok) {x b : Nat} (h : narV m x = some b) : b = rnO m x := by
  have hbias : m.bias ≤ 127 := by rcases hm with rfl | rfl <;> decide
  unfold narV at h
  unfold rnO
  simp only at h
  split at h
  · rename_i h1
    rw [if_pos h1]
    split at h
    · exact (Option.some.inj h).symm
    · cases h
  · rename_i h1
    rw [if_neg h1]
    split at h
    · rename_i h2
      rw [h2.1]
      split
      · rename_i h3; omega
      · rw [if_neg (by omega)]; exact (Option.some.inj h).symm
    · split at h
      · rename_i h2 h3
        rw [if_pos h3]
        split at h
        · exact (Option.some.inj h).symm
        · cases h
      · rename_i h2 h3
        rw [if_neg h3]
        split at h
        · rename_i h4
          rw [if_pos h4]
          split at h
          · exact (Option.some.inj h).symm
          · cases h
        · cases h
/-- .. and what it says then. -/
theorem rnar_plain (m : Fm) (hm : m.ok) {x : Nat} (hx : x < 18446744073709551616) :
    (widV m (rnO m x) = x ∧ (narV m x).isSome = true ∧ (narV m x).getD 0 = rnO m x) ∨ (widV m (rnO m x) ≠ x ∧ (narV m x).isSome = false ∧ (narV m x).getD 0 = 0) := by
  by_cases h : widV m (rnO m x) = x
  · have h2 := nar_wid m hm (rnO m x) (rnO_lt m hm hx)
    rw [h] at h2
    rw [h2]
    exact .inl ⟨h, rfl, rfl⟩
  · refine .inr ⟨h, ?_⟩
    cases hn : narV m x with
    | none => exact ⟨rfl, rfl⟩
    | some b =>
      exfalso
      have h3 := rnO_some m hm hn
      obtain ⟨-, h4⟩ := nar_lt m hm hx hn
      rw [h3] at h4
      exact h h4
end Go.Proofs.YtfobaeoccpebeaaGreatDoor

/- The document's own naturals (targumref01): ends, mul, Mul, Div, Power: walked. -/
namespace Go.Proofs.YtfobaeoccpebeaaGreatDoor
open Go.RowKit
attribute [local go_sem] Oper.semAt_some

theorem rinfo_int : (Tryz.prog.info? 3).map (fun i => (i.zero, i.size, i.bytes)) = some (some (.int .i64 0), 1, 8) := by kernel_rfl
theorem made_ints (n : Nat) : (madeCells #[Value.int .i64 0] n).toList = (List.replicate n 0).map fun x => Value.int .i64 (x : Nat) := by
  apply List.ext_getElem
  · simp [madeCells]
  · intro i h1 h2
    simp [madeCells, Nat.mod_one]
theorem RowN.below {W W' : World} {g : Nat} {e : TypeId} {k : IntKind} {xs : List Nat} (h : RowN W g e k xs) (hb : Below W.heap.size W W') : RowN W' g e k xs := (hb.block g h.lt).trans h

set_option maxRecDepth 100000 in
theorem rends_calls (l : List UInt8) (h0 : l ≠ []) (hd : Dgs l) (hl : l.length ≤ 140737488355328) (w : World) :
    Calls Tryz.prog 87 #[.string ⟨l.toArray⟩] w fun e w' => e = .returned (.tuple #[.string ⟨(fitS (nv l)).toArray⟩, .int .i64 (fitE (nv l))]) ∧ w' = w := by
  have htrim := rTrim_calls ⟨l.toArray⟩ (by simpa [ByteArray.size] using hl) w
  rw [show tx ⟨l.toArray⟩ = l from tx_B l, trimL_dec h0 hd] at htrim
  have hds : (⟨(Lib.decDigits (nv l)).toArray⟩ : ByteArray).size = Lib.nDigits (nv l) := by rw [← Lib.decDigits_length]; simp [ByteArray.size]
  by_cases h : Lib.nDigits (nv l) ≤ 400
  · have HF := hid (show fitS (nv l) = Lib.decDigits (nv l) ∧ fitE (nv l) = 0 from ⟨if_pos h, if_pos h⟩)
    obtain ⟨t, ht⟩ : ∃ t : ByteArray, ⟨(Lib.decDigits (nv l)).toArray⟩ = t := ⟨_, rfl⟩
    rw [ht] at htrim hds
    have HT := hid ht
    have hts : (t.size : Int) ≤ 400 := by omega
    clear ht hds h
    go_enter Tryz.func87, Tryz.ntmps87
    go_wp2_with (go_at_call 66; refine htrim.mono ?_; rintro e w1 ⟨rfl, rfl⟩)
    go_ret2
    exact ⟨by rw [HF.out.1, HF.out.2, ← HT.out]; rfl, rfl⟩
  · have HF := hid (show fitS (nv l) = [] ∧ fitE (nv l) = 11 from ⟨if_neg h, if_neg h⟩)
    obtain ⟨t, ht⟩ : ∃ t : ByteArray, ⟨(Lib.decDigits (nv l)).toArray⟩ = t := ⟨_, rfl⟩
    rw [ht] at htrim hds
    have hts : (400 : Int) < (t.size : Int) := by omega
    clear ht hds h
    go_enter Tryz.func87, Tryz.ntmps87
    go_wp2_with (go_at_call 66; refine htrim.mono ?_; rintro e w1 ⟨rfl, rfl⟩)
    go_ret2
    exact ⟨by rw [HF.out.1, HF.out.2]; rfl, rfl⟩

set_option maxRecDepth 100000 in
set_option maxHeartbeats 4000000 in
theorem rmul_calls (s t : ByteArray) (hs : Dgs (tx s)) (ht : Dgs (tx t)) (h1 : 1 ≤ s.size) (hsl : s.size ≤ 500) (htl : t.size ≤ 500) (w : World) :
    Calls Tryz.prog 88 #[.string s, .string t] w fun e w' => e = .returned (.string ⟨(Lib.decDigits (nv (tx s) * nv (tx t))).toArray⟩) ∧ Below w.heap.size w w' := by
  obtain ⟨i0, hi, hz0, hz1, hz2⟩ := info_parts rinfo_int
  have hprog : Tryz.prog.follows .mixedOrders = true := by kernel_rfl
  go_enter Tryz.func88, Tryz.ntmps88
  go_wp2_with (at_make; refine wpList_make_full _ rfl _ _ 139 rfl w.heap.size 3 i0 (.int .i64 0) 1 Tryz.underlying139 hi hz0 hz1 .i64 .i64 _ _ (s.size + t.size) rfl rfl ?m1 ?m2 (by rw [hz2]; omega) (by simp only [maxLen]; omega) (by simp) ?_)
  case m1 => simp
  case m2 => simp
  intro w1 hown hgrow
  have hrow : RowN w1 w.heap.size 3 .i64 (List.replicate (s.size + t.size) 0) := row_of_owns hown (made_ints _)
  have hB0 : Below w.heap.size w w1 := (Below.refl _ w).grown hgrow (Nat.le_refl _) (fun _ e => by cases e)
  obtain ⟨L, hL⟩ : ∃ L, s.size + t.size = L := ⟨_, rfl⟩
  have hLi : (s.size : Int) + (t.size : Int) = (L : Int) := by omega
  rw [hL] at hrow
  clear hown hgrow
  go_wp2
  simp only [hL, hLi]
  go_loopw [6] (fun a wr => ∃ (i : Nat) (zs : List Nat), a = .int .i64 i ∧ i ≤ s.size ∧ RowN wr w.heap.size 3 .i64 zs ∧ Below w.heap.size w wr ∧ zs.length = L ∧
      tens zs = nv (tx s) % 10 ^ i * nv (tx t) + 10 ^ i * (dgt (tx s) i * (nv (tx t) % 10 ^ 0)) ∧ (∀ j : Nat, zs[j]?.getD 0 ≤ 81 * i)) (fun a _ => s.size - (intOf a).toNat)
  case atStart =>
    refine ⟨0, _, rfl, Nat.zero_le _, hrow, hB0, by simp, by rw [tens_zero, Nat.pow_zero, Nat.mod_one, Nat.mod_one, Nat.zero_mul, Nat.mul_zero, Nat.mul_zero], fun j => ?_⟩
    rw [List.getElem?_replicate]
    split <;> simp
  case round =>
    obtain ⟨i, zs, rfl, hil, hR, hB, hzl, hval, hz⟩ := hrel
    by_cases hlt : i < s.size
    · have HV := hid (And.intro hval (And.intro hz hL))
      clear hval hz hL hrow hB0
      go_wp2
      go_loopw [7] (fun d wr => ∃ (k : Nat) (zs' : List Nat), d = .int .i64 k ∧ k ≤ t.size ∧ RowN wr w.heap.size 3 .i64 zs' ∧ Below w.heap.size w wr ∧ zs'.length = L ∧
          tens zs' = nv (tx s) % 10 ^ i * nv (tx t) + 10 ^ i * (dgt (tx s) i * (nv (tx t) % 10 ^ k)) ∧ (∀ j : Nat, zs'[j]?.getD 0 ≤ 81 * i + 81) ∧ (∀ j : Nat, i + k ≤ j → zs'[j]?.getD 0 ≤ 81 * i)) (fun d _ => t.size - (intOf d).toNat)
      case atStart => exact ⟨0, zs, rfl, Nat.zero_le _, hR, hB, hzl, HV.out.1, fun j => Nat.le_trans (HV.out.2.1 j) (by omega), fun j _ => HV.out.2.1 j⟩
      case round =>
        obtain ⟨k, zs', rfl, hkl, hR', hB', hzl', hval', hz1', hz2'⟩ := hrel
        clear hR hB hzl
        by_cases hkt : k < t.size
        · obtain ⟨j, hj⟩ : ∃ j, i + k = j := ⟨_, rfl⟩
          have hki : (i : Int) + (k : Int) = (j : Int) := by omega
          have hjl : j < L := by have := HV.out.2.2; omega
          have hwj : IntKind.i64.wrap (j : Int) = (j : Int) := IntWalk.i64_in _ (by omega)
          obtain ⟨z, hze⟩ : ∃ z, zs'[j]?.getD 0 = z := ⟨_, rfl⟩
          have hcz := hR'.cell (j := j) (by omega)
          have hfz := hR'.frozen j
          have hzb : z ≤ 81 * i := by rw [← hze]; exact hz2' j (by omega)
          obtain ⟨x, hxe⟩ : ∃ x, dgt (tx s) i = x := ⟨_, rfl⟩
          obtain ⟨y, hye⟩ : ∃ y, dgt (tx t) k = y := ⟨_, rfl⟩
          have hxb := dgt_lt (tx s) hs i
          have hyb := dgt_lt (tx t) ht k
          have hL1 := rdigit_calls s (by omega) hs i (by omega) wr.drew
          have hL2 := rdigit_calls t (by omega) ht k (by omega) wr.drew
          rw [hxe] at hL1 hxb
          rw [hye] at hL2 hyb
          rw [hze] at hcz
          obtain ⟨p, hp⟩ : ∃ p, x * y = p := ⟨_, rfl⟩
          have hpb : p ≤ 81 := by rw [← hp]; exact Nat.mul_le_mul hxb hyb
          have hpi : (x : Int) * (y : Int) = (p : Int) := by rw [← hp]; simp
          obtain ⟨n, hn⟩ : ∃ n, z + p = n := ⟨_, rfl⟩
          have hni : (z : Int) + (p : Int) = (n : Int) := by omega
          have hwp : IntKind.i64.wrap (p : Int) = (p : Int) := IntWalk.i64_in _ (by omega)
          have hwn : IntKind.i64.wrap (n : Int) = (n : Int) := IntWalk.i64_in _ (by omega)
          have hstep : Hid (tens (zs'.set j n) = nv (tx s) % 10 ^ i * nv (tx t) + 10 ^ i * (dgt (tx s) i * (nv (tx t) % 10 ^ (k + 1)))) := by
            have h := rmul_step (a := tx s) (b := tx t) ht (by omega : i + k < zs'.length) hval'
            rw [hj, hxe, hye, hp, hze, hn] at h
            rw [hxe]
            exact h
          have hb2 : Hid ((∀ j' : Nat, (zs'.set j n)[j']?.getD 0 ≤ 81 * i + 81) ∧ (∀ j' : Nat, i + (k + 1) ≤ j' → (zs'.set j n)[j']?.getD 0 ≤ 81 * i)) := by
            refine ⟨fun j' => ?_, fun j' hj' => ?_⟩
            · by_cases e : j = j'
              · subst e; rw [List.getElem?_set_self (by omega), Option.getD_some]; omega
              · rw [List.getElem?_set_ne e]; exact hz1' j'
            · rw [List.getElem?_set_ne (by omega)]; exact hz2' j' (by omega)
          have HE := hid (And.intro hj (And.intro hze (And.intro hxe (And.intro hye (And.intro hp hn)))))
          clear hj hze hxe hye hp hn hval' hz1' hz2' hs ht
          go_wp2
          refine wp_region_still_tail 19 hprog (by kernel_rfl) ?_
          simp only [List.take_succ_cons, List.take_zero, List.drop_succ_cons, List.drop_zero]
          repeat still_step
          still_call hL1
          repeat still_step
          still_call hL2
          repeat still_step
          refine wpStill_nil ?_
          go_wp2
          go_roundw
          case rel => exact ⟨k + 1, _, by simp, hkt, hR'.set j n, (hB'.setCell (Nat.le_refl _) _).drew, by simpa using hzl', hstep.out, hb2.out.1, hb2.out.2⟩
          case measure => simp [intOf]; omega
        · obtain rfl : k = t.size := by omega
          have HW := hid (And.intro hval' hz1')
          clear hval' hz1' hz2'
          go_wp2
          refine ⟨⟨i + 1, zs', by simp, hlt, hR', hB', hzl', ?_, fun j => by have := HW.out.2 j; omega⟩, by simp [intOf]; omega⟩
          exact rmul_next hs ht (by rw [txs_len]; exact HW.out.1)
    · obtain rfl : i = s.size := by omega
      have HT : Hid (tens zs = nv (tx s) * nv (tx t)) := by
        show _ = _
        rw [hval, Nat.pow_zero, Nat.mod_one, Nat.mul_zero, Nat.mul_zero, Nat.add_zero, mod_pow_big hs (by rw [txs_len]; exact Nat.le_refl _)]
      have HZ := hid (And.intro hz hL)
      clear hval hz hL hrow hB0 hlt hil
      go_wp2
      go_loopw [8, 9, 10] (fun o c d wr => ∃ (out : List UInt8) (cc i : Nat), o = .string ⟨out.toArray⟩ ∧ c = .int .i64 cc ∧ d = .int .i64 i ∧ i ≤ L ∧ out.length = i ∧ Dgs out ∧ cc ≤ 100000 ∧ RowN wr w.heap.size 3 .i64 zs ∧ Below w.heap.size w wr ∧
          nv out + 10 ^ i * (cc + tens (zs.drop i)) = nv (tx s) * nv (tx t)) (fun _ _ d _ => L - (intOf d).toNat)
      case atStart => exact ⟨[], 0, 0, rfl, rfl, rfl, Nat.zero_le _, rfl, Dgs.nil, by omega, hR, hB, by rw [List.drop_zero, HT.out, nv_nil]; omega⟩
      case round =>
        obtain ⟨out, c, i, rfl, rfl, rfl, hiL, hol, hod, hcb, hR', hB', hv⟩ := hrel
        clear hR hB
        by_cases hlt : i < L
        · obtain ⟨z, hze⟩ : ∃ z, zs[i]?.getD 0 = z := ⟨_, rfl⟩
          have hcz := hR'.cell (j := i) (by omega)
          have hzb : z ≤ 81 * s.size := by rw [← hze]; exact HZ.out.1 i
          rw [hze] at hcz
          obtain ⟨n, hn⟩ : ∃ n, z + c = n := ⟨_, rfl⟩
          have hni : (z : Int) + (c : Int) = (n : Int) := by omega
          have hnb : n ≤ 200000 := by omega
          have hst := rcar_step (l := zs) (c := c) hol hv
          rw [hze, hn] at hst
          have hod' := Dgs.cons (dgc (show n % 10 < 10 by omega)) hod
          have hcv := conv_one wr (48 + n % 10) (by omega) (48 + (n : Int) % 10) (by omega)
          obtain ⟨ch, hch⟩ : ∃ ch, UInt8.ofNat (48 + n % 10) = ch := ⟨_, rfl⟩
          rw [hch] at hst hod' hcv
          obtain ⟨q, hq⟩ : ∃ q, n / 10 = q := ⟨_, rfl⟩
          have hqi : (n : Int) / 10 = (q : Int) := by omega
          rw [hq] at hst
          have hqb : q ≤ 100000 := by omega
          have HS := hid (And.intro hst (And.intro hod' hol))
          have hob : (out.length : Int) ≤ 2000 := by omega
          have hR2 := hR'.below (below_alloc wr (.cells #[.int .u8 (48 + (n : Int) % 10)] 5))
          have hB2 := hB'.alloc hB'.size (.cells #[.int .u8 (48 + (n : Int) % 10)] 5)
          clear hze hn hch hq hst hod' hol hv hR'
          go_wp2
          go_roundw
          case rel => exact ⟨ch :: out, q, i + 1, congrArg Value.string (by apply ByteArray.ext; simp [ByteArray.data_append]), by simp, by simp, hlt, by simp [HS.out.2.2], HS.out.2.1, hqb, hR2, hB2, HS.out.1⟩
          case measure => simp [intOf]; omega
        · obtain rfl : i = L := by omega
          have hfin : nv out = nv (tx s) * nv (tx t) := rcar_done (l := zs) hs ht (by rw [txs_len, txs_len, HZ.out.2]; exact hzl) (by omega) (by rw [hzl]; exact hv)
          have hne : out ≠ [] := by intro e; rw [e] at hol; simp at hol; have := HZ.out.2; omega
          have htrim := rTrim_calls ⟨out.toArray⟩ (by simp [ByteArray.size]; omega) wr
          rw [show tx ⟨out.toArray⟩ = out from tx_B out, trimL_dec hne hod, hfin] at htrim
          clear hfin hne hv hod hol
          go_wp2_with (go_at_call 66; refine htrim.mono ?_; rintro e w1 ⟨rfl, rfl⟩)
          go_ret
          exact ⟨rfl, hB'⟩

set_option maxRecDepth 100000 in
set_option maxHeartbeats 4000000 in
theorem rMul_calls (s t : ByteArray) (hs : s.size ≤ 140737488355328) (ht : t.size ≤ 140737488355328) (w : World) :
    Calls Tryz.prog 65 #[.string s, .string t] w fun e w' => e = .returned (.tuple #[.string ⟨(if isRt (tx s) && isRt (tx t) then fitS (nv (tx s) * nv (tx t)) else []).toArray⟩, .int .i64 (if isRt (tx s) && isRt (tx t) then fitE (nv (tx s) * nv (tx t)) else 10)]) ∧ Below w.heap.size w w' := by
  cases h1 : isRt (tx s) with
  | false =>
    simp only [Bool.false_and]
    go_enter Tryz.func65, Tryz.ntmps65
    go_wp2_with (go_at_call 69; refine (same_symm (rRight_calls _ (by assumption) _)).mono ?_; rintro e w1 ⟨rfl, rfl⟩)
    go_ret2
    exact ⟨rfl, Below.refl _ _⟩
  | true =>
    cases h2 : isRt (tx t) with
    | false =>
      simp only [Bool.and_false]
      go_enter Tryz.func65, Tryz.ntmps65
      go_wp2_with (go_at_call 69; refine (same_symm (rRight_calls _ (by assumption) _)).mono ?_; rintro e w1 ⟨rfl, rfl⟩)
      go_ret2
      exact ⟨rfl, Below.refl _ _⟩
    | true =>
      have g1 := (isRt_iff _).1 h1
      have g2 := (isRt_iff _).1 h2
      have l1 : 1 ≤ s.size := by
        have := dec_ne_nil (nv (tx s))
        rw [← g1.1] at this
        rw [← txs_len]; exact List.length_pos_iff.2 this
      have l2 : s.size ≤ 400 := by rw [← txs_len]; exact g1.2
      have l3 : t.size ≤ 400 := by rw [← txs_len]; exact g2.2
      have hmul := rmul_calls s t (Dgs.rt h1) (Dgs.rt h2) l1 (by omega) (by omega) w
      obtain ⟨m, hm⟩ : ∃ m, nv (tx s) * nv (tx t) = m := ⟨_, rfl⟩
      have hml : (Lib.decDigits m).length ≤ 900 := by
        have b1 := nv_bound (Dgs.rt h1)
        have b2 := nv_bound (Dgs.rt h2)
        rw [Lib.decDigits_length]
        have : m < 10 ^ ((tx s).length + (tx t).length) := by
          rw [← hm, Nat.pow_add]
          exact Nat.mul_lt_mul_of_lt_of_le b1 (Nat.le_of_lt b2) (Nat.pow_pos (by omega))
        have := rdig_le this
        rw [txs_len, txs_len] at this
        omega
      have hends := fun w => rends_calls (Lib.decDigits m) (dec_ne_nil m) (Dgs.dec m) (by omega) w
      rw [nv_dec] at hends
      rw [hm] at hmul ⊢
      simp only [Bool.and_true, if_true]
      clear g1 g2 hm
      go_enter Tryz.func65, Tryz.ntmps65
      go_wp2_with (first
        | (go_at_call 69; refine (same_symm (rRight_calls _ (by assumption) _)).mono ?_; rintro e w1 ⟨rfl, rfl⟩)
        | (go_at_call 88; refine hmul.mono ?_; rintro e w1 ⟨rfl, hb⟩)
        | (go_at_call 87; refine (hends _).mono ?_; rintro e w1 ⟨rfl, rfl⟩))
      go_ret2
      exact ⟨rfl, hb⟩

/-- Div. -/
def rdivQ (s : ByteArray) (b : Nat) : List UInt8 := if isRt (tx s) && decide (b ≠ 0) then Lib.decDigits (nv (tx s) / b) else []
def rdivR (s : ByteArray) (b : Nat) : Nat := if isRt (tx s) && decide (b ≠ 0) then nv (tx s) % b else 0
def rdivE (s : ByteArray) (b : Nat) : Int := if isRt (tx s) && decide (b ≠ 0) then 0 else 10

set_option maxRecDepth 100000 in
set_option maxHeartbeats 4000000 in
theorem rDiv_calls (s : ByteArray) (b : Nat) (hb32 : b < 4294967296) (hs : s.size ≤ 140737488355328) (w : World) :
    Calls Tryz.prog 45 #[.string s, .int .u32 b] w fun e w' => e = .returned (.tuple #[.string ⟨(rdivQ s b).toArray⟩, .int .u32 (rdivR s b : Nat), .int .i64 (rdivE s b)]) ∧ Below w.heap.size w w' := by
  have hR := same_symm (rRight_calls s hs w)
  by_cases hgood : isRt (tx s) = true ∧ ¬ b = 0
  · obtain ⟨h1, hb0⟩ := hgood
    have HQ := hid (show rdivQ s b = Lib.decDigits (nv (tx s) / b) ∧ rdivR s b = nv (tx s) % b ∧ rdivE s b = 0 by unfold rdivQ rdivR rdivE; rw [h1, decide_eq_true hb0]; exact ⟨rfl, rfl, rfl⟩)
    have g1 := (isRt_iff _).1 h1
    have hd := Dgs.rt h1
    have l1 : 1 ≤ s.size := by
      have := dec_ne_nil (nv (tx s))
      rw [← g1.1] at this
      rw [← txs_len]; exact List.length_pos_iff.2 this
    have l2 : s.size ≤ 400 := by rw [← txs_len]; exact g1.2
    rw [h1] at hR
    have hbi : ((b : Int) == 0) = false := by rw [beq_eq_false_iff_ne]; omega
    have hbp : 0 < b := by omega
    have hwb : IntKind.u64.wrap (b : Int) = (b : Int) := IntWalk.u64_in _ (by omega)
    have hbpi : (1 : Int) ≤ (b : Int) := by omega
    clear g1 h1 hb0
    go_enter Tryz.func45, Tryz.ntmps45
    go_wp2_with (go_at_call 69; refine hR.mono ?_; rintro e w1 ⟨rfl, rfl⟩)
    go_loopw [7, 8, 9] (fun o c d wr => ∃ (k r : Nat) (out : List UInt8), o = .string ⟨out.toArray⟩ ∧ c = .int .u64 r ∧ d = .int .i64 k ∧ k ≤ s.size ∧ out.length = k ∧ Dgs out ∧ r < b ∧ nv out * b + r = nv ((tx s).take k) ∧ Below w.heap.size w wr) (fun _ _ d _ => s.size - (intOf d).toNat)
    case atStart => exact ⟨0, 0, [], rfl, rfl, rfl, Nat.zero_le _, rfl, Dgs.nil, hbp, by rw [nv_nil, List.take_zero, nv_nil]; omega, Below.refl _ _⟩
    case round =>
      obtain ⟨k, r, out, rfl, rfl, rfl, hk, hol, hod, hrb, hv, hB⟩ := hrel
      by_cases hlt : k < s.size
      · obtain ⟨ch, hch⟩ : ∃ ch, s[k] = ch := ⟨_, rfl⟩
        have hcb := hd.at (k := k) (by rw [txs_len]; exact hlt)
        have hcd : isDg ch = true := by rw [← hch]; exact hd _ (List.getElem_mem (l := tx s) (by rw [txs_len]; exact hlt))
        rw [txs_at s hlt, hch] at hcb
        have htk := txs_take s hlt
        rw [hch] at htk
        obtain ⟨h1, h2, h3⟩ := rdiv_step (by omega) hrb hcd hv
        rw [← htk] at h2
        obtain ⟨n, hn⟩ : ∃ n, 10 * r + (ch.toNat - 48) = n := ⟨_, rfl⟩
        have hni : 10 * (r : Int) + ((ch.toNat : Int) - 48) = (n : Int) := by omega
        rw [hn] at h1 h2 h3
        obtain ⟨q, hq⟩ : ∃ q, n / b = q := ⟨_, rfl⟩
        obtain ⟨m, hm⟩ : ∃ m, n % b = m := ⟨_, rfl⟩
        obtain ⟨q1, q2, q3⟩ := quo_forms hbp (by omega) hq
        obtain ⟨r1, r2⟩ := rem_forms hm
        rw [hq] at h1 h2
        rw [hm] at h2 h3
        have hod' := hod.append (Dgs.cons (dgc h1) Dgs.nil)
        have hcv := conv_one wr (48 + q) (by omega) (48 + (q : Int)) (by omega)
        obtain ⟨c, hc⟩ : ∃ c, UInt8.ofNat (48 + q) = c := ⟨_, rfl⟩
        rw [hc] at h2 hod' hcv
        obtain ⟨cb1, cb2⟩ := hcb
        have e1 : (48 : Int) ≤ (ch.toNat : Int) := by omega
        have e2 : (ch.toNat : Int) ≤ 57 := by omega
        have HS := hid (And.intro h2 (And.intro hod' hol))
        have hob : (out.length : Int) ≤ 2000 := by omega
        have hB2 := hB.alloc hB.size (.cells #[.int .u8 (48 + (q : Int))] 5)
        clear htk hn hq hm h2 hod' hol hv hc hcd
        go_wp2
        go_roundw
        case rel => exact ⟨k + 1, m, out ++ [c], congrArg Value.string (by apply ByteArray.ext; simp [ByteArray.data_append]), by simp, by simp, hlt, by simp [HS.out.2.2], HS.out.2.1, h3, HS.out.1, hB2⟩
        case measure => simp [intOf]; omega
      · obtain rfl : k = s.size := by omega
        rw [List.take_of_length_le (by rw [txs_len]; exact Nat.le_refl _)] at hv
        obtain ⟨f1, f2⟩ := rdiv_done hbp hrb hv
        have hne : out ≠ [] := by intro e; rw [e] at hol; simp at hol; omega
        have htrim := rTrim_calls ⟨out.toArray⟩ (by simp [ByteArray.size]; omega) wr
        rw [show tx ⟨out.toArray⟩ = out from tx_B out, trimL_dec hne hod, f1] at htrim
        have HF := hid f2
        have hwr : IntKind.u32.wrap (r : Int) = (r : Int) := IntWalk.u32_in _ (by omega)
        clear f1 f2 hne hod hol hv
        go_wp2_with (go_at_call 66; refine htrim.mono ?_; rintro e w1 ⟨rfl, rfl⟩)
        go_ret3
        exact ⟨by rw [HQ.out.1, HQ.out.2.1, HQ.out.2.2, ← HF.out]; rfl, hB⟩
  · have hf : (isRt (tx s) && decide (b ≠ 0)) = false := by
      cases h : isRt (tx s) with
      | false => rfl
      | true => rw [Bool.true_and]; exact decide_eq_false (fun h2 => hgood ⟨h, h2⟩)
    have HQ := hid (show rdivQ s b = [] ∧ rdivR s b = 0 ∧ rdivE s b = 10 by unfold rdivQ rdivR rdivE; rw [hf]; exact ⟨rfl, rfl, rfl⟩)
    cases h : isRt (tx s) with
    | false =>
      rw [h] at hR
      clear hf hgood h
      go_enter Tryz.func45, Tryz.ntmps45
      go_wp2_with (go_at_call 69; refine hR.mono ?_; rintro e w1 ⟨rfl, rfl⟩)
      go_ret3
      exact ⟨by rw [HQ.out.1, HQ.out.2.1, HQ.out.2.2]; rfl, Below.refl _ _⟩
    | true =>
      have hb0 : b = 0 := by
        by_cases e : b = 0
        · exact e
        · exact absurd ⟨h, e⟩ hgood
      subst hb0
      rw [h] at hR
      clear hf hgood h
      go_enter Tryz.func45, Tryz.ntmps45
      go_wp2_with (go_at_call 69; refine hR.mono ?_; rintro e w1 ⟨rfl, rfl⟩)
      go_ret3
      exact ⟨by rw [HQ.out.1, HQ.out.2.1, HQ.out.2.2]; rfl, Below.refl _ _⟩
end Go.Proofs.YtfobaeoccpebeaaGreatDoor

/- The reference's times (targumref05): walked. -/
namespace Go.Proofs.YtfobaeoccpebeaaGreatDoor
open Go.RowKit Go.Shelf
attribute [local go_sem] Oper.semAt_some

theorem rdgMul_calls (a b : Nat) (ha : isRt (tx (Dg a)) = true) (hb : isRt (tx (Dg b)) = true) (w : World) :
    Calls Tryz.prog 65 #[.string (Dg a), .string (Dg b)] w fun e w' => e = .returned (.tuple #[.string (B (fitS (a * b))), .int .i64 (fitE (a * b))]) ∧ Below w.heap.size w w' := by
  have h := rMul_calls (Dg a) (Dg b) (by have := rt_size ha; omega) (by have := rt_size hb; omega) w
  rw [ha, hb, tx_Dg, tx_Dg, nv_dec, nv_dec] at h
  exact h

set_option maxRecDepth 100000 in
set_option maxHeartbeats 4000000 in
theorem rtimes_calls (N b n : Nat) (hb : 1 ≤ b) (hN : fitE N = 0) (hbf : fitE b = 0) (hn : n ≤ 1000) (w : World) :
    Calls Tryz.prog 37 #[.string (Dg N), .string (Dg b), .int .i64 n] w fun e w' => e = .returned (.string (B (fitS (N * b ^ n)))) ∧ Below w.heap.size w w' := by
  have hbr : isRt (tx (Dg b)) = true := rt_Dg (Nat.le_refl _) hbf
  have hmul := fun k (h : fitE (N * b ^ k) = 0) W => rdgMul_calls (N * b ^ k) b (rt_Dg (Nat.le_refl _) h) hbr W
  have hst : ∀ k, N * b ^ k * b = N * b ^ (k + 1) := fun k => by rw [Nat.pow_succ, Nat.mul_assoc]
  have hle : ∀ k, k ≤ n → N * b ^ k ≤ N * b ^ n := fun k h => Nat.mul_le_mul_left _ (Nat.pow_le_pow_right hb h)
  simp only [hst] at hmul
  obtain ⟨s0, hs0⟩ : ∃ s, Dg N = s := ⟨_, rfl⟩
  obtain ⟨bt, hbt⟩ : ∃ s, Dg b = s := ⟨_, rfl⟩
  rw [hbt] at hmul
  rw [hs0, hbt]
  have HM := hid hmul
  have HL := hid hle
  have HS := hid (And.intro hs0 (And.intro hN hn))
  clear hmul hle hst hbr hbt hs0 hN hbf hb hn
  go_enter Tryz.func37, Tryz.ntmps37
  go_wp2
  go_loopw [0, 7] (fun s i wq => ∃ (k : Nat), i = .int .i64 k ∧ k ≤ n ∧ s = .string (Dg (N * b ^ k)) ∧ fitE (N * b ^ k) = 0 ∧ Below w.heap.size w wq) (fun _ i _ => n - (intOf i).toNat)
  case atStart => exact ⟨0, rfl, Nat.zero_le _, by rw [← HS.out.1, Nat.pow_zero, Nat.mul_one], by rw [Nat.pow_zero, Nat.mul_one]; exact HS.out.2.1, Below.refl _ _⟩
  case round =>
    obtain ⟨k, rfl, hk, rfl, hf, hB⟩ := hrel
    by_cases hlt : k < n
    · have hlt' : (k : Int) < (n : Int) := by omega
      have hk1000 : (k : Int) < 1000 := by have := HS.out.2.2; omega
      have hm := HM.out k hf wr
      obtain ⟨ta, hta⟩ : ∃ t, Dg (N * b ^ k) = t := ⟨_, rfl⟩
      obtain ⟨tb, htb⟩ : ∃ t, B (fitS (N * b ^ (k + 1))) = t := ⟨_, rfl⟩
      obtain ⟨r, hr⟩ : ∃ t, fitE (N * b ^ (k + 1)) = t := ⟨_, rfl⟩
      rw [hta, htb, hr] at hm
      rw [hta]
      have HX := hid (And.intro htb (And.intro hr (And.intro hlt hB)))
      clear hta htb hr hf hk hlt hB
      by_cases hr0 : r = 0
      · subst hr0
        go_wp2_with fail
        refine hm.mono ?_
        rintro e w21 ⟨rfl, hb21⟩
        clear hm
        go_wp2
        go_roundw
        case rel =>
          obtain ⟨k1, k2, k3, k4⟩ := HX.out
          exact ⟨k + 1, by go_num, k3, by rw [← k1, fitS_dg k2]; rfl, k2, k4.trans (hb21.mono k4.size)⟩
        case measure =>
          obtain ⟨k1, k2, k3, k4⟩ := HX.out
          simp [intOf]; omega
      · have hrne : (r != 0) = true := by rw [bne_iff_ne]; exact hr0
        have HR := hid hr0
        clear hr0
        go_wp2_with fail
        refine hm.mono ?_
        rintro e w21 ⟨rfl, hb21⟩
        clear hm
        go_wp2
        go_ret
        obtain ⟨k1, k2, k3, k4⟩ := HX.out
        refine ⟨?_, k4.trans (hb21.mono k4.size)⟩
        rw [(fit_no (HL.out (k + 1) k3) (by rw [k2]; exact HR.out)).1]; rfl
    · have hlt' : ¬ (k : Int) < (n : Int) := by omega
      obtain rfl : k = n := by omega
      have hfs : Dg (N * b ^ k) = B (fitS (N * b ^ k)) := by rw [fitS_dg hf]; rfl
      rw [hfs]
      clear hfs hf hk hlt
      go_wp2
      go_ret
      exact ⟨rfl, hB⟩
end Go.Proofs.YtfobaeoccpebeaaGreatDoor

/- The document's own naturals (targumref01): compare, To (apart from the rest). -/
namespace Go.Proofs.YtfobaeoccpebeaaGreatDoor
open Go.RowKit
attribute [local go_sem] Oper.semAt_some

theorem cmpI_lt {m n : Nat} (h : m < n) : cmpI (m : Nat) (n : Nat) = -1 := by unfold cmpI; rw [if_pos (by omega)]
theorem cmpI_gt {m n : Nat} (h : n < m) : cmpI (m : Nat) (n : Nat) = 1 := by unfold cmpI; rw [if_neg (by omega), if_pos (by omega)]
theorem cmpI_eq {m n : Nat} (h : m = n) : cmpI (m : Nat) (n : Nat) = 0 := by unfold cmpI; rw [if_neg (by omega), if_neg (by omega)]

set_option maxRecDepth 100000 in
set_option maxHeartbeats 2000000 in
theorem rcompare_calls (s t : ByteArray) (hs : isRt (tx s) = true) (ht : isRt (tx t) = true) (w : World) :
    Calls Tryz.prog 70 #[.string s, .string t] w fun e w' => e = .returned (.int .i64 (cmpI (nv (tx s)) (nv (tx t)))) ∧ Below w.heap.size w w' := by
  have ls := rt_len hs
  have lt := rt_len ht
  rw [txs_len] at ls lt
  have ds := Dgs.rt hs
  have dt := Dgs.rt ht
  by_cases hl : s.size = t.size
  · have hbe : ((s.size : Int) != (t.size : Int)) = false := by rw [bne_eq_false_iff_eq]; omega
    have hll : (tx s).length = (tx t).length := by rw [txs_len, txs_len]; exact hl
    have HL := hid (And.intro hl (And.intro hs ht))
    have HLL := hid hll
    have hle : t.size ≤ s.size ∧ s.size ≤ t.size := ⟨by omega, by omega⟩
    obtain ⟨hle1, hle2⟩ := hle
    clear hl hs ht hll
    go_enter Tryz.func70, Tryz.ntmps70
    go_wp2
    go_loopw [5] (fun i wr => ∃ k : Nat, i = .int .i64 k ∧ k ≤ s.size ∧ (tx s).take k = (tx t).take k ∧ Below w.heap.size w wr) (fun i _ => s.size - (intOf i).toNat)
    case atStart => exact ⟨0, rfl, Nat.zero_le _, by rw [List.take_zero, List.take_zero], Below.refl _ _⟩
    case round =>
      obtain ⟨k, rfl, hk, hT, hB⟩ := hrel
      by_cases hlt : k < s.size
      · have hlt2 : k < t.size := by omega
        have h1 := txs_take s hlt
        have h2 := txs_take t hlt2
        obtain ⟨c, hc⟩ : ∃ c, s[k] = c := ⟨_, rfl⟩
        obtain ⟨d, hd⟩ : ∃ d, t[k] = d := ⟨_, rfl⟩
        rw [hc] at h1
        rw [hd] at h2
        have hx : (tx s)[k]'(by rw [txs_len]; exact hlt) = c := hc
        have hy : (tx t)[k]'(by rw [txs_len]; exact hlt2) = d := hd
        rcases Nat.lt_trichotomy c.toNat d.toNat with hcd | hcd | hcd
        · have HR := hid (cmpI_lt (nv_less ds dt HLL.out (by rw [txs_len]; exact hlt) hT (by rw [hx, hy]; exact hcd)))
          have hi1 : (c.toNat : Int) < (d.toNat : Int) := by omega
          clear h1 h2 hT hx hy hcd ds dt
          go_wp2
          go_quiet (fail)
          go_wp2
          go_ret
          exact ⟨ret_int HR.out.symm, belowN hB _⟩
        · have hcd' : c = d := UInt8.toNat_inj.1 hcd
          have HR := hid (show (tx s).take (k + 1) = (tx t).take (k + 1) by rw [h1, h2, hT, hcd'])
          subst hcd'
          clear h1 h2 hT hx hy hcd ds dt
          go_wp2
          go_quiet (fail)
          go_wp2
          go_quiet (fail)
          go_wp2
          go_roundw
          case rel => exact ⟨k + 1, by simp, hlt, HR.out, by first | exact belowN hB _ | exact belowN (belowN hB _) _⟩
          case measure => simp [intOf]; omega
        · have HR := hid (cmpI_gt (nv_less dt ds HLL.out.symm (by rw [txs_len]; exact hlt2) hT.symm (by rw [hx, hy]; exact hcd)))
          have hi1 : (d.toNat : Int) < (c.toNat : Int) := by omega
          clear h1 h2 hT hx hy hcd ds dt
          go_wp2
          go_quiet (fail)
          go_wp2
          go_quiet (fail)
          go_wp2
          go_ret
          exact ⟨ret_int HR.out.symm, by first | exact belowN hB _ | exact belowN (belowN hB _) _⟩
      · have hse : tx s = tx t := by
          rw [List.take_of_length_le (by rw [txs_len]; omega), List.take_of_length_le (by rw [txs_len]; omega)] at hT
          exact hT
        have HR := hid (cmpI_eq (congrArg nv hse))
        clear hse hT ds dt
        go_wp2
        go_ret
        exact ⟨ret_int HR.out.symm, hB⟩
  · have hbe : ((s.size : Int) != (t.size : Int)) = true := by rw [bne_iff_ne]; omega
    rcases Nat.lt_or_gt_of_ne hl with h | h
    · have HR := hid (cmpI_lt (nv_shorter hs ht (by rw [txs_len, txs_len]; exact h)))
      clear hs ht hl ds dt
      go_enter Tryz.func70, Tryz.ntmps70
      go_wp2
      go_ret
      exact ⟨ret_int HR.out.symm, Below.refl _ _⟩
    · have HR := hid (cmpI_gt (nv_shorter ht hs (by rw [txs_len, txs_len]; exact h)))
      clear hs ht hl ds dt
      go_enter Tryz.func70, Tryz.ntmps70
      go_wp2
      go_ret
      exact ⟨ret_int HR.out.symm, Below.refl _ _⟩

/-- the greatest number of 64 bits, as a text. -/
def big64 : ByteArray := ⟨#[49, 56, 52, 52, 54, 55, 52, 52, 48, 55, 51, 55, 48, 57, 53, 53, 49, 54, 49, 53]⟩
theorem big64_val : nv (tx big64) = 18446744073709551615 := by decide +kernel
theorem big64_rt : isRt (tx big64) = true := by decide +kernel
def M64 : Nat := 18446744073709551615

theorem nv_take_le (l : List UInt8) (k : Nat) : nv (l.take k) ≤ nv l := by
  have h := congrArg nv (List.take_append_drop k l)
  rw [nv_append] at h
  have : nv (l.take k) * 1 ≤ nv (l.take k) * 10 ^ (l.drop k).length := Nat.mul_le_mul_left _ (Nat.pow_pos (by omega))
  omega

theorem M64_big {n : Nat} (h : n ≤ M64) : n < 18446744073709551616 := by unfold M64 at h; omega
theorem wrapM {n : Nat} (h : n ≤ M64) : IntKind.u64.wrap (n : Int) = (n : Int) := IntWalk.u64_in _ (by unfold M64 at h; omega)

set_option maxRecDepth 100000 in
set_option maxHeartbeats 4000000 in
theorem rTo_calls (s : ByteArray) (hs : s.size ≤ 140737488355328) (w : World) :
    Calls Tryz.prog 46 #[.string s] w fun e w' => e = .returned (.tuple #[.int .u64 (toN s), .bool (toB s)]) ∧ Below w.heap.size w w' := by
  cases h1 : isRt (tx s) with
  | false =>
    have HR := hid (show toN s = 0 ∧ toB s = false by unfold toN toB; rw [h1]; exact ⟨rfl, rfl⟩)
    go_enter Tryz.func46, Tryz.ntmps46
    go_wp2_with (go_at_call 69; refine (same_symm (rRight_calls _ (by assumption) _)).mono ?_; rintro e w1 ⟨rfl, rfl⟩)
    go_ret2
    exact ⟨by rw [HR.out.1, HR.out.2]; rfl, Below.refl _ _⟩
  | true =>
    have hc := rcompare_calls s big64 h1 big64_rt
    rw [big64_val] at hc
    have ds := Dgs.rt h1
    have ls := rt_len h1
    rw [txs_len] at ls
    by_cases hle : nv (tx s) < 18446744073709551616
    · have HR := hid (show toN s = nv (tx s) ∧ toB s = true by unfold toN toB; rw [h1, decide_eq_true hle]; exact ⟨rfl, rfl⟩)
      have hz : cmpI (nv (tx s) : Nat) (18446744073709551615 : Nat) ≤ 0 := by
        unfold cmpI
        split
        · omega
        · rw [if_neg (by omega)]; exact Int.le_refl _
      obtain ⟨z, hze⟩ : ∃ z, cmpI (nv (tx s) : Nat) (18446744073709551615 : Nat) = z := ⟨_, rfl⟩
      change ∀ w, Calls _ _ _ _ fun e w' => e = .returned (.int .i64 (cmpI (nv (tx s) : Nat) (18446744073709551615 : Nat))) ∧ _ at hc
      rw [hze] at hc hz
      have hM : nv (tx s) ≤ M64 := by unfold M64; omega
      have HM := hid hM
      clear hze hle hM
      change ∀ w, Calls _ _ #[_, .string ⟨#[49, 56, 52, 52, 54, 55, 52, 52, 48, 55, 51, 55, 48, 57, 53, 53, 49, 54, 49, 53]⟩] _ _ at hc
      go_enter Tryz.func46, Tryz.ntmps46
      go_wp2_with (first
        | (go_at_call 69; refine (same_symm (rRight_calls _ (by assumption) _)).mono ?_; rintro e w1 ⟨rfl, rfl⟩)
        | (go_at_call 70; refine (hc _).mono ?_; rintro e w1 ⟨rfl, hb⟩))
      go_loopw [4, 5] (fun v d wr => ∃ (k n : Nat), v = .int .u64 n ∧ d = .int .i64 k ∧ k ≤ s.size ∧ nv ((tx s).take k) = n ∧ Below w.heap.size w wr) (fun _ d _ => s.size - (intOf d).toNat)
      case atStart => exact ⟨0, 0, rfl, rfl, Nat.zero_le _, by rw [List.take_zero, nv_nil], hb⟩
      case round =>
        obtain ⟨k, n, rfl, rfl, hk, hv, hB⟩ := hrel
        by_cases hlt : k < s.size
        · obtain ⟨ch, hch⟩ : ∃ ch, s[k] = ch := ⟨_, rfl⟩
          have hcb := ds.at (k := k) (by rw [txs_len]; exact hlt)
          rw [txs_at s hlt, hch] at hcb
          have htk := txs_take s hlt
          rw [hch] at htk
          have hst : nv ((tx s).take (k + 1)) = n * 10 + (ch.toNat - 48) := by rw [htk, nv_snoc, hv]
          have hle2 := Nat.le_trans (nv_take_le (tx s) (k + 1)) HM.out
          rw [hst] at hle2
          obtain ⟨p, hp⟩ : ∃ p, n * 10 = p := ⟨_, rfl⟩
          rw [hp] at hle2 hst
          obtain ⟨n', hn'⟩ : ∃ n', p + (ch.toNat - 48) = n' := ⟨_, rfl⟩
          have hwp := wrapM (show p ≤ M64 by omega)
          rw [hn'] at hle2 hst
          have hwn := wrapM hle2
          have hpi : 10 * (n : Int) = (p : Int) := by omega
          obtain ⟨c1, c2⟩ := hcb
          have e1 : (48 : Int) ≤ (ch.toNat : Int) := by omega
          have e2 : (ch.toNat : Int) ≤ 57 := by omega
          have hni : (p : Int) + ((ch.toNat : Int) - 48) = (n' : Int) := by omega
          have HS := hid hst
          clear hst hle2 hp hn' htk hv ds
          go_wp2
          go_roundw
          case rel => exact ⟨k + 1, n', by simp, by simp, hlt, HS.out, hB⟩
          case measure => simp [intOf]; omega
        · obtain rfl : k = s.size := by omega
          rw [List.take_of_length_le (by rw [txs_len]; exact Nat.le_refl _)] at hv
          have HV := hid hv
          clear hv ds
          go_wp2
          go_ret2
          exact ⟨by rw [HR.out.1, HR.out.2, HV.out]; rfl, hB⟩
    · have HR := hid (show toN s = 0 ∧ toB s = false by unfold toN toB; rw [h1, decide_eq_false hle]; exact ⟨rfl, rfl⟩)
      rw [show cmpI (nv (tx s) : Nat) (18446744073709551615 : Nat) = 1 from cmpI_gt (by omega)] at hc
      change ∀ w, Calls _ _ #[_, .string ⟨#[49, 56, 52, 52, 54, 55, 52, 52, 48, 55, 51, 55, 48, 57, 53, 53, 49, 54, 49, 53]⟩] _ _ at hc
      clear hle ds ls
      go_enter Tryz.func46, Tryz.ntmps46
      go_wp2_with (first
        | (go_at_call 69; refine (same_symm (rRight_calls _ (by assumption) _)).mono ?_; rintro e w1 ⟨rfl, rfl⟩)
        | (go_at_call 70; refine (hc _).mono ?_; rintro e w1 ⟨rfl, hb⟩))
      go_ret2
      exact ⟨by rw [HR.out.1, HR.out.2]; rfl, hb⟩
end Go.Proofs.YtfobaeoccpebeaaGreatDoor

/- The document's own decimals (targumref04): Right, digits, zeros, Num: walked. -/
namespace Go.Proofs.YtfobaeoccpebeaaGreatDoor
open Go.RowKit
attribute [local go_sem] Oper.semAt_some

theorem isDg_le {c : UInt8} (h : isDg c = true) : 48 ≤ c.toNat ∧ c.toNat ≤ 57 := by
  unfold isDg at h
  rw [Bool.and_eq_true, decide_eq_true_eq, decide_eq_true_eq] at h
  exact h
theorem isDg_out {c : UInt8} (h : isDg c = false) : (c.toNat : Int) < 48 ∨ (48 ≤ (c.toNat : Int) ∧ 57 < (c.toNat : Int)) := by
  unfold isDg at h
  rw [Bool.and_eq_false_iff, decide_eq_false_iff_not, decide_eq_false_iff_not] at h
  omega

theorem decR_main (n : Bool) (s : ByteArray) (x : Int) (h1 : isRt (tx s) = true) (h2 : s.size ≤ 100) (h0 : tx s ≠ [48]) (h3 : -100 ≤ x) (h4 : x ≤ 100) (hp : 0 < s.size) (c : UInt8) (hc : s[s.size - 1] = c) : decR ⟨n, tx s, x⟩ = !(c == 48) := by
  unfold decR
  have hl := txs_len s
  have hne : tx s ≠ [] := by intro e; rw [e] at hl; simp at hl; omega
  have hg : (tx s).getLast? = some c := by
    rw [List.getLast?_eq_getElem?, hl, ← hc]
    exact List.getElem?_eq_getElem _
  rw [if_neg h0]
  show (isRt (tx s) && (decide ((tx s).length ≤ 100) && (decide (-100 ≤ x) && decide (x ≤ 100) && !((tx s).getLast? == some 48)))) = _
  rw [h1, hl, decide_eq_true h2, decide_eq_true h3, decide_eq_true h4, hg]
  rfl

set_option maxRecDepth 100000 in
set_option maxHeartbeats 2000000 in
theorem rdecRight_calls (n : Bool) (s : ByteArray) (x : Int) (hs : s.size ≤ 140737488355328) (w : World) :
    Calls Tryz.prog 44 #[.agg #[.bool n, .string s, .int .i64 x]] w fun e w' => e = .returned (.bool (decR ⟨n, tx s, x⟩)) ∧ Below w.heap.size w w' := by
  have hC := Cls.new w 25 [.bool n, .string s, .int .i64 x]
  have hA := below_alloc w (.cells #[.bool n, .string s, .int .i64 x] 25)
  have hright := fun W => same_symm (rRight_calls s hs W)
  have c0 := hC.cell 0 rfl
  have c1 := hC.cell 1 rfl
  have c2 := hC.cell 2 rfl
  have hl := txs_len s
  cases h1 : isRt (tx s) with
  | false =>
    have HR := hid (show decR ⟨n, tx s, x⟩ = false by
      unfold decR
      rw [if_neg (show ¬ (tx s = [48]) from fun e => by rw [e] at h1; exact absurd h1 (by decide))]
      show (isRt (tx s) && _) = false
      rw [h1]; rfl)
    rw [h1] at hright
    clear h1 hl
    go_enter Tryz.func44, Tryz.ntmps44
    go_wp2_with (go_at_call 69; refine (hright _).mono ?_; rintro e w1 ⟨rfl, rfl⟩)
    go_ret
    exact ⟨ret_bool HR.out.symm, hA⟩
  | true =>
    rw [h1] at hright
    by_cases h2 : s.size ≤ 100
    · have h2i : ¬ (100 : Int) < (s.size : Int) := by omega
      by_cases h0 : tx s = [48]
      · have hb : (s.toList == [48]) = true := by rw [beq_iff_eq, Lib.toList_data]; exact h0
        have HR := hid (show decR ⟨n, tx s, x⟩ = (decide (x = 0) && !n) by unfold decR; rw [if_pos h0])
        clear h1 hl h0 h2
        by_cases hx : x = 0
        · subst hx
          cases n
          all_goals (
            go_enter Tryz.func44, Tryz.ntmps44
            go_wp2_with (go_at_call 69; refine (hright _).mono ?_; rintro e w1 ⟨rfl, rfl⟩)
            go_ret
            exact ⟨ret_bool HR.out.symm, hA⟩)
        · have hxb : (x == 0) = false := by rw [beq_eq_false_iff_ne]; exact hx
          have HX := hid (decide_eq_false hx)
          clear hx
          go_enter Tryz.func44, Tryz.ntmps44
          go_wp2_with (go_at_call 69; refine (hright _).mono ?_; rintro e w1 ⟨rfl, rfl⟩)
          go_ret
          exact ⟨ret_bool (by rw [HR.out, HX.out]; rfl), hA⟩
      · have hb : (s.toList == [48]) = false := by rw [beq_eq_false_iff_ne, Lib.toList_data]; exact h0
        have hp : 0 < s.size := by have := (rt_len h1).1; omega
        by_cases h3 : -100 ≤ x
        · by_cases h4 : x ≤ 100
          · obtain ⟨c, hc⟩ : ∃ c, s[s.size - 1] = c := ⟨_, rfl⟩
            have HR := hid (decR_main n s x h1 h2 h0 h3 h4 hp c hc)
            have hi : ((s.size : Int) - 1).toNat = s.size - 1 := by omega
            obtain ⟨j, hj⟩ : ∃ j : Nat, s.size - 1 = j := ⟨_, rfl⟩
            have hjs : j < s.size := by omega
            have hji : (s.size : Int) - 1 = (j : Int) := by omega
            have hc' : s[j] = c := by subst hj; exact hc
            have hcb : (c == 48) = ((c.toNat : Int) == 48) := by rw [Bool.eq_iff_iff, beq_iff_eq, beq_iff_eq]; exact byte48 c
            rw [hcb] at HR
            obtain ⟨b, hbb⟩ : ∃ b, ((c.toNat : Int) == 48) = b := ⟨_, rfl⟩
            rw [hbb] at HR
            have hbn : ((c.toNat : Int) != 48) = !b := by rw [bne, hbb]
            clear h1 hl h0 h2 hc hi hj hcb
            go_enter Tryz.func44, Tryz.ntmps44
            go_wp2_with (go_at_call 69; refine (hright _).mono ?_; rintro e w1 ⟨rfl, rfl⟩)
            go_ret
            exact ⟨ret_bool HR.out.symm, hA⟩
          · have HR := hid (show decR ⟨n, tx s, x⟩ = false by
              unfold decR
              rw [if_neg h0]
              show (isRt (tx s) && (_ && (_ && decide (x ≤ 100) && _))) = false
              rw [decide_eq_false h4]; simp)
            clear h1 hl h0 h2
            go_enter Tryz.func44, Tryz.ntmps44
            go_wp2_with (go_at_call 69; refine (hright _).mono ?_; rintro e w1 ⟨rfl, rfl⟩)
            go_ret
            exact ⟨ret_bool HR.out.symm, hA⟩
        · have HR := hid (show decR ⟨n, tx s, x⟩ = false by
            unfold decR
            rw [if_neg h0]
            show (isRt (tx s) && (_ && (decide (-100 ≤ x) && _ && _))) = false
            rw [decide_eq_false h3]; simp)
          clear h1 hl h0 h2
          go_enter Tryz.func44, Tryz.ntmps44
          go_wp2_with (go_at_call 69; refine (hright _).mono ?_; rintro e w1 ⟨rfl, rfl⟩)
          go_ret
          exact ⟨ret_bool HR.out.symm, hA⟩
    · have h2i : (100 : Int) < (s.size : Int) := by omega
      have HR := hid (show decR ⟨n, tx s, x⟩ = false by
        unfold decR
        rw [if_neg (show ¬ (tx s = [48]) from fun e => by rw [e] at hl; simp at hl; omega)]
        show (isRt (tx s) && (decide ((tx s).length ≤ 100) && _)) = false
        rw [hl, decide_eq_false h2]; simp)
      clear h1 hl h2
      go_enter Tryz.func44, Tryz.ntmps44
      go_wp2_with (go_at_call 69; refine (hright _).mono ?_; rintro e w1 ⟨rfl, rfl⟩)
      go_ret
      exact ⟨ret_bool HR.out.symm, hA⟩
end Go.Proofs.YtfobaeoccpebeaaGreatDoor

/- The document's own decimals (targumref04): Make: walked. -/
namespace Go.Proofs.YtfobaeoccpebeaaGreatDoor
open Go.RowKit
attribute [local go_sem] Oper.semAt_some

theorem trim_strip : ∀ (l : List UInt8), l ≠ [] → trimL l = if stripL l = [] then [48] else stripL l
  | [], h => absurd rfl h
  | [c], _ => by
    rw [trimL_one]
    unfold stripL
    by_cases h : c = 48
    · subst h; rfl
    · rw [List.dropWhile_cons_of_neg (by rw [beq_iff_eq]; exact h), if_neg (by simp)]
  | c :: d :: r, _ => by
    by_cases h : c = 48
    · subst h
      rw [trimL_zero, trim_strip (d :: r) (by simp)]
      rfl
    · rw [trimL_other h]
      unfold stripL
      rw [List.dropWhile_cons_of_neg (by rw [beq_iff_eq]; exact h), if_neg (by simp)]
theorem dgs_not {l : List UInt8} {k : Nat} (hk : k < l.length) (h : isDg l[k] = false) : l.all isDg = false := by
  cases e : l.all isDg with
  | false => rfl
  | true => rw [List.all_eq_true.1 e _ (List.getElem_mem hk)] at h; cases h

set_option maxRecDepth 100000 in
set_option maxHeartbeats 2000000 in
theorem rmake_pre (n : Bool) (s : ByteArray) (x : Int) (_hx : -9223372036854775808 ≤ x ∧ x ≤ 9223372036854775807) (_hs : s.size ≤ 140737488355328) (w : World)
    (hno : (s.size : Int) < 1 ∨ (¬ (s.size : Int) < 1 ∧ (400 : Int) < s.size) ∨ (¬ (s.size : Int) < 1 ∧ ¬ (400 : Int) < s.size ∧ x < -1000) ∨ (¬ (s.size : Int) < 1 ∧ ¬ (400 : Int) < s.size ∧ ¬ x < -1000 ∧ 1000 < x)) :
    Calls Tryz.prog 38 #[.bool n, .string s, .int .i64 x] w fun e w' => e = .returned (.tuple #[.agg #[.bool false, .string ⟨#[]⟩, .int .i64 0], .int .i64 40]) ∧ Below w.heap.size w w' := by
  have hC := Cls.new w 25 [.bool false, .string ⟨#[]⟩, .int .i64 0]
  have hA := below_alloc w (.cells #[.bool false, .string ⟨#[]⟩, .int .i64 0] 25)
  have c0 := hC.cell 0 rfl
  have z0 := hC.frozen 0
  have c1 := hC.cell 1 rfl
  have z1 := hC.frozen 1
  have c2 := hC.cell 2 rfl
  have z2 := hC.frozen 2
  rcases hno with h1 | ⟨h1, h2⟩ | ⟨h1, h2, h3⟩ | ⟨h1, h2, h3, h4⟩
  all_goals (
    go_enter Tryz.func38, Tryz.ntmps38
    go_wp2
    have hF := Cls.new w 25 [.bool false, .string ⟨#[]⟩, .int .i64 0]
    have f0 := hF.cell 0 rfl
    have f1 := hF.cell 1 rfl
    have f2 := hF.cell 2 rfl
    exact bodyPost_ret (v := .tuple #[.agg #[.bool false, .string ⟨#[]⟩, .int .i64 0], .int .i64 40]) (by simp [results, Tryz.results38, go_sem, f0, f1, f2]) rfl ⟨rfl, below_alloc w _⟩)

set_option maxRecDepth 100000 in
set_option maxHeartbeats 4000000 in
theorem rmake_in (n : Bool) (s : ByteArray) (x : Int) (h1 : ¬ (s.size : Int) < 1) (h2 : ¬ (400 : Int) < s.size) (h3 : ¬ x < -1000) (h4 : ¬ 1000 < x) (w : World) :
    Calls Tryz.prog 38 #[.bool n, .string s, .int .i64 x] w fun e w' => e = .returned (.tuple #[(mk n (tx s) x).1.val, .int .i64 (mk n (tx s) x).2]) ∧ Below w.heap.size w w' := by
  have hC := Cls.new w 25 [.bool false, .string ⟨#[]⟩, .int .i64 0]
  have hA := below_alloc w (.cells #[.bool false, .string ⟨#[]⟩, .int .i64 0] 25)
  have c0 := hC.cell 0 rfl
  have z0 := hC.frozen 0
  have c1 := hC.cell 1 rfl
  have z1 := hC.frozen 1
  have c2 := hC.cell 2 rfl
  have z2 := hC.frozen 2
  have hl := txs_len s
  have hne : tx s ≠ [] := by intro e; rw [e] at hl; simp at hl; omega
  have htrim := fun W => same_symm (rTrim_calls s (by omega) W)
  obtain ⟨q, hq⟩ : ∃ q : ByteArray, (⟨(trimL (tx s)).toArray⟩ : ByteArray) = q := ⟨_, rfl⟩
  have hqx : tx q = if stripL (tx s) = [] then [48] else stripL (tx s) := by rw [← hq, ← trim_strip _ hne]; exact tx_B _
  rw [hq] at htrim
  have hok : (tx s).all isDg = true → mkOk (tx s) x = true := fun h => by
    unfold mkOk
    rw [h, decide_eq_true hne, hl, decide_eq_true (show s.size ≤ 400 by omega), decide_eq_true (show -1000 ≤ x by omega), decide_eq_true (show x ≤ 1000 by omega)]; rfl
  have hbad : (tx s).all isDg = false → mk n (tx s) x = (D0, 40) := fun h => by
    unfold mk mkOk
    rw [h]; simp
  have HH := hid (And.intro hok (And.intro hbad (And.intro hqx (And.intro hl hne))))
  have hs4 : s.size ≤ 400 := by omega
  clear hok hbad hqx hl hne hq
  go_enter Tryz.func38, Tryz.ntmps38
  go_wp2
  go_loopw [8] (fun v wr => ∃ k : Nat, v = .int .i64 k ∧ k ≤ s.size ∧ Dgs ((tx s).take k) ∧ wr = w.alloc (.cells #[.bool false, .string ⟨#[]⟩, .int .i64 0] 25)) (fun v _ => s.size - (intOf v).toNat)
  case atStart => exact ⟨0, rfl, Nat.zero_le _, by rw [List.take_zero]; exact Dgs.nil, rfl⟩
  case round =>
    obtain ⟨k, rfl, hk, hD, rfl⟩ := hrel
    by_cases hlt : k < s.size
    · obtain ⟨c, hc⟩ : ∃ c, s[k] = c := ⟨_, rfl⟩
      have hc2 : (tx s)[k]'(by rw [txs_len]; exact hlt) = c := hc
      cases hdg : isDg c with
      | true =>
        obtain ⟨hd1, hd2⟩ := isDg_le hdg
        have hd3 : ¬ (c.toNat : Int) < 48 := by omega
        have hd4 : ¬ (57 : Int) < (c.toNat : Int) := by omega
        have hn : Dgs ((tx s).take (k + 1)) := by rw [txs_take s hlt, hc]; exact Dgs.append hD (Dgs.cons hdg Dgs.nil)
        have HN := hid hn
        clear hn hD hc2 hdg
        go_wp2
        go_roundw
        case rel => exact ⟨k + 1, by simp, hlt, HN.out, by first | rfl | trivial⟩
        case measure => simp [intOf]; omega
      | false =>
        have hd := isDg_out hdg
        have HR := hid (HH.out.2.1 (dgs_not (k := k) (by rw [txs_len]; exact hlt) (by rw [hc2]; exact hdg)))
        clear hD hc2 hdg
        rcases hd with e1 | ⟨e1, e2⟩
        all_goals (
          go_wp2
          have hF := Cls.new w 25 [.bool false, .string ⟨#[]⟩, .int .i64 0]
          have f0 := hF.cell 0 rfl
          have f1 := hF.cell 1 rfl
          have f2 := hF.cell 2 rfl
          exact bodyPost_ret (v := .tuple #[.agg #[.bool false, .string ⟨#[]⟩, .int .i64 0], .int .i64 40]) (by simp [results, Tryz.results38, go_sem, f0, f1, f2]) rfl ⟨by rw [HR.out]; rfl, below_alloc w _⟩)
    · have hall : (tx s).all isDg = true := by
        rw [List.all_eq_true]
        rw [List.take_of_length_le (by rw [txs_len]; omega)] at hD
        exact hD
      have hOK := HH.out.1 hall
      have hqx := HH.out.2.2.1
      by_cases ht0 : stripL (tx s) = []
      · rw [if_pos ht0] at hqx
        have HR := hid (show mk n (tx s) x = (Dz, 0) by unfold mk; rw [if_pos hOK, if_pos ht0])
        have hb : (q.toList == [48]) = true := by rw [beq_iff_eq, Lib.toList_data]; exact hqx
        clear hqx ht0 hall hOK hD
        go_wp2_with (go_at_call 66; refine (htrim _).mono ?_; rintro e w1 ⟨rfl, rfl⟩)
        have hF := Cls.new w 25 [.bool false, .string ⟨#[48]⟩, .int .i64 0]
        have f0 := hF.cell 0 rfl
        have f1 := hF.cell 1 rfl
        have f2 := hF.cell 2 rfl
        exact bodyPost_ret (v := .tuple #[.agg #[.bool false, .string ⟨#[48]⟩, .int .i64 0], .int .i64 0]) (by simp [results, Tryz.results38, go_sem, f0, f1, f2]) rfl ⟨by rw [HR.out]; rfl, below_alloc w _⟩
      · rw [if_neg ht0] at hqx
        have hhd := stripL_head (tx s)
        rw [← hqx] at hhd
        have hne48 : tx q ≠ [48] := by intro e; rw [e] at hhd; exact hhd rfl
        have hb : (q.toList == [48]) = false := by rw [beq_eq_false_iff_ne, Lib.toList_data]; exact hne48
        have hql := txs_len q
        have hq0 : 0 < q.size := by
          rcases Nat.eq_zero_or_pos q.size with e | e
          · exact absurd (hqx.symm.trans (List.eq_nil_of_length_eq_zero (by rw [hql]; exact e))) ht0
          · exact e
        have hq4 : q.size ≤ 400 := by
          have := stripL_le (tx s); rw [← hqx, hql, txs_len] at this; omega
        have HQ := hid (And.intro hqx (And.intro ht0 (And.intro hOK hhd)))
        clear hqx ht0 hall hOK hD hhd hne48 hql
        go_wp2_with (go_at_call 66; refine (htrim _).mono ?_; rintro e w1 ⟨rfl, rfl⟩)
        go_loopw [1, 2] (fun v d wr => ∃ (t : ByteArray) (y : Int), v = .string t ∧ d = .int .i64 y ∧ 0 < t.size ∧ t.size ≤ q.size ∧ y + t.size = x + q.size ∧ stripR (tx t) = stripR (tx q) ∧ (tx t).head? = (tx q).head? ∧ wr = w.alloc (.cells #[.bool false, .string ⟨#[]⟩, .int .i64 0] 25)) (fun v _ _ => sizeV v)
        case atStart => exact ⟨q, x, rfl, rfl, hq0, Nat.le_refl _, rfl, rfl, rfl, rfl⟩
        case round =>
          obtain ⟨t, y, rfl, rfl, ht0, htq, hy, hst, hth, rfl⟩ := hrel
          have htl := txs_len t
          obtain ⟨j, hj⟩ : ∃ j : Nat, t.size - 1 = j := ⟨_, rfl⟩
          have hjs : j < t.size := by omega
          have hji : (t.size : Int) - 1 = (j : Int) := by omega
          obtain ⟨c, hc⟩ : ∃ c, t[j] = c := ⟨_, rfl⟩
          have hsp : tx t = (tx t).take j ++ [c] := by
            have := txs_take t hjs
            rw [List.take_of_length_le (by omega), hc] at this
            exact this
          have hlast : (tx t).getLast? = some c := by rw [hsp, List.getLast?_concat]
          have hyb : -2000 ≤ y ∧ y ≤ 2000 := by omega
          obtain ⟨hy1, hy2⟩ := hyb
          have HY := hid hy
          clear hy
          by_cases h48 : c = 48
          · have hcb : ((c.toNat : Int) == 48) = true := by rw [beq_iff_eq]; exact (byte48 c).1 h48
            have hj0 : 0 < j := by
              rcases Nat.eq_zero_or_pos j with e | e
              · exfalso
                rw [e, List.take_zero, List.nil_append, h48] at hsp
                rw [hsp] at hth
                exact HQ.out.2.2.2 hth.symm
              · exact e
            have htx2 : tx (t.extract 0 j) = (tx t).take j := extract_take t j
            have hts2 : (t.extract 0 j).size = j := by rw [← txs_len, htx2, List.length_take, htl]; omega
            have hst2 : stripR (tx (t.extract 0 j)) = stripR (tx q) := by
              rw [htx2, ← hst]
              conv => rhs; rw [hsp, h48]
              rw [stripR_snoc]
            have hth2 : (tx (t.extract 0 j)).head? = (tx q).head? := by
              rw [htx2, List.head?_take, if_neg (by omega), hth]
            obtain ⟨t', ht'⟩ : ∃ t', t.extract 0 j = t' := ⟨_, rfl⟩
            rw [ht'] at hts2 hst2 hth2
            have HS := hid (And.intro hts2 (And.intro hst2 hth2))
            have hji2 : (j : Int) ≤ (t.size : Int) := by omega
            clear hsp hlast htx2 hts2 hst2 hth2 hst hth hj htl h48
            go_wp2
            go_roundw
            case rel => exact ⟨t', y + 1, rfl, rfl, by rw [HS.out.1]; exact hj0, by rw [HS.out.1]; omega, by rw [HS.out.1, ← HY.out]; omega, HS.out.2.1, HS.out.2.2, by first | rfl | trivial⟩
            case measure => simp only [sizeV]; rw [HS.out.1]; omega
          · have hcb : ((c.toNat : Int) == 48) = false := by rw [beq_eq_false_iff_ne]; intro e; exact h48 ((byte48 c).2 e)
            have hSR : stripR (tx q) = tx t := by rw [← hst]; exact stripR_other (by rw [hlast]; intro e; exact h48 (Option.some.inj e))
            have hmk : mkD n (tx s) x = ⟨n, tx t, y⟩ := by
              unfold mkD
              rw [← HQ.out.1, hSR]
              exact D.ext' rfl rfl (by show x + ((tx q).length : Nat) - ((tx t).length : Nat) = y; rw [txs_len, txs_len, ← HY.out]; omega)
            have hR : mk n (tx s) x = if decR ⟨n, tx t, y⟩ then (⟨n, tx t, y⟩, 0) else (D0, 40) := by
              unfold mk
              rw [if_pos HQ.out.2.2.1, if_neg HQ.out.2.1, hmk]
            have hright := fun W => rdecRight_calls n t y (by omega) W
            obtain ⟨bR, hbR⟩ : ∃ bR, decR ⟨n, tx t, y⟩ = bR := ⟨_, rfl⟩
            rw [hbR] at hright hR
            have hBt := hid (B_tx t)
            have hE := Cls.new (w.alloc (.cells #[.bool false, .string ⟨#[]⟩, .int .i64 0] 25)) 25 [.bool n, .string t, .int .i64 y]
            have hC2 := hC.alloc (.cells #[.bool n, .string t, .int .i64 y] 25)
            have hA2 := hA.alloc hA.size (.cells #[.bool n, .string t, .int .i64 y] 25)
            rw [World.size_alloc] at hE
            clear hsp hlast hst hth hj htl h48 hSR hmk hbR
            clear c0 c1 c2 z0 z1 z2
            have c0 := hC2.cell 0 rfl
            have z0 := hC2.frozen 0
            have c1 := hC2.cell 1 rfl
            have z1 := hC2.frozen 1
            have c2 := hC2.cell 2 rfl
            have z2 := hC2.frozen 2
            have k0 := hE.cell 0 rfl
            have y0 := hE.frozen 0
            have k1 := hE.cell 1 rfl
            have y1 := hE.frozen 1
            have k2 := hE.cell 2 rfl
            have y2 := hE.frozen 2
            have hzz : w.heap.size < w.heap.size + 1 := by omega
            cases bR
            · have HR := hid (show mk n (tx s) x = (D0, 40) by rw [hR]; rfl)
              clear hR
              go_wp2_with (go_at_call 44; refine (hright _).mono ?_; rintro e w6 ⟨rfl, hb6⟩; have hC6 := hC2.below hb6; have hE6 := hE.below hb6; have HB6 := hid (hA2.trans (hb6.mono hA2.size)); have c0 := hC6.cell 0 rfl; have c1 := hC6.cell 1 rfl; have c2 := hC6.cell 2 rfl; have z0 := hC6.frozen 0; have z1 := hC6.frozen 1; have z2 := hC6.frozen 2; have m0 := hE6.cell 0 rfl; have m1 := hE6.cell 1 rfl; have m2 := hE6.cell 2 rfl)
              have hF := ((hC6.set 0 (.bool false)).set 1 (.string ⟨#[]⟩)).set 2 (.int .i64 0)
              have f0 := hF.cell 0 rfl
              have f1 := hF.cell 1 rfl
              have f2 := hF.cell 2 rfl
              have hbF := ((HB6.out.setCell (p := ⟨w.heap.size, 0, none⟩) (Nat.le_refl _) (.bool false)).setCell (p := ⟨w.heap.size, 1, none⟩) (Nat.le_refl _) (.string ⟨#[]⟩)).setCell (p := ⟨w.heap.size, 2, none⟩) (Nat.le_refl _) (.int .i64 0)
              exact bodyPost_ret (v := .tuple #[.agg #[.bool false, .string ⟨#[]⟩, .int .i64 0], .int .i64 40]) (by simp [results, Tryz.results38, go_sem, f0, f1, f2]) rfl ⟨by rw [HR.out]; rfl, hbF⟩
            · have HR := hid (show mk n (tx s) x = (⟨n, tx t, y⟩, 0) by rw [hR]; rfl)
              clear hR
              go_wp2_with (go_at_call 44; refine (hright _).mono ?_; rintro e w6 ⟨rfl, hb6⟩; have hC6 := hC2.below hb6; have hE6 := hE.below hb6; have HB6 := hid (hA2.trans (hb6.mono hA2.size)); have c0 := hC6.cell 0 rfl; have c1 := hC6.cell 1 rfl; have c2 := hC6.cell 2 rfl; have z0 := hC6.frozen 0; have z1 := hC6.frozen 1; have z2 := hC6.frozen 2; have m0 := hE6.cell 0 rfl; have m1 := hE6.cell 1 rfl; have m2 := hE6.cell 2 rfl)
              have hF := ((hC6.set 0 (.bool n)).set 1 (.string t)).set 2 (.int .i64 y)
              have f0 := hF.cell 0 rfl
              have f1 := hF.cell 1 rfl
              have f2 := hF.cell 2 rfl
              have hbF := ((HB6.out.setCell (p := ⟨w.heap.size, 0, none⟩) (Nat.le_refl _) (.bool n)).setCell (p := ⟨w.heap.size, 1, none⟩) (Nat.le_refl _) (.string t)).setCell (p := ⟨w.heap.size, 2, none⟩) (Nat.le_refl _) (.int .i64 y)
              exact bodyPost_ret (v := .tuple #[.agg #[.bool n, .string t, .int .i64 y], .int .i64 0]) (by simp [results, Tryz.results38, go_sem, f0, f1, f2]) rfl ⟨by rw [HR.out]; unfold D.val; rw [hBt.out]; rfl, hbF⟩

theorem rMake_calls (n : Bool) (s : ByteArray) (x : Int) (hx : -9223372036854775808 ≤ x ∧ x ≤ 9223372036854775807) (hs : s.size ≤ 140737488355328) (w : World) :
    Calls Tryz.prog 38 #[.bool n, .string s, .int .i64 x] w fun e w' => e = .returned (.tuple #[(mk n (tx s) x).1.val, .int .i64 (mk n (tx s) x).2]) ∧ Below w.heap.size w w' := by
  by_cases h : ¬ (s.size : Int) < 1 ∧ ¬ (400 : Int) < s.size ∧ ¬ x < -1000 ∧ ¬ 1000 < x
  · exact rmake_in n s x h.1 h.2.1 h.2.2.1 h.2.2.2 w
  · have hm : mk n (tx s) x = (D0, 40) := by
      unfold mk
      rw [if_neg]
      unfold mkOk
      rw [Bool.and_eq_true, Bool.and_eq_true, Bool.and_eq_true, Bool.and_eq_true, decide_eq_true_eq, decide_eq_true_eq, decide_eq_true_eq, decide_eq_true_eq, txs_len]
      rintro ⟨g1, g2, ⟨g3, g4⟩, _⟩
      have := txs_len s
      exact h ⟨fun e => g1 (List.eq_nil_of_length_eq_zero (by omega)), by omega, by omega, by omega⟩
    rw [hm]
    exact rmake_pre n s x hx hs w (by omega)
end Go.Proofs.YtfobaeoccpebeaaGreatDoor

