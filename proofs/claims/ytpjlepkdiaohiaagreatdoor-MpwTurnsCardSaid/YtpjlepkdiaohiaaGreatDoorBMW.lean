/- MW. -/
import Derived.Test.YtpjlepkdiaohiaaGreatDoorBMV
namespace Go.Proofs.YtpjlepkdiaohiaaGreatDoor
open Go Go.RowKit
/-! ### how long the plain item of what is read is -/
theorem sizedE_le {n k : Nat} {a1 : Int} {a2 a4 a8 : Nat} (hk : k = 1 ∨ k = 2 ∨ k = 4 ∨ k = 8) (hn : n < 256 ^ k) (h1 : k = 1 → 0 ≤ a1) : (sizedE n a1 a2 a4 a8).length ≤ 1 + k := by
  unfold sizedE
  rcases hk with rfl | rfl | rfl | rfl
  · rw [if_pos ⟨by omega, h1 rfl⟩, List.length_cons, beL_len]; omega
  · by_cases c : n < 256 ∧ 0 ≤ a1
    · rw [if_pos c, List.length_cons, beL_len]; omega
    · rw [if_neg c, if_pos (by omega), List.length_cons, beL_len]; omega
  · by_cases c : n < 256 ∧ 0 ≤ a1
    · rw [if_pos c, List.length_cons, beL_len]; omega
    by_cases c2 : n < 65536
    · rw [if_neg c, if_pos c2, List.length_cons, beL_len]; omega
    · rw [if_neg c, if_neg c2, if_pos (by omega), List.length_cons, beL_len]; omega
  · have := (sizedE_len n a1 a2 a4 a8).2
    unfold sizedE at this
    omega
theorem numE_le {n k : Nat} (hk : k = 1 ∨ k = 2 ∨ k = 4 ∨ k = 8) (hn : n < 256 ^ k) : (numE false n).length ≤ 1 + k := by
  unfold numE
  rw [if_neg (by decide)]
  split
  · rw [List.length_singleton]; omega
  · exact sizedE_le hk hn fun _ => by decide
theorem minusE_le {n k : Nat} (hk : k = 1 ∨ k = 2 ∨ k = 4 ∨ k = 8) (hn : n ≤ 256 ^ k / 2) : (minusE n).length ≤ 1 + k := by
  have hz : 256 ^ k / 2 = 128 ∧ k = 1 ∨ 256 ^ k / 2 = 32768 ∧ k = 2 ∨ 256 ^ k / 2 = 2147483648 ∧ k = 4 ∨ k = 8 := by
    rcases hk with rfl | rfl | rfl | rfl
    · exact .inl ⟨by decide, rfl⟩
    · exact .inr (.inl ⟨by decide, rfl⟩)
    · exact .inr (.inr (.inl ⟨by decide, rfl⟩))
    · exact .inr (.inr (.inr rfl))
  unfold minusE
  by_cases c1 : n ≤ 32
  · rw [if_pos c1, List.length_singleton]; omega
  by_cases c2 : n ≤ 128
  · rw [if_neg c1, if_pos c2, List.length_cons, beL_len]; omega
  by_cases c3 : n ≤ 32768
  · rw [if_neg c1, if_neg c2, if_pos c3, List.length_cons, beL_len]; omega
  by_cases c4 : n ≤ 2147483648
  · rw [if_neg c1, if_neg c2, if_neg c3, if_pos c4, List.length_cons, beL_len]; omega
  · rw [if_neg c1, if_neg c2, if_neg c3, if_neg c4, List.length_cons, beL_len]; omega
theorem decP_len (neg : Bool) (n : Nat) (hn : n < 18446744073709551616) : (hdE (decP neg n) 0).length = (numE (neg && decide (0 < n)) n).length := by
  obtain ⟨h1, h2, h3, h4, h5, h6⟩ := dec_whole neg n hn
  rw [hdE_num 0 rfl, h2, h3, h4, Bool.true_and]
theorem intP_le {n k : Nat} (hk : k = 1 ∨ k = 2 ∨ k = 4 ∨ k = 8) (hn : n < 256 ^ k) : (hdE (intP k n) 0).length ≤ 1 + k := by
  have h8 : k ≤ 8 := by omega
  have hlt := int_lt h8 hn
  unfold intP
  split
  · rw [decP_len _ _ hlt, Bool.false_and]; exact numE_le hk hn
  · have hp : 2 ≤ 256 ^ k := by rcases hk with rfl | rfl | rfl | rfl <;> decide
    have he : 256 ^ k % 2 = 0 := by rcases hk with rfl | rfl | rfl | rfl <;> decide
    have hlt2 : 256 ^ k - n < 18446744073709551616 := by
      have : 256 ^ k ≤ 256 ^ 8 := Nat.pow_le_pow_right (by decide) h8
      omega
    rw [decP_len _ _ hlt2, decide_eq_true (by omega), Bool.and_true]
    show (minusE _).length ≤ _
    exact minusE_le hk (by omega)
theorem shr_leaf {p : Pay} {s : List UInt8} (h : (hdE p 0).length ≤ 1) : Shr s (.ok (.nd p []) s) := fun t r e _ => by
  injection e with h1 h2
  subst h1 h2
  rw [leaf_enc]; omega
theorem shr_num {k : Nat} {g : Nat → List UInt8 → RR} {s : List UInt8} (h : ∀ v, v < 256 ^ k → ∀ q t r, g v q = .ok t r → t.okM → t.enc.length + r.length ≤ q.length + (1 + k)) : Shr s (rnum k s g) := fun t r e ho => by
  obtain ⟨h1, h2⟩ := rnum_ok e
  have hv : beN (s.take k) < 256 ^ k := by
    have := beN_lt (s.take k)
    rwa [List.length_take, Nat.min_eq_left h1] at this
  have := h _ hv _ _ _ h2 ho
  rw [List.length_drop] at this
  omega
theorem raw_enc {p : Pay} {n z : Nat} {s : List UInt8} (h : ∀ q : ByteArray, q.size = n → (hdE { p with s := q } 0).length ≤ z + n) (t : Tr) (r : List UInt8) (e : rraw p n s = .ok t r) : t.enc.length + r.length ≤ s.length + z := by
  obtain ⟨h1, rfl, rfl⟩ := rraw_ok e
  have := h (B (s.take n)) (by rw [size_B, List.length_take]; omega)
  rw [leaf_enc, List.length_drop]; omega
theorem hdE_5 (q : ByteArray) : (hdE { kP 5 with s := q } 0).length = (txtE q.size).length + q.size := by
  rw [show hdE { kP 5 with s := q } 0 = txtE q.size ++ tx q from rfl, List.length_append]
  exact congrArg _ (len_str q)
theorem hdE_6 (q : ByteArray) : (hdE { kP 6 with s := q } 0).length = (binE q.size).length + q.size := by
  rw [show hdE { kP 6 with s := q } 0 = binE q.size ++ tx q from rfl, List.length_append]
  exact congrArg _ (len_str q)
theorem hdE_11 (u : Nat) (q : ByteArray) : (hdE { Pay.z with k := 11, u := u, s := q } 0).length = (extE q.size).length + (q.size + 1) := by
  rw [show hdE { Pay.z with k := 11, u := u, s := q } 0 = extE q.size ++ (ch u :: tx q) from rfl, List.length_append, List.length_cons]
  exact congrArg (fun x => _ + (x + 1)) (len_str q)
theorem extE_le {n k : Nat} (hk : k = 1 ∨ k = 2 ∨ k = 4 ∨ k = 8) (hn : n < 256 ^ k) : (extE n).length ≤ 1 + k := by
  unfold extE
  split
  · rw [List.length_singleton]; omega
  split
  · rw [List.length_singleton]; omega
  split
  · rw [List.length_singleton]; omega
  split
  · rw [List.length_singleton]; omega
  split
  · rw [List.length_singleton]; omega
  · exact sizedE_le hk hn fun _ => by decide
theorem ext_enc {n z : Nat} {s : List UInt8} (h : (extE n).length ≤ z) (t : Tr) (r : List UInt8) (e : rext n s = .ok t r) : t.enc.length + r.length ≤ s.length + z := by
  obtain ⟨h1, h2⟩ := rnum_ok e
  have := raw_enc (z := z + 1) (fun q hq => by rw [hdE_11, hq]; omega) t r h2
  rw [List.length_drop] at this
  omega
theorem txtE_le {n k : Nat} (hk : k = 1 ∨ k = 2 ∨ k = 4 ∨ k = 8) (hn : n < 256 ^ k) : (txtE n).length ≤ 1 + k := by
  unfold txtE
  split
  · rw [List.length_singleton]; omega
  · exact sizedE_le hk hn fun _ => by decide
theorem rlist_enc_le {f : List UInt8 → RR} (hf : ∀ s t r, f s = .ok t r → t.okM → t.enc.length + r.length ≤ s.length) : ∀ n s l r, rlist f n s = .ok l r → (∀ t, t ∈ l → t.okM) → (encL l).length + r.length ≤ s.length ∧ l.length = n
  | 0, s, l, r, e, _ => by
    rw [rlist] at e
    injection e with h1 h2
    subst h1 h2
    exact ⟨by rw [encL, List.length_nil]; omega, rfl⟩
  | n + 1, s, l, r, e, ho => by
    obtain ⟨t, q, m, h1, h2, rfl⟩ := rlist_ok e
    have h3 := hf _ _ _ h1 (ho t (List.mem_cons_self ..))
    obtain ⟨h4, h5⟩ := rlist_enc_le hf n _ _ _ h2 fun u hu => ho u (List.mem_cons_of_mem _ hu)
    exact ⟨by rw [encL, List.length_append]; omega, by rw [List.length_cons, h5]⟩
theorem node_enc {f : List UInt8 → RR} (hf : ∀ s t r, f s = .ok t r → t.okM → t.enc.length + r.length ≤ s.length) {k : Int} (hk : k = 7 ∨ k = 8) {n z : Nat} {s : List UInt8} (hz : (hdE (kP k) n).length ≤ z) (t : Tr) (r : List UInt8) (e : rnode k (rlist f n s) = .ok t r) (ho : t.okM) : t.enc.length + r.length ≤ s.length + z := by
  obtain ⟨l, h1, rfl⟩ := rnode_ok e
  obtain ⟨h2, h3⟩ := rlist_enc_le hf n s l r h1 fun u hu => ho.sub hu
  rw [Tr.enc, List.length_append, h3, if_pos (by unfold isLst; rcases hk with rfl | rfl <;> rfl)]
  omega
theorem hdE_7 (k : Nat) : hdE (kP 7) k = arrE k := rfl
theorem hdE_8 (k : Nat) : hdE (kP 8) k = mapE k := rfl
theorem arrE_le {n k : Nat} (hk : k = 2 ∨ k = 4) (hn : n < 256 ^ k) : (hdE (kP 7) n).length ≤ 1 + k := by
  rw [show hdE (kP 7) n = arrE n from rfl]
  unfold arrE
  split
  · rw [List.length_singleton]; omega
  · exact sizedE_le (by omega) hn fun h => by omega
theorem mapE_le {n k : Nat} (hk : k = 2 ∨ k = 4) (hn : n < 256 ^ k) : (hdE (kP 8) (2 * n)).length ≤ 1 + k := by
  rw [show hdE (kP 8) (2 * n) = mapE (2 * n) from rfl]
  unfold mapE
  split
  · rw [List.length_singleton]; omega
  · exact sizedE_le (by omega) (by omega) fun h => by omega
theorem shr_ite {p : Prop} [Decidable p] {s : List UInt8} {x y : RR} (h1 : p → Shr s x) (h2 : ¬ p → Shr s y) : Shr s (if p then x else y) := by
  by_cases h : p
  · rw [if_pos h]; exact h1 h
  · rw [if_neg h]; exact h2 h
theorem shr_hd {f : List UInt8 → RR} (hf : ∀ s t r, f s = .ok t r → t.okM → t.enc.length + r.length ≤ s.length) (c : Nat) (hc : c < 256) (s : List UInt8) : Shr s (rhd f c s) := by
  unfold rhd
  refine shr_ite (fun h => shr_leaf ?_) fun h1 => ?_
  · rw [show plusP c = decP false c from rfl, decP_len _ _ (by omega), Bool.false_and]
    unfold numE
    rw [if_neg (by decide), if_pos h]; exact Nat.le_refl _
  refine shr_ite (fun h t r e ho => node_enc hf (.inr rfl) ?_ t r e ho) fun h2 => ?_
  · rw [hdE_8]
    unfold mapE
    rw [if_pos (by omega)]; exact Nat.le_refl _
  refine shr_ite (fun h t r e ho => node_enc hf (.inl rfl) ?_ t r e ho) fun h3 => ?_
  · rw [hdE_7]
    unfold arrE
    rw [if_pos (by omega)]; exact Nat.le_refl _
  refine shr_ite (fun h t r e _ => raw_enc (fun q hq => ?_) t r e) fun h4 => ?_
  · rw [hdE_5, hq]
    unfold txtE
    rw [if_pos (by omega), List.length_singleton]; omega
  refine shr_ite (fun h => shr_leaf (by decide)) fun h5 => ?_
  refine shr_ite (fun h t r e _ => by cases e) fun h6 => ?_
  refine shr_ite (fun h => shr_leaf (by decide)) fun h7 => ?_
  refine shr_ite (fun h => shr_leaf (by decide)) fun h8 => ?_
  refine shr_ite (fun h => shr_num fun v hv q t r e _ => raw_enc (fun q hq => ?_) t r e) fun h9 => ?_
  · rw [hdE_6, hq]
    have := sizedE_le (a1 := 196) (a2 := 197) (a4 := 198) (a8 := 0) (pw (m := 2) (c := c) (a := 196) (by omega) (by omega) (by decide)) hv (fun _ => by decide)
    unfold binE; omega
  refine shr_ite (fun h => shr_num fun v hv q t r e _ => ext_enc (extE_le (pw (m := 2) (by omega) (by omega) (by decide)) hv) t r e) fun h10 => ?_
  refine shr_ite (fun h => shr_num fun v hv q t r e _ => ?_) fun h11 => ?_
  · injection e with e1 e2
    subst e1 e2
    rw [leaf_enc]
    rcases (show c = 202 ∨ c = 203 by omega) with rfl | rfl
    · rw [show hdE (floP (2 ^ (202 - 200)) v) 0 = 202 :: beL 4 v from rfl, List.length_cons, beL_len]; omega
    · rw [show hdE (floP (2 ^ (203 - 200)) v) 0 = 203 :: beL 8 v from rfl, List.length_cons, beL_len]; omega
  refine shr_ite (fun h => shr_num fun v hv q t r e _ => ?_) fun h12 => ?_
  · injection e with e1 e2
    subst e1 e2
    have hp := pw (m := 3) (c := c) (a := 204) (by omega) (by omega) (by decide)
    rw [leaf_enc, show plusP v = decP false v from rfl, decP_len _ _ (int_lt (by omega) hv), Bool.false_and]
    have := numE_le hp hv
    omega
  refine shr_ite (fun h => shr_num fun v hv q t r e _ => ?_) fun h13 => ?_
  · injection e with e1 e2
    subst e1 e2
    have hp := pw (m := 3) (c := c) (a := 208) (by omega) (by omega) (by decide)
    rw [leaf_enc]
    have := intP_le hp hv
    omega
  refine shr_ite (fun h t r e _ => ext_enc ?_ t r e) fun h14 => ?_
  · rcases (show c = 212 ∨ c = 213 ∨ c = 214 ∨ c = 215 ∨ c = 216 by omega) with rfl | rfl | rfl | rfl | rfl <;> decide
  refine shr_ite (fun h => shr_num fun v hv q t r e _ => raw_enc (fun q hq => ?_) t r e) fun h15 => ?_
  · rw [hdE_5, hq]
    have := txtE_le (pw (m := 2) (c := c) (a := 217) (by omega) (by omega) (by decide)) hv
    omega
  refine shr_ite (fun h => shr_num fun v hv q t r e ho => node_enc hf (.inl rfl) (arrE_le ?_ hv) t r e ho) fun h16 => ?_
  · rcases (show c = 220 ∨ c = 221 by omega) with rfl | rfl <;> decide
  refine shr_ite (fun h => shr_num fun v hv q t r e ho => node_enc hf (.inr rfl) (mapE_le ?_ hv) t r e ho) fun h17 => ?_
  · rcases (show c = 222 ∨ c = 223 by omega) with rfl | rfl <;> decide
  refine shr_leaf ?_
  have hn : intP 1 c = decP true (256 - c) := by unfold intP; rw [if_neg (by omega)]
  rw [hn, decP_len _ _ (by omega), decide_eq_true (by omega), Bool.and_true]
  show (minusE _).length ≤ _
  unfold minusE
  rw [if_pos (by omega)]; exact Nat.le_refl _
theorem rd_enc_le : ∀ d s t r, rd d s = .ok t r → t.okM → t.enc.length + r.length ≤ s.length
  | 0, s, t, r, e, _ => by cases s <;> cases e
  | d + 1, s, t, r, e, ho => by
    cases s with
    | nil => cases e
    | cons c s =>
      rw [rd] at e
      rw [List.length_cons]
      exact shr_hd (rd_enc_le d) c.toNat c.toNat_lt s t r e ho
end Go.Proofs.YtpjlepkdiaohiaaGreatDoor
