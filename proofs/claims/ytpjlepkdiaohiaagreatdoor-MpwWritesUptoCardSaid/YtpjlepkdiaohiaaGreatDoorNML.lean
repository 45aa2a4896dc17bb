/- ML: MwP MrP MrQ MrS MrT. -/
import Derived.Test.YtpjlepkdiaohiaaGreatDoorNMC
import Derived.Test.YtpjlepkdiaohiaaGreatDoorNMB
import Derived.Test.YtpjlepkdiaohiaaGreatDoorNMK
/- Plain: MessagePack: how trees are written. -/
namespace Go.Proofs.YtpjlepkdiaohiaaGreatDoor
open Go Go.RowKit

def ch (x : Nat) : UInt8 := UInt8.ofNat x
theorem ch_toNat {x : Nat} (h : x < 256) : (ch x).toNat = x := by unfold ch; rw [UInt8.toNat_ofNat']; omega
/-- so many bytes of a number, the greatest first. -/
def beL : Nat → Nat → List UInt8
  | 0, _ => []
  | k + 1, n => ch (n / 256 ^ k) :: beL k n
theorem beL_len : ∀ k n, (beL k n).length = k
  | 0, _ => rfl
  | k + 1, n => by rw [beL, List.length_cons, beL_len k n]
/-- a number behind one of four first bytes. -/
def sizedE (n : Nat) (a1 : Int) (a2 a4 a8 : Nat) : List UInt8 :=
  if n < 256 ∧ 0 ≤ a1 then ch a1.toNat :: beL 1 n else if n < 65536 then ch a2 :: beL 2 n else if n < 4294967296 then ch a4 :: beL 4 n else ch a8 :: beL 8 n
def negN (n : Nat) : Nat := 18446744073709551616 - n
def minusE (n : Nat) : List UInt8 :=
  if n ≤ 32 then [ch (256 - n)] else if n ≤ 128 then ch 208 :: beL 1 (negN n) else if n ≤ 32768 then ch 209 :: beL 2 (negN n) else if n ≤ 2147483648 then ch 210 :: beL 4 (negN n) else ch 211 :: beL 8 (negN n)
def numE (neg : Bool) (n : Nat) : List UInt8 := if neg then minusE n else if n < 128 then [ch n] else sizedE n 204 205 206 207
def txtE (m : Nat) : List UInt8 := if m < 32 then [ch (160 + m)] else sizedE m 217 218 219 0
def binE (m : Nat) : List UInt8 := sizedE m 196 197 198 0
def arrE (k : Nat) : List UInt8 := if k < 16 then [ch (144 + k)] else sizedE k (-1) 220 221 0
def mapE (k : Nat) : List UInt8 := if k < 32 then [ch (128 + k / 2)] else sizedE (k / 2) (-1) 222 223 0
def extE (m : Nat) : List UInt8 := if m = 1 then [212] else if m = 2 then [213] else if m = 4 then [214] else if m = 8 then [215] else if m = 16 then [216] else sizedE m 199 200 201 0
/-- what a node has ahead of its list's items. -/
def hdE (p : Pay) (k : Nat) : List UInt8 :=
  if p.k = 1 then [192] else if p.k = 2 then [if p.b then 195 else 194] else if p.k = 3 then numE (tiB p.d && p.n) (tiN p.d)
  else if p.k = 4 then (if p.w = 32 then 202 :: beL 4 p.u else 203 :: beL 8 p.u)
  else if p.k = 5 then txtE p.s.size ++ tx p.s else if p.k = 6 then binE p.s.size ++ tx p.s
  else if p.k = 7 then arrE k else if p.k = 8 then mapE k else extE p.s.size ++ (ch p.u :: tx p.s)
def isLst (p : Pay) : Bool := decide (p.k = 7) || decide (p.k = 8)
mutual
/-- a tree's plain item. -/
def Tr.enc : Tr → List UInt8 | .nd p l => hdE p l.length ++ (if isLst p then encL l else [])
def encL : List Tr → List UInt8 | [] => [] | t :: r => t.enc ++ encL r
end
theorem encL_append (l m : List Tr) : encL (l ++ m) = encL l ++ encL m := by
  induction l with
  | nil => simp [encL]
  | cons t r ih => rw [List.cons_append, encL, encL, ih, List.append_assoc]
theorem encL_take_succ {l : List Tr} {i : Nat} {t : Tr} (h : l[i]? = some t) : encL (l.take (i + 1)) = encL (l.take i) ++ t.enc := by
  rw [List.take_add_one, h, Option.toList_some, encL_append, encL, encL, List.append_nil]

/-- right, and fit for MessagePack. -/
def Tr.okM (t : Tr) : Prop := t.all = true ∧ t.fit 4 = true
theorem Tr.okM.own {p : Pay} {l : List Tr} (h : (Tr.nd p l).okM) : ownP p l = true := by
  have := h.1; rw [Tr.all, Bool.and_eq_true] at this; exact this.1
theorem Tr.okM.fits {p : Pay} {l : List Tr} (h : (Tr.nd p l).okM) : fitN p l 4 = true := by
  have := h.2; rw [Tr.fit, Bool.and_eq_true] at this; exact this.1
theorem Tr.okM.sub {p : Pay} {l : List Tr} (h : (Tr.nd p l).okM) {t : Tr} (ht : t ∈ l) : t.okM := by
  have h1 := h.1; have h2 := h.2
  rw [Tr.all, Bool.and_eq_true] at h1
  rw [Tr.fit, Bool.and_eq_true] at h2
  exact ⟨(allL_iff l).1 h1.2 t ht, (fitL_iff l 4).1 h2.2 t ht⟩
theorem chk_ok {t : Tr} (h : chk t 4 = 0) : t.okM ∧ t.right = true := by
  unfold chk at h
  cases h1 : t.right with
  | false => rw [h1] at h; cases h
  | true =>
    rw [h1] at h
    cases h2 : t.fit 4 with
    | false => rw [h2] at h; cases h
    | true =>
      unfold Tr.right at h1
      rw [Bool.and_eq_true, Bool.and_eq_true] at h1
      exact ⟨⟨h1.2.2, h2⟩, rfl⟩

/-- what is known of a node of each kind. -/
theorem own_kinds {p : Pay} {l : List Tr} (h : ownP p l = true) : p.k = 1 ∨ p.k = 2 ∨ p.k = 3 ∨ p.k = 4 ∨ p.k = 5 ∨ p.k = 6 ∨ p.k = 7 ∨ p.k = 8 ∨ p.k = 9 ∨ p.k = 10 ∨ p.k = 11 := by
  by_cases hk : p.k = 1 ∨ p.k = 2 ∨ p.k = 3 ∨ p.k = 4 ∨ p.k = 5 ∨ p.k = 6 ∨ p.k = 7 ∨ p.k = 8 ∨ p.k = 9 ∨ p.k = 10 ∨ p.k = 11
  · exact hk
  · unfold ownP at h
    rw [if_neg (by omega), if_neg (by omega), if_neg (by omega), if_neg (by omega), if_neg (by omega), if_neg (by omega), if_neg (by omega), if_neg (by omega), if_neg (by omega), if_neg (by omega), if_neg (by omega)] at h
    cases h
theorem own_1 {p : Pay} {l : List Tr} (hk : p.k = 1) : ownP p l = (l.isEmpty && onlyP p Pay.z) := by unfold ownP; rw [if_pos hk]
theorem own_2 {p : Pay} {l : List Tr} (hk : p.k = 2) : ownP p l = (l.isEmpty && onlyP p { Pay.z with b := p.b }) := by unfold ownP; rw [if_neg (by omega), if_pos hk]
theorem own_3 {p : Pay} {l : List Tr} (hk : p.k = 3) : ownP p l = (l.isEmpty && (onlyP p { Pay.z with n := p.n, dg := p.dg, ex := p.ex } && decR ⟨p.n, tx p.dg, p.ex⟩)) := by unfold ownP; rw [if_neg (by omega), if_neg (by omega), if_pos hk]
theorem own_4 {p : Pay} {l : List Tr} (hk : p.k = 4) : ownP p l = (l.isEmpty && (onlyP p { Pay.z with u := p.u, w := p.w } && decide (widE p.u p.w = 0))) := by unfold ownP; rw [if_neg (by omega), if_neg (by omega), if_neg (by omega), if_pos hk]
theorem own_5 {p : Pay} {l : List Tr} (hk : p.k = 5) : ownP p l = (l.isEmpty && (onlyP p { Pay.z with s := p.s } && (decide (p.s.size ≤ 400) && utfOk p.s))) := by unfold ownP; rw [if_neg (by omega), if_neg (by omega), if_neg (by omega), if_neg (by omega), if_pos hk]
theorem own_6 {p : Pay} {l : List Tr} (hk : p.k = 6) : ownP p l = (l.isEmpty && (onlyP p { Pay.z with s := p.s } && decide (p.s.size ≤ 400))) := by unfold ownP; rw [if_neg (by omega), if_neg (by omega), if_neg (by omega), if_neg (by omega), if_neg (by omega), if_pos hk]
theorem own_7 {p : Pay} {l : List Tr} (hk : p.k = 7) : ownP p l = onlyP p Pay.z := by unfold ownP; rw [if_neg (by omega), if_neg (by omega), if_neg (by omega), if_neg (by omega), if_neg (by omega), if_neg (by omega), if_pos hk]
theorem own_8 {p : Pay} {l : List Tr} (hk : p.k = 8) : ownP p l = (onlyP p Pay.z && (decide (l.length % 2 = 0) && !twice (keysT l))) := by unfold ownP; rw [if_neg (by omega), if_neg (by omega), if_neg (by omega), if_neg (by omega), if_neg (by omega), if_neg (by omega), if_neg (by omega), if_pos hk]
theorem own_11 {p : Pay} {l : List Tr} (hk : p.k = 11) : ownP p l = (l.isEmpty && (onlyP p { Pay.z with u := p.u, s := p.s } && (decide (p.u ≤ 255) && decide (p.s.size ≤ 400)))) := by unfold ownP; rw [if_neg (by omega), if_neg (by omega), if_neg (by omega), if_neg (by omega), if_neg (by omega), if_neg (by omega), if_neg (by omega), if_neg (by omega), if_neg (by omega), if_neg (by omega), if_pos hk]
theorem fit4_kinds {p : Pay} {l : List Tr} (h : fitN p l 4 = true) : p.k ≠ 9 ∧ p.k ≠ 10 := by
  unfold fitN at h
  constructor
  · intro h9
    rw [if_neg (by omega), if_neg (by omega), if_neg (by omega), if_pos (.inl h9)] at h
    revert h; decide
  · intro h9
    rw [if_neg (by omega), if_neg (by omega), if_neg (by omega), if_pos (.inr h9)] at h
    revert h; decide
theorem Tr.okM.kinds {p : Pay} {l : List Tr} (h : (Tr.nd p l).okM) : p.k = 1 ∨ p.k = 2 ∨ p.k = 3 ∨ p.k = 4 ∨ p.k = 5 ∨ p.k = 6 ∨ p.k = 7 ∨ p.k = 8 ∨ p.k = 11 := by
  have h1 := own_kinds h.own
  have h2 := fit4_kinds h.fits
  omega
theorem Tr.okM.num {p : Pay} {l : List Tr} (h : (Tr.nd p l).okM) (hk : p.k = 3) : decR p.d = true ∧ tiB p.d = true ∧ (p.n = true → tiN p.d ≤ 9223372036854775808) := by
  have h1 := h.own
  have h2 := h.fits
  unfold ownP at h1
  rw [if_neg (by omega), if_neg (by omega), if_pos hk, Bool.and_eq_true, Bool.and_eq_true] at h1
  have hd : decR p.d = true := h1.2.2
  unfold fitN at h2
  rw [if_neg (by omega), if_pos hk, Bool.and_eq_true] at h2
  have h3 := h2.2
  simp only [Bool.or_eq_true, Bool.and_eq_true, decide_eq_true_eq, Bool.not_eq_true'] at h3
  rcases h3 with h3 | ⟨h3, h4⟩
  · exact absurd h3 (by decide)
  · refine ⟨hd, h3, fun hn => ?_⟩
    rcases h4 with h4 | h4
    · exact absurd rfl h4
    · rcases h4 with h4 | h4
      · rw [h3, hn] at h4; cases h4
      · exact h4
theorem Tr.okM.size {p : Pay} {l : List Tr} (h : (Tr.nd p l).okM) : p.s.size ≤ 400 := by
  have h1 := h.own
  have hz : ∀ q : Pay, onlyP p q = true → p.s = q.s := fun q hq => by
    unfold onlyP at hq
    rw [Pay.same_iff] at hq
    rw [hq]
  have e0 : ∀ q : Pay, onlyP p q = true → q.s = ⟨#[]⟩ → p.s.size ≤ 400 := fun q hq e => by
    rw [hz q hq, e]; decide
  rcases h.kinds with hk | hk | hk | hk | hk | hk | hk | hk | hk
  · rw [own_1 hk, Bool.and_eq_true] at h1; exact e0 _ h1.2 rfl
  · rw [own_2 hk, Bool.and_eq_true] at h1; exact e0 _ h1.2 rfl
  · rw [own_3 hk, Bool.and_eq_true, Bool.and_eq_true] at h1; exact e0 _ h1.2.1 rfl
  · rw [own_4 hk, Bool.and_eq_true, Bool.and_eq_true] at h1; exact e0 _ h1.2.1 rfl
  · rw [own_5 hk, Bool.and_eq_true, Bool.and_eq_true, Bool.and_eq_true, decide_eq_true_eq] at h1; exact h1.2.2.1
  · rw [own_6 hk, Bool.and_eq_true, Bool.and_eq_true, decide_eq_true_eq] at h1; exact h1.2.2
  · rw [own_7 hk] at h1; exact e0 _ h1 rfl
  · rw [own_8 hk, Bool.and_eq_true] at h1; exact e0 _ h1.1 rfl
  · rw [own_11 hk] at h1; simp only [Bool.and_eq_true, decide_eq_true_eq] at h1; omega

/-! ### how long -/
theorem sizedE_len (n : Nat) (a1 : Int) (a2 a4 a8 : Nat) : 2 ≤ (sizedE n a1 a2 a4 a8).length ∧ (sizedE n a1 a2 a4 a8).length ≤ 9 := by
  unfold sizedE
  split
  · rw [List.length_cons, beL_len]; omega
  split
  · rw [List.length_cons, beL_len]; omega
  split
  · rw [List.length_cons, beL_len]; omega
  · rw [List.length_cons, beL_len]; omega
theorem minusE_len (n : Nat) : 1 ≤ (minusE n).length ∧ (minusE n).length ≤ 9 := by
  unfold minusE
  split
  · simp
  split
  · rw [List.length_cons, beL_len]; omega
  split
  · rw [List.length_cons, beL_len]; omega
  split
  · rw [List.length_cons, beL_len]; omega
  · rw [List.length_cons, beL_len]; omega
theorem hdE_len (p : Pay) (k : Nat) : 1 ≤ (hdE p k).length ∧ (hdE p k).length ≤ 10 + p.s.size := by
  have hs : (tx p.s).length = p.s.size := len_str _
  unfold hdE
  split
  · simp only [List.length_cons, List.length_nil]; omega
  split
  · simp only [List.length_cons, List.length_nil]; omega
  split
  · unfold numE
    split
    · have := minusE_len (tiN p.d); omega
    split
    · simp only [List.length_cons, List.length_nil]; omega
    · have := sizedE_len (tiN p.d) 204 205 206 207; omega
  split
  · split
    · rw [List.length_cons, beL_len]; omega
    · rw [List.length_cons, beL_len]; omega
  split
  · rw [List.length_append, hs]
    unfold txtE
    split
    · rw [List.length_singleton]; omega
    · have := sizedE_len p.s.size 217 218 219 0; omega
  split
  · rw [List.length_append, hs]
    have := sizedE_len p.s.size 196 197 198 0
    unfold binE; omega
  split
  · unfold arrE
    split
    · simp only [List.length_cons, List.length_nil]; omega
    · have := sizedE_len k (-1) 220 221 0; omega
  split
  · unfold mapE
    split
    · simp only [List.length_cons, List.length_nil]; omega
    · have := sizedE_len (k / 2) (-1) 222 223 0; omega
  · rw [List.length_append, List.length_cons, hs]
    have := sizedE_len p.s.size 199 200 201 0
    unfold extE
    split
    · simp only [List.length_cons, List.length_nil]; omega
    split
    · simp only [List.length_cons, List.length_nil]; omega
    split
    · simp only [List.length_cons, List.length_nil]; omega
    split
    · simp only [List.length_cons, List.length_nil]; omega
    split
    · simp only [List.length_cons, List.length_nil]; omega
    · omega
theorem enc_len (t : Tr) : t.okM → 1 ≤ t.enc.length ∧ t.enc.length ≤ 410 * t.cnt := by
  induction t using Tr.ind with
  | h p l ih =>
    intro h
    have h1 := hdE_len p l.length
    have h2 := h.size
    have key : ∀ m : List Tr, (∀ t, t ∈ m → t ∈ l) → (encL m).length ≤ 410 * cntL m := by
      intro m
      induction m with
      | nil => intro _; simp [encL]
      | cons a r ih2 =>
        intro hm
        rw [encL, List.length_append, cntL]
        have := (ih a (hm a (List.mem_cons_self ..)) (h.sub (hm a (List.mem_cons_self ..)))).2
        have := ih2 fun t ht => hm t (List.mem_cons_of_mem _ ht)
        omega
    have h3 := key l fun _ h => h
    rw [Tr.enc, List.length_append, Tr.cnt]
    split
    · omega
    · rw [List.length_nil]; omega
end Go.Proofs.YtpjlepkdiaohiaaGreatDoor

/- Plain: MessagePack: how items are read. -/
namespace Go.Proofs.YtpjlepkdiaohiaaGreatDoor
open Go Go.RowKit

/-- what is read: a tree and what is behind it, or what is wrong (0: more, 1: no item, 2: too deep). -/
inductive RR where
  | ok (t : Tr) (r : List UInt8)
  | er (e : Nat)
/-- what a list's items are read as. -/
inductive RL where
  | ok (l : List Tr) (r : List UInt8)
  | er (e : Nat)
def beN (l : List UInt8) : Nat := l.foldl (fun n c => n * 256 + c.toNat) 0
/-- what stands behind the number of so many bytes. -/
def rnum (k : Nat) (s : List UInt8) (g : Nat → List UInt8 → RR) : RR := if s.length < k then .er 0 else g (beN (s.take k)) (s.drop k)
def rraw (p : Pay) (n : Nat) (s : List UInt8) : RR := if s.length < n then .er 0 else .ok (.nd { p with s := B (s.take n) } []) (s.drop n)
def kP (k : Int) : Pay := { Pay.z with k := k }
def rext (n : Nat) (s : List UInt8) : RR := rnum 1 s fun u r => rraw { Pay.z with k := 11, u := u } n r
def decP (neg : Bool) (n : Nat) : Pay := { Pay.z with k := 3, n := (mk neg (Lib.decDigits n) 0).1.neg, dg := B (mk neg (Lib.decDigits n) 0).1.dg, ex := (mk neg (Lib.decDigits n) 0).1.ex }
def plusP (n : Nat) : Pay := decP false n
/-- a number of so many bytes, with a sign. -/
def intP (k n : Nat) : Pay := if n < 256 ^ k / 2 then decP false n else decP true (256 ^ k - n)
def floP (k n : Nat) : Pay := { Pay.z with k := 4, u := n, w := (8 * k : Nat) }
/-- so many items. -/
def rlist (f : List UInt8 → RR) : Nat → List UInt8 → RL
  | 0, s => .ok [] s
  | n + 1, s => match f s with
    | .er e => .er e
    | .ok t r => match rlist f n r with
      | .er e => .er e
      | .ok l q => .ok (t :: l) q
def rnode (k : Int) : RL → RR
  | .er e => .er e
  | .ok l r => .ok (.nd (kP k) l) r
/-- an item whose first byte is c, what is behind it being s; its lists' items are read by f. -/
def rhd (f : List UInt8 → RR) (c : Nat) (s : List UInt8) : RR :=
  if c < 128 then .ok (.nd (plusP c) []) s
  else if c < 144 then rnode 8 (rlist f (2 * (c - 128)) s)
  else if c < 160 then rnode 7 (rlist f (c - 144) s)
  else if c < 192 then rraw (kP 5) (c - 160) s
  else if c = 192 then .ok (.nd (kP 1) []) s
  else if c = 193 then .er 1
  else if c = 194 then .ok (.nd (kP 2) []) s
  else if c = 195 then .ok (.nd { kP 2 with b := true } []) s
  else if c < 199 then rnum (2 ^ (c - 196)) s fun n r => rraw (kP 6) n r
  else if c < 202 then rnum (2 ^ (c - 199)) s fun n r => rext n r
  else if c < 204 then rnum (2 ^ (c - 200)) s fun n r => .ok (.nd (floP (2 ^ (c - 200)) n) []) r
  else if c < 208 then rnum (2 ^ (c - 204)) s fun n r => .ok (.nd (plusP n) []) r
  else if c < 212 then rnum (2 ^ (c - 208)) s fun n r => .ok (.nd (intP (2 ^ (c - 208)) n) []) r
  else if c < 217 then rext (2 ^ (c - 212)) s
  else if c < 220 then rnum (2 ^ (c - 217)) s fun n r => rraw (kP 5) n r
  else if c < 222 then rnum (2 ^ (c - 219)) s fun n r => rnode 7 (rlist f n r)
  else if c < 224 then rnum (2 ^ (c - 221)) s fun n r => rnode 8 (rlist f (2 * n) r)
  else .ok (.nd (intP 1 c) []) s
/-- an item, so many lists deep at most. -/
def rd : Nat → List UInt8 → RR
  | _, [] => .er 0
  | 0, _ :: _ => .er 2
  | d + 1, c :: s => rhd (rd d) c.toNat s

/-! ### what is read is shorter -/
def RR.shrinks (x : RR) (s : List UInt8) : Prop := ∀ t r, x = .ok t r → ∃ q, s = q ++ r
end Go.Proofs.YtpjlepkdiaohiaaGreatDoor

/- Plain: MessagePack: what is written is read again. -/
namespace Go.Proofs.YtpjlepkdiaohiaaGreatDoor
open Go Go.RowKit

/-- a whole decimal is its number's. -/
theorem dec_back {d : D} (h : decR d = true) (hT : tiB d = true) : (mk d.neg (Lib.decDigits (tiN d)) 0).1 = d ∧ tiN d < 18446744073709551616 ∧ (d.neg = true → 1 ≤ tiN d) := by
  unfold tiB at hT
  rw [Bool.and_eq_true] at hT
  obtain ⟨hG, hB⟩ := hT
  have hG' := hG
  unfold tiG at hG'
  rw [Bool.and_eq_true, Bool.and_eq_true, decide_eq_true_eq, decide_eq_true_eq] at hG'
  obtain ⟨-, h0, h20⟩ := hG'
  unfold toB at hB
  have hB' := hB
  rw [Bool.and_eq_true, decide_eq_true_eq] at hB'
  have hn : tiN d = nv (tx (tiT d)) := by unfold tiN toN; rw [if_pos hG, if_pos hB]
  have hbd := (decR_bounds h).1
  have hz := mk_zeros d 0 d.ex.toNat h (by omega) (by omega)
  rw [show d.ex - (d.ex.toNat : Int) = 0 by omega, List.replicate_zero, List.nil_append] at hz
  have e : Lib.decDigits (tiN d) = d.dg ++ List.replicate d.ex.toNat 48 := by
    rw [hn, ← ((isRt_iff _).1 hB'.1).1]
    unfold tiT; rw [tx_B]
  refine ⟨by rw [e, hz], by rw [hn]; exact hB'.2, fun hneg => ?_⟩
  rcases Nat.eq_zero_or_pos (tiN d) with h9 | h9
  · rw [h9] at e
    have hd : d.dg = [48] := by
      have : d.dg ≠ [] := by
        intro e2
        rw [e2, List.nil_append] at e
        unfold decR at h
        rw [e2, if_neg (by decide), Bool.and_eq_true] at h
        exact absurd h.1 (by decide)
      have e3 : Lib.decDigits 0 = [48] := by decide +kernel
      rw [e3] at e
      cases hdg : d.dg with
      | nil => exact absurd hdg this
      | cons c r =>
        rw [hdg, List.cons_append] at e
        injection e with e4 e5
        have : r = [] := by
          cases r with
          | nil => rfl
          | cons x y => simp at e5
        rw [← e4, this]
    unfold decR at h
    rw [if_pos hd, hneg, Bool.and_eq_true] at h
    exact absurd h.2 (by decide)
  · exact h9

theorem hdE_num {p : Pay} (k : Nat) (hk : p.k = 3) : hdE p k = numE (tiB p.d && p.n) (tiN p.d) := by
  unfold hdE; rw [if_neg (by omega), if_neg (by omega), if_pos hk]
theorem Tr.okM.leaf {p : Pay} {l : List Tr} (h : (Tr.nd p l).okM) (hk : p.k = 1 ∨ p.k = 2 ∨ p.k = 3 ∨ p.k = 4 ∨ p.k = 5 ∨ p.k = 6 ∨ p.k = 11) : l = [] := by
  have h1 := h.own
  rw [← List.isEmpty_iff]
  rcases hk with hk | hk | hk | hk | hk | hk | hk
  · rw [own_1 hk, Bool.and_eq_true] at h1; exact h1.1
  · rw [own_2 hk, Bool.and_eq_true] at h1; exact h1.1
  · rw [own_3 hk, Bool.and_eq_true] at h1; exact h1.1
  · rw [own_4 hk, Bool.and_eq_true] at h1; exact h1.1
  · rw [own_5 hk, Bool.and_eq_true] at h1; exact h1.1
  · rw [own_6 hk, Bool.and_eq_true] at h1; exact h1.1
  · rw [own_11 hk, Bool.and_eq_true] at h1; exact h1.1
end Go.Proofs.YtpjlepkdiaohiaaGreatDoor

/- Plain: MessagePack: what is put behind an item makes no difference; how deep, how long what is read is. -/
namespace Go.Proofs.YtpjlepkdiaohiaaGreatDoor
open Go Go.RowKit

/-- a reader: it takes at least z bytes, looks at no more than it takes, and asks for more if it has fewer. -/
structure Good (z : Nat) (g : List UInt8 → RR) : Prop where
  sf : ∀ s t r, g s = .ok t r → ∃ q, s = q ++ r ∧ z ≤ q.length
  ex : ∀ q r t, g (q ++ r) = .ok t r → ∀ x, g (q ++ x) = .ok t x
  pf : ∀ q r t, g (q ++ r) = .ok t r → ∀ k, k < q.length → g (q.take k) = .er 0
structure GoodL (z : Nat) (g : List UInt8 → RL) : Prop where
  sf : ∀ s t r, g s = .ok t r → ∃ q, s = q ++ r ∧ z * t.length ≤ q.length
  ex : ∀ q r t, g (q ++ r) = .ok t r → ∀ x, g (q ++ x) = .ok t x
  pf : ∀ q r t, g (q ++ r) = .ok t r → ∀ k, k < q.length → g (q.take k) = .er 0
end Go.Proofs.YtpjlepkdiaohiaaGreatDoor

/- Plain: MessagePack: what is read is a tree of short texts and lists; its plain item is no longer. -/
namespace Go.Proofs.YtpjlepkdiaohiaaGreatDoor
open Go Go.RowKit

/-- what is known of what is read. -/
def Vld (s : List UInt8) (x : RR) : Prop := ∀ t r, x = .ok t r → t.fine ∧ t.cnt + r.length ≤ s.length + 1
def Shr (s : List UInt8) (x : RR) : Prop := ∀ t r, x = .ok t r → t.okM → t.enc.length + r.length ≤ s.length + 1
theorem leaf_enc (p : Pay) : (Tr.nd p []).enc = hdE p 0 := by
  rw [Tr.enc, List.length_nil]
  split
  · rw [encL, List.append_nil]
  · rw [List.append_nil]
theorem pw {c a m : Nat} (h1 : a ≤ c) (h2 : c ≤ a + m) (hm : m ≤ 3) : 2 ^ (c - a) = 1 ∨ 2 ^ (c - a) = 2 ∨ 2 ^ (c - a) = 4 ∨ 2 ^ (c - a) = 8 := by
  rcases (show c - a = 0 ∨ c - a = 1 ∨ c - a = 2 ∨ c - a = 3 by omega) with h | h | h | h <;> rw [h] <;> decide
end Go.Proofs.YtpjlepkdiaohiaaGreatDoor

