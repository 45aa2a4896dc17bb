/- PL: MwP MrP MrQ MrS MrT MrU. -/
import Derived.Test.YtpjlepkdiaohiaaGreatDoorPC
import Derived.Test.YtpjlepkdiaohiaaGreatDoorPB
import Derived.Test.YtpjlepkdiaohiaaGreatDoorPK
/- Plain: MessagePack: how trees are written. -/
namespace Go.Proofs.YtpjlepkdiaohiaaGreatDoor
open Go Go.RowKit

def ch (x : Nat) : UInt8 := UInt8.ofNat x
theorem ch_toNat {x : Nat} (h : x < 256) : (ch x).toNat = x := by unfold ch; rw [UInt8.toNat_ofNat']; omega
/-- so many bytes of a number, the greatest first. -/
def beL : Nat → Nat → List UInt8
  | 0, _ => []
  | k + 1, n => ch (n / 256 ^ k) :: beL k n
theorem beL_len : ∀ k n, (beL k n).length = k
  | 0, _ => rfl
  | k + 1, n => by rw [beL, List.length_cons, beL_len k n]
/-- a number behind one of four first bytes. -/
def sizedE (n : Nat) (a1 : Int) (a2 a4 a8 : Nat) : List UInt8 :=
  if n < 256 ∧ 0 ≤ a1 then ch a1.toNat :: beL 1 n else if n < 65536 then ch a2 :: beL 2 n else if n < 4294967296 then ch a4 :: beL 4 n else ch a8 :: beL 8 n
def negN (n : Nat) : Nat := 18446744073709551616 - n
def minusE (n : Nat) : List UInt8 :=
  if n ≤ 32 then [ch (256 - n)] else if n ≤ 128 then ch 208 :: beL 1 (negN n) else if n ≤ 32768 then ch 209 :: beL 2 (negN n) else if n ≤ 2147483648 then ch 210 :: beL 4 (negN n) else ch 211 :: beL 8 (negN n)
def numE (neg : Bool) (n : Nat) : List UInt8 := if neg then minusE n else if n < 128 then [ch n] else sizedE n 204 205 206 207
def txtE (m : Nat) : List UInt8 := if m < 32 then [ch (160 + m)] else sizedE m 217 218 219 0
def binE (m : Nat) : List UInt8 := sizedE m 196 197 198 0
def arrE (k : Nat) : List UInt8 := if k < 16 then [ch (144 + k)] else sizedE k (-1) 220 221 0
def mapE (k : Nat) : List UInt8 := if k < 32 then [ch (128 + k / 2)] else sizedE (k / 2) (-1) 222 223 0
def extE (m : Nat) : List UInt8 := if m = 1 then [212] else if m = 2 then [213] else if m = 4 then [214] else if m = 8 then [215] else if m = 16 then [216] else sizedE m 199 200 201 0
/-- what a node has ahead of its list's items. -/
def hdE (p : Pay) (k : Nat) : List UInt8 :=
  if p.k = 1 then [192] else if p.k = 2 then [if p.b then 195 else 194] else if p.k = 3 then numE (tiB p.d && p.n) (tiN p.d)
  else if p.k = 4 then (if p.w = 32 then 202 :: beL 4 p.u else 203 :: beL 8 p.u)
  else if p.k = 5 then txtE p.s.size ++ tx p.s else if p.k = 6 then binE p.s.size ++ tx p.s
  else if p.k = 7 then arrE k else if p.k = 8 then mapE k else extE p.s.size ++ (ch p.u :: tx p.s)
def isLst (p : Pay) : Bool := decide (p.k = 7) || decide (p.k = 8)
mutual
/-- a tree's plain item. -/
def Tr.enc : Tr → List UInt8 | .nd p l => hdE p l.length ++ (if isLst p then encL l else [])
def encL : List Tr → List UInt8 | [] => [] | t :: r => t.enc ++ encL r
end
theorem encL_append (l m : List Tr) : encL (l ++ m) = encL l ++ encL m := by
  induction l with
  | nil => simp [encL]
  | cons t r ih => rw [List.cons_append, encL, encL, ih, List.append_assoc]
theorem encL_take_succ {l : List Tr} {i : Nat} {t : Tr} (h : l[i]? = some t) : encL (l.take (i + 1)) = encL (l.take i) ++ t.enc := by
  rw [List.take_add_one, h, Option.toList_some, encL_append, encL, encL, List.append_nil]

/-- right, and fit for MessagePack. -/
def Tr.okM (t : Tr) : Prop := t.all = true ∧ t.fit 4 = true
theorem Tr.okM.own {p : Pay} {l : List Tr} (h : (Tr.nd p l).okM) : ownP p l = true := by
  have := h.1; rw [Tr.all, Bool.and_eq_true] at this; exact this.1
theorem Tr.okM.fits {p : Pay} {l : List Tr} (h : (Tr.nd p l).okM) : fitN p l 4 = true := by
  have := h.2; rw [Tr.fit, Bool.and_eq_true] at this; exact this.1
theorem Tr.okM.sub {p : Pay} {l : List Tr} (h : (Tr.nd p l).okM) {t : Tr} (ht : t ∈ l) : t.okM := by
  have h1 := h.1; have h2 := h.2
  rw [Tr.all, Bool.and_eq_true] at h1
  rw [Tr.fit, Bool.and_eq_true] at h2
  exact ⟨(allL_iff l).1 h1.2 t ht, (fitL_iff l 4).1 h2.2 t ht⟩
theorem chk_ok {t : Tr} (h : chk t 4 = 0) : t.okM ∧ t.right = true := by
  unfold chk at h
  cases h1 : t.right with
  | false => rw [h1] at h; cases h
  | true =>
    rw [h1] at h
    cases h2 : t.fit 4 with
    | false => rw [h2] at h; cases h
    | true =>
      unfold Tr.right at h1
      rw [Bool.and_eq_true, Bool.and_eq_true] at h1
      exact ⟨⟨h1.2.2, h2⟩, rfl⟩

/-- what is known of a node of each kind. -/
theorem own_kinds {p : Pay} {l : List Tr} (h : ownP p l = true) : p.k = 1 ∨ p.k = 2 ∨ p.k = 3 ∨ p.k = 4 ∨ p.k = 5 ∨ p.k = 6 ∨ p.k = 7 ∨ p.k = 8 ∨ p.k = 9 ∨ p.k = 10 ∨ p.k = 11 := by
  by_cases hk : p.k = 1 ∨ p.k = 2 ∨ p.k = 3 ∨ p.k = 4 ∨ p.k = 5 ∨ p.k = 6 ∨ p.k = 7 ∨ p.k = 8 ∨ p.k = 9 ∨ p.k = 10 ∨ p.k = 11
  · exact hk
  · unfold ownP at h
    rw [if_neg (by omega), if_neg (by omega), if_neg (by omega), if_neg (by omega), if_neg (by omega), if_neg (by omega), if_neg (by omega), if_neg (by omega), if_neg (by omega), if_neg (by omega), if_neg (by omega)] at h
    cases h
theorem own_1 {p : Pay} {l : List Tr} (hk : p.k = 1) : ownP p l = (l.isEmpty && onlyP p Pay.z) := by unfold ownP; rw [if_pos hk]
theorem own_2 {p : Pay} {l : List Tr} (hk : p.k = 2) : ownP p l = (l.isEmpty && onlyP p { Pay.z with b := p.b }) := by unfold ownP; rw [if_neg (by omega), if_pos hk]
theorem own_3 {p : Pay} {l : List Tr} (hk : p.k = 3) : ownP p l = (l.isEmpty && (onlyP p { Pay.z with n := p.n, dg := p.dg, ex := p.ex } && decR ⟨p.n, tx p.dg, p.ex⟩)) := by unfold ownP; rw [if_neg (by omega), if_neg (by omega), if_pos hk]
theorem own_4 {p : Pay} {l : List Tr} (hk : p.k = 4) : ownP p l = (l.isEmpty && (onlyP p { Pay.z with u := p.u, w := p.w } && decide (widE p.u p.w = 0))) := by unfold ownP; rw [if_neg (by omega), if_neg (by omega), if_neg (by omega), if_pos hk]
theorem own_5 {p : Pay} {l : List Tr} (hk : p.k = 5) : ownP p l = (l.isEmpty && (onlyP p { Pay.z with s := p.s } && (decide (p.s.size ≤ 400) && utfOk p.s))) := by unfold ownP; rw [if_neg (by omega), if_neg (by omega), if_neg (by omega), if_neg (by omega), if_pos hk]
theorem own_6 {p : Pay} {l : List Tr} (hk : p.k = 6) : ownP p l = (l.isEmpty && (onlyP p { Pay.z with s := p.s } && decide (p.s.size ≤ 400))) := by unfold ownP; rw [if_neg (by omega), if_neg (by omega), if_neg (by omega), if_neg (by omega), if_neg (by omega), if_pos hk]
theorem own_7 {p : Pay} {l : List Tr} (hk : p.k = 7) : ownP p l = onlyP p Pay.z := by unfold ownP; rw [if_neg (by omega), if_neg (by omega), if_neg (by omega), if_neg (by omega), if_neg (by omega), if_neg (by omega), if_pos hk]
theorem own_8 {p : Pay} {l : List Tr} (hk : p.k = 8) : ownP p l = (onlyP p Pay.z && (decide (l.length % 2 = 0) && !twice (keysT l))) := by unfold ownP; rw [if_neg (by omega), if_neg (by omega), if_neg (by omega), if_neg (by omega), if_neg (by omega), if_neg (by omega), if_neg (by omega), if_pos hk]
theorem own_11 {p : Pay} {l : List Tr} (hk : p.k = 11) : ownP p l = (l.isEmpty && (onlyP p { Pay.z with u := p.u, s := p.s } && (decide (p.u ≤ 255) && decide (p.s.size ≤ 400)))) := by unfold ownP; rw [if_neg (by omega), if_neg (by omega), if_neg (by omega), if_neg (by omega), if_neg (by omega), if_neg (by omega), if_neg (by omega), if_neg (by omega), if_neg (by omega), if_neg (by omega), if_pos hk]
theorem fit4_kinds {p : Pay} {l : List Tr} (h : fitN p l 4 = true) : p.k ≠ 9 ∧ p.k ≠ 10 := by
  unfold fitN at h
  constructor
  · intro h9
    rw [if_neg (by omega), if_neg (by omega), if_neg (by omega), if_pos (.inl h9)] at h
    revert h; decide
  · intro h9
    rw [if_neg (by omega), if_neg (by omega), if_neg (by omega), if_pos (.inr h9)] at h
    revert h; decide
theorem Tr.okM.kinds {p : Pay} {l : List Tr} (h : (Tr.nd p l).okM) : p.k = 1 ∨ p.k = 2 ∨ p.k = 3 ∨ p.k = 4 ∨ p.k = 5 ∨ p.k = 6 ∨ p.k = 7 ∨ p.k = 8 ∨ p.k = 11 := by
  have h1 := own_kinds h.own
  have h2 := fit4_kinds h.fits
  omega
theorem Tr.okM.num {p : Pay} {l : List Tr} (h : (Tr.nd p l).okM) (hk : p.k = 3) : decR p.d = true ∧ tiB p.d = true ∧ (p.n = true → tiN p.d ≤ 9223372036854775808) := by
  have h1 := h.own
  have h2 := h.fits
  unfold ownP at h1
  rw [if_neg (by omega), if_neg (by omega), if_pos hk, Bool.and_eq_true, Bool.and_eq_true] at h1
  have hd : decR p.d = true := h1.2.2
  unfold fitN at h2
  rw [if_neg (by omega), if_pos hk, Bool.and_eq_true] at h2
  have h3 := h2.2
  simp only [Bool.or_eq_true, Bool.and_eq_true, decide_eq_true_eq, Bool.not_eq_true'] at h3
  rcases h3 with h3 | ⟨h3, h4⟩
  · exact absurd h3 (by decide)
  · refine ⟨hd, h3, fun hn => ?_⟩
    rcases h4 with h4 | h4
    · exact absurd rfl h4
    · rcases h4 with h4 | h4
      · rw [h3, hn] at h4; cases h4
      · exact h4
theorem Tr.okM.size {p : Pay} {l : List Tr} (h : (Tr.nd p l).okM) : p.s.size ≤ 400 := by
  have h1 := h.own
  have hz : ∀ q : Pay, onlyP p q = true → p.s = q.s := fun q hq => by
    unfold onlyP at hq
    rw [Pay.same_iff] at hq
    rw [hq]
  have e0 : ∀ q : Pay, onlyP p q = true → q.s = ⟨#[]⟩ → p.s.size ≤ 400 := fun q hq e => by
    rw [hz q hq, e]; decide
  rcases h.kinds with hk | hk | hk | hk | hk | hk | hk | hk | hk
  · rw [own_1 hk, Bool.and_eq_true] at h1; exact e0 _ h1.2 rfl
  · rw [own_2 hk, Bool.and_eq_true] at h1; exact e0 _ h1.2 rfl
  · rw [own_3 hk, Bool.and_eq_true, Bool.and_eq_true] at h1; exact e0 _ h1.2.1 rfl
  · rw [own_4 hk, Bool.and_eq_true, Bool.and_eq_true] at h1; exact e0 _ h1.2.1 rfl
  · rw [own_5 hk, Bool.and_eq_true, Bool.and_eq_true, Bool.and_eq_true, decide_eq_true_eq] at h1; exact h1.2.2.1
  · rw [own_6 hk, Bool.and_eq_true, Bool.and_eq_true, decide_eq_true_eq] at h1; exact h1.2.2
  · rw [own_7 hk] at h1; exact e0 _ h1 rfl
  · rw [own_8 hk, Bool.and_eq_true] at h1; exact e0 _ h1.1 rfl
  · rw [own_11 hk] at h1; simp only [Bool.and_eq_true, decide_eq_true_eq] at h1; omega

/-! ### how long -/
theorem sizedE_len (n : Nat) (a1 : Int) (a2 a4 a8 : Nat) : 2 ≤ (sizedE n a1 a2 a4 a8).length ∧ (sizedE n a1 a2 a4 a8).length ≤ 9 := by
  unfold sizedE
  split
  · rw [List.length_cons, beL_len]; omega
  split
  · rw [List.length_cons, beL_len]; omega
  split
  · rw [List.length_cons, beL_len]; omega
  · rw [List.length_cons, beL_len]; omega
theorem minusE_len (n : Nat) : 1 ≤ (minusE n).length ∧ (minusE n).length ≤ 9 := by
  unfold minusE
  split
  · simp
  split
  · rw [List.length_cons, beL_len]; omega
  split
  · rw [List.length_cons, beL_len]; omega
  split
  · rw [List.length_cons, beL_len]; omega
  · rw [List.length_cons, beL_len]; omega
theorem hdE_len (p : Pay) (k : Nat) : 1 ≤ (hdE p k).length ∧ (hdE p k).length ≤ 10 + p.s.size := by
  have hs : (tx p.s).length = p.s.size := len_str _
  unfold hdE
  split
  · simp only [List.length_cons, List.length_nil]; omega
  split
  · simp only [List.length_cons, List.length_nil]; omega
  split
  · unfold numE
    split
    · have := minusE_len (tiN p.d); omega
    split
    · simp only [List.length_cons, List.length_nil]; omega
    · have := sizedE_len (tiN p.d) 204 205 206 207; omega
  split
  · split
    · rw [List.length_cons, beL_len]; omega
    · rw [List.length_cons, beL_len]; omega
  split
  · rw [List.length_append, hs]
    unfold txtE
    split
    · rw [List.length_singleton]; omega
    · have := sizedE_len p.s.size 217 218 219 0; omega
  split
  · rw [List.length_append, hs]
    have := sizedE_len p.s.size 196 197 198 0
    unfold binE; omega
  split
  · unfold arrE
    split
    · simp only [List.length_cons, List.length_nil]; omega
    · have := sizedE_len k (-1) 220 221 0; omega
  split
  · unfold mapE
    split
    · simp only [List.length_cons, List.length_nil]; omega
    · have := sizedE_len (k / 2) (-1) 222 223 0; omega
  · rw [List.length_append, List.length_cons, hs]
    have := sizedE_len p.s.size 199 200 201 0
    unfold extE
    split
    · simp only [List.length_cons, List.length_nil]; omega
    split
    · simp only [List.length_cons, List.length_nil]; omega
    split
    · simp only [List.length_cons, List.length_nil]; omega
    split
    · simp only [List.length_cons, List.length_nil]; omega
    split
    · simp only [List.length_cons, List.length_nil]; omega
    · omega
theorem enc_len (t : Tr) : t.okM → 1 ≤ t.enc.length ∧ t.enc.length ≤ 410 * t.cnt := by
  induction t using Tr.ind with
  | h p l ih =>
    intro h
    have h1 := hdE_len p l.length
    have h2 := h.size
    have key : ∀ m : List Tr, (∀ t, t ∈ m → t ∈ l) → (encL m).length ≤ 410 * cntL m := by
      intro m
      induction m with
      | nil => intro _; simp [encL]
      | cons a r ih2 =>
        intro hm
        rw [encL, List.length_append, cntL]
        have := (ih a (hm a (List.mem_cons_self ..)) (h.sub (hm a (List.mem_cons_self ..)))).2
        have := ih2 fun t ht => hm t (List.mem_cons_of_mem _ ht)
        omega
    have h3 := key l fun _ h => h
    rw [Tr.enc, List.length_append, Tr.cnt]
    split
    · omega
    · rw [List.length_nil]; omega
end Go.Proofs.YtpjlepkdiaohiaaGreatDoor

/- Plain: MessagePack: how items are read. -/
namespace Go.Proofs.YtpjlepkdiaohiaaGreatDoor
open Go Go.RowKit

/-- what is read: a tree and what is behind it, or what is wrong (0: more, 1: no item, 2: too deep). -/
inductive RR where
  | ok (t : Tr) (r : List UInt8)
  | er (e : Nat)
/-- what a list's items are read as. -/
inductive RL where
  | ok (l : List Tr) (r : List UInt8)
  | er (e : Nat)
def beN (l : List UInt8) : Nat := l.foldl (fun n c => n * 256 + c.toNat) 0
/-- what stands behind the number of so many bytes. -/
def rnum (k : Nat) (s : List UInt8) (g : Nat → List UInt8 → RR) : RR := if s.length < k then .er 0 else g (beN (s.take k)) (s.drop k)
def rraw (p : Pay) (n : Nat) (s : List UInt8) : RR := if s.length < n then .er 0 else .ok (.nd { p with s := B (s.take n) } []) (s.drop n)
def kP (k : Int) : Pay := { Pay.z with k := k }
def rext (n : Nat) (s : List UInt8) : RR := rnum 1 s fun u r => rraw { Pay.z with k := 11, u := u } n r
def decP (neg : Bool) (n : Nat) : Pay := { Pay.z with k := 3, n := (mk neg (Lib.decDigits n) 0).1.neg, dg := B (mk neg (Lib.decDigits n) 0).1.dg, ex := (mk neg (Lib.decDigits n) 0).1.ex }
def plusP (n : Nat) : Pay := decP false n
/-- a number of so many bytes, with a sign. -/
def intP (k n : Nat) : Pay := if n < 256 ^ k / 2 then decP false n else decP true (256 ^ k - n)
def floP (k n : Nat) : Pay := { Pay.z with k := 4, u := n, w := (8 * k : Nat) }
/-- so many items. -/
def rlist (f : List UInt8 → RR) : Nat → List UInt8 → RL
  | 0, s => .ok [] s
  | n + 1, s => match f s with
    | .er e => .er e
    | .ok t r => match rlist f n r with
      | .er e => .er e
      | .ok l q => .ok (t :: l) q
def rnode (k : Int) : RL → RR
  | .er e => .er e
  | .ok l r => .ok (.nd (kP k) l) r
/-- an item whose first byte is c, what is behind it being s; its lists' items are read by f. -/
def rhd (f : List UInt8 → RR) (c : Nat) (s : List UInt8) : RR :=
  if c < 128 then .ok (.nd (plusP c) []) s
  else if c < 144 then rnode 8 (rlist f (2 * (c - 128)) s)
  else if c < 160 then rnode 7 (rlist f (c - 144) s)
  else if c < 192 then rraw (kP 5) (c - 160) s
  else if c = 192 then .ok (.nd (kP 1) []) s
  else if c = 193 then .er 1
  else if c = 194 then .ok (.nd (kP 2) []) s
  else if c = 195 then .ok (.nd { kP 2 with b := true } []) s
  else if c < 199 then rnum (2 ^ (c - 196)) s fun n r => rraw (kP 6) n r
  else if c < 202 then rnum (2 ^ (c - 199)) s fun n r => rext n r
  else if c < 204 then rnum (2 ^ (c - 200)) s fun n r => .ok (.nd (floP (2 ^ (c - 200)) n) []) r
  else if c < 208 then rnum (2 ^ (c - 204)) s fun n r => .ok (.nd (plusP n) []) r
  else if c < 212 then rnum (2 ^ (c - 208)) s fun n r => .ok (.nd (intP (2 ^ (c - 208)) n) []) r
  else if c < 217 then rext (2 ^ (c - 212)) s
  else if c < 220 then rnum (2 ^ (c - 217)) s fun n r => rraw (kP 5) n r
  else if c < 222 then rnum (2 ^ (c - 219)) s fun n r => rnode 7 (rlist f n r)
  else if c < 224 then rnum (2 ^ (c - 221)) s fun n r => rnode 8 (rlist f (2 * n) r)
  else .ok (.nd (intP 1 c) []) s
/-- an item, so many lists deep at most. -/
def rd : Nat → List UInt8 → RR
  | _, [] => .er 0
  | 0, _ :: _ => .er 2
  | d + 1, c :: s => rhd (rd d) c.toNat s

/-! ### what is read is shorter -/
def RR.shrinks (x : RR) (s : List UInt8) : Prop := ∀ t r, x = .ok t r → ∃ q, s = q ++ r
theorem rnum_ok {k : Nat} {s : List UInt8} {g : Nat → List UInt8 → RR} {t : Tr} {r : List UInt8} (h : rnum k s g = .ok t r) : k ≤ s.length ∧ g (beN (s.take k)) (s.drop k) = .ok t r := by
  unfold rnum at h
  split at h
  · cases h
  · exact ⟨by omega, h⟩
theorem rraw_ok {p : Pay} {n : Nat} {s : List UInt8} {t : Tr} {r : List UInt8} (h : rraw p n s = .ok t r) : n ≤ s.length ∧ t = .nd { p with s := B (s.take n) } [] ∧ r = s.drop n := by
  unfold rraw at h
  split at h
  · cases h
  · injection h with h1 h2
    exact ⟨by omega, h1.symm, h2.symm⟩
end Go.Proofs.YtpjlepkdiaohiaaGreatDoor

/- Plain: MessagePack: what is written is read again. -/
namespace Go.Proofs.YtpjlepkdiaohiaaGreatDoor
open Go Go.RowKit

theorem foldl_be (l : List UInt8) : ∀ a : Nat, l.foldl (fun n c => n * 256 + c.toNat) a = a * 256 ^ l.length + beN l := by
  induction l with
  | nil => intro a; simp [beN]
  | cons c r ih =>
    intro a
    unfold beN
    rw [List.foldl_cons, List.foldl_cons, ih, ih (0 * 256 + c.toNat), List.length_cons, Nat.pow_succ, Nat.zero_mul, Nat.zero_add, Nat.add_mul, Nat.mul_assoc, Nat.mul_comm 256, Nat.add_assoc]
theorem beN_cons (c : UInt8) (l : List UInt8) : beN (c :: l) = c.toNat * 256 ^ l.length + beN l := by
  show (c :: l).foldl (fun n c => n * 256 + c.toNat) 0 = _
  rw [List.foldl_cons, foldl_be, Nat.zero_mul, Nat.zero_add]
theorem beN_beL : ∀ k n, beN (beL k n) = n % 256 ^ k
  | 0, n => by rw [Nat.pow_zero, Nat.mod_one]; rfl
  | k + 1, n => by
    rw [beL, beN_cons, beL_len, beN_beL k n, show (ch (n / 256 ^ k)).toNat = n / 256 ^ k % 256 by unfold ch; rw [UInt8.toNat_ofNat'], Nat.pow_succ, Nat.mod_mul, Nat.mul_comm, Nat.add_comm]
theorem beN_lt : ∀ l : List UInt8, beN l < 256 ^ l.length
  | [] => by decide
  | c :: l => by
    have := beN_lt l
    have hc := c.toNat_lt
    rw [beN_cons, List.length_cons, Nat.pow_succ]
    have : c.toNat * 256 ^ l.length + 256 ^ l.length ≤ 256 * 256 ^ l.length := by
      rw [← Nat.succ_mul]
      exact Nat.mul_le_mul_right _ (by omega)
    omega
theorem rnum_be (k n : Nat) (s : List UInt8) (g : Nat → List UInt8 → RR) : rnum k (beL k n ++ s) g = g (n % 256 ^ k) s := by
  unfold rnum
  have hl := beL_len k n
  rw [if_neg (by rw [List.length_append]; omega), List.take_left' hl, List.drop_left' hl, beN_beL]

/-- a whole decimal is its number's. -/
theorem dec_back {d : D} (h : decR d = true) (hT : tiB d = true) : (mk d.neg (Lib.decDigits (tiN d)) 0).1 = d ∧ tiN d < 18446744073709551616 ∧ (d.neg = true → 1 ≤ tiN d) := by
  unfold tiB at hT
  rw [Bool.and_eq_true] at hT
  obtain ⟨hG, hB⟩ := hT
  have hG' := hG
  unfold tiG at hG'
  rw [Bool.and_eq_true, Bool.and_eq_true, decide_eq_true_eq, decide_eq_true_eq] at hG'
  obtain ⟨-, h0, h20⟩ := hG'
  unfold toB at hB
  have hB' := hB
  rw [Bool.and_eq_true, decide_eq_true_eq] at hB'
  have hn : tiN d = nv (tx (tiT d)) := by unfold tiN toN; rw [if_pos hG, if_pos hB]
  have hbd := (decR_bounds h).1
  have hz := mk_zeros d 0 d.ex.toNat h (by omega) (by omega)
  rw [show d.ex - (d.ex.toNat : Int) = 0 by omega, List.replicate_zero, List.nil_append] at hz
  have e : Lib.decDigits (tiN d) = d.dg ++ List.replicate d.ex.toNat 48 := by
    rw [hn, ← ((isRt_iff _).1 hB'.1).1]
    unfold tiT; rw [tx_B]
  refine ⟨by rw [e, hz], by rw [hn]; exact hB'.2, fun hneg => ?_⟩
  rcases Nat.eq_zero_or_pos (tiN d) with h9 | h9
  · rw [h9] at e
    have hd : d.dg = [48] := by
      have : d.dg ≠ [] := by
        intro e2
        rw [e2, List.nil_append] at e
        unfold decR at h
        rw [e2, if_neg (by decide), Bool.and_eq_true] at h
        exact absurd h.1 (by decide)
      have e3 : Lib.decDigits 0 = [48] := by decide +kernel
      rw [e3] at e
      cases hdg : d.dg with
      | nil => exact absurd hdg this
      | cons c r =>
        rw [hdg, List.cons_append] at e
        injection e with e4 e5
        have : r = [] := by
          cases r with
          | nil => rfl
          | cons x y => simp at e5
        rw [← e4, this]
    unfold decR at h
    rw [if_pos hd, hneg, Bool.and_eq_true] at h
    exact absurd h.2 (by decide)
  · exact h9

theorem decP_of {p : Pay} (hp : p = { Pay.z with k := 3, n := p.n, dg := p.dg, ex := p.ex }) (h : decR p.d = true) (hT : tiB p.d = true) : decP p.n (tiN p.d) = p := by
  have hb := (dec_back h hT).1
  unfold decP
  rw [show p.n = p.d.neg from rfl, hb]
  conv => rhs; rw [hp]
  have : B p.d.dg = p.dg := B_tx _
  rw [this]
  rfl

theorem only_eq {p q : Pay} (h : onlyP p q = true) : p = { q with k := p.k } := Pay.same_iff.1 h
theorem hdE_num {p : Pay} (k : Nat) (hk : p.k = 3) : hdE p k = numE (tiB p.d && p.n) (tiN p.d) := by
  unfold hdE; rw [if_neg (by omega), if_neg (by omega), if_pos hk]
theorem rhd_ge {f : List UInt8 → RR} {c : Nat} {s : List UInt8} (h : 224 ≤ c) : rhd f c s = .ok (.nd (intP 1 c) []) s := by
  unfold rhd
  rw [if_neg (by omega), if_neg (by omega), if_neg (by omega), if_neg (by omega), if_neg (by omega), if_neg (by omega), if_neg (by omega), if_neg (by omega), if_neg (by omega), if_neg (by omega), if_neg (by omega), if_neg (by omega), if_neg (by omega), if_neg (by omega), if_neg (by omega), if_neg (by omega), if_neg (by omega)]
theorem rd_ch (d : Nat) (x : Nat) (hx : x < 256) (s : List UInt8) : rd (d + 1) (ch x :: s) = rhd (rd d) x s := by
  rw [rd, ch_toNat hx]
theorem beN_one (c : UInt8) (l : List UInt8) : beN ((c :: l).take 1) = c.toNat := by
  rw [List.take_succ_cons, List.take_zero, beN_cons]; simp [beN]
/-- numbers. -/
theorem rd_num (d : Nat) (neg : Bool) (n : Nat) (hn : n < 18446744073709551616) (hneg : neg = true → 1 ≤ n ∧ n ≤ 9223372036854775808) (s : List UInt8) : rd (d + 1) (numE neg n ++ s) = .ok (.nd (decP neg n) []) s := by
  unfold numE
  cases neg with
  | true =>
    obtain ⟨h1, h2⟩ := hneg rfl
    rw [if_pos rfl]
    unfold minusE
    by_cases c1 : n ≤ 32
    · rw [if_pos c1, List.singleton_append, rd_ch _ _ (by omega), rhd_ge (by omega)]
      unfold intP
      rw [if_neg (by omega), show 256 ^ 1 - (256 - n) = n by omega]
    by_cases c2 : n ≤ 128
    · rw [if_neg c1, if_pos c2, List.cons_append, rd_ch _ _ (by decide), show rhd (rd d) 208 (beL 1 (negN n) ++ s) = rnum 1 (beL 1 (negN n) ++ s) fun m r => .ok (.nd (intP 1 m) []) r from rfl, rnum_be]
      unfold intP negN
      rw [show (18446744073709551616 - n) % 256 ^ 1 = 256 - n by omega, if_neg (by omega), show 256 ^ 1 - (256 - n) = n by omega]
    by_cases c3 : n ≤ 32768
    · rw [if_neg c1, if_neg c2, if_pos c3, List.cons_append, rd_ch _ _ (by decide), show rhd (rd d) 209 (beL 2 (negN n) ++ s) = rnum 2 (beL 2 (negN n) ++ s) fun m r => .ok (.nd (intP 2 m) []) r from rfl, rnum_be]
      unfold intP negN
      rw [show (18446744073709551616 - n) % 256 ^ 2 = 65536 - n by omega, if_neg (by omega), show 256 ^ 2 - (65536 - n) = n by omega]
    by_cases c4 : n ≤ 2147483648
    · rw [if_neg c1, if_neg c2, if_neg c3, if_pos c4, List.cons_append, rd_ch _ _ (by decide), show rhd (rd d) 210 (beL 4 (negN n) ++ s) = rnum 4 (beL 4 (negN n) ++ s) fun m r => .ok (.nd (intP 4 m) []) r from rfl, rnum_be]
      unfold intP negN
      rw [show (18446744073709551616 - n) % 256 ^ 4 = 4294967296 - n by omega, if_neg (by omega), show 256 ^ 4 - (4294967296 - n) = n by omega]
    · rw [if_neg c1, if_neg c2, if_neg c3, if_neg c4, List.cons_append, rd_ch _ _ (by decide), show rhd (rd d) 211 (beL 8 (negN n) ++ s) = rnum 8 (beL 8 (negN n) ++ s) fun m r => .ok (.nd (intP 8 m) []) r from rfl, rnum_be]
      unfold intP negN
      rw [show (18446744073709551616 - n) % 256 ^ 8 = 18446744073709551616 - n by omega, if_neg (by omega), show 256 ^ 8 - (18446744073709551616 - n) = n by omega]
  | false =>
    rw [if_neg (by decide)]
    by_cases c1 : n < 128
    · rw [if_pos c1, List.singleton_append, rd_ch _ _ (by omega)]
      unfold rhd
      rw [if_pos c1]; rfl
    rw [if_neg c1]
    unfold sizedE
    by_cases c2 : n < 256
    · rw [if_pos ⟨c2, by decide⟩, List.cons_append, rd_ch _ _ (by decide), show rhd (rd d) (Int.toNat 204) (beL 1 n ++ s) = rnum 1 (beL 1 n ++ s) fun m r => .ok (.nd (plusP m) []) r from rfl, rnum_be, Nat.mod_eq_of_lt (by omega)]; rfl
    by_cases c3 : n < 65536
    · rw [if_neg (fun h => c2 h.1), if_pos c3, List.cons_append, rd_ch _ _ (by decide), show rhd (rd d) 205 (beL 2 n ++ s) = rnum 2 (beL 2 n ++ s) fun m r => .ok (.nd (plusP m) []) r from rfl, rnum_be, Nat.mod_eq_of_lt (by omega)]; rfl
    by_cases c4 : n < 4294967296
    · rw [if_neg (fun h => c2 h.1), if_neg c3, if_pos c4, List.cons_append, rd_ch _ _ (by decide), show rhd (rd d) 206 (beL 4 n ++ s) = rnum 4 (beL 4 n ++ s) fun m r => .ok (.nd (plusP m) []) r from rfl, rnum_be, Nat.mod_eq_of_lt (by omega)]; rfl
    · rw [if_neg (fun h => c2 h.1), if_neg c3, if_neg c4, List.cons_append, rd_ch _ _ (by decide), show rhd (rd d) 207 (beL 8 n ++ s) = rnum 8 (beL 8 n ++ s) fun m r => .ok (.nd (plusP m) []) r from rfl, rnum_be, Nat.mod_eq_of_lt (by omega)]; rfl
theorem rraw_app (p : Pay) (q : ByteArray) (s : List UInt8) : rraw p q.size (tx q ++ s) = .ok (.nd { p with s := q } []) s := by
  have hl : (tx q).length = q.size := len_str q
  unfold rraw
  rw [if_neg (by rw [List.length_append, hl]; omega), List.take_left' hl, List.drop_left' hl, B_tx]
theorem rd_txt (d : Nat) (q : ByteArray) (hq : q.size ≤ 400) (s : List UInt8) : rd (d + 1) (txtE q.size ++ tx q ++ s) = .ok (.nd { kP 5 with s := q } []) s := by
  rw [List.append_assoc]
  unfold txtE
  by_cases h : q.size < 32
  · rw [if_pos h, List.singleton_append, rd_ch _ _ (by omega)]
    unfold rhd
    rw [if_neg (by omega), if_neg (by omega), if_neg (by omega), if_pos (by omega), show 160 + q.size - 160 = q.size by omega, rraw_app]
  rw [if_neg h]
  unfold sizedE
  by_cases c2 : q.size < 256
  · rw [if_pos ⟨c2, by decide⟩, List.cons_append, rd_ch _ _ (by decide), show rhd (rd d) (Int.toNat 217) (beL 1 q.size ++ (tx q ++ s)) = rnum 1 (beL 1 q.size ++ (tx q ++ s)) fun n r => rraw (kP 5) n r from rfl, rnum_be, Nat.mod_eq_of_lt (by omega), rraw_app]
  · rw [if_neg (fun h => c2 h.1), if_pos (by omega), List.cons_append, rd_ch _ _ (by decide), show rhd (rd d) 218 (beL 2 q.size ++ (tx q ++ s)) = rnum 2 (beL 2 q.size ++ (tx q ++ s)) fun n r => rraw (kP 5) n r from rfl, rnum_be, Nat.mod_eq_of_lt (by omega), rraw_app]
theorem rd_bin (d : Nat) (q : ByteArray) (hq : q.size ≤ 400) (s : List UInt8) : rd (d + 1) (binE q.size ++ tx q ++ s) = .ok (.nd { kP 6 with s := q } []) s := by
  rw [List.append_assoc]
  unfold binE sizedE
  by_cases c2 : q.size < 256
  · rw [if_pos ⟨c2, by decide⟩, List.cons_append, rd_ch _ _ (by decide), show rhd (rd d) (Int.toNat 196) (beL 1 q.size ++ (tx q ++ s)) = rnum 1 (beL 1 q.size ++ (tx q ++ s)) fun n r => rraw (kP 6) n r from rfl, rnum_be, Nat.mod_eq_of_lt (by omega), rraw_app]
  · rw [if_neg (fun h => c2 h.1), if_pos (by omega), List.cons_append, rd_ch _ _ (by decide), show rhd (rd d) 197 (beL 2 q.size ++ (tx q ++ s)) = rnum 2 (beL 2 q.size ++ (tx q ++ s)) fun n r => rraw (kP 6) n r from rfl, rnum_be, Nat.mod_eq_of_lt (by omega), rraw_app]
theorem rext_app (q : ByteArray) (u : Nat) (hu : u ≤ 255) (s : List UInt8) : rext q.size (ch u :: (tx q ++ s)) = .ok (.nd { Pay.z with k := 11, u := u, s := q } []) s := by
  unfold rext rnum
  rw [if_neg (by rw [List.length_cons]; omega), beN_one, ch_toNat (by omega), List.drop_succ_cons, List.drop_zero]
  exact rraw_app _ q s
theorem rd_ext (d : Nat) (q : ByteArray) (hq : q.size ≤ 400) (u : Nat) (hu : u ≤ 255) (s : List UInt8) : rd (d + 1) (extE q.size ++ (ch u :: tx q) ++ s) = .ok (.nd { Pay.z with k := 11, u := u, s := q } []) s := by
  have fx : ∀ c : UInt8, ∀ m : Nat, 212 ≤ c.toNat → c.toNat < 217 → 2 ^ (c.toNat - 212) = m → q.size = m → rd (d + 1) (c :: (ch u :: (tx q ++ s))) = .ok (.nd { Pay.z with k := 11, u := u, s := q } []) s := fun c m h1 h2 h3 h4 => by
    rw [rd]
    unfold rhd
    rw [if_neg (by omega), if_neg (by omega), if_neg (by omega), if_neg (by omega), if_neg (by omega), if_neg (by omega), if_neg (by omega), if_neg (by omega), if_neg (by omega), if_neg (by omega), if_neg (by omega), if_neg (by omega), if_neg (by omega), if_pos (by omega), h3, ← h4, rext_app q u hu]
  rw [List.append_assoc, List.cons_append]
  unfold extE
  by_cases h1 : q.size = 1
  · rw [if_pos h1, List.singleton_append]; exact fx 212 1 (by decide) (by decide) (by decide) h1
  by_cases h2 : q.size = 2
  · rw [if_neg h1, if_pos h2, List.singleton_append]; exact fx 213 2 (by decide) (by decide) (by decide) h2
  by_cases h3 : q.size = 4
  · rw [if_neg h1, if_neg h2, if_pos h3, List.singleton_append]; exact fx 214 4 (by decide) (by decide) (by decide) h3
  by_cases h4 : q.size = 8
  · rw [if_neg h1, if_neg h2, if_neg h3, if_pos h4, List.singleton_append]; exact fx 215 8 (by decide) (by decide) (by decide) h4
  by_cases h5 : q.size = 16
  · rw [if_neg h1, if_neg h2, if_neg h3, if_neg h4, if_pos h5, List.singleton_append]; exact fx 216 16 (by decide) (by decide) (by decide) h5
  rw [if_neg h1, if_neg h2, if_neg h3, if_neg h4, if_neg h5]
  unfold sizedE
  by_cases c2 : q.size < 256
  · rw [if_pos ⟨c2, by decide⟩, List.cons_append, rd_ch _ _ (by decide), show rhd (rd d) (Int.toNat 199) (beL 1 q.size ++ (ch u :: (tx q ++ s))) = rnum 1 (beL 1 q.size ++ (ch u :: (tx q ++ s))) fun n r => rext n r from rfl, rnum_be, Nat.mod_eq_of_lt (by omega), rext_app q u hu]
  · rw [if_neg (fun h => c2 h.1), if_pos (by omega), List.cons_append, rd_ch _ _ (by decide), show rhd (rd d) 200 (beL 2 q.size ++ (ch u :: (tx q ++ s))) = rnum 2 (beL 2 q.size ++ (ch u :: (tx q ++ s))) fun n r => rext n r from rfl, rnum_be, Nat.mod_eq_of_lt (by omega), rext_app q u hu]
theorem rd_flo (d : Nat) (w : Int) (hw : w = 32 ∨ w = 64) (u : Nat) (hu : u < 18446744073709551616) (hu4 : w = 32 → u < 4294967296) (s : List UInt8) : rd (d + 1) ((if w = 32 then 202 :: beL 4 u else 203 :: beL 8 u) ++ s) = .ok (.nd { Pay.z with k := 4, u := u, w := w } []) s := by
  rcases hw with rfl | rfl
  · rw [if_pos rfl, show (202 : UInt8) = ch 202 from rfl, List.cons_append, rd_ch _ _ (by decide), show rhd (rd d) 202 (beL 4 u ++ s) = rnum 4 (beL 4 u ++ s) fun n r => .ok (.nd (floP 4 n) []) r from rfl, rnum_be, Nat.mod_eq_of_lt (by have := hu4 rfl; omega)]; rfl
  · rw [if_neg (by decide), show (203 : UInt8) = ch 203 from rfl, List.cons_append, rd_ch _ _ (by decide), show rhd (rd d) 203 (beL 8 u ++ s) = rnum 8 (beL 8 u ++ s) fun n r => .ok (.nd (floP 8 n) []) r from rfl, rnum_be, Nat.mod_eq_of_lt (by omega)]; rfl
/-- lists. -/
theorem rd_arr (d k : Nat) (hk : k < 4294967296) (s : List UInt8) : rd (d + 1) (arrE k ++ s) = rnode 7 (rlist (rd d) k s) := by
  unfold arrE
  by_cases h : k < 16
  · rw [if_pos h, List.singleton_append, rd_ch _ _ (by omega)]
    unfold rhd
    rw [if_neg (by omega), if_neg (by omega), if_pos (by omega), show 144 + k - 144 = k by omega]
  rw [if_neg h]
  unfold sizedE
  by_cases c3 : k < 65536
  · rw [if_neg (fun h => absurd h.2 (by decide)), if_pos c3, List.cons_append, rd_ch _ _ (by decide), show rhd (rd d) 220 (beL 2 k ++ s) = rnum 2 (beL 2 k ++ s) fun n r => rnode 7 (rlist (rd d) n r) from rfl, rnum_be, Nat.mod_eq_of_lt (by omega)]
  · rw [if_neg (fun h => absurd h.2 (by decide)), if_neg c3, if_pos hk, List.cons_append, rd_ch _ _ (by decide), show rhd (rd d) 221 (beL 4 k ++ s) = rnum 4 (beL 4 k ++ s) fun n r => rnode 7 (rlist (rd d) n r) from rfl, rnum_be, Nat.mod_eq_of_lt (by omega)]
theorem rd_map (d k : Nat) (hk : k < 4294967296) (he : k % 2 = 0) (s : List UInt8) : rd (d + 1) (mapE k ++ s) = rnode 8 (rlist (rd d) k s) := by
  unfold mapE
  by_cases h : k < 32
  · rw [if_pos h, List.singleton_append, rd_ch _ _ (by omega)]
    unfold rhd
    rw [if_neg (by omega), if_pos (by omega), show 2 * (128 + k / 2 - 128) = k by omega]
  rw [if_neg h]
  unfold sizedE
  by_cases c3 : k / 2 < 65536
  · rw [if_neg (fun h => absurd h.2 (by decide)), if_pos c3, List.cons_append, rd_ch _ _ (by decide), show rhd (rd d) 222 (beL 2 (k / 2) ++ s) = rnum 2 (beL 2 (k / 2) ++ s) fun n r => rnode 8 (rlist (rd d) (2 * n) r) from rfl, rnum_be, Nat.mod_eq_of_lt (by omega), show 2 * (k / 2) = k by omega]
  · rw [if_neg (fun h => absurd h.2 (by decide)), if_neg c3, if_pos (by omega), List.cons_append, rd_ch _ _ (by decide), show rhd (rd d) 223 (beL 4 (k / 2) ++ s) = rnum 4 (beL 4 (k / 2) ++ s) fun n r => rnode 8 (rlist (rd d) (2 * n) r) from rfl, rnum_be, Nat.mod_eq_of_lt (by omega), show 2 * (k / 2) = k by omega]
theorem rlist_enc (f : List UInt8 → RR) (l : List Tr) (s : List UInt8) (h : ∀ t, t ∈ l → ∀ r, f (t.enc ++ r) = .ok t r) : rlist f l.length (encL l ++ s) = .ok l s := by
  induction l with
  | nil => rfl
  | cons t r ih =>
    rw [List.length_cons, rlist, encL, List.append_assoc, h t (List.mem_cons_self ..)]
    simp only
    rw [ih fun u hu => h u (List.mem_cons_of_mem _ hu)]
theorem Tr.okM.leaf {p : Pay} {l : List Tr} (h : (Tr.nd p l).okM) (hk : p.k = 1 ∨ p.k = 2 ∨ p.k = 3 ∨ p.k = 4 ∨ p.k = 5 ∨ p.k = 6 ∨ p.k = 11) : l = [] := by
  have h1 := h.own
  rw [← List.isEmpty_iff]
  rcases hk with hk | hk | hk | hk | hk | hk | hk
  · rw [own_1 hk, Bool.and_eq_true] at h1; exact h1.1
  · rw [own_2 hk, Bool.and_eq_true] at h1; exact h1.1
  · rw [own_3 hk, Bool.and_eq_true] at h1; exact h1.1
  · rw [own_4 hk, Bool.and_eq_true] at h1; exact h1.1
  · rw [own_5 hk, Bool.and_eq_true] at h1; exact h1.1
  · rw [own_6 hk, Bool.and_eq_true] at h1; exact h1.1
  · rw [own_11 hk, Bool.and_eq_true] at h1; exact h1.1
theorem Tr.okM.flo {p : Pay} {l : List Tr} (h : (Tr.nd p l).okM) (hk : p.k = 4) : (p.w = 32 ∨ p.w = 64) ∧ (p.w = 32 → p.u < 4294967296) ∧ p = { Pay.z with k := 4, u := p.u, w := p.w } := by
  have h1 := h.own
  have h2 := h.fits
  unfold ownP at h1
  rw [if_neg (by omega), if_neg (by omega), if_neg (by omega), if_pos hk, Bool.and_eq_true, Bool.and_eq_true, decide_eq_true_eq] at h1
  unfold fitN at h2
  rw [if_pos hk, Bool.and_eq_true, Bool.and_eq_true, Bool.and_eq_true, Bool.or_eq_true] at h2
  have h16 : p.w ≠ 16 := of_decide_eq_true (h2.2.2.1.resolve_left (by decide))
  have h3 := h1.2.2
  have h4 := only_eq h1.2.1
  unfold widE at h3
  refine ⟨?_, fun h32 => ?_, by rw [hk] at h4; exact h4⟩
  · by_cases h64 : p.w = 64
    · exact .inr h64
    · rw [if_neg h64] at h3
      unfold fmOf at h3
      by_cases h32 : p.w = 32
      · exact .inl h32
      · rw [if_neg h16, if_neg h32] at h3
        cases h3
  · rw [if_neg (by omega), h32] at h3
    rw [show fmOf 32 = some f32 from rfl] at h3
    simp only at h3
    split at h3
    · rename_i h5
      have : (2 * f32.C) = 4294967296 := by decide +kernel
      omega
    · cases h3

/-- what is written is read again. -/
theorem rd_enc (t : Tr) : t.okM → t.fine → ∀ d, t.dep ≤ d → ∀ s, rd d (t.enc ++ s) = .ok t s := by
  induction t using Tr.ind with
  | h p l ih =>
    intro h hfin d hd s
    have hk := h.kinds
    have hlen := hfin.len
    have hpay := hfin.pay
    have hown := h.own
    obtain ⟨d, rfl⟩ : ∃ e, d = e + 1 := ⟨d - 1, by rw [Tr.dep] at hd; omega⟩
    rw [Tr.enc]
    by_cases hL : isLst p = true
    · rw [if_pos hL, List.append_assoc]
      have hsub : ∀ t, t ∈ l → ∀ r, rd d (t.enc ++ r) = .ok t r := fun t ht r => by
        refine ih t ht (h.sub ht) (hfin.sub ht) d ?_ r
        have : t.dep ≤ depL l := by
          clear ih h hfin hd hlen hown hL
          induction l with
          | nil => cases ht
          | cons a r ih =>
            rw [depL]
            rcases List.mem_cons.1 ht with rfl | ht
            · exact Nat.le_max_left ..
            · exact Nat.le_trans (ih ht) (Nat.le_max_right ..)
        rw [Tr.dep] at hd
        omega
      unfold isLst at hL
      rw [Bool.or_eq_true, decide_eq_true_eq, decide_eq_true_eq] at hL
      unfold ownP at hown
      rcases hL with h7 | h8
      · rw [if_neg (by omega), if_neg (by omega), if_neg (by omega), if_neg (by omega), if_neg (by omega), if_neg (by omega), if_pos h7] at hown
        have hp := only_eq hown
        unfold hdE
        rw [if_neg (by omega), if_neg (by omega), if_neg (by omega), if_neg (by omega), if_neg (by omega), if_neg (by omega), if_pos h7, rd_arr _ _ (by omega), rlist_enc _ _ _ hsub, rnode]
        rw [h7] at hp
        rw [hp]; rfl
      · rw [if_neg (by omega), if_neg (by omega), if_neg (by omega), if_neg (by omega), if_neg (by omega), if_neg (by omega), if_neg (by omega), if_pos h8, Bool.and_eq_true, Bool.and_eq_true, decide_eq_true_eq] at hown
        have hp := only_eq hown.1
        unfold hdE
        rw [if_neg (by omega), if_neg (by omega), if_neg (by omega), if_neg (by omega), if_neg (by omega), if_neg (by omega), if_neg (by omega), if_pos h8, rd_map _ _ (by omega) hown.2.1, rlist_enc _ _ _ hsub, rnode]
        rw [h8] at hp
        rw [hp]; rfl
    · rw [if_neg hL, List.append_nil]
      unfold isLst at hL
      rw [Bool.or_eq_true, decide_eq_true_eq, decide_eq_true_eq] at hL
      obtain rfl : l = [] := h.leaf (by omega)
      rcases hk with hk | hk | hk | hk | hk | hk | hk | hk | hk
      · have hp : p = kP 1 := by
          unfold ownP at hown
          rw [if_pos hk, Bool.and_eq_true] at hown
          have := only_eq hown.2
          rw [hk] at this; exact this
        unfold hdE
        rw [if_pos hk, List.singleton_append, rd, show rhd (rd d) (192 : UInt8).toNat s = .ok (.nd (kP 1) []) s from rfl, ← hp]
      · have hp : p = { kP 2 with b := p.b } := by
          unfold ownP at hown
          rw [if_neg (by omega), if_pos hk, Bool.and_eq_true] at hown
          have := only_eq hown.2
          rw [hk] at this; exact this
        unfold hdE
        rw [if_neg (by omega), if_pos hk, List.singleton_append, rd]
        rw [hp]
        cases p.b <;> rfl
      · have hp : p = { Pay.z with k := 3, n := p.n, dg := p.dg, ex := p.ex } := by
          unfold ownP at hown
          rw [if_neg (by omega), if_neg (by omega), if_pos hk, Bool.and_eq_true, Bool.and_eq_true] at hown
          have := only_eq hown.2.1
          rw [hk] at this; exact this
        obtain ⟨h1, h2, h3⟩ := h.num hk
        obtain ⟨-, h4, h5⟩ := dec_back h1 h2
        rw [hdE_num _ hk, h2, Bool.true_and, rd_num d p.n (tiN p.d) h4 (fun hn => ⟨h5 hn, h3 hn⟩), decP_of hp h1 h2]
      · obtain ⟨h1, h2, hp⟩ := h.flo hk
        have hu := hpay.2.2.2.1
        unfold hdE
        rw [if_neg (by omega), if_neg (by omega), if_neg (by omega), if_pos hk, rd_flo d p.w h1 p.u hu h2, ← hp]
      · have hp : p = { kP 5 with s := p.s } := by
          unfold ownP at hown
          rw [if_neg (by omega), if_neg (by omega), if_neg (by omega), if_neg (by omega), if_pos hk, Bool.and_eq_true, Bool.and_eq_true] at hown
          have := only_eq hown.2.1
          rw [hk] at this; exact this
        unfold hdE
        rw [if_neg (by omega), if_neg (by omega), if_neg (by omega), if_neg (by omega), if_pos hk, rd_txt d p.s h.size, ← hp]
      · have hp : p = { kP 6 with s := p.s } := by
          unfold ownP at hown
          rw [if_neg (by omega), if_neg (by omega), if_neg (by omega), if_neg (by omega), if_neg (by omega), if_pos hk, Bool.and_eq_true, Bool.and_eq_true] at hown
          have := only_eq hown.2.1
          rw [hk] at this; exact this
        unfold hdE
        rw [if_neg (by omega), if_neg (by omega), if_neg (by omega), if_neg (by omega), if_neg (by omega), if_pos hk, rd_bin d p.s h.size, ← hp]
      · exact absurd (.inl hk) hL
      · exact absurd (.inr hk) hL
      · unfold ownP at hown
        rw [if_neg (by omega), if_neg (by omega), if_neg (by omega), if_neg (by omega), if_neg (by omega), if_neg (by omega), if_neg (by omega), if_neg (by omega), if_neg (by omega), if_neg (by omega), if_pos hk, Bool.and_eq_true, Bool.and_eq_true, Bool.and_eq_true, decide_eq_true_eq] at hown
        have hp : p = { Pay.z with k := 11, u := p.u, s := p.s } := by
          have := only_eq hown.2.1
          rw [hk] at this; exact this
        unfold hdE
        rw [if_neg (by omega), if_neg (by omega), if_neg (by omega), if_neg (by omega), if_neg (by omega), if_neg (by omega), if_neg (by omega), if_neg (by omega), rd_ext d p.s h.size p.u hown.2.2.1, ← hp]
end Go.Proofs.YtpjlepkdiaohiaaGreatDoor

/- Plain: MessagePack: what is put behind an item makes no difference; how deep, how long what is read is. -/
namespace Go.Proofs.YtpjlepkdiaohiaaGreatDoor
open Go Go.RowKit

/-- a reader: it takes at least z bytes, looks at no more than it takes, and asks for more if it has fewer. -/
structure Good (z : Nat) (g : List UInt8 → RR) : Prop where
  sf : ∀ s t r, g s = .ok t r → ∃ q, s = q ++ r ∧ z ≤ q.length
  ex : ∀ q r t, g (q ++ r) = .ok t r → ∀ x, g (q ++ x) = .ok t x
  pf : ∀ q r t, g (q ++ r) = .ok t r → ∀ k, k < q.length → g (q.take k) = .er 0
structure GoodL (z : Nat) (g : List UInt8 → RL) : Prop where
  sf : ∀ s t r, g s = .ok t r → ∃ q, s = q ++ r ∧ z * t.length ≤ q.length
  ex : ∀ q r t, g (q ++ r) = .ok t r → ∀ x, g (q ++ x) = .ok t x
  pf : ∀ q r t, g (q ++ r) = .ok t r → ∀ k, k < q.length → g (q.take k) = .er 0
theorem self_nil {q r : List UInt8} (h : q ++ r = r) : q = [] := by
  have := congrArg List.length h
  rw [List.length_append] at this
  exact List.eq_nil_of_length_eq_zero (by omega)
theorem good_ok (t : Tr) : Good 0 fun s => .ok t s where
  sf s t r h := by injection h with h1 h2; exact ⟨[], by rw [h2]; rfl, Nat.le_refl _⟩
  ex q r t h x := by injection h with h1 h2; rw [h1, self_nil h2]; rfl
  pf q r t h k hk := by injection h with h1 h2; rw [self_nil h2] at hk; simp at hk
theorem good_er (e : Nat) : Good 0 fun _ => .er e where
  sf s t r h := by cases h
  ex q r t h x := by cases h
  pf q r t h k hk := by cases h
theorem good_raw (p : Pay) (n : Nat) : Good 0 (rraw p n) where
  sf s t r h := by
    obtain ⟨h1, -, rfl⟩ := rraw_ok h
    exact ⟨s.take n, (List.take_append_drop n s).symm, Nat.zero_le _⟩
  ex q r t h x := by
    obtain ⟨h1, rfl, h3⟩ := rraw_ok h
    have hq : q.length = n := by
      have := congrArg List.length h3
      rw [List.length_drop] at this
      rw [List.length_append] at h1 this
      omega
    unfold rraw
    rw [if_neg (by rw [List.length_append]; omega), List.take_left' hq, List.drop_left' hq, List.take_left' hq]
  pf q r t h k hk := by
    obtain ⟨h1, rfl, h3⟩ := rraw_ok h
    have hq : q.length = n := by
      have := congrArg List.length h3
      rw [List.length_drop] at this
      rw [List.length_append] at h1 this
      omega
    unfold rraw
    rw [if_pos (by rw [List.length_take]; omega)]
theorem good_num (k : Nat) {g : Nat → List UInt8 → RR} (hg : ∀ v, Good 0 (g v)) : Good 0 (fun s => rnum k s g) where
  sf s t r h := by
    obtain ⟨h1, h2⟩ := rnum_ok h
    obtain ⟨q, hq, -⟩ := (hg _).sf _ _ _ h2
    exact ⟨s.take k ++ q, by rw [List.append_assoc, ← hq, List.take_append_drop], Nat.zero_le _⟩
  ex q r t h x := by
    obtain ⟨h1, h2⟩ := rnum_ok h
    obtain ⟨p, hp, -⟩ := (hg _).sf _ _ _ h2
    have hl : q.length = k + p.length := by
      have := congrArg List.length hp
      rw [List.length_drop, List.length_append] at this
      rw [List.length_append] at h1 this
      omega
    have e1 : (q ++ r).take k = q.take k := List.take_append_of_le_length (by omega)
    have e2 : (q ++ r).drop k = q.drop k ++ r := List.drop_append_of_le_length (by omega)
    rw [e1, e2] at h2
    have := (hg _).ex _ _ _ h2 x
    show rnum k (q ++ x) g = _
    unfold rnum
    rw [if_neg (by rw [List.length_append]; omega), List.take_append_of_le_length (by omega), List.drop_append_of_le_length (by omega), this]
  pf q r t h j hj := by
    obtain ⟨h1, h2⟩ := rnum_ok h
    obtain ⟨p, hp, -⟩ := (hg _).sf _ _ _ h2
    have hl : q.length = k + p.length := by
      have := congrArg List.length hp
      rw [List.length_drop, List.length_append] at this
      rw [List.length_append] at h1 this
      omega
    have e1 : (q ++ r).take k = q.take k := List.take_append_of_le_length (by omega)
    have e2 : (q ++ r).drop k = q.drop k ++ r := List.drop_append_of_le_length (by omega)
    rw [e1, e2] at h2
    show rnum k (q.take j) g = _
    unfold rnum
    by_cases hjk : j < k
    · rw [if_pos (by rw [List.length_take]; omega)]
    · rw [if_neg (by rw [List.length_take]; omega), List.take_take, Nat.min_eq_left (by omega), List.drop_take]
      exact (hg _).pf _ _ _ h2 _ (by rw [List.length_drop]; omega)
theorem rnode_ok {k : Int} {x : RL} {t : Tr} {r : List UInt8} (h : rnode k x = .ok t r) : ∃ l, x = .ok l r ∧ t = .nd (kP k) l := by
  cases x with
  | er e => cases h
  | ok l q => injection h with h1 h2; subst h1 h2; exact ⟨l, rfl, rfl⟩
theorem good_node (k : Int) {g : List UInt8 → RL} (hg : GoodL 1 g) : Good 0 (fun s => rnode k (g s)) where
  sf s t r h := by
    obtain ⟨l, h1, -⟩ := rnode_ok h
    obtain ⟨q, hq, -⟩ := hg.sf _ _ _ h1
    exact ⟨q, hq, Nat.zero_le _⟩
  ex q r t h x := by
    obtain ⟨l, h1, rfl⟩ := rnode_ok h
    show rnode k (g (q ++ x)) = _
    rw [hg.ex _ _ _ h1 x, rnode]
  pf q r t h j hj := by
    obtain ⟨l, h1, rfl⟩ := rnode_ok h
    show rnode k (g (q.take j)) = _
    rw [hg.pf _ _ _ h1 j hj, rnode]
theorem rlist_ok {f : List UInt8 → RR} {n : Nat} {s : List UInt8} {l : List Tr} {r : List UInt8} (h : rlist f (n + 1) s = .ok l r) : ∃ t q m, f s = .ok t q ∧ rlist f n q = .ok m r ∧ l = t :: m := by
  rw [rlist] at h
  cases hf : f s with
  | er e => rw [hf] at h; cases h
  | ok t q =>
    rw [hf] at h
    simp only at h
    cases hm : rlist f n q with
    | er e => rw [hm] at h; cases h
    | ok m p =>
      rw [hm] at h
      injection h with h1 h2
      subst h1 h2
      exact ⟨t, q, m, rfl, hm, rfl⟩
theorem good_list {f : List UInt8 → RR} (hf : Good 1 f) : ∀ n, GoodL 1 (rlist f n)
  | 0 => {
    sf := fun s t r h => by rw [rlist] at h; injection h with h1 h2; subst h1 h2; exact ⟨[], rfl, Nat.le_refl _⟩
    ex := fun q r t h x => by rw [rlist] at h; injection h with h1 h2; rw [rlist, ← h1, self_nil h2]; rfl
    pf := fun q r t h k hk => by rw [rlist] at h; injection h with h1 h2; rw [self_nil h2] at hk; simp at hk }
  | n + 1 => {
    sf := fun s l r h => by
      obtain ⟨t, q, m, h1, h2, rfl⟩ := rlist_ok h
      obtain ⟨a, rfl, ha⟩ := hf.sf _ _ _ h1
      obtain ⟨b, rfl, hb⟩ := (good_list hf n).sf _ _ _ h2
      exact ⟨a ++ b, (List.append_assoc ..).symm, by rw [List.length_append, List.length_cons]; omega⟩
    ex := fun q r l h x => by
      obtain ⟨t, q1, m, h1, h2, rfl⟩ := rlist_ok h
      obtain ⟨a, ha, -⟩ := hf.sf _ _ _ h1
      obtain ⟨b, rfl, -⟩ := (good_list hf n).sf _ _ _ h2
      rw [← List.append_assoc] at ha
      obtain rfl : q = a ++ b := List.append_cancel_right ha
      rw [List.append_assoc] at h1
      rw [List.append_assoc, rlist, hf.ex _ _ _ h1 (b ++ x)]
      simp only
      rw [(good_list hf n).ex _ _ _ h2 x]
    pf := fun q r l h k hk => by
      obtain ⟨t, q1, m, h1, h2, rfl⟩ := rlist_ok h
      obtain ⟨a, ha, -⟩ := hf.sf _ _ _ h1
      obtain ⟨b, rfl, -⟩ := (good_list hf n).sf _ _ _ h2
      rw [← List.append_assoc] at ha
      obtain rfl : q = a ++ b := List.append_cancel_right ha
      rw [List.append_assoc] at h1
      rw [rlist]
      by_cases hka : k < a.length
      · rw [List.take_append_of_le_length (by omega), hf.pf _ _ _ h1 k hka]
      · rw [List.take_append, List.take_of_length_le (by omega : a.length ≤ k), hf.ex _ _ _ h1]
        simp only
        rw [(good_list hf n).pf _ _ _ h2 (k - a.length) (by rw [List.length_append] at hk; omega)] }
theorem good_ext (n : Nat) : Good 0 (rext n) := good_num 1 fun _ => good_raw _ _
theorem good_ite {p : Prop} [Decidable p] {a b : List UInt8 → RR} (h1 : Good 0 a) (h2 : Good 0 b) : Good 0 (fun s => if p then a s else b s) := by
  by_cases h : p
  · rw [show (fun s => if p then a s else b s) = a from funext fun s => if_pos h]; exact h1
  · rw [show (fun s => if p then a s else b s) = b from funext fun s => if_neg h]; exact h2
theorem good_hd {f : List UInt8 → RR} (hf : Good 1 f) (c : Nat) : Good 0 (rhd f c) := by
  unfold rhd
  refine good_ite (good_ok _) ?_
  refine good_ite (good_node _ (good_list hf _)) ?_
  refine good_ite (good_node _ (good_list hf _)) ?_
  refine good_ite (good_raw _ _) ?_
  refine good_ite (good_ok _) ?_
  refine good_ite (good_er _) ?_
  refine good_ite (good_ok _) ?_
  refine good_ite (good_ok _) ?_
  refine good_ite (good_num _ fun _ => good_raw _ _) ?_
  refine good_ite (good_num _ fun _ => good_ext _) ?_
  refine good_ite (good_num _ fun _ => good_ok _) ?_
  refine good_ite (good_num _ fun _ => good_ok _) ?_
  refine good_ite (good_num _ fun _ => good_ok _) ?_
  refine good_ite (good_ext _) ?_
  refine good_ite (good_num _ fun _ => good_raw _ _) ?_
  refine good_ite (good_num _ fun _ => good_node _ (good_list hf _)) ?_
  refine good_ite (good_num _ fun _ => good_node _ (good_list hf _)) ?_
  exact good_ok _
theorem good_rd : ∀ d, Good 1 (rd d)
  | 0 => {
    sf := fun s t r h => by cases s <;> cases h
    ex := fun q r t h x => by cases hq : q ++ r <;> rw [hq] at h <;> cases h
    pf := fun q r t h k hk => by cases hq : q ++ r <;> rw [hq] at h <;> cases h }
  | d + 1 => {
    sf := fun s t r h => by
      cases s with
      | nil => cases h
      | cons c s =>
        rw [rd] at h
        obtain ⟨q, rfl, -⟩ := (good_hd (good_rd d) c.toNat).sf _ _ _ h
        exact ⟨c :: q, rfl, by rw [List.length_cons]; omega⟩
    ex := fun q r t h x => by
      cases q with
      | nil =>
        rw [List.nil_append] at h
        cases r with
        | nil => cases h
        | cons c s =>
          rw [rd] at h
          obtain ⟨q, hq, -⟩ := (good_hd (good_rd d) c.toNat).sf _ _ _ h
          have := congrArg List.length hq
          rw [List.length_append, List.length_cons] at this
          omega
      | cons c q =>
        rw [List.cons_append, rd] at h ⊢
        exact (good_hd (good_rd d) c.toNat).ex _ _ _ h x
    pf := fun q r t h k hk => by
      cases q with
      | nil => simp at hk
      | cons c q =>
        rw [List.cons_append, rd] at h
        cases k with
        | zero => rfl
        | succ k =>
          rw [List.take_succ_cons, rd]
          exact (good_hd (good_rd d) c.toNat).pf _ _ _ h k (by rw [List.length_cons] at hk; omega) }

/-! ### how deep -/
theorem rlist_dep {f g : List UInt8 → RR} {d : Nat} (h : ∀ s t r, f s = .ok t r → g s = if t.dep ≤ d then .ok t r else .er 2) : ∀ n s l r, rlist f n s = .ok l r → rlist g n s = if depL l ≤ d then .ok l r else .er 2
  | 0, s, l, r, e => by
    rw [rlist] at e
    injection e with h1 h2
    subst h1 h2
    rw [rlist, depL, if_pos (Nat.zero_le _)]
  | n + 1, s, l, r, e => by
    obtain ⟨t, q, m, h1, h2, rfl⟩ := rlist_ok e
    rw [rlist, h _ _ _ h1, depL]
    by_cases ht : t.dep ≤ d
    · rw [if_pos ht]
      simp only
      rw [rlist_dep h n _ _ _ h2]
      by_cases hm : depL m ≤ d
      · rw [if_pos hm, if_pos (by omega)]
      · rw [if_neg hm, if_neg (by omega)]
    · rw [if_neg ht, if_neg (by omega)]
theorem leaf_dep (p : Pay) : (Tr.nd p []).dep = 1 := by rw [Tr.dep, depL]
theorem rnum_dep {k : Nat} {s : List UInt8} {g h : Nat → List UInt8 → RR} {t : Tr} {r : List UInt8} {d : Nat} (hgh : ∀ v s t r, g v s = .ok t r → h v s = if t.dep ≤ d then .ok t r else .er 2) (e : rnum k s g = .ok t r) : rnum k s h = if t.dep ≤ d then .ok t r else .er 2 := by
  obtain ⟨h1, h2⟩ := rnum_ok e
  unfold rnum
  rw [if_neg (by omega)]
  exact hgh _ _ _ _ h2
theorem ok_dep {x : RR} {t : Tr} {r : List UInt8} {d : Nat} (e : x = .ok t r) (h : t.dep = 1) (hd : 1 ≤ d) : x = if t.dep ≤ d then .ok t r else .er 2 := by rw [e, if_pos (by omega)]
theorem raw_dep {p : Pay} {n : Nat} {s : List UInt8} {t : Tr} {r : List UInt8} {d : Nat} (hd : 1 ≤ d) (e : rraw p n s = .ok t r) : rraw p n s = if t.dep ≤ d then .ok t r else .er 2 := by
  obtain ⟨-, h, -⟩ := rraw_ok e
  exact ok_dep e (by rw [h, leaf_dep]) hd
theorem ext_dep {n : Nat} {s : List UInt8} {t : Tr} {r : List UInt8} {d : Nat} (hd : 1 ≤ d) (e : rext n s = .ok t r) : rext n s = if t.dep ≤ d then .ok t r else .er 2 :=
  rnum_dep (fun _ _ _ _ h => raw_dep hd h) e
theorem leaf_dep' {p : Pay} {s : List UInt8} {t : Tr} {r : List UInt8} {d : Nat} (hd : 1 ≤ d) (e : RR.ok (.nd p []) s = .ok t r) : RR.ok (.nd p []) s = if t.dep ≤ d then .ok t r else .er 2 := by
  injection e with h1 h2
  subst h1 h2
  rw [leaf_dep, if_pos hd]
theorem node_dep {k : Int} {x y : RL} {t : Tr} {r : List UInt8} {d : Nat} (h : ∀ l r, x = .ok l r → y = if depL l ≤ d then .ok l r else .er 2) (e : rnode k x = .ok t r) : rnode k y = if t.dep ≤ d + 1 then .ok t r else .er 2 := by
  obtain ⟨l, h1, rfl⟩ := rnode_ok e
  rw [h _ _ h1, Tr.dep]
  by_cases hl : depL l ≤ d
  · rw [if_pos hl, if_pos (by omega), rnode]
  · rw [if_neg hl, if_neg (by omega), rnode]
theorem ite_dep {p : Prop} [Decidable p] {x x' y y' z : RR} {t : Tr} {r : List UInt8} (h1 : x = .ok t r → x' = z) (h2 : y = .ok t r → y' = z) (e : (if p then x else y) = .ok t r) : (if p then x' else y') = z := by
  by_cases h : p
  · rw [if_pos h] at e ⊢; exact h1 e
  · rw [if_neg h] at e ⊢; exact h2 e
theorem rhd_dep {f g : List UInt8 → RR} {d : Nat} (h : ∀ s t r, f s = .ok t r → g s = if t.dep ≤ d then .ok t r else .er 2) (c : Nat) (s : List UInt8) (t : Tr) (r : List UInt8) (e : rhd f c s = .ok t r) : rhd g c s = if t.dep ≤ d + 1 then .ok t r else .er 2 := by
  have hd : 1 ≤ d + 1 := by omega
  unfold rhd at e ⊢
  revert e
  refine ite_dep (leaf_dep' hd) ?_
  refine ite_dep (node_dep (fun l r => rlist_dep h _ _ _ _)) ?_
  refine ite_dep (node_dep (fun l r => rlist_dep h _ _ _ _)) ?_
  refine ite_dep (raw_dep hd) ?_
  refine ite_dep (leaf_dep' hd) ?_
  refine ite_dep (fun e => by cases e) ?_
  refine ite_dep (leaf_dep' hd) ?_
  refine ite_dep (leaf_dep' hd) ?_
  refine ite_dep (rnum_dep (fun _ _ _ _ h => raw_dep hd h)) ?_
  refine ite_dep (rnum_dep (fun _ _ _ _ h => ext_dep hd h)) ?_
  refine ite_dep (rnum_dep (fun _ _ _ _ h => leaf_dep' hd h)) ?_
  refine ite_dep (rnum_dep (fun _ _ _ _ h => leaf_dep' hd h)) ?_
  refine ite_dep (rnum_dep (fun _ _ _ _ h => leaf_dep' hd h)) ?_
  refine ite_dep (ext_dep hd) ?_
  refine ite_dep (rnum_dep (fun _ _ _ _ h => raw_dep hd h)) ?_
  refine ite_dep (rnum_dep (fun _ _ _ _ h2 => node_dep (fun l r => rlist_dep h _ _ _ _) h2)) ?_
  refine ite_dep (rnum_dep (fun _ _ _ _ h2 => node_dep (fun l r => rlist_dep h _ _ _ _) h2)) ?_
  exact leaf_dep' hd
theorem dep_pos (t : Tr) : 1 ≤ t.dep := by cases t; rw [Tr.dep]; omega
/-- fewer lists deep, what is not deeper is the same, and what is deeper is too deep. -/
theorem rd_dep : ∀ D d, d ≤ D → ∀ s t r, rd D s = .ok t r → rd d s = if t.dep ≤ d then .ok t r else .er 2
  | 0, d, hd, s, t, r, e => by cases s <;> cases e
  | D + 1, d, hd, s, t, r, e => by
    cases s with
    | nil => cases e
    | cons c s =>
      have hp := dep_pos t
      cases d with
      | zero => rw [if_neg (by omega)]; rfl
      | succ d =>
        rw [rd] at e ⊢
        exact rhd_dep (rd_dep D d (by omega)) _ _ _ _ e
theorem rd_dep_le {D : Nat} {s : List UInt8} {t : Tr} {r : List UInt8} (h : rd D s = .ok t r) : t.dep ≤ D := by
  have := rd_dep D D (Nat.le_refl _) s t r h
  rw [h] at this
  split at this
  · assumption
  · cases this
end Go.Proofs.YtpjlepkdiaohiaaGreatDoor

/- Plain: MessagePack: what is read is a tree of short texts and lists; its plain item is no longer. -/
namespace Go.Proofs.YtpjlepkdiaohiaaGreatDoor
open Go Go.RowKit

theorem cntL_len (l : List Tr) : l.length ≤ cntL l := by
  induction l with
  | nil => exact Nat.le_refl _
  | cons t r ih => rw [List.length_cons, cntL]; have : 1 ≤ t.cnt := by cases t; rw [Tr.cnt]; omega
                   omega
theorem leaf_cnt (p : Pay) : (Tr.nd p []).cnt = 1 := by rw [Tr.cnt, cntL]
theorem leaf_fine' {p : Pay} (h : p.fine) : (Tr.nd p []).fine := .nd _ _ h (Nat.zero_le _) fun t ht => by cases ht
/-- a decimal of a number. -/
theorem decP_d (neg : Bool) (n : Nat) (_hn : n < 18446744073709551616) : (decP neg n).d = (mk neg (Lib.decDigits n) 0).1 := by
  unfold decP Pay.d
  rw [tx_B]
theorem dec_whole (neg : Bool) (n : Nat) (hn : n < 18446744073709551616) : decR (decP neg n).d = true ∧ tiB (decP neg n).d = true ∧ tiN (decP neg n).d = n ∧ (decP neg n).n = (neg && decide (0 < n)) ∧ 0 ≤ (decP neg n).ex ∧ (decP neg n).ex ≤ 20 := by
  obtain ⟨h1, h2, h3, h4, h5⟩ := whole_plain neg n hn _ rfl
  rw [decP_d neg n hn]
  have hG : tiG (mk neg (Lib.decDigits n) 0).1 = true := by unfold tiG; rw [h1, decide_eq_true h2, decide_eq_true h3]; rfl
  have hlen : (Lib.decDigits n).length ≤ 20 := by rw [Lib.decDigits_length]; exact rdig_lt 19 n (by omega)
  have hrt : isRt (Lib.decDigits n) = true := (isRt_iff _).2 ⟨by rw [nv_dec], by omega⟩
  have hT : tx (tiT (mk neg (Lib.decDigits n) 0).1) = Lib.decDigits n := by unfold tiT; rw [tx_B, h4]
  refine ⟨h1, ?_, ?_, h5, h2, h3⟩
  · unfold tiB toB
    rw [hG, hT, hrt, nv_dec, decide_eq_true hn]; rfl
  · unfold tiN toN
    rw [hG, if_pos rfl, hT, hrt, nv_dec, decide_eq_true hn]; rfl
theorem dec_fine (neg : Bool) (n : Nat) (hn : n < 18446744073709551616) : (decP neg n).fine := by
  obtain ⟨h1, h2, h3, h4, h5, h6⟩ := dec_whole neg n hn
  have hb := (decR_bounds h1).1
  have hs : (decP neg n).dg.size ≤ 100 := by
    rw [← len_str]; exact hb
  exact ⟨⟨by show -9223372036854775808 ≤ (3 : Int); decide, by show (3 : Int) ≤ 9223372036854775807; decide⟩, by omega, ⟨by omega, by omega⟩, by show (0 : Nat) < _; decide, ⟨by show -9223372036854775808 ≤ (0 : Int); decide, by show (0 : Int) ≤ 9223372036854775807; decide⟩, by show (0 : Nat) ≤ 10000; decide⟩
theorem int_lt {k n : Nat} (hk : k ≤ 8) (hn : n < 256 ^ k) : n < 18446744073709551616 := by
  have : 256 ^ k ≤ 256 ^ 8 := Nat.pow_le_pow_right (by decide) hk
  omega
theorem int_fine {k n : Nat} (hk : k ≤ 8) (hn : n < 256 ^ k) : (intP k n).fine := by
  have h8 : 256 ^ k ≤ 256 ^ 8 := Nat.pow_le_pow_right (by decide) hk
  have hp : 0 < 256 ^ k := Nat.pow_pos (by decide)
  unfold intP
  split
  · exact dec_fine _ _ (int_lt hk hn)
  · rename_i h
    refine dec_fine _ _ ?_
    have : 1 < 256 ^ k ∨ k = 0 := by
      cases k with
      | zero => exact .inr rfl
      | succ k => exact .inl (Nat.one_lt_pow (by omega) (by decide))
    rcases this with h9 | rfl
    · omega
    · omega
theorem z_fine {p : Pay} (hk : -9223372036854775808 ≤ p.k ∧ p.k ≤ 9223372036854775807) (hu : p.u < 18446744073709551616) (hw : -9223372036854775808 ≤ p.w ∧ p.w ≤ 9223372036854775807) (hs : p.s.size ≤ 10000) (hd : p.dg = ⟨#[]⟩) (hx : p.ex = 0) : p.fine :=
  ⟨hk, by rw [hd]; decide, by rw [hx]; decide, hu, hw, hs⟩

/-- what is known of what is read. -/
def Vld (s : List UInt8) (x : RR) : Prop := ∀ t r, x = .ok t r → t.fine ∧ t.cnt + r.length ≤ s.length + 1
theorem vld_leaf {p : Pay} (h : p.fine) (s : List UInt8) : Vld s (.ok (.nd p []) s) := fun t r e => by
  injection e with h1 h2
  subst h1 h2
  exact ⟨leaf_fine' h, by rw [leaf_cnt]; omega⟩
theorem vld_raw {p : Pay} (h : ∀ q : ByteArray, q.size ≤ 10000 → ({ p with s := q } : Pay).fine) (n : Nat) (s : List UInt8) (hs : s.length ≤ 10000) : Vld s (rraw p n s) := fun t r e => by
  obtain ⟨h1, rfl, rfl⟩ := rraw_ok e
  refine ⟨leaf_fine' (h _ (by rw [size_B, List.length_take]; omega)), ?_⟩
  rw [leaf_cnt, List.length_drop]; omega
theorem vld_num {k : Nat} {g : Nat → List UInt8 → RR} (s : List UInt8) (hs : s.length ≤ 10000) (h : ∀ v, v < 256 ^ k → ∀ q : List UInt8, q.length ≤ 10000 → Vld q (g v q)) : Vld s (rnum k s g) := fun t r e => by
  obtain ⟨h1, h2⟩ := rnum_ok e
  have hv : beN (s.take k) < 256 ^ k := by
    have := beN_lt (s.take k)
    rwa [List.length_take, Nat.min_eq_left h1] at this
  obtain ⟨h3, h4⟩ := h _ hv _ (by rw [List.length_drop]; omega) _ _ h2
  rw [List.length_drop] at h4
  exact ⟨h3, by omega⟩
theorem raw_fine (k : Int) (hk : -9223372036854775808 ≤ k ∧ k ≤ 9223372036854775807) (u : Nat) (hu : u < 18446744073709551616) (q : ByteArray) (hq : q.size ≤ 10000) : ({ Pay.z with k := k, u := u, s := q } : Pay).fine :=
  z_fine hk hu ⟨by show -9223372036854775808 ≤ (0 : Int); decide, by show (0 : Int) ≤ 9223372036854775807; decide⟩ hq rfl rfl
theorem vld_ext (n : Nat) (s : List UInt8) (hs : s.length ≤ 10000) : Vld s (rext n s) :=
  vld_num s hs fun v hv q hq => vld_raw (fun q' hq' => raw_fine 11 (by decide) v (int_lt (k := 1) (by decide) hv) q' hq') n q hq
theorem rlist_vld {f : List UInt8 → RR} (hf : ∀ s t r, s.length ≤ 10000 → f s = .ok t r → t.fine ∧ t.cnt + r.length ≤ s.length) : ∀ n s l r, s.length ≤ 10000 → rlist f n s = .ok l r → (∀ t, t ∈ l → t.fine) ∧ cntL l + r.length ≤ s.length
  | 0, s, l, r, hs, e => by
    rw [rlist] at e
    injection e with h1 h2
    subst h1 h2
    exact ⟨(fun t ht => by cases ht), by rw [cntL]; omega⟩
  | n + 1, s, l, r, hs, e => by
    obtain ⟨t, q, m, h1, h2, rfl⟩ := rlist_ok e
    obtain ⟨h3, h4⟩ := hf _ _ _ hs h1
    obtain ⟨h5, h6⟩ := rlist_vld hf n _ _ _ (by omega) h2
    refine ⟨fun u hu => ?_, by rw [cntL]; omega⟩
    rcases List.mem_cons.1 hu with rfl | hu
    · exact h3
    · exact h5 u hu
theorem vld_node {f : List UInt8 → RR} (hf : ∀ s t r, s.length ≤ 10000 → f s = .ok t r → t.fine ∧ t.cnt + r.length ≤ s.length) (k : Int) (hk : -9223372036854775808 ≤ k ∧ k ≤ 9223372036854775807) (n : Nat) (s : List UInt8) (hs : s.length ≤ 10000) : Vld s (rnode k (rlist f n s)) := fun t r e => by
  obtain ⟨l, h1, rfl⟩ := rnode_ok e
  obtain ⟨h2, h3⟩ := rlist_vld hf n s l r hs h1
  have := cntL_len l
  exact ⟨.nd _ _ (raw_fine k hk 0 (by decide) ⟨#[]⟩ (by decide)) (by omega) h2, by rw [Tr.cnt]; omega⟩
theorem vld_ite {p : Prop} [Decidable p] {s : List UInt8} {x y : RR} (h1 : p → Vld s x) (h2 : ¬ p → Vld s y) : Vld s (if p then x else y) := by
  by_cases h : p
  · rw [if_pos h]; exact h1 h
  · rw [if_neg h]; exact h2 h
theorem two_pow {c a m : Nat} (h : c - a ≤ m) : 2 ^ (c - a) ≤ 2 ^ m := Nat.pow_le_pow_right (by decide) h
theorem vld_hd {f : List UInt8 → RR} (hf : ∀ s t r, s.length ≤ 10000 → f s = .ok t r → t.fine ∧ t.cnt + r.length ≤ s.length) (c : Nat) (hc : c < 256) (s : List UInt8) (hs : s.length ≤ 10000) : Vld s (rhd f c s) := by
  have hb : ∀ b : Bool, ({ kP 2 with b := b } : Pay).fine := fun b => raw_fine 2 (by decide) 0 (by decide) ⟨#[]⟩ (by decide)
  unfold rhd
  refine vld_ite (fun h => vld_leaf (dec_fine _ _ (by omega)) s) fun h1 => ?_
  refine vld_ite (fun h => vld_node hf 8 (by decide) _ s hs) fun h2 => ?_
  refine vld_ite (fun h => vld_node hf 7 (by decide) _ s hs) fun h3 => ?_
  refine vld_ite (fun h => vld_raw (fun q hq => raw_fine 5 (by decide) 0 (by decide) q hq) _ s hs) fun h4 => ?_
  refine vld_ite (fun h => vld_leaf (raw_fine 1 (by decide) 0 (by decide) ⟨#[]⟩ (by decide)) s) fun h5 => ?_
  refine vld_ite (fun h => fun t r e => by cases e) fun h6 => ?_
  refine vld_ite (fun h => vld_leaf (hb false) s) fun h7 => ?_
  refine vld_ite (fun h => vld_leaf (hb true) s) fun h8 => ?_
  refine vld_ite (fun h => vld_num s hs fun v hv q hq => vld_raw (fun q hq => raw_fine 6 (by decide) 0 (by decide) q hq) _ q hq) fun h9 => ?_
  refine vld_ite (fun h => vld_num s hs fun v hv q hq => vld_ext _ q hq) fun h10 => ?_
  refine vld_ite (fun h => vld_num s hs fun v hv q hq => vld_leaf (z_fine (by show -9223372036854775808 ≤ (4 : Int) ∧ (4 : Int) ≤ 9223372036854775807; decide) (int_lt (k := 2 ^ (c - 200)) (by have := two_pow (a := 200) (c := c) (m := 3) (by omega); omega) hv) ?_ (by show (0 : Nat) ≤ 10000; decide) rfl rfl) q) fun h11 => ?_
  · have := two_pow (a := 200) (c := c) (m := 3) (by omega)
    show -9223372036854775808 ≤ (((8 * 2 ^ (c - 200) : Nat)) : Int) ∧ (((8 * 2 ^ (c - 200) : Nat)) : Int) ≤ 9223372036854775807
    omega
  refine vld_ite (fun h => vld_num s hs fun v hv q hq => vld_leaf (dec_fine _ _ (int_lt (by have := two_pow (a := 204) (c := c) (m := 3) (by omega); omega) hv)) q) fun h12 => ?_
  refine vld_ite (fun h => vld_num s hs fun v hv q hq => vld_leaf (int_fine (by have := two_pow (a := 208) (c := c) (m := 3) (by omega); omega) hv) q) fun h13 => ?_
  refine vld_ite (fun h => vld_ext _ s hs) fun h14 => ?_
  refine vld_ite (fun h => vld_num s hs fun v hv q hq => vld_raw (fun q hq => raw_fine 5 (by decide) 0 (by decide) q hq) _ q hq) fun h15 => ?_
  refine vld_ite (fun h => vld_num s hs fun v hv q hq => vld_node hf 7 (by decide) _ q hq) fun h16 => ?_
  refine vld_ite (fun h => vld_num s hs fun v hv q hq => vld_node hf 8 (by decide) _ q hq) fun h17 => ?_
  exact vld_leaf (int_fine (by decide) (by omega)) s
theorem rd_fine : ∀ d s t r, s.length ≤ 10000 → rd d s = .ok t r → t.fine ∧ t.cnt + r.length ≤ s.length
  | 0, s, t, r, hs, e => by cases s <;> cases e
  | d + 1, s, t, r, hs, e => by
    cases s with
    | nil => cases e
    | cons c s =>
      rw [rd] at e
      rw [List.length_cons] at hs ⊢
      exact vld_hd (rd_fine d) c.toNat c.toNat_lt s (by omega) t r e

/-! ### how long the plain item of what is read is -/
theorem sizedE_le {n k : Nat} {a1 : Int} {a2 a4 a8 : Nat} (hk : k = 1 ∨ k = 2 ∨ k = 4 ∨ k = 8) (hn : n < 256 ^ k) (h1 : k = 1 → 0 ≤ a1) : (sizedE n a1 a2 a4 a8).length ≤ 1 + k := by
  unfold sizedE
  rcases hk with rfl | rfl | rfl | rfl
  · rw [if_pos ⟨by omega, h1 rfl⟩, List.length_cons, beL_len]; omega
  · by_cases c : n < 256 ∧ 0 ≤ a1
    · rw [if_pos c, List.length_cons, beL_len]; omega
    · rw [if_neg c, if_pos (by omega), List.length_cons, beL_len]; omega
  · by_cases c : n < 256 ∧ 0 ≤ a1
    · rw [if_pos c, List.length_cons, beL_len]; omega
    by_cases c2 : n < 65536
    · rw [if_neg c, if_pos c2, List.length_cons, beL_len]; omega
    · rw [if_neg c, if_neg c2, if_pos (by omega), List.length_cons, beL_len]; omega
  · have := (sizedE_len n a1 a2 a4 a8).2
    unfold sizedE at this
    omega
theorem numE_le {n k : Nat} (hk : k = 1 ∨ k = 2 ∨ k = 4 ∨ k = 8) (hn : n < 256 ^ k) : (numE false n).length ≤ 1 + k := by
  unfold numE
  rw [if_neg (by decide)]
  split
  · rw [List.length_singleton]; omega
  · exact sizedE_le hk hn fun _ => by decide
theorem minusE_le {n k : Nat} (hk : k = 1 ∨ k = 2 ∨ k = 4 ∨ k = 8) (hn : n ≤ 256 ^ k / 2) : (minusE n).length ≤ 1 + k := by
  have hz : 256 ^ k / 2 = 128 ∧ k = 1 ∨ 256 ^ k / 2 = 32768 ∧ k = 2 ∨ 256 ^ k / 2 = 2147483648 ∧ k = 4 ∨ k = 8 := by
    rcases hk with rfl | rfl | rfl | rfl
    · exact .inl ⟨by decide, rfl⟩
    · exact .inr (.inl ⟨by decide, rfl⟩)
    · exact .inr (.inr (.inl ⟨by decide, rfl⟩))
    · exact .inr (.inr (.inr rfl))
  unfold minusE
  by_cases c1 : n ≤ 32
  · rw [if_pos c1, List.length_singleton]; omega
  by_cases c2 : n ≤ 128
  · rw [if_neg c1, if_pos c2, List.length_cons, beL_len]; omega
  by_cases c3 : n ≤ 32768
  · rw [if_neg c1, if_neg c2, if_pos c3, List.length_cons, beL_len]; omega
  by_cases c4 : n ≤ 2147483648
  · rw [if_neg c1, if_neg c2, if_neg c3, if_pos c4, List.length_cons, beL_len]; omega
  · rw [if_neg c1, if_neg c2, if_neg c3, if_neg c4, List.length_cons, beL_len]; omega
theorem decP_len (neg : Bool) (n : Nat) (hn : n < 18446744073709551616) : (hdE (decP neg n) 0).length = (numE (neg && decide (0 < n)) n).length := by
  obtain ⟨h1, h2, h3, h4, h5, h6⟩ := dec_whole neg n hn
  rw [hdE_num 0 rfl, h2, h3, h4, Bool.true_and]
theorem intP_le {n k : Nat} (hk : k = 1 ∨ k = 2 ∨ k = 4 ∨ k = 8) (hn : n < 256 ^ k) : (hdE (intP k n) 0).length ≤ 1 + k := by
  have h8 : k ≤ 8 := by omega
  have hlt := int_lt h8 hn
  unfold intP
  split
  · rw [decP_len _ _ hlt, Bool.false_and]; exact numE_le hk hn
  · have hp : 2 ≤ 256 ^ k := by rcases hk with rfl | rfl | rfl | rfl <;> decide
    have he : 256 ^ k % 2 = 0 := by rcases hk with rfl | rfl | rfl | rfl <;> decide
    have hlt2 : 256 ^ k - n < 18446744073709551616 := by
      have : 256 ^ k ≤ 256 ^ 8 := Nat.pow_le_pow_right (by decide) h8
      omega
    rw [decP_len _ _ hlt2, decide_eq_true (by omega), Bool.and_true]
    show (minusE _).length ≤ _
    exact minusE_le hk (by omega)
def Shr (s : List UInt8) (x : RR) : Prop := ∀ t r, x = .ok t r → t.okM → t.enc.length + r.length ≤ s.length + 1
theorem leaf_enc (p : Pay) : (Tr.nd p []).enc = hdE p 0 := by
  rw [Tr.enc, List.length_nil]
  split
  · rw [encL, List.append_nil]
  · rw [List.append_nil]
theorem shr_leaf {p : Pay} {s : List UInt8} (h : (hdE p 0).length ≤ 1) : Shr s (.ok (.nd p []) s) := fun t r e _ => by
  injection e with h1 h2
  subst h1 h2
  rw [leaf_enc]; omega
theorem shr_num {k : Nat} {g : Nat → List UInt8 → RR} {s : List UInt8} (h : ∀ v, v < 256 ^ k → ∀ q t r, g v q = .ok t r → t.okM → t.enc.length + r.length ≤ q.length + (1 + k)) : Shr s (rnum k s g) := fun t r e ho => by
  obtain ⟨h1, h2⟩ := rnum_ok e
  have hv : beN (s.take k) < 256 ^ k := by
    have := beN_lt (s.take k)
    rwa [List.length_take, Nat.min_eq_left h1] at this
  have := h _ hv _ _ _ h2 ho
  rw [List.length_drop] at this
  omega
theorem raw_enc {p : Pay} {n z : Nat} {s : List UInt8} (h : ∀ q : ByteArray, q.size = n → (hdE { p with s := q } 0).length ≤ z + n) (t : Tr) (r : List UInt8) (e : rraw p n s = .ok t r) : t.enc.length + r.length ≤ s.length + z := by
  obtain ⟨h1, rfl, rfl⟩ := rraw_ok e
  have := h (B (s.take n)) (by rw [size_B, List.length_take]; omega)
  rw [leaf_enc, List.length_drop]; omega
theorem hdE_5 (q : ByteArray) : (hdE { kP 5 with s := q } 0).length = (txtE q.size).length + q.size := by
  rw [show hdE { kP 5 with s := q } 0 = txtE q.size ++ tx q from rfl, List.length_append]
  exact congrArg _ (len_str q)
theorem hdE_6 (q : ByteArray) : (hdE { kP 6 with s := q } 0).length = (binE q.size).length + q.size := by
  rw [show hdE { kP 6 with s := q } 0 = binE q.size ++ tx q from rfl, List.length_append]
  exact congrArg _ (len_str q)
theorem hdE_11 (u : Nat) (q : ByteArray) : (hdE { Pay.z with k := 11, u := u, s := q } 0).length = (extE q.size).length + (q.size + 1) := by
  rw [show hdE { Pay.z with k := 11, u := u, s := q } 0 = extE q.size ++ (ch u :: tx q) from rfl, List.length_append, List.length_cons]
  exact congrArg (fun x => _ + (x + 1)) (len_str q)
theorem extE_le {n k : Nat} (hk : k = 1 ∨ k = 2 ∨ k = 4 ∨ k = 8) (hn : n < 256 ^ k) : (extE n).length ≤ 1 + k := by
  unfold extE
  split
  · rw [List.length_singleton]; omega
  split
  · rw [List.length_singleton]; omega
  split
  · rw [List.length_singleton]; omega
  split
  · rw [List.length_singleton]; omega
  split
  · rw [List.length_singleton]; omega
  · exact sizedE_le hk hn fun _ => by decide
theorem ext_enc {n z : Nat} {s : List UInt8} (h : (extE n).length ≤ z) (t : Tr) (r : List UInt8) (e : rext n s = .ok t r) : t.enc.length + r.length ≤ s.length + z := by
  obtain ⟨h1, h2⟩ := rnum_ok e
  have := raw_enc (z := z + 1) (fun q hq => by rw [hdE_11, hq]; omega) t r h2
  rw [List.length_drop] at this
  omega
theorem txtE_le {n k : Nat} (hk : k = 1 ∨ k = 2 ∨ k = 4 ∨ k = 8) (hn : n < 256 ^ k) : (txtE n).length ≤ 1 + k := by
  unfold txtE
  split
  · rw [List.length_singleton]; omega
  · exact sizedE_le hk hn fun _ => by decide
theorem rlist_enc_le {f : List UInt8 → RR} (hf : ∀ s t r, f s = .ok t r → t.okM → t.enc.length + r.length ≤ s.length) : ∀ n s l r, rlist f n s = .ok l r → (∀ t, t ∈ l → t.okM) → (encL l).length + r.length ≤ s.length ∧ l.length = n
  | 0, s, l, r, e, _ => by
    rw [rlist] at e
    injection e with h1 h2
    subst h1 h2
    exact ⟨by rw [encL, List.length_nil]; omega, rfl⟩
  | n + 1, s, l, r, e, ho => by
    obtain ⟨t, q, m, h1, h2, rfl⟩ := rlist_ok e
    have h3 := hf _ _ _ h1 (ho t (List.mem_cons_self ..))
    obtain ⟨h4, h5⟩ := rlist_enc_le hf n _ _ _ h2 fun u hu => ho u (List.mem_cons_of_mem _ hu)
    exact ⟨by rw [encL, List.length_append]; omega, by rw [List.length_cons, h5]⟩
theorem node_enc {f : List UInt8 → RR} (hf : ∀ s t r, f s = .ok t r → t.okM → t.enc.length + r.length ≤ s.length) {k : Int} (hk : k = 7 ∨ k = 8) {n z : Nat} {s : List UInt8} (hz : (hdE (kP k) n).length ≤ z) (t : Tr) (r : List UInt8) (e : rnode k (rlist f n s) = .ok t r) (ho : t.okM) : t.enc.length + r.length ≤ s.length + z := by
  obtain ⟨l, h1, rfl⟩ := rnode_ok e
  obtain ⟨h2, h3⟩ := rlist_enc_le hf n s l r h1 fun u hu => ho.sub hu
  rw [Tr.enc, List.length_append, h3, if_pos (by unfold isLst; rcases hk with rfl | rfl <;> rfl)]
  omega
theorem hdE_7 (k : Nat) : hdE (kP 7) k = arrE k := rfl
theorem hdE_8 (k : Nat) : hdE (kP 8) k = mapE k := rfl
theorem arrE_le {n k : Nat} (hk : k = 2 ∨ k = 4) (hn : n < 256 ^ k) : (hdE (kP 7) n).length ≤ 1 + k := by
  rw [show hdE (kP 7) n = arrE n from rfl]
  unfold arrE
  split
  · rw [List.length_singleton]; omega
  · exact sizedE_le (by omega) hn fun h => by omega
theorem mapE_le {n k : Nat} (hk : k = 2 ∨ k = 4) (hn : n < 256 ^ k) : (hdE (kP 8) (2 * n)).length ≤ 1 + k := by
  rw [show hdE (kP 8) (2 * n) = mapE (2 * n) from rfl]
  unfold mapE
  split
  · rw [List.length_singleton]; omega
  · exact sizedE_le (by omega) (by omega) fun h => by omega
theorem shr_ite {p : Prop} [Decidable p] {s : List UInt8} {x y : RR} (h1 : p → Shr s x) (h2 : ¬ p → Shr s y) : Shr s (if p then x else y) := by
  by_cases h : p
  · rw [if_pos h]; exact h1 h
  · rw [if_neg h]; exact h2 h
theorem pw {c a m : Nat} (h1 : a ≤ c) (h2 : c ≤ a + m) (hm : m ≤ 3) : 2 ^ (c - a) = 1 ∨ 2 ^ (c - a) = 2 ∨ 2 ^ (c - a) = 4 ∨ 2 ^ (c - a) = 8 := by
  rcases (show c - a = 0 ∨ c - a = 1 ∨ c - a = 2 ∨ c - a = 3 by omega) with h | h | h | h <;> rw [h] <;> decide
theorem shr_hd {f : List UInt8 → RR} (hf : ∀ s t r, f s = .ok t r → t.okM → t.enc.length + r.length ≤ s.length) (c : Nat) (hc : c < 256) (s : List UInt8) : Shr s (rhd f c s) := by
  unfold rhd
  refine shr_ite (fun h => shr_leaf ?_) fun h1 => ?_
  · rw [show plusP c = decP false c from rfl, decP_len _ _ (by omega), Bool.false_and]
    unfold numE
    rw [if_neg (by decide), if_pos h]; exact Nat.le_refl _
  refine shr_ite (fun h t r e ho => node_enc hf (.inr rfl) ?_ t r e ho) fun h2 => ?_
  · rw [hdE_8]
    unfold mapE
    rw [if_pos (by omega)]; exact Nat.le_refl _
  refine shr_ite (fun h t r e ho => node_enc hf (.inl rfl) ?_ t r e ho) fun h3 => ?_
  · rw [hdE_7]
    unfold arrE
    rw [if_pos (by omega)]; exact Nat.le_refl _
  refine shr_ite (fun h t r e _ => raw_enc (fun q hq => ?_) t r e) fun h4 => ?_
  · rw [hdE_5, hq]
    unfold txtE
    rw [if_pos (by omega), List.length_singleton]; omega
  refine shr_ite (fun h => shr_leaf (by decide)) fun h5 => ?_
  refine shr_ite (fun h t r e _ => by cases e) fun h6 => ?_
  refine shr_ite (fun h => shr_leaf (by decide)) fun h7 => ?_
  refine shr_ite (fun h => shr_leaf (by decide)) fun h8 => ?_
  refine shr_ite (fun h => shr_num fun v hv q t r e _ => raw_enc (fun q hq => ?_) t r e) fun h9 => ?_
  · rw [hdE_6, hq]
    have := sizedE_le (a1 := 196) (a2 := 197) (a4 := 198) (a8 := 0) (pw (m := 2) (c := c) (a := 196) (by omega) (by omega) (by decide)) hv (fun _ => by decide)
    unfold binE; omega
  refine shr_ite (fun h => shr_num fun v hv q t r e _ => ext_enc (extE_le (pw (m := 2) (by omega) (by omega) (by decide)) hv) t r e) fun h10 => ?_
  refine shr_ite (fun h => shr_num fun v hv q t r e _ => ?_) fun h11 => ?_
  · injection e with e1 e2
    subst e1 e2
    rw [leaf_enc]
    rcases (show c = 202 ∨ c = 203 by omega) with rfl | rfl
    · rw [show hdE (floP (2 ^ (202 - 200)) v) 0 = 202 :: beL 4 v from rfl, List.length_cons, beL_len]; omega
    · rw [show hdE (floP (2 ^ (203 - 200)) v) 0 = 203 :: beL 8 v from rfl, List.length_cons, beL_len]; omega
  refine shr_ite (fun h => shr_num fun v hv q t r e _ => ?_) fun h12 => ?_
  · injection e with e1 e2
    subst e1 e2
    have hp := pw (m := 3) (c := c) (a := 204) (by omega) (by omega) (by decide)
    rw [leaf_enc, show plusP v = decP false v from rfl, decP_len _ _ (int_lt (by omega) hv), Bool.false_and]
    have := numE_le hp hv
    omega
  refine shr_ite (fun h => shr_num fun v hv q t r e _ => ?_) fun h13 => ?_
  · injection e with e1 e2
    subst e1 e2
    have hp := pw (m := 3) (c := c) (a := 208) (by omega) (by omega) (by decide)
    rw [leaf_enc]
    have := intP_le hp hv
    omega
  refine shr_ite (fun h t r e _ => ext_enc ?_ t r e) fun h14 => ?_
  · rcases (show c = 212 ∨ c = 213 ∨ c = 214 ∨ c = 215 ∨ c = 216 by omega) with rfl | rfl | rfl | rfl | rfl <;> decide
  refine shr_ite (fun h => shr_num fun v hv q t r e _ => raw_enc (fun q hq => ?_) t r e) fun h15 => ?_
  · rw [hdE_5, hq]
    have := txtE_le (pw (m := 2) (c := c) (a := 217) (by omega) (by omega) (by decide)) hv
    omega
  refine shr_ite (fun h => shr_num fun v hv q t r e ho => node_enc hf (.inl rfl) (arrE_le ?_ hv) t r e ho) fun h16 => ?_
  · rcases (show c = 220 ∨ c = 221 by omega) with rfl | rfl <;> decide
  refine shr_ite (fun h => shr_num fun v hv q t r e ho => node_enc hf (.inr rfl) (mapE_le ?_ hv) t r e ho) fun h17 => ?_
  · rcases (show c = 222 ∨ c = 223 by omega) with rfl | rfl <;> decide
  refine shr_leaf ?_
  have hn : intP 1 c = decP true (256 - c) := by unfold intP; rw [if_neg (by omega)]
  rw [hn, decP_len _ _ (by omega), decide_eq_true (by omega), Bool.and_true]
  show (minusE _).length ≤ _
  unfold minusE
  rw [if_pos (by omega)]; exact Nat.le_refl _
theorem rd_enc_le : ∀ d s t r, rd d s = .ok t r → t.okM → t.enc.length + r.length ≤ s.length
  | 0, s, t, r, e, _ => by cases s <;> cases e
  | d + 1, s, t, r, e, ho => by
    cases s with
    | nil => cases e
    | cons c s =>
      rw [rd] at e
      rw [List.length_cons]
      exact shr_hd (rd_enc_le d) c.toNat c.toNat_lt s t r e ho
end Go.Proofs.YtpjlepkdiaohiaaGreatDoor

/- Plain: which first bytes are read by which function of the reader. -/
namespace Go.Proofs.YtpjlepkdiaohiaaGreatDoor
open Go Go.RowKit

/-- what a function of the reader answers (0 plus, 1 pairs, 2 array, 3 text, 4 bytes, 5 ext, 6 float, 7 signed), at a number of so many bytes. -/
def rdK (f : List UInt8 → RR) (g n z : Nat) (s : List UInt8) : RR :=
  match g with
  | 0 => .ok (.nd (plusP n) []) s
  | 1 => rnode 8 (rlist f (2 * n) s)
  | 2 => rnode 7 (rlist f n s)
  | 3 => rraw (kP 5) n s
  | 4 => rraw (kP 6) n s
  | 5 => rext n s
  | 6 => .ok (.nd (floP z n) []) s
  | _ => .ok (.nd (intP z n) []) s
/-- a row: from, count, sizes, function. -/
structure StR where
  fr : Nat
  ct : Nat
  z0 : Nat
  z1 : Nat
  z2 : Nat
  z3 : Nat
  g : Nat
def StR.z (x : StR) (k : Nat) : Nat := if k = 0 then x.z0 else if k = 1 then x.z1 else if k = 2 then x.z2 else x.z3
def stL : List StR := [⟨0, 128, 0, 0, 0, 0, 0⟩, ⟨128, 16, 0, 0, 0, 0, 1⟩, ⟨144, 16, 0, 0, 0, 0, 2⟩, ⟨160, 32, 0, 0, 0, 0, 3⟩, ⟨196, 3, 1, 2, 4, 0, 4⟩, ⟨199, 3, 1, 2, 4, 0, 5⟩, ⟨202, 2, 4, 8, 0, 0, 6⟩, ⟨204, 4, 1, 2, 4, 8, 0⟩, ⟨208, 4, 1, 2, 4, 8, 7⟩, ⟨217, 3, 1, 2, 4, 0, 3⟩, ⟨220, 2, 2, 4, 0, 0, 2⟩, ⟨222, 2, 2, 4, 0, 0, 1⟩, ⟨256, 0, 0, 0, 0, 0, 0⟩]
def st (i : Nat) : StR := (stL[i]?).getD ⟨0, 0, 0, 0, 0, 0, 0⟩
/-- the words: the first bytes that no row of numbers has. -/
def wdB (c : Nat) : Bool := decide (192 ≤ c ∧ c ≤ 195) || decide (212 ≤ c ∧ c ≤ 216)
def wdR (c : Nat) (s : List UInt8) : RR :=
  if c = 192 then .ok (.nd (kP 1) []) s else if c = 193 then .er 1 else if c = 194 then .ok (.nd (kP 2) []) s else if c = 195 then .ok (.nd { kP 2 with b := true } []) s else rext (2 ^ (c - 212)) s
theorem wd_cases {c : Nat} (h : wdB c = true) : c = 192 ∨ c = 193 ∨ c = 194 ∨ c = 195 ∨ c = 212 ∨ c = 213 ∨ c = 214 ∨ c = 215 ∨ c = 216 := by
  unfold wdB at h
  simp only [Bool.or_eq_true, decide_eq_true_eq] at h
  omega
end Go.Proofs.YtpjlepkdiaohiaaGreatDoor

