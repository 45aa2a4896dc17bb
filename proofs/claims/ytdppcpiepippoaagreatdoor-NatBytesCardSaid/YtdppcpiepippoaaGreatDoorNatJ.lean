/- Package nat: Compare, Add, Mul: of texts. -/
import Derived.Test.YtdppcpiepippoaaGreatDoorNatI
import Derived.Deep.RegionWith
import Derived.Deep.QuietTactic
import Derived.BigQuiet
import Derived.Deep.RegionHeld3
namespace Go.Proofs.YtdppcpiepippoaaGreatDoor
open Go.RowKit Go.Shelf
attribute [local go_sem] Oper.semAt_some

/-- a text of letters. -/
def st (l : List UInt8) : Value := .string ⟨l.toArray⟩

theorem lt_of_dig {n d k : Nat} (h1 : n < 10 ^ d) (h2 : d ≤ 9 * k) : n < 1000000000 ^ k := by
  rw [show (1000000000 : Nat) = 10 ^ 9 from rfl, ← Nat.pow_mul]
  exact Nat.lt_of_lt_of_le h1 (Nat.pow_le_pow_right (by decide) h2)

theorem rt_lim {s : List UInt8} (h : isRt s = true) : (lim (nv s)).length ≤ 45 := by
  have h1 := (isRt_iff _).1 h
  have h2 : nv s < 10 ^ s.length := nv_lt (fun c hc => by rw [h1.1] at hc; exact dec_isDg _ c hc)
  exact lim_len.2 (lt_of_dig h2 (by omega))

theorem lim_add_len {a b : Nat} (ha : (lim a).length ≤ 45) (hb : (lim b).length ≤ 45) : (lim (a + b)).length ≤ 46 := by
  have h1 := lim_len.1 ha
  have h2 := lim_len.1 hb
  refine lim_len.2 ?_
  have : (1000000000 : Nat) ^ 46 = 1000000000 ^ 45 * 1000000000 := Nat.pow_succ ..
  rw [this]
  generalize (1000000000 : Nat) ^ 45 = P at *
  omega

theorem lim_mul_len {a b k l : Nat} (ha : (lim a).length ≤ k) (hb : (lim b).length ≤ l) : (lim (a * b)).length ≤ k + l := by
  have h1 := lim_len.1 ha
  have h2 := lim_len.1 hb
  refine lim_len.2 ?_
  rw [Nat.pow_add]
  exact Nat.mul_lt_mul_of_lt_of_le h1 (Nat.le_of_lt h2) (Nat.pow_pos (by omega))

theorem cells_cell {W : World} {g j : Nat} {t : TypeId} {fz : Nat × Nat} {cur : Array Value} {v : Value} (h : W.heap[g]? = some (.cells cur t fz)) (hj : cur.toList[j]? = some v) : W.cell? ⟨g, j, none⟩ = some v := by
  rw [Array.getElem?_toList] at hj
  simp [World.cell?, h, hj]

theorem take_get {l vs : List Value} {n j : Nat} {v : Value} (h : l.take n = vs) (hj : vs[j]? = some v) : l[j]? = some v := by
  subst h
  rw [List.getElem?_take] at hj
  split at hj
  · exact hj
  · cases hj

/-- of, of two texts. -/
theorem of_two (s t : ByteArray) (hs : s.size ≤ 140737488355328) (ht : t.size ≤ 140737488355328) (w : World) (hT : Tabs w) :
    Calls Tryz.prog 25 #[.slice (some ⟨w.heap.size, 0, none⟩) 2 2] (w.alloc (.cells #[.string s, .string t] 9)) fun e w' => Below w.heap.size w w' ∧
      (((isRt (tx s) && isRt (tx t)) = true ∧ ∃ g cap v0 v1, e = .returned (.tuple #[.slice (some ⟨g, 0, none⟩) 2 cap, .int .i64 0]) ∧ w'.cell? ⟨g, 0, none⟩ = some v0 ∧ w'.cell? ⟨g, 1, none⟩ = some v1 ∧ Lim w' v0 (lim (nv (tx s))) ∧ Lim w' v1 (lim (nv (tx t)))) ∨
        ((isRt (tx s) && isRt (tx t)) = false ∧ e = .returned (.tuple #[.slice none 0 0, .int .i64 10]))) := by
  refine (of_calls w.heap.size 0 2 [s, t] (by simp) (fun x hx => ?_) _ (hT.alloc _) (by simp) (fun j x hj => ?_)).mono ?_
  · rcases List.mem_cons.1 hx with rfl | hx
    · exact hs
    · rw [List.mem_singleton.1 hx]; exact ht
  · match j, hj with
    | 0, hj => cases hj; exact (Cls.new w _ [.string s, .string t]).cell 0 rfl
    | 1, hj => cases hj; exact (Cls.new w _ [.string s, .string t]).cell 1 rfl
    | j + 2, hj => simp at hj
  · rintro e w' ⟨hb, h⟩
    refine ⟨(below_alloc w _).trans (hb.mono (by simp)), ?_⟩
    rcases h with ⟨hr, ov, vs, he, ho, hl⟩ | ⟨⟨x, hx, hr⟩, he⟩
    · refine .inl ⟨by rw [show isRt (tx s) = true from hr s (by simp), show isRt (tx t) = true from hr t (by simp)]; rfl, ?_⟩
      obtain ⟨v0, e0, l0⟩ := hl 0 s rfl
      obtain ⟨v1, e1, l1⟩ := hl 1 t rfl
      rcases ho.2 with ⟨_, h2⟩ | ⟨g, cap, cur, hov, h1, h2, h3, h4, h5, h6⟩
      · simp at h2
      · refine ⟨g, cap, v0, v1, by rw [he, hov]; rfl, ?_, ?_, l0, l1⟩
        · exact cells_cell h2 (take_get h6 e0)
        · exact cells_cell h2 (take_get h6 e1)
    · refine .inr ⟨?_, he⟩
      rcases List.mem_cons.1 hx with rfl | hx
      · rw [show isRt (tx x) = false from hr]; rfl
      · rw [List.mem_singleton.1 hx] at hr; rw [show isRt (tx t) = false from hr]; exact Bool.and_false _

/-- of, of one text. -/
theorem of_one (s : ByteArray) (hs : s.size ≤ 140737488355328) (w : World) (hT : Tabs w) :
    Calls Tryz.prog 25 #[.slice (some ⟨w.heap.size, 0, none⟩) 1 1] (w.alloc (.cells #[.string s] 9)) fun e w' => Below w.heap.size w w' ∧
      ((isRt (tx s) = true ∧ ∃ g cap v0, e = .returned (.tuple #[.slice (some ⟨g, 0, none⟩) 1 cap, .int .i64 0]) ∧ w'.cell? ⟨g, 0, none⟩ = some v0 ∧ Lim w' v0 (lim (nv (tx s)))) ∨
        (isRt (tx s) = false ∧ e = .returned (.tuple #[.slice none 0 0, .int .i64 10]))) := by
  refine (of_calls w.heap.size 0 1 [s] (by simp) (fun x hx => ?_) _ (hT.alloc _) (by simp) (fun j x hj => ?_)).mono ?_
  · rw [List.mem_singleton.1 hx]; exact hs
  · match j, hj with
    | 0, hj => cases hj; exact (Cls.new w _ [.string s]).cell 0 rfl
    | j + 1, hj => simp at hj
  · rintro e w' ⟨hb, h⟩
    refine ⟨(below_alloc w _).trans (hb.mono (by simp)), ?_⟩
    rcases h with ⟨hr, ov, vs, he, ho, hl⟩ | ⟨⟨x, hx, hr⟩, he⟩
    · refine .inl ⟨hr s (by simp), ?_⟩
      obtain ⟨v0, e0, l0⟩ := hl 0 s rfl
      rcases ho.2 with ⟨_, h2⟩ | ⟨g, cap, cur, hov, h1, h2, h3, h4, h5, h6⟩
      · simp at h2
      · exact ⟨g, cap, v0, by rw [he, hov]; rfl, cells_cell h2 (take_get h6 e0), l0⟩
    · refine .inr ⟨?_, he⟩
      rw [List.mem_singleton.1 hx] at hr
      exact hr

def both (s t : ByteArray) : Bool := isRt (tx s) && isRt (tx t)
theorem both_rt {s t : ByteArray} (h : both s t = true) : isRt (tx s) = true ∧ isRt (tx t) = true := (Bool.and_eq_true _ _).mp h
def addS (s t : ByteArray) : List UInt8 := if both s t then fitS (nv (tx s) + nv (tx t)) else []
def addE (s t : ByteArray) : Int := if both s t then fitE (nv (tx s) + nv (tx t)) else 10
def mulS (s t : ByteArray) : List UInt8 := if both s t then fitS (nv (tx s) * nv (tx t)) else []
def mulE (s t : ByteArray) : Int := if both s t then fitE (nv (tx s) * nv (tx t)) else 10
def cmpR (s t : ByteArray) : Int := if both s t then cmpI (nv (tx s) : Nat) (nv (tx t) : Nat) else 0
def cmpE (s t : ByteArray) : Int := if both s t then 0 else 10

theorem ends_at (v : Value) (n : Nat) (hmax : (lim n).length ≤ 1000000) (w : World) (hT : Tabs w) (hL : Lim w v (lim n)) :
    Calls Tryz.prog 32 #[v] w fun e w' => e = .returned (.tuple #[.string ⟨(fitS n).toArray⟩, .int .i64 (fitE n)]) ∧ Below w.heap.size w w' := by
  have h := ends_calls v (lim n) (lim_grp n) (by rwa [val_lim]) w hT hL
  rwa [val_lim] at h

set_option maxRecDepth 100000 in
set_option maxHeartbeats 4000000 in
theorem natAdd_calls (s t : ByteArray) (hs : s.size ≤ 140737488355328) (ht : t.size ≤ 140737488355328) (w : World) (hT : Tabs w) :
    Calls Tryz.prog 17 #[.string s, .string t] w fun e w' => e = .returned (.tuple #[.string ⟨(addS s t).toArray⟩, .int .i64 (addE s t)]) ∧ Below w.heap.size w w' := by
  have hprog : Tryz.prog.follows .mixedOrders = true := by kernel_rfl
  have hof := of_two s t hs ht w hT
  go_enter Tryz.func17, Tryz.ntmps17
  go_wp2_with (go_at_call 25; refine hof.mono ?_; rintro e w1 ⟨hb, ⟨hr, g, cap, v0, v1, rfl, c0, c1, l0, l1⟩ | ⟨hr, rfl⟩⟩)
  · have hadd := add_calls v0 v1 _ _ w1.drew (l0.below (Below.refl _ _).drew) (l1.below (Below.refl _ _).drew) (by have := rt_lim (both_rt hr).1; omega) (by have := rt_lim (both_rt hr).2; omega)
    have hlen := lim_add_len (rt_lim (both_rt hr).1) (rt_lim (both_rt hr).2)
    have hS : Hid (fitS (nv (tx s) + nv (tx t)) = addS s t) := (if_pos hr).symm
    have hE : Hid (fitE (nv (tx s) + nv (tx t)) = addE s t) := (if_pos hr).symm
    obtain ⟨n, hn⟩ : ∃ n, nv (tx s) + nv (tx t) = n := ⟨_, rfl⟩
    rw [hn] at hadd hlen hS hE
    clear hr hof hn
    go_wp2
    go_region_with (first
      | (go_at_call 29; refine hadd.mono ?_; rintro e w2 ⟨⟨v', rfl, hv'⟩, hb2⟩)
      | (go_at_call 32; refine (ends_at _ n (by omega) _ ((hT.below hb).drew.below hb2) hv').mono ?_; rintro e w3 ⟨rfl, hb3⟩))
    all_goals (
      go_wp2
      go_ret2
      refine ⟨by rw [← hS.out, ← hE.out]; rfl, ?_⟩
      exact hb.drew.trans ((hb2.mono hb.drew.size).trans (hb3.mono (Nat.le_trans hb.drew.size hb2.size))))
  · have hS : Hid ([] = addS s t) := (if_neg (by rw [show both s t = false from hr]; decide)).symm
    have hE : Hid ((10 : Int) = addE s t) := (if_neg (by rw [show both s t = false from hr]; decide)).symm
    go_wp2
    go_ret2
    exact ⟨by rw [← hS.out, ← hE.out]; rfl, hb⟩
set_option maxRecDepth 100000 in
set_option maxHeartbeats 4000000 in
theorem natCompare_calls (s t : ByteArray) (hs : s.size ≤ 140737488355328) (ht : t.size ≤ 140737488355328) (w : World) (hT : Tabs w) :
    Calls Tryz.prog 15 #[.string s, .string t] w fun e w' => e = .returned (.tuple #[.int .i64 (cmpR s t), .int .i64 (cmpE s t)]) ∧ Below w.heap.size w w' := by
  have hprog : Tryz.prog.follows .mixedOrders = true := by kernel_rfl
  have hof := of_two s t hs ht w hT
  go_enter Tryz.func15, Tryz.ntmps15
  go_wp2_with (go_at_call 25; refine hof.mono ?_; rintro e w1 ⟨hb, ⟨hr, g, cap, v0, v1, rfl, c0, c1, l0, l1⟩ | ⟨hr, rfl⟩⟩)
  · have hcmp := compare_calls v0 v1 _ _ (by have := rt_lim (both_rt hr).1; omega) w1.drew (l0.below (Below.refl _ _).drew) (l1.below (Below.refl _ _).drew)
    have hS : Hid (cmpI (nv (tx s) : Nat) (nv (tx t) : Nat) = cmpR s t) := (if_pos hr).symm
    have hE : Hid ((0 : Int) = cmpE s t) := (if_pos hr).symm
    obtain ⟨z, hz⟩ : ∃ z, cmpI (nv (tx s) : Nat) (nv (tx t) : Nat) = z := ⟨_, rfl⟩
    rw [hz] at hcmp hS
    clear hr hof hz
    go_wp2
    go_still_tail 6, hprog
    go_wp2_with (go_at_call 39; refine hcmp.mono ?_; rintro e w2 ⟨rfl, hb2⟩)
    go_ret2
    refine ⟨by rw [← hS.out, ← hE.out]; rfl, ?_⟩
    exact hb.drew.trans (hb2.mono hb.drew.size)
  · have hS : Hid ((0 : Int) = cmpR s t) := (if_neg (by rw [show both s t = false from hr]; decide)).symm
    have hE : Hid ((10 : Int) = cmpE s t) := (if_neg (by rw [show both s t = false from hr]; decide)).symm
    go_wp2
    go_ret2
    exact ⟨by rw [← hS.out, ← hE.out]; rfl, hb⟩

def divQ (s : ByteArray) (b : Nat) : List UInt8 := if isRt (tx s) && decide (b ≠ 0) then Lib.decDigits (nv (tx s) / b) else []
def divR (s : ByteArray) (b : Nat) : Nat := if isRt (tx s) && decide (b ≠ 0) then nv (tx s) % b else 0
def divE (s : ByteArray) (b : Nat) : Int := if isRt (tx s) && decide (b ≠ 0) then 0 else 10

set_option maxRecDepth 100000 in
set_option maxHeartbeats 4000000 in
theorem natDiv_calls (s : ByteArray) (b : Nat) (hb32 : b < 4294967296) (hs : s.size ≤ 140737488355328) (w : World) (hT : Tabs w) :
    Calls Tryz.prog 23 #[.string s, .int .u32 b] w fun e w' => e = .returned (.tuple #[.string ⟨(divQ s b).toArray⟩, .int .u32 (divR s b), .int .i64 (divE s b)]) ∧ Below w.heap.size w w' := by
  have hprog : Tryz.prog.follows .mixedOrders = true := by kernel_rfl
  have hof := of_one s hs w hT
  by_cases hb0 : b = 0
  · subst hb0
    have hS : Hid (([] : List UInt8) = divQ s 0 ∧ (0 : Nat) = divR s 0 ∧ (10 : Int) = divE s 0) := by unfold divQ divR divE; rw [decide_eq_false (by simp), Bool.and_false]; exact ⟨rfl, rfl, rfl⟩
    go_enter Tryz.func23, Tryz.ntmps23
    go_wp2_with (go_at_call 25; refine hof.mono ?_; rintro e w1 ⟨hb, ⟨hr, g, cap, v0, rfl, c0, l0⟩ | ⟨hr, rfl⟩⟩)
    all_goals (
      go_ret3
      exact ⟨by rw [← hS.out.1, ← hS.out.2.1, ← hS.out.2.2]; rfl, hb⟩)
  have hbi : ((b : Int) == 0) = false := by simp [hb0]
  have hbp : (0 : Int) < (b : Int) := by omega
  go_enter Tryz.func23, Tryz.ntmps23
  go_wp2_with (go_at_call 25; refine hof.mono ?_; rintro e w1 ⟨hb, ⟨hr, g, cap, v0, rfl, c0, l0⟩ | ⟨hr, rfl⟩⟩)
  · have hS : Hid (Lib.decDigits (nv (tx s) / b) = divQ s b ∧ nv (tx s) % b = divR s b ∧ (0 : Int) = divE s b) := by unfold divQ divR divE; rw [hr, decide_eq_true hb0]; exact ⟨rfl, rfl, rfl⟩
    have hlen := rt_lim hr
    have hdiv := div_calls v0 _ (lim_grp _) b w1 (by omega) (by omega) hb32 l0
    rw [val_lim] at hdiv
    have hql : (lim (nv (tx s) / b)).length ≤ 1000000 := by
      have h1 := lim_len.1 hlen
      have h2 := Nat.div_le_self (nv (tx s)) b
      have := lim_len.2 (Nat.lt_of_le_of_lt h2 h1)
      omega
    obtain ⟨q, hq⟩ : ∃ q, nv (tx s) / b = q := ⟨_, rfl⟩
    obtain ⟨r, hr'⟩ : ∃ r, nv (tx s) % b = r := ⟨_, rfl⟩
    rw [hq, hr'] at hdiv hS
    rw [hq] at hql
    clear hr hq hr' hlen hof
    go_wp2_with (go_at_call 26; refine hdiv.mono ?_; rintro e w2 ⟨v', rfl, hv', hb2⟩)
    have htxt := text_calls v' q hql w2 ((hT.below hb).below hb2) hv'
    refine htxt.mono ?_
    rintro e w3 ⟨rfl, hb3⟩
    go_wp2
    go_ret3
    exact ⟨by rw [← hS.out.1, ← hS.out.2.1, ← hS.out.2.2]; rfl, hb.trans ((hb2.mono hb.size).trans (hb3.mono (Nat.le_trans hb.size hb2.size)))⟩
  · have hS : Hid (([] : List UInt8) = divQ s b ∧ (0 : Nat) = divR s b ∧ (10 : Int) = divE s b) := by unfold divQ divR divE; rw [hr]; exact ⟨rfl, rfl, rfl⟩
    go_ret3
    exact ⟨by rw [← hS.out.1, ← hS.out.2.1, ← hS.out.2.2]; rfl, hb⟩
end Go.Proofs.YtdppcpiepippoaaGreatDoor
