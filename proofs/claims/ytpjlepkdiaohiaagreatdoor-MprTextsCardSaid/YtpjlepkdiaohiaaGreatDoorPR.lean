/- PR: MrX MqA MqB MqW MqC. -/
import Derived.Test.YtpjlepkdiaohiaaGreatDoorPL
import Derived.Test.YtpjlepkdiaohiaaGreatDoorPH
import Derived.Test.YtpjlepkdiaohiaaGreatDoorPF
import Derived.Test.YtpjlepkdiaohiaaGreatDoorPD
import Derived.IntWalk
import Derived.Test.YtpjlepkdiaohiaaGreatDoorPB
import Derived.Test.YtpjlepkdiaohiaaGreatDoorPJ
import Derived.Test.YtpjlepkdiaohiaaGreatDoorPG
import Derived.RegionTactic
import Derived.BigRegion
import Derived.Test.YtpjlepkdiaohiaaGreatDoorPK
/- Plain: which first bytes are read by which function: what the pruned group lacks. -/
namespace Go.Proofs.YtpjlepkdiaohiaaGreatDoor
open Go Go.RowKit
theorem st_cases {i : Nat} (h : i < 13) : i = 0 ∨ i = 1 ∨ i = 2 ∨ i = 3 ∨ i = 4 ∨ i = 5 ∨ i = 6 ∨ i = 7 ∨ i = 8 ∨ i = 9 ∨ i = 10 ∨ i = 11 ∨ i = 12 := by omega
theorem rhd_st (f : List UInt8 → RR) {c : Nat} (s : List UInt8) {i : Nat} (hi : i < 13) (h1 : (st i).fr ≤ c) (h2 : c < (st i).fr + (st i).ct) :
    rhd f c s = if (st i).z0 = 0 then rdK f (st i).g (c - (st i).fr) 0 s else rnum ((st i).z (c - (st i).fr)) s fun n r => rdK f (st i).g n ((st i).z (c - (st i).fr)) r := by
  have key : ∀ x, st i = x → rhd f c s = if x.z0 = 0 then rdK f x.g (c - x.fr) 0 s else rnum (x.z (c - x.fr)) s fun n r => rdK f x.g n (x.z (c - x.fr)) r := by
    intro x hx
    rw [hx] at h1 h2
    rcases st_cases hi with rfl | rfl | rfl | rfl | rfl | rfl | rfl | rfl | rfl | rfl | rfl | rfl | rfl <;> (obtain rfl := hx; simp only [st, stL, List.getElem?_cons_zero, List.getElem?_cons_succ, Option.getD_some] at h1 h2 ⊢)
    · rw [if_pos trivial]; unfold rhd; rw [if_pos (by omega)]; rfl
    · rw [if_pos trivial]; unfold rhd; rw [if_neg (by omega), if_pos (by omega)]; rfl
    · rw [if_pos trivial]; unfold rhd; rw [if_neg (by omega), if_neg (by omega), if_pos (by omega)]; rfl
    · rw [if_pos trivial]; unfold rhd; rw [if_neg (by omega), if_neg (by omega), if_neg (by omega), if_pos (by omega)]; rfl
    · rcases (show c = 196 ∨ c = 197 ∨ c = 198 by omega) with rfl | rfl | rfl <;> rfl
    · rcases (show c = 199 ∨ c = 200 ∨ c = 201 by omega) with rfl | rfl | rfl <;> rfl
    · rcases (show c = 202 ∨ c = 203 by omega) with rfl | rfl <;> rfl
    · rcases (show c = 204 ∨ c = 205 ∨ c = 206 ∨ c = 207 by omega) with rfl | rfl | rfl | rfl <;> rfl
    · rcases (show c = 208 ∨ c = 209 ∨ c = 210 ∨ c = 211 by omega) with rfl | rfl | rfl | rfl <;> rfl
    · rcases (show c = 217 ∨ c = 218 ∨ c = 219 by omega) with rfl | rfl | rfl <;> rfl
    · rcases (show c = 220 ∨ c = 221 by omega) with rfl | rfl <;> rfl
    · rcases (show c = 222 ∨ c = 223 by omega) with rfl | rfl <;> rfl
    · omega
  exact key _ rfl
/-- how many bytes the number behind such a byte has. -/
theorem st_z {c i : Nat} (hi : i < 13) (h1 : (st i).fr ≤ c) (h2 : c < (st i).fr + (st i).ct) (hz : (st i).z0 ≠ 0) : c - (st i).fr < 4 ∧ ((st i).z (c - (st i).fr) = 1 ∨ (st i).z (c - (st i).fr) = 2 ∨ (st i).z (c - (st i).fr) = 4 ∨ (st i).z (c - (st i).fr) = 8) := by
  rcases st_cases hi with rfl | rfl | rfl | rfl | rfl | rfl | rfl | rfl | rfl | rfl | rfl | rfl | rfl <;> simp only [st, stL, List.getElem?_cons_zero, List.getElem?_cons_succ, Option.getD_some] at h1 h2 hz ⊢
  · exact absurd rfl hz
  · exact absurd rfl hz
  · exact absurd rfl hz
  · exact absurd rfl hz
  · rcases (show c = 196 ∨ c = 197 ∨ c = 198 by omega) with rfl | rfl | rfl <;> decide
  · rcases (show c = 199 ∨ c = 200 ∨ c = 201 by omega) with rfl | rfl | rfl <;> decide
  · rcases (show c = 202 ∨ c = 203 by omega) with rfl | rfl <;> decide
  · rcases (show c = 204 ∨ c = 205 ∨ c = 206 ∨ c = 207 by omega) with rfl | rfl | rfl | rfl <;> decide
  · rcases (show c = 208 ∨ c = 209 ∨ c = 210 ∨ c = 211 by omega) with rfl | rfl | rfl | rfl <;> decide
  · rcases (show c = 217 ∨ c = 218 ∨ c = 219 by omega) with rfl | rfl | rfl <;> decide
  · rcases (show c = 220 ∨ c = 221 by omega) with rfl | rfl <;> decide
  · rcases (show c = 222 ∨ c = 223 by omega) with rfl | rfl <;> decide
  · omega
theorem rhd_wd (f : List UInt8 → RR) {c : Nat} (s : List UInt8) (h : wdB c = true) : rhd f c s = wdR c s := by
  rcases wd_cases h with rfl | rfl | rfl | rfl | rfl | rfl | rfl | rfl | rfl <;> rfl
theorem rhd_rest {c : Nat} (hw : wdB c = false) (h : ∀ i, i < 13 → ¬ ((st i).fr ≤ c ∧ c < (st i).fr + (st i).ct)) : 224 ≤ c := by
  unfold wdB at hw
  simp only [Bool.or_eq_false_iff, decide_eq_false_iff_not] at hw
  have h0 := h 0 (by omega)
  have h1 := h 1 (by omega)
  have h2 := h 2 (by omega)
  have h3 := h 3 (by omega)
  have h4 := h 4 (by omega)
  have h5 := h 5 (by omega)
  have h6 := h 6 (by omega)
  have h7 := h 7 (by omega)
  have h8 := h 8 (by omega)
  have h9 := h 9 (by omega)
  have h10 := h 10 (by omega)
  have h11 := h 11 (by omega)
  simp only [st, stL, List.getElem?_cons_zero, List.getElem?_cons_succ, Option.getD_some] at h0 h1 h2 h3 h4 h5 h6 h7 h8 h9 h10 h11
  omega
end Go.Proofs.YtpjlepkdiaohiaaGreatDoor

/- Package mpr: the reader's block; number: walked. -/
namespace Go.Proofs.YtpjlepkdiaohiaaGreatDoor
open Go.RowKit
attribute [local go_sem] Oper.semAt_some

/-- the reader: what is left, how deep. -/
def Rd (W : World) (b : Nat) (s : ByteArray) (d : Nat) : Prop := Cls W b 81 [.string s, .int .i64 (d : Int)]
/-- the reader's sentinels. -/
structure ErrT (w : World) (em ep et : Addr) : Prop where
  c0 : w.cell? ⟨3, 0, none⟩ = some (.iface 251 (.pointer (some em)))
  c1 : w.cell? ⟨4, 0, none⟩ = some (.iface 251 (.pointer (some ep)))
  c2 : w.cell? ⟨2, 0, none⟩ = some (.iface 251 (.pointer (some et)))

theorem rdrop (t : ByteArray) (k : Nat) : tx (t.extract k t.size) = (tx t).drop k := by
  unfold tx
  rw [ByteArray.data_extract, Array.toList_extract, List.extract_eq_take_drop, ← List.drop_take, List.take_of_length_le (Nat.le_of_eq (len_str t))]
theorem beN_take_succ (s : ByteArray) {i : Nat} (h : i < s.size) : beN ((tx s).take (i + 1)) = beN ((tx s).take i) * 256 + s[i].toNat := by
  have hi : (tx s)[i]? = some s[i] := by
    unfold tx
    rw [List.getElem?_eq_getElem (by rw [len_str]; exact h)]
    rfl
  unfold beN
  rw [List.take_add_one, hi, Option.toList_some, List.foldl_append]
  rfl
theorem or_byte {N c : Nat} (hc : c < 256) (hN : N * 256 + c < 18446744073709551616) : bits .or .u64 (IntKind.u64.wrap ((N : Int) * 256)) (IntKind.u64.wrap (c : Int)) = ((N * 256 + c : Nat) : Int) := by
  rw [IntWalk.u64_in _ (by omega), IntWalk.u64_in _ (by omega)]
  exact or_add (n := 8) hc hN
/-- only the reader's block is turned. -/
structure RdK (b : Nat) (A B : World) : Prop where
  below : Below b A B
  blk : ∀ k, k < A.heap.size → k ≠ b → B.heap[k]? = A.heap[k]?
theorem RdK.refl (b : Nat) (A : World) : RdK b A A := ⟨Below.refl _ _, fun _ _ _ => rfl⟩
theorem RdK.trans {b : Nat} {A B C : World} (h : RdK b A B) (k : RdK b B C) : RdK b A C :=
  ⟨h.below.trans k.below, fun i hi hb => (k.blk i (Nat.lt_of_lt_of_le hi h.below.size) hb).trans (h.blk i hi hb)⟩
theorem RdK.of_below {b : Nat} {A B : World} (h : Below A.heap.size A B) (hb : b ≤ A.heap.size) : RdK b A B := ⟨h.mono hb, fun k hk _ => h.block k hk⟩
theorem RdK.set {b : Nat} {A B : World} (h : RdK b A B) (j : Nat) (v : Value) : RdK b A (B.setCell ⟨b, j, none⟩ v) :=
  ⟨h.below.setCell (p := ⟨b, j, none⟩) (Nat.le_refl _) v, fun k hk hb => (Below.heap_setCell _ _ _ _ hb).trans (h.blk k hk hb)⟩
theorem Rd.up {A B : World} {b : Nat} {s : ByteArray} {d : Nat} (h : Rd A b s d) (hb : Below A.heap.size A B) : Rd B b s d := Cls.below h hb
theorem Rd.rest {A : World} {b : Nat} {s q : ByteArray} {d : Nat} (h : Rd A b s d) : Rd (A.setCell ⟨b, 0, none⟩ (.string q)) b q d := Cls.set h 0 (.string q)

set_option maxRecDepth 100000 in
set_option maxHeartbeats 4000000 in
theorem rnumber_calls (b : Nat) (s : ByteArray) (d k : Nat) (hk : k ≤ 8) (hs : s.size ≤ 140737488355328) (w : World) {em ep et : Addr} (hR : Rd w b s d) (hE : ErrT w em ep et) :
    Calls Tryz.prog 57 #[.pointer (some ⟨b, 0, none⟩), .int .i64 k] w fun e w' =>
      (s.size < k ∧ e = .returned (.tuple #[.int .u64 0, .iface 251 (.pointer (some em))]) ∧ RdK b w w' ∧ Rd w' b s d) ∨
      (k ≤ s.size ∧ ∃ q, e = .returned (.tuple #[.int .u64 (beN ((tx s).take k) : Nat), .nilIface]) ∧ tx q = (tx s).drop k ∧ RdK b w w' ∧ Rd w' b q d) := by
  have c0 := hR.cell 0 rfl
  have f0 := hR.frozen 0
  have e0 := hE.c0
  by_cases hlt : s.size < k
  · have hR' := hid hR
    clear hR hE
    go_enter Tryz.func57, Tryz.ntmps57
    go_wp2
    go_region
    go_wp2
    go_ret2
    have hb0 := (Below.refl w.heap.size w).drew
    exact .inl ⟨by assumption, rfl, .of_below hb0 (Nat.le_of_lt (Cls.lt hR'.out)), hR'.out.up hb0⟩
  · have hR' := hid (And.intro hR (And.intro hk hs))
    have hlz : decide (s.size < k) = false := decide_eq_false hlt
    clear hR hE e0
    go_enter Tryz.func57, Tryz.ntmps57
    go_wp2
    go_loop [6, 18] (fun v6 v18 => ∃ i : Nat, i ≤ k ∧ v6 = .int .u64 (beN ((tx s).take i) : Nat) ∧ v18 = .int .i64 i) (fun _ v18 => k - (intOf v18).toNat)
    case atStart => exact ⟨0, Nat.zero_le _, rfl, rfl⟩
    case round =>
      obtain ⟨i, hi, rfl, rfl⟩ := hrel
      by_cases hik : i < k
      · have hiz : (i : Int) < k := by omega
        have his : i < s.size := by omega
        have hisz : (i : Int) < s.size := by omega
        have hbn : beN ((tx s).take i) * 256 + s[i].toNat < 18446744073709551616 := by
          rw [← beN_take_succ s his]
          have h1 := beN_lt ((tx s).take (i + 1))
          have h2 : 256 ^ ((tx s).take (i + 1)).length ≤ 256 ^ 8 := Nat.pow_le_pow_right (by decide) (by rw [List.length_take]; omega)
          have h3 : (256 : Nat) ^ 8 = 18446744073709551616 := by decide
          omega
        have HB := hid (And.intro hbn (beN_take_succ s his))
        clear hbn
        go_wp2
        go_round
        case rel => exact ⟨i + 1, by omega, by rw [HB.out.2, or_byte s[i].toNat_lt HB.out.1], by simp⟩
        case measure => simp [intOf]; omega
      · obtain rfl : i = k := by omega
        have hiz : decide (i < i) = false := by simp
        have hks : (i : Int) ≤ s.size := by omega
        go_wp2
        go_ret2
        exact ⟨by omega, rfl, s.extract i s.size, rdrop s i, (RdK.refl b w).set 0 _, hR'.out.1.rest⟩
end Go.Proofs.YtpjlepkdiaohiaaGreatDoor

/- Package mpr: what a function of the reader answers; what is laid below the reader. -/
namespace Go.Proofs.YtpjlepkdiaohiaaGreatDoor
open Go.RowKit

/-- the reader's errors. -/
def errV (em ep et : Addr) (c : Nat) : Value := .iface 251 (.pointer (some (if c = 0 then em else if c = 1 then ep else et)))
theorem ErrT.below {w w' : World} {em ep et : Addr} (h : ErrT w em ep et) (hb : Below w.heap.size w w') : ErrT w' em ep et := ⟨cell_kept hb h.c0, cell_kept hb h.c1, cell_kept hb h.c2⟩
/-- what lies below the reader. -/
structure Env (em ep et : Addr) (b : Nat) (w : World) : Prop where
  tabs : Tabs w
  errs : ErrT w em ep et
  low : ∃ w0 : World, Tabs w0 ∧ ErrT w0 em ep et ∧ Below w0.heap.size w0 w ∧ w0.heap.size ≤ b
theorem Env.mk' {em ep et : Addr} {b : Nat} {w0 w : World} (hT : Tabs w0) (hE : ErrT w0 em ep et) (hb : Below w0.heap.size w0 w) (hw : w0.heap.size ≤ b) : Env em ep et b w :=
  ⟨hT.below hb, hE.below hb, w0, hT, hE, hb, hw⟩
theorem Env.rdk {em ep et : Addr} {b : Nat} {w w' : World} (h : Env em ep et b w) (hb : Below b w w') : Env em ep et b w' := by
  obtain ⟨w0, h1, h2, h3, h4⟩ := h.low
  exact .mk' h1 h2 (h3.trans (hb.mono h4)) h4
/-- what is answered: a node whose lists are new and what is left, or an error. -/
def Ans (em ep et : Addr) (b d : Nat) (w : World) (x : RR) (e : Ending) (w' : World) : Prop :=
  RdK b w w' ∧ ((∃ (t : Tr) (q : ByteArray) (a : Option Addr) (n c : Nat), x = .ok t (tx q) ∧ e = .returned (.tuple #[ndV t.p (.slice a n c), .nilIface]) ∧ InB (fun k => w.heap.size ≤ k) w' (ndV t.p (.slice a n c)) t ∧ Rd w' b q d) ∨
    (∃ (i : Nat) (p : Pay) (a : Option Addr) (n c : Nat) (q : ByteArray), x = .er i ∧ e = .returned (.tuple #[ndV p (.slice a n c), errV em ep et i]) ∧ Rd w' b q d ∧ q.size ≤ 1000000))
theorem Ans.from {em ep et : Addr} {b d : Nat} {w w1 w' : World} {x : RR} {e : Ending} (h : Ans em ep et b d w1 x e w') (hk : RdK b w w1) : Ans em ep et b d w x e w' := by
  refine ⟨hk.trans h.1, h.2.imp ?_ id⟩
  rintro ⟨t, q, a, n, c, h1, h2, h3, h4⟩
  exact ⟨t, q, a, n, c, h1, h2, h3.mono fun k _ hk2 => Nat.le_trans hk.below.size hk2, h4⟩
theorem InB.leaf (K : Nat → Prop) (W : World) (p : Pay) (c : Nat) (a : Option Addr) : InB K W (ndV p (.slice a 0 c)) (.nd p []) := .nd p [] a 0 c (fun _ => .bool false) rfl (fun i t h => by simp at h) (fun i t h => by simp at h)
theorem Ans.leaf {em ep et : Addr} {b d : Nat} {w w' : World} {p : Pay} {q : ByteArray} {r : List UInt8} (hq : tx q = r) (hk : RdK b w w') (hr : Rd w' b q d) : Ans em ep et b d w (.ok (.nd p []) r) (.returned (.tuple #[ndV p (.slice none 0 0), .nilIface])) w' :=
  ⟨hk, .inl ⟨.nd p [], q, none, 0, 0, by rw [hq], rfl, InB.leaf _ _ _ _ _, hr⟩⟩
theorem Ans.err {em ep et : Addr} {b d : Nat} {w w' : World} {i : Nat} {q : ByteArray} (hk : RdK b w w') (hr : Rd w' b q d) (hq : q.size ≤ 1000000) : Ans em ep et b d w (.er i) (.returned (.tuple #[ndV Pay.z (.slice none 0 0), errV em ep et i])) w' :=
  ⟨hk, .inr ⟨i, Pay.z, none, 0, 0, q, rfl, rfl, hr, hq⟩⟩
/-- the contract of a function that reads by a number. -/
def ReadC (f : List UInt8 → RR) (d F g : Nat) : Prop :=
  ∀ (em ep et : Addr) (b : Nat) (s : ByteArray) (n z : Nat), n < 18446744073709551616 → (g = 7 → (z = 1 ∨ z = 2 ∨ z = 4 ∨ z = 8) ∧ n < 256 ^ z) → (g = 1 → n < 4294967296) → (g = 6 → z = 4 ∨ z = 8) → s.size ≤ 1000000 →
  ∀ w : World, Rd w b s d → Env em ep et b w →
  Calls Tryz.prog F #[.pointer (some ⟨b, 0, none⟩), .int .u64 n, .int .i64 z] w fun e w' => Ans em ep et b d w (rdK f g n z (tx s)) e w'
end Go.Proofs.YtpjlepkdiaohiaaGreatDoor

/- Package mpr: the reader's words: a map that is filled in whatever order: walked. -/
namespace Go.Proofs.YtpjlepkdiaohiaaGreatDoor
open Go.RowKit Go.MapKept
attribute [local go_sem] Oper.semAt_some

/-! ### a map of bytes -/
def entsU : List (Int × Value) → Nat → List MapEntry
  | [], _ => []
  | (k, v) :: r, n => ⟨.int .u8 k, v, n⟩ :: entsU r (n + 1)
def mapU (l : List (Int × Value)) : Obj := .map (entsU l 0).toArray l.length
theorem entsU_snoc : ∀ (l : List (Int × Value)) (n : Nat) (k : Int) (v : Value), entsU (l ++ [(k, v)]) n = entsU l n ++ [⟨.int .u8 k, v, n + l.length⟩]
  | [], n, k, v => rfl
  | (j, u) :: r, n, k, v => by
    rw [List.cons_append, entsU, entsU_snoc r (n + 1), entsU, List.length_cons, List.cons_append, show n + 1 + r.length = n + (r.length + 1) by omega]
theorem findNow_entsU : ∀ (l : List (Int × Value)) (n i : Nat) (k : Int), Instr.findNow (.int .u8) (.int .u8 k) (entsU l n) i = some ((l.findIdx? (fun p => p.1 == k)).map fun j => (i + j, ((l[j]?).map (·.2)).getD (.bool false)))
  | [], _, _, _ => rfl
  | (j, u) :: r, n, i, k => by
    have ih := findNow_entsU r (n + 1) (i + 1) k
    rw [entsU, Instr.findNow]
    by_cases h : j = k
    · subst h
      simp [Instr.sameNow, List.findIdx?_cons]
    · have h2 : (k == j) = false := by simpa using fun e => h e.symm
      have h3 : (j == k) = false := by simpa using h
      simp only [Instr.sameNow, if_true, h2, ih, List.findIdx?_cons, h3]
      cases List.findIdx? (fun p => p.1 == k) r <;> simp [Nat.add_comm, Nat.add_left_comm]
theorem run_insertU {P : Program} {t kt et : TypeId} (ht : P.underlying t = some (.map kt et)) (hk : P.underlying kt = some (.int .u8)) (w : World) (m : Nat) (l : List (Int × Value)) (h : w.heap[m]? = some (mapU l)) (k : Int) (v : Value) (hn : ∀ p, p ∈ l → p.1 ≠ k) :
    (Instr.mapUpdate t (.map (some m)) (.int .u8 k) v).run P w = .ok () (w.putObj m (mapU (l ++ [(k, v)]))) := by
  have hb : w.heap[m]? = some (.map (entsU l 0).toArray l.length) := h
  have hf := findNow_entsU l 0 0 k
  rw [show l.findIdx? (fun p => p.1 == k) = none from List.findIdx?_eq_none_iff.2 fun p hp => by simpa using hn p hp] at hf
  have hh : w.putObj m (mapU (l ++ [(k, v)])) = w.putObj m (.map (entsU l 0 ++ [(⟨.int .u8 k, v, l.length⟩ : MapEntry)]).toArray (l.length + 1)) := by
    unfold mapU
    rw [entsU_snoc, List.length_append, List.length_singleton, Nat.zero_add]
  rw [hh]
  simp [Instr.mapUpdate, run_underlying ht, MapKept.run_getObj_map hb, run_checkKey hk (show IsKey (.int .u8) (.int .u8 k) from rfl), run_findKey hk hf, MapKept.run_setObj_map _ hb, Result.andThen, World.putObj]
theorem run_lookU {P : Program} {t kt et : TypeId} (ht : P.underlying t = some (.map kt et)) (hk : P.underlying kt = some (.int .u8)) {z : Value} (hz : ∀ w, (zeroValue et).run P w = .ok z w) (w : World) (b : Nat) (l : List (Int × Value)) (h : w.heap[b]? = some (mapU l)) (k : Int) :
    (Instr.lookup t (.map (some b)) (.int .u8 k) true).run P w = .ok (.tuple (match l.findIdx? (fun p => p.1 == k) with | none => #[z, .bool false] | some j => #[((l[j]?).map (·.2)).getD (.bool false), .bool true])) w := by
  have h' : w.heap[b]? = some (.map (entsU l 0).toArray l.length) := h
  have hf := findNow_entsU l 0 0 k
  have hc : ∀ e, (Instr.checkKey e 10000 kt (.int .u8 k)).run P w = .ok () w := fun e => run_checkKey hk (show IsKey (.int .u8) (.int .u8 k) from rfl) e 9999
  cases hi : l.findIdx? (fun p => p.1 == k) with
  | none =>
    rw [hi] at hf
    simp [Instr.lookup, run_underlying ht, MapKept.run_getObj_map h', hc, run_findKey hk hf, hz, Result.andThen]
  | some j =>
    rw [hi] at hf
    simp [Instr.lookup, run_underlying ht, MapKept.run_getObj_map h', hc, run_findKey hk hf, Result.andThen]

/-! ### whatever order is drawn: an invariant -/
def unl (ops : Array Oper) (listed : Array Bool) : List Nat := (List.range ops.size).filter fun j => !listed.getD j true
theorem getD_set_self (listed : Array Bool) (i : Nat) : (listed.setIfInBounds i true).getD i true = true := by
  simp only [Array.getD_eq_getD_getElem?, Array.getElem?_setIfInBounds, if_true]
  split <;> rfl
theorem unl_set {ops : Array Oper} {listed : Array Bool} {i : Nat} (h : i ∈ unl ops listed) : (unl ops (listed.setIfInBounds i true)).length < (unl ops listed).length := by
  have e : unl ops (listed.setIfInBounds i true) = (unl ops listed).filter (fun j => j ≠ i) := by
    unfold unl
    rw [List.filter_filter]
    apply List.filter_congr
    intro j _
    by_cases hj : j = i
    · subst hj
      rw [getD_set_self]
      simp
    · rw [getD_set_ne true (Ne.symm hj)]
      simp [hj]
  rw [e]
  exact List.length_filter_lt_length_iff_exists.2 ⟨i, h, by simp⟩
theorem ready_unl {md : Region.Mode} {ops : Array Oper} {listed : Array Bool} {i : Nat} (h : i ∈ Region.ready md ops listed) : i ∈ unl ops listed := by
  unfold Region.ready at h
  rw [List.mem_filter] at h
  unfold unl
  rw [List.mem_filter]
  exact ⟨h.1, by have := h.2; simp only [Bool.and_eq_true] at this; exact this.1⟩
theorem wpAny_inv {P : Program} {md : Region.Mode} {ops : Array Oper} {Q : Exit → Act → World → Prop} (I : Array Bool → Act → World → Prop)
    (hstep : ∀ listed a w i, I listed a w → i ∈ Region.ready md ops listed → wpOp P ops Q i (I (listed.setIfInBounds i true)) a w)
    (hend : ∀ listed a w, I listed a w → Region.ready md ops listed = [] → Q .normal a w) :
    ∀ fuel listed a w, I listed a w → (unl ops listed).length ≤ fuel → wpAny P md ops Q fuel listed a w
  | 0, listed, a, w, h, hl => by
    have hr : Region.ready md ops listed = [] := by
      cases e : Region.ready md ops listed with
      | nil => rfl
      | cons i r =>
        have := ready_unl (md := md) (ops := ops) (listed := listed) (i := i) (by rw [e]; exact List.mem_cons_self ..)
        rw [List.eq_nil_of_length_eq_zero (Nat.le_zero.1 hl)] at this
        cases this
    exact ⟨hr, hend _ _ _ h hr⟩
  | fuel + 1, listed, a, w, h, hl => ⟨fun hr => hend _ _ _ h hr, fun i hi => wpOp_mono (fun a' w' h' => wpAny_inv I hstep hend fuel _ a' w' h' (by
      have := unl_set (ready_unl hi)
      omega)) (hstep _ _ _ _ h hi)⟩
theorem wpOp_of {P : Program} {ops : Array Oper} {Q : Exit → Act → World → Prop} {i : Nat} {o : Oper} {K : Act → World → Prop} {a : Act} {w : World} (hi : ops[i]? = some o) (hw : Region.wanted o (yielded ops a.tmps) = true) (h : o.wp P a w K Q) : wpOp P ops Q i K a w := by
  unfold wpOp
  simp only [hi, hw, if_true]
  exact .inl h
theorem ready_done {md : Region.Mode} {ops : Array Oper} {listed : Array Bool} (hd : ∀ j, j < ops.size → ((ops[j]?).map fun o => o.after.all fun e => !Region.binds md e || decide (e.on < j)).getD true = true) (hs : listed.size = ops.size) (hr : Region.ready md ops listed = []) : ∀ j, j < ops.size → listed.getD j false = true := by
  intro j
  induction j using Nat.strongRecOn with
  | ind j ih =>
    intro hj
    cases e : listed.getD j true with
    | true =>
      simp only [Array.getD_eq_getD_getElem?] at e ⊢
      rw [Array.getElem?_eq_getElem (by omega)] at e ⊢
      exact e
    | false =>
      have : j ∈ Region.ready md ops listed := by
        refine mem_ready.2 ⟨e, ops[j], Array.getElem?_eq_getElem hj, fun x hx hb => ?_⟩
        have h1 := hd j hj
        rw [Array.getElem?_eq_getElem hj] at h1
        simp only [Option.map_some, Option.getD_some, Array.all_eq_true, Bool.or_eq_true, Bool.not_eq_true', decide_eq_true_eq] at h1
        obtain ⟨k, hk, rfl⟩ := Array.mem_iff_getElem.1 hx
        have := (h1 k hk).resolve_left (by rw [hb]; decide)
        exact ih _ this (by omega)
      rw [hr] at this
      cases this
theorem wpOp_ofK {P : Program} {ops : Array Oper} {Q : Exit → Act → World → Prop} {i : Nat} {o : Oper} {K : Act → World → Prop} {a : Act} {w : World} (hi : ops[i]? = some o) (hw : Region.wanted o (yielded ops a.tmps) = true) (h : ∀ K' : Act → World → Prop, Hid (∀ a w, K a w → K' a w) → o.wp P a w K' Q) : wpOp P ops Q i K a w :=
  wpOp_of hi hw (h K (hid fun _ _ h => h))
theorem ready_needs {md : Region.Mode} {ops : Array Oper} {listed : Array Bool} {i : Nat} (h : i ∈ Region.ready md ops listed) (j : Nat) (hj : ((ops[i]?).map fun o => o.after.any fun e => e.on == j && Region.binds md e).getD false = true) : listed.getD j false = true := by
  obtain ⟨_, o, ho, hall⟩ := mem_ready.1 h
  rw [ho] at hj
  simp only [Option.map_some, Option.getD_some, Array.any_eq_true, Bool.and_eq_true, beq_iff_eq] at hj
  obtain ⟨k, hk, h1, h2⟩ := hj
  rw [← h1]
  exact hall _ (Array.getElem_mem hk) h2

/-! ### the words -/
/-- what stands at a word. -/
def PW (b : Nat) (c : Int) (v : Value) (w : World) : Prop :=
  (c = 192 ∧ v = .func (.func 102) #[.pointer (some ⟨b, 0, none⟩)] #[]) ∨ (c = 193 ∧ v = .func (.func 103) #[.pointer (some ⟨b, 0, none⟩)] #[]) ∨ (c = 194 ∧ v = .func (.func 104) #[.pointer (some ⟨b, 0, none⟩)] #[]) ∨ (c = 195 ∧ v = .func (.func 105) #[.pointer (some ⟨b, 0, none⟩)] #[]) ∨
  (212 ≤ c ∧ c ≤ 216 ∧ ∃ rc nb, v = .func (.func 100) #[] #[.pointer (some ⟨rc, 0, none⟩), .pointer (some ⟨nb, 0, none⟩)] ∧ Boxed w rc 77 (.pointer (some ⟨b, 0, none⟩)) ∧ Boxed w nb 24 (.int .u64 ((2 ^ (c - 212).toNat : Nat) : Int)))
theorem PW.kept {b : Nat} {c : Int} {v : Value} {A B : World} (h : PW b c v A) (hk : CellsKept A B) : PW b c v B := by
  rcases h with h | h | h | h | ⟨h1, h2, rc, nb, h3, h4, h5⟩
  · exact .inl h
  · exact .inr (.inl h)
  · exact .inr (.inr (.inl h))
  · exact .inr (.inr (.inr (.inl h)))
  · exact .inr (.inr (.inr (.inr ⟨h1, h2, rc, nb, h3, hk.boxed h4, hk.boxed h5⟩)))
def wdD : List Nat := [5, 6, 7, 100, 8, 9, 100, 10, 11, 100, 12, 13, 100, 14, 15, 100, 16, 17, 100, 18, 19, 100, 20, 21, 100, 22, 23, 100, 24, 2]
def wdK : List Int := [-1, -1, -1, 192, -1, -1, 193, -1, -1, 194, -1, -1, 195, -1, -1, 212, -1, -1, 213, -1, -1, 214, -1, -1, 215, -1, -1, 216, -1, -1]
def wdG : List Nat := [0, 1, 2, 3, 1, 2, 3, 1, 2, 3, 1, 2, 3, 4, 2, 3, 4, 2, 3, 4, 2, 3, 4, 2, 3, 4, 2, 3, 5, 5]
def dd (j : Nat) : Nat := wdD[j]?.getD 100
def kk (j : Nat) : Int := wdK[j]?.getD (-1)
def gg (j : Nat) : Nat := wdG[j]?.getD 0
/-- what is known of an operation's value. -/
def GW (b rc : Nat) (j : Nat) (x : Value) (w : World) : Prop :=
  (gg j = 1 → x = .pointer (some ⟨b, 0, none⟩)) ∧ (gg j = 2 → PW b (kk (j + 1)) x w) ∧ (gg j = 4 → x = .func (.func 99) #[] #[.pointer (some ⟨rc, 0, none⟩)])
theorem GW.kept {b rc j : Nat} {x : Value} {A B : World} (h : GW b rc j x A) (hk : CellsKept A B) : GW b rc j x B := ⟨h.1, fun e => (h.2.1 e).kept hk, h.2.2⟩
/-- what the map holds. -/
structure MapF (b : Nat) (listed : Array Bool) (l : List (Int × Value)) (w : World) : Prop where
  keys : ∀ p, p ∈ l → ∃ j, j < 30 ∧ kk j = p.1 ∧ kk j ≠ -1 ∧ listed.getD j false = true
  all : ∀ j, j < 30 → kk j ≠ -1 → listed.getD j false = true → ∃ v, (kk j, v) ∈ l
  vals : ∀ p, p ∈ l → PW b p.1 p.2 w
structure WInv (b rc : Nat) (w0 : World) (listed : Array Bool) (g : Nat → Value) (w : World) : Prop where
  sz : listed.size = 30
  val : ∀ j, j < 30 → listed.getD j false = true → GW b rc j (g (dd j)) w
  map : listed.getD 0 false = true → ∃ m l, g 5 = .map (some m) ∧ w0.heap.size ≤ m ∧ w.heap[m]? = some (mapU l) ∧ MapF b listed l w
  dep : listed.getD 0 false = false → ∀ j, j < 30 → kk j ≠ -1 → listed.getD j false = false
  late : listed.getD 28 false = true → ∀ j, j < 28 → listed.getD j false = true
  late2 : listed.getD 29 false = true → ∀ j, j < 29 → listed.getD j false = true
  d28 : listed.getD 28 false = true → g 24 = g 5
  d29 : listed.getD 29 false = true → g 2 = g 5
  box : Boxed w rc 77 (.pointer (some ⟨b, 0, none⟩))
  bel : Below w0.heap.size w0 w
def upd (g : Nat → Value) (d : Nat) (v : Value) : Nat → Value := fun k => if k = d then v else g k
theorem getD_same {listed : Array Bool} {i : Nat} (h : listed.size = 30) (hi : i < 30) (d e : Bool) : listed.getD i d = listed.getD i e := by
  simp only [Array.getD_eq_getD_getElem?]
  rw [Array.getElem?_eq_getElem (by omega)]
  rfl
theorem set_ne {listed : Array Bool} {i j : Nat} (h : i ≠ j) (d : Bool) : (listed.setIfInBounds i true).getD j d = listed.getD j d := getD_set_ne d h
theorem set_self {listed : Array Bool} {i : Nat} (h : listed.size = 30) (hi : i < 30) : (listed.setIfInBounds i true).getD i false = true := by
  simp [h, hi]
theorem dd_inj : ∀ i, i < 30 → ∀ j, j < 30 → kk i = -1 → dd i = dd j → i = j := by decide
theorem dd_5 : ∀ i, i < 30 → kk i = -1 → i ≠ 0 → dd i ≠ 5 := by decide
theorem kk_inj : ∀ i, i < 30 → ∀ j, j < 30 → kk i ≠ -1 → kk i = kk j → i = j := by decide
theorem gg_ins : ∀ i, i < 30 → kk i ≠ -1 → gg i = 3 := by decide
/-- a value is laid. -/
theorem WInv.put {b rc : Nat} {w0 w w' : World} {listed : Array Bool} {g : Nat → Value} (h : WInv b rc w0 listed g w) {i : Nat} (hi : i < 28) (hk : kk i = -1) (h0 : i ≠ 0) (hu : listed.getD i false = false) (hb : Below w.heap.size w w') {v : Value} (hv : GW b rc i v w') : WInv b rc w0 (listed.setIfInBounds i true) (upd g (dd i) v) w' := by
  have hK := CellsKept.below hb
  have n28 : listed.getD 28 false = false := by
    cases e : listed.getD 28 false with
    | false => rfl
    | true => rw [h.late e i hi] at hu; cases hu
  have n29 : listed.getD 29 false = false := by
    cases e : listed.getD 29 false with
    | false => rfl
    | true => rw [h.late2 e i (by omega)] at hu; cases hu
  have e28 : (listed.setIfInBounds i true).getD 28 false = false := by rw [set_ne (by omega)]; exact n28
  have e29 : (listed.setIfInBounds i true).getD 29 false = false := by rw [set_ne (by omega)]; exact n29
  have g5 : upd g (dd i) v 5 = g 5 := by unfold upd; rw [if_neg (Ne.symm (dd_5 i (by omega) hk h0))]
  refine ⟨by simpa using h.sz, fun j hj hl => ?_, fun hl => ?_, fun hl j hj hkj => ?_, fun e => (by rw [e28] at e; cases e), fun e => (by rw [e29] at e; cases e), fun e => (by rw [e28] at e; cases e), fun e => (by rw [e29] at e; cases e), hK.boxed h.box, h.bel.trans (hb.mono h.bel.size)⟩
  · by_cases hij : i = j
    · subst hij
      unfold upd
      rw [if_pos rfl]
      exact hv
    · rw [set_ne hij] at hl
      have : upd g (dd i) v (dd j) = g (dd j) := by
        unfold upd
        rw [if_neg (fun e => hij (dd_inj i (by omega) j hj hk e.symm))]
      rw [this]
      exact (h.val j hj hl).kept hK
  · rw [set_ne h0] at hl
    obtain ⟨m, l, h1, h2, h3, h4⟩ := h.map hl
    have hm : m < w.heap.size := (Array.getElem?_eq_some_iff.1 h3).1
    refine ⟨m, l, by rw [g5]; exact h1, h2, (hb.block m hm).trans h3, ⟨fun p hp => ?_, fun j hj hkj hlj => ?_, fun p hp => (h4.vals p hp).kept hK⟩⟩
    · obtain ⟨j, h5, h6, h7, h8⟩ := h4.keys p hp
      exact ⟨j, h5, h6, h7, by rw [set_ne (fun e : i = j => h7 (by rw [← e]; exact hk))]; exact h8⟩
    · rw [set_ne (fun e : i = j => hkj (by rw [← e]; exact hk))] at hlj
      exact h4.all j hj hkj hlj
  · rw [set_ne h0] at hl
    rw [set_ne (fun e : i = j => hkj (by rw [← e]; exact hk))]
    exact h.dep hl j hj hkj
/-- the map is made. -/
theorem WInv.make {b rc : Nat} {w0 w : World} {listed : Array Bool} {g : Nat → Value} (h : WInv b rc w0 listed g w) (hu : listed.getD 0 false = false) : WInv b rc w0 (listed.setIfInBounds 0 true) (upd g 5 (.map (some w.heap.size))) (w.alloc (mapU [])) := by
  have hb := below_alloc w (mapU [])
  have hK := CellsKept.below hb
  have n28 : listed.getD 28 false = false := by
    cases e : listed.getD 28 false with
    | false => rfl
    | true => rw [h.late e 0 (by omega)] at hu; cases hu
  have n29 : listed.getD 29 false = false := by
    cases e : listed.getD 29 false with
    | false => rfl
    | true => rw [h.late2 e 0 (by omega)] at hu; cases hu
  have e28 : (listed.setIfInBounds 0 true).getD 28 false = false := by rw [set_ne (by omega)]; exact n28
  have e29 : (listed.setIfInBounds 0 true).getD 29 false = false := by rw [set_ne (by omega)]; exact n29
  refine ⟨by simpa using h.sz, fun j hj hl => ?_, fun hl => ?_, fun hl => ?_, fun e => (by rw [e28] at e; cases e), fun e => (by rw [e29] at e; cases e), fun e => (by rw [e28] at e; cases e), fun e => (by rw [e29] at e; cases e), hK.boxed h.box, h.bel.trans (hb.mono h.bel.size)⟩
  · by_cases hij : 0 = j
    · subst hij
      exact ⟨fun e => absurd e (by decide), fun e => absurd e (by decide), fun e => absurd e (by decide)⟩
    · rw [set_ne hij] at hl
      have : upd g 5 (.map (some w.heap.size)) (dd j) = g (dd j) := by
        unfold upd
        rw [if_neg (fun e => hij (dd_inj 0 (by omega) j hj rfl e.symm))]
      rw [this]
      exact (h.val j hj hl).kept hK
  · refine ⟨w.heap.size, [], rfl, h.bel.size, World.alloc_heap_new w _, ⟨fun p hp => (by cases hp), fun j hj hkj hlj => ?_, fun p hp => (by cases hp)⟩⟩
    rw [set_ne (fun e => hkj (by rw [← e]; rfl)), h.dep hu j hj hkj] at hlj
    cases hlj
  · rw [set_self h.sz (by omega)] at hl
    cases hl
/-- an entry is put. -/
theorem WInv.ins {b rc : Nat} {w0 w : World} {listed : Array Bool} {g : Nat → Value} (h : WInv b rc w0 listed g w) (h0 : listed.getD 0 false = true) {i : Nat} (hi : i < 28) (hk : kk i ≠ -1) (hu : listed.getD i false = false) {m : Nat} {l : List (Int × Value)} (h1 : g 5 = .map (some m)) (h2 : w0.heap.size ≤ m) (h3 : w.heap[m]? = some (mapU l)) (h4 : MapF b listed l w) {v : Value} (hv : PW b (kk i) v w) :
    WInv b rc w0 (listed.setIfInBounds i true) g (w.putObj m (mapU (l ++ [(kk i, v)]))) := by
  have hm : m < w.heap.size := (Array.getElem?_eq_some_iff.1 h3).1
  have hK : CellsKept w (w.putObj m (mapU (l ++ [(kk i, v)]))) := CellsKept.putObj _ h3 rfl
  have n28 : listed.getD 28 false = false := by
    cases e : listed.getD 28 false with
    | false => rfl
    | true => rw [h.late e i hi] at hu; cases hu
  have n29 : listed.getD 29 false = false := by
    cases e : listed.getD 29 false with
    | false => rfl
    | true => rw [h.late2 e i (by omega)] at hu; cases hu
  have e28 : (listed.setIfInBounds i true).getD 28 false = false := by rw [set_ne (by omega)]; exact n28
  have e29 : (listed.setIfInBounds i true).getD 29 false = false := by rw [set_ne (by omega)]; exact n29
  have hi0 : i ≠ 0 := fun e => hk (by subst e; rfl)
  refine ⟨by simpa using h.sz, fun j hj hl => ?_, fun hl => ?_, fun hl j hj hkj => ?_, fun e => (by rw [e28] at e; cases e), fun e => (by rw [e29] at e; cases e), fun e => (by rw [e28] at e; cases e), fun e => (by rw [e29] at e; cases e), hK.boxed h.box, ⟨h.bel.os, h.bel.tape, h.bel.output, by rw [World.putObj_size]; exact h.bel.size, fun k hk2 => (World.putObj_heap_other (by omega)).trans (h.bel.block k hk2)⟩⟩
  · by_cases hij : i = j
    · subst hij
      have hg := gg_ins i (by omega) hk
      exact ⟨fun e => absurd (hg.symm.trans e) (by decide), fun e => absurd (hg.symm.trans e) (by decide), fun e => absurd (hg.symm.trans e) (by decide)⟩
    · rw [set_ne hij] at hl
      exact (h.val j hj hl).kept hK
  · refine ⟨m, _, h1, h2, World.putObj_heap_same hm, ⟨fun p hp => ?_, fun j hj hkj hlj => ?_, fun p hp => ?_⟩⟩
    · rcases List.mem_append.1 hp with hp | hp
      · obtain ⟨j, h5, h6, h7, h8⟩ := h4.keys p hp
        by_cases hij : i = j
        · subst hij; exact ⟨i, by omega, h6, h7, set_self h.sz (by omega)⟩
        · exact ⟨j, h5, h6, h7, by rw [set_ne hij]; exact h8⟩
      · obtain rfl := List.mem_singleton.1 hp
        exact ⟨i, by omega, rfl, hk, set_self h.sz (by omega)⟩
    · by_cases hij : i = j
      · subst hij; exact ⟨v, by simp⟩
      · rw [set_ne hij] at hlj
        obtain ⟨u, hu2⟩ := h4.all j hj hkj hlj
        exact ⟨u, List.mem_append_left _ hu2⟩
    · rcases List.mem_append.1 hp with hp | hp
      · exact (h4.vals p hp).kept hK
      · obtain rfl := List.mem_singleton.1 hp
        exact hv.kept hK
  · rw [set_ne hi0, h0] at hl; cases hl

theorem fixed_calls (rc n : Nat) (w : World) :
    Calls Tryz.prog 99 #[.int .u64 n, .pointer (some ⟨rc, 0, none⟩)] w fun e w' => e = .returned (.func (.func 100) #[] #[.pointer (some ⟨rc, 0, none⟩), .pointer (some ⟨w.heap.size, 0, none⟩)]) ∧ w' = w.alloc (.cells #[.int .u64 n] 24) := by
  go_enter Tryz.func99, Tryz.ntmps99
  go_wp2
  go_ret
  exact ⟨rfl, rfl⟩
/-- what the map of the words holds. -/
structure WdF (b : Nat) (l : List (Int × Value)) (w : World) : Prop where
  vals : ∀ p, p ∈ l → PW b p.1 p.2 w
  all : ∀ c : Nat, wdB c = true → ∃ v, ((c : Int), v) ∈ l
def actW (b rc : Nat) (g : Nat → Value) : Act := { tmps := #[.pointer (some ⟨b, 0, none⟩), .pointer (some ⟨rc, 0, none⟩), g 2, .func (.func 99) #[] #[.pointer (some ⟨rc, 0, none⟩)], .func (.func 99) #[] #[.pointer (some ⟨rc, 0, none⟩)], g 5, g 6, g 7, g 8, g 9, g 10, g 11, g 12, g 13, g 14, g 15, g 16, g 17, g 18, g 19, g 20, g 21, g 22, g 23, g 24], defers := [] }
/-- the map is handed on. -/
theorem WInv.last {b rc : Nat} {w0 w : World} {listed : Array Bool} {g : Nat → Value} (h : WInv b rc w0 listed g w) (hall : ∀ j, j < 28 → listed.getD j false = true) (hu : listed.getD 28 false = false) : WInv b rc w0 (listed.setIfInBounds 28 true) (upd g 24 (g 5)) w := by
  have n29 : listed.getD 29 false = false := by
    cases e : listed.getD 29 false with
    | false => rfl
    | true => rw [h.late2 e 28 (by omega)] at hu; cases hu
  have e29 : (listed.setIfInBounds 28 true).getD 29 false = false := by rw [set_ne (by omega)]; exact n29
  refine ⟨by simpa using h.sz, fun j hj hl => ?_, fun hl => ?_, fun hl => ?_, fun _ j hj => by rw [set_ne (by omega)]; exact hall j hj, fun e => (by rw [e29] at e; cases e), fun _ => rfl, fun e => (by rw [e29] at e; cases e), h.box, h.bel⟩
  · by_cases hij : 28 = j
    · subst hij
      exact ⟨fun e => absurd e (by decide), fun e => absurd e (by decide), fun e => absurd e (by decide)⟩
    · rw [set_ne hij] at hl
      have : upd g 24 (g 5) (dd j) = g (dd j) := by
        unfold upd
        rw [if_neg (fun e => hij (dd_inj 28 (by omega) j hj rfl e.symm))]
      rw [this]
      exact h.val j hj hl
  · obtain ⟨m, l, h1, h2, h3, h4⟩ := h.map (hall 0 (by omega))
    refine ⟨m, l, h1, h2, h3, ⟨fun p hp => ?_, fun j hj hkj hlj => ?_, h4.vals⟩⟩
    · obtain ⟨j, h5, h6, h7, h8⟩ := h4.keys p hp
      exact ⟨j, h5, h6, h7, by rw [set_ne (fun e => h7 (by rw [← e]; rfl))]; exact h8⟩
    · rw [set_ne (fun e => hkj (by rw [← e]; rfl))] at hlj
      exact h4.all j hj hkj hlj
  · rw [set_ne (by omega), hall 0 (by omega)] at hl; cases hl
theorem WInv.last2 {b rc : Nat} {w0 w : World} {listed : Array Bool} {g : Nat → Value} (h : WInv b rc w0 listed g w) (hall : ∀ j, j < 29 → listed.getD j false = true) (_hu : listed.getD 29 false = false) : WInv b rc w0 (listed.setIfInBounds 29 true) (upd g 2 (g 5)) w := by
  refine ⟨by simpa using h.sz, fun j hj hl => ?_, fun hl => ?_, fun hl => ?_, fun _ j hj => by rw [set_ne (by omega)]; exact hall j (by omega), fun _ j hj => by rw [set_ne (by omega)]; exact hall j hj, fun _ => h.d28 (hall 28 (by omega)), fun _ => rfl, h.box, h.bel⟩
  · by_cases hij : 29 = j
    · subst hij
      exact ⟨fun e => absurd e (by decide), fun e => absurd e (by decide), fun e => absurd e (by decide)⟩
    · rw [set_ne hij] at hl
      have : upd g 2 (g 5) (dd j) = g (dd j) := by
        unfold upd
        rw [if_neg (fun e => hij (dd_inj 29 (by omega) j hj rfl e.symm))]
      rw [this]
      exact h.val j hj hl
  · obtain ⟨m, l, h1, h2, h3, h4⟩ := h.map (hall 0 (by omega))
    refine ⟨m, l, h1, h2, h3, ⟨fun p hp => ?_, fun j hj hkj hlj => ?_, h4.vals⟩⟩
    · obtain ⟨j, h5, h6, h7, h8⟩ := h4.keys p hp
      exact ⟨j, h5, h6, h7, by rw [set_ne (fun e => h7 (by rw [← e]; rfl))]; exact h8⟩
    · rw [set_ne (fun e => hkj (by rw [← e]; rfl))] at hlj
      exact h4.all j hj hkj hlj
  · rw [set_ne (by omega), hall 0 (by omega)] at hl; cases hl
theorem WInv.ini {b rc : Nat} {w0 w : World} {n : Nat} {g : Nat → Value} (hn : n = 30) (hbx : Boxed w rc 77 (.pointer (some ⟨b, 0, none⟩))) (hb : Below w0.heap.size w0 w) : WInv b rc w0 (Array.replicate n false) g w := by
  subst hn
  have hl : ∀ j, (Array.replicate 30 false).getD j false = false := fun j => by
    rw [Array.getD_eq_getD_getElem?, Array.getElem?_replicate]
    split <;> rfl
  exact ⟨rfl, fun j _ e => (by rw [hl] at e; cases e), fun e => (by rw [hl] at e; cases e), fun _ j _ _ => hl j, fun e => (by rw [hl] at e; cases e), fun e => (by rw [hl] at e; cases e), fun e => (by rw [hl] at e; cases e), fun e => (by rw [hl] at e; cases e), hbx, hb⟩
theorem MapF.done {b : Nat} {listed : Array Bool} {l : List (Int × Value)} {w : World} (h : MapF b listed l w) (hall : ∀ j, j < 29 → listed.getD j false = true) : WdF b l w := by
  refine ⟨h.vals, fun c hc => ?_⟩
  have key : ∀ j, j < 29 → kk j ≠ -1 → ∃ v, (kk j, v) ∈ l := fun j hj hk => h.all j (by omega) hk (hall j hj)
  rcases wd_cases hc with rfl | rfl | rfl | rfl | rfl | rfl | rfl | rfl | rfl
  · exact key 3 (by omega) (by decide)
  · exact key 6 (by omega) (by decide)
  · exact key 9 (by omega) (by decide)
  · exact key 12 (by omega) (by decide)
  · exact key 15 (by omega) (by decide)
  · exact key 18 (by omega) (by decide)
  · exact key 21 (by omega) (by decide)
  · exact key 24 (by omega) (by decide)
  · exact key 27 (by omega) (by decide)

set_option maxRecDepth 100000 in
set_option maxHeartbeats 8000000 in
theorem words_calls (b : Nat) (w : World) :
    Calls Tryz.prog 58 #[.pointer (some ⟨b, 0, none⟩)] w fun e w' => ∃ m l, e = .returned (.map (some m)) ∧ Below w.heap.size w w' ∧ w'.heap[m]? = some (mapU l) ∧ WdF b l w' := by
  have hbx := Boxed.new w 77 (.pointer (some ⟨b, 0, none⟩))
  have hb := below_alloc w (.cells #[.pointer (some ⟨b, 0, none⟩)] 77)
  have HX := hid (And.intro hbx hb)
  clear hbx hb
  obtain ⟨rc, hrc⟩ : ∃ rc, w.heap.size = rc := ⟨_, rfl⟩
  go_enter Tryz.func58, Tryz.ntmps58
  go_wp2_with fail
  refine wp_region_any (by kernel_rfl) ?_
  refine wpAny_inv (fun listed a W => ∃ g, a = actW b rc g ∧ WInv b rc w listed g W) ?step ?fin _ _ _ _ ⟨fun k => if k = 2 then .map none else undef, rfl, ?ini⟩ (by unfold unl; exact Nat.le_trans (List.length_filter_le ..) (by simp))
  case ini =>
    obtain ⟨hbx, hb⟩ := HX.out
    rw [hrc] at hbx
    exact WInv.ini rfl hbx hb.drew
  case fin =>
    rintro listed a W ⟨g, rfl, h⟩ hr
    have hall := ready_done (by decide +kernel) h.sz hr
    have hall2 : ∀ j, j < 29 → listed.getD j false = true := fun j hj => hall j (Nat.lt_trans hj (by decide))
    have e2 := h.d29 (hall 29 (by decide))
    obtain ⟨m, l, e5, hm, hl, hF⟩ := h.map (hall2 0 (by omega))
    have hW := hF.done hall2
    have hB := h.bel
    rw [e5] at e2
    have HZ := hid (And.intro hl (And.intro hW hB))
    clear hall hall2 hr h hF hl hW hB HX
    simp only [actW, e2, e5, Exit.then]
    go_wp2
    go_ret
    exact ⟨m, l, rfl, HZ.out.2.2, HZ.out.1, HZ.out.2.1⟩
  case step =>
    rintro listed a W i ⟨g, rfl, h⟩ hi
    have hi30 : i < 30 := by
      obtain ⟨_, o, ho, _⟩ := mem_ready.1 hi
      exact (Array.getElem?_eq_some_iff.1 ho).1
    have hun : listed.getD i false = false := by rw [getD_same h.sz hi30 false true]; exact (mem_ready.1 hi).1
    clear HX
    rcases (show i = 0 ∨ i = 1 ∨ i = 2 ∨ i = 3 ∨ i = 4 ∨ i = 5 ∨ i = 6 ∨ i = 7 ∨ i = 8 ∨ i = 9 ∨ i = 10 ∨ i = 11 ∨ i = 12 ∨ i = 13 ∨ i = 14 ∨ i = 15 ∨ i = 16 ∨ i = 17 ∨ i = 18 ∨ i = 19 ∨ i = 20 ∨ i = 21 ∨ i = 22 ∨ i = 23 ∨ i = 24 ∨ i = 25 ∨ i = 26 ∨ i = 27 ∨ i = 28 ∨ i = 29 by omega) with rfl | rfl | rfl | rfl | rfl | rfl | rfl | rfl | rfl | rfl | rfl | rfl | rfl | rfl | rfl | rfl | rfl | rfl | rfl | rfl | rfl | rfl | rfl | rfl | rfl | rfl | rfl | rfl | rfl | rfl
    · refine wpOp_ofK rfl rfl fun K hK => ?_
      have hmm : (Instr.makeMap 111 none).run Tryz.prog W = .ok (.map (some W.heap.size)) (W.alloc (mapU [])) := run_makeMap _ _
      simp only [actW]
      go_simp
      exact hK.out _ _ ⟨upd g 5 (.map (some W.heap.size)), rfl, h.make hun⟩
    · refine wpOp_ofK rfl rfl fun K hK => ?_
      have hc := h.box.cell
      simp only [actW]
      go_simp
      exact hK.out _ _ ⟨upd g 6 (.pointer (some ⟨b, 0, none⟩)), rfl, h.put (i := 1) (by omega) rfl (by omega) hun (Below.refl _ _) ⟨fun _ => rfl, fun e => absurd e (by decide), fun e => absurd e (by decide)⟩⟩
    · refine wpOp_ofK rfl rfl fun K hK => ?_
      have h1 : g 6 = _ := (h.val 1 (by omega) (ready_needs hi 1 (by kernel_rfl))).1 rfl
      simp only [actW, h1]
      go_simp
      exact hK.out _ _ ⟨upd g 7 (.func (.func 102) #[.pointer (some ⟨b, 0, none⟩)] #[]), by simp [actW, upd, h1], h.put (i := 2) (by omega) rfl (by omega) hun (Below.refl _ _) ⟨fun e => absurd e (by decide), fun _ => .inl ⟨rfl, rfl⟩, fun e => absurd e (by decide)⟩⟩
    · refine wpOp_ofK rfl rfl fun K hK => ?_
      have h0 := ready_needs hi 0 (by kernel_rfl)
      obtain ⟨m, l, e5, hm, hl, hF⟩ := h.map h0
      have hv := (h.val 2 (by omega) (ready_needs hi 2 (by kernel_rfl))).2.1 rfl
      have hrun := run_insertU (P := Tryz.prog) (t := 111) Tryz.underlying111 Tryz.underlying5 W m l hl 192 (g 7) (fun p hp e => by
        obtain ⟨j, j1, j2, j3, j4⟩ := hF.keys p hp
        have := kk_inj j j1 3 (by omega) j3 (j2.trans e)
        subst this
        rw [hun] at j4; cases j4)
      simp only [actW, e5]
      go_simp
      exact hK.out _ _ ⟨g, by simp [actW, e5], h.ins h0 (i := 3) (by omega) (by decide) hun e5 hm hl hF hv⟩
    · refine wpOp_ofK rfl rfl fun K hK => ?_
      have hc := h.box.cell
      simp only [actW]
      go_simp
      exact hK.out _ _ ⟨upd g 8 (.pointer (some ⟨b, 0, none⟩)), rfl, h.put (i := 4) (by omega) rfl (by omega) hun (Below.refl _ _) ⟨fun _ => rfl, fun e => absurd e (by decide), fun e => absurd e (by decide)⟩⟩
    · refine wpOp_ofK rfl rfl fun K hK => ?_
      have h1 : g 8 = _ := (h.val 4 (by omega) (ready_needs hi 4 (by kernel_rfl))).1 rfl
      simp only [actW, h1]
      go_simp
      exact hK.out _ _ ⟨upd g 9 (.func (.func 103) #[.pointer (some ⟨b, 0, none⟩)] #[]), by simp [actW, upd, h1], h.put (i := 5) (by omega) rfl (by omega) hun (Below.refl _ _) ⟨fun e => absurd e (by decide), fun _ => .inr (.inl ⟨rfl, rfl⟩), fun e => absurd e (by decide)⟩⟩
    · refine wpOp_ofK rfl rfl fun K hK => ?_
      have h0 := ready_needs hi 0 (by kernel_rfl)
      obtain ⟨m, l, e5, hm, hl, hF⟩ := h.map h0
      have hv := (h.val 5 (by omega) (ready_needs hi 5 (by kernel_rfl))).2.1 rfl
      have hrun := run_insertU (P := Tryz.prog) (t := 111) Tryz.underlying111 Tryz.underlying5 W m l hl 193 (g 9) (fun p hp e => by
        obtain ⟨j, j1, j2, j3, j4⟩ := hF.keys p hp
        have := kk_inj j j1 6 (by omega) j3 (j2.trans e)
        subst this
        rw [hun] at j4; cases j4)
      simp only [actW, e5]
      go_simp
      exact hK.out _ _ ⟨g, by simp [actW, e5], h.ins h0 (i := 6) (by omega) (by decide) hun e5 hm hl hF hv⟩
    · refine wpOp_ofK rfl rfl fun K hK => ?_
      have hc := h.box.cell
      simp only [actW]
      go_simp
      exact hK.out _ _ ⟨upd g 10 (.pointer (some ⟨b, 0, none⟩)), rfl, h.put (i := 7) (by omega) rfl (by omega) hun (Below.refl _ _) ⟨fun _ => rfl, fun e => absurd e (by decide), fun e => absurd e (by decide)⟩⟩
    · refine wpOp_ofK rfl rfl fun K hK => ?_
      have h1 : g 10 = _ := (h.val 7 (by omega) (ready_needs hi 7 (by kernel_rfl))).1 rfl
      simp only [actW, h1]
      go_simp
      exact hK.out _ _ ⟨upd g 11 (.func (.func 104) #[.pointer (some ⟨b, 0, none⟩)] #[]), by simp [actW, upd, h1], h.put (i := 8) (by omega) rfl (by omega) hun (Below.refl _ _) ⟨fun e => absurd e (by decide), fun _ => .inr (.inr (.inl ⟨rfl, rfl⟩)), fun e => absurd e (by decide)⟩⟩
    · refine wpOp_ofK rfl rfl fun K hK => ?_
      have h0 := ready_needs hi 0 (by kernel_rfl)
      obtain ⟨m, l, e5, hm, hl, hF⟩ := h.map h0
      have hv := (h.val 8 (by omega) (ready_needs hi 8 (by kernel_rfl))).2.1 rfl
      have hrun := run_insertU (P := Tryz.prog) (t := 111) Tryz.underlying111 Tryz.underlying5 W m l hl 194 (g 11) (fun p hp e => by
        obtain ⟨j, j1, j2, j3, j4⟩ := hF.keys p hp
        have := kk_inj j j1 9 (by omega) j3 (j2.trans e)
        subst this
        rw [hun] at j4; cases j4)
      simp only [actW, e5]
      go_simp
      exact hK.out _ _ ⟨g, by simp [actW, e5], h.ins h0 (i := 9) (by omega) (by decide) hun e5 hm hl hF hv⟩
    · refine wpOp_ofK rfl rfl fun K hK => ?_
      have hc := h.box.cell
      simp only [actW]
      go_simp
      exact hK.out _ _ ⟨upd g 12 (.pointer (some ⟨b, 0, none⟩)), rfl, h.put (i := 10) (by omega) rfl (by omega) hun (Below.refl _ _) ⟨fun _ => rfl, fun e => absurd e (by decide), fun e => absurd e (by decide)⟩⟩
    · refine wpOp_ofK rfl rfl fun K hK => ?_
      have h1 : g 12 = _ := (h.val 10 (by omega) (ready_needs hi 10 (by kernel_rfl))).1 rfl
      simp only [actW, h1]
      go_simp
      exact hK.out _ _ ⟨upd g 13 (.func (.func 105) #[.pointer (some ⟨b, 0, none⟩)] #[]), by simp [actW, upd, h1], h.put (i := 11) (by omega) rfl (by omega) hun (Below.refl _ _) ⟨fun e => absurd e (by decide), fun _ => .inr (.inr (.inr (.inl ⟨rfl, rfl⟩))), fun e => absurd e (by decide)⟩⟩
    · refine wpOp_ofK rfl rfl fun K hK => ?_
      have h0 := ready_needs hi 0 (by kernel_rfl)
      obtain ⟨m, l, e5, hm, hl, hF⟩ := h.map h0
      have hv := (h.val 11 (by omega) (ready_needs hi 11 (by kernel_rfl))).2.1 rfl
      have hrun := run_insertU (P := Tryz.prog) (t := 111) Tryz.underlying111 Tryz.underlying5 W m l hl 195 (g 13) (fun p hp e => by
        obtain ⟨j, j1, j2, j3, j4⟩ := hF.keys p hp
        have := kk_inj j j1 12 (by omega) j3 (j2.trans e)
        subst this
        rw [hun] at j4; cases j4)
      simp only [actW, e5]
      go_simp
      exact hK.out _ _ ⟨g, by simp [actW, e5], h.ins h0 (i := 12) (by omega) (by decide) hun e5 hm hl hF hv⟩
    · refine wpOp_ofK rfl rfl fun K hK => ?_
      simp only [actW]
      go_simp
      exact hK.out _ _ ⟨upd g 14 (.func (.func 99) #[] #[.pointer (some ⟨rc, 0, none⟩)]), rfl, h.put (i := 13) (by omega) rfl (by omega) hun (Below.refl _ _) ⟨fun e => absurd e (by decide), fun e => absurd e (by decide), fun _ => rfl⟩⟩
    · refine wpOp_ofK rfl rfl fun K hK => ?_
      have h1 : g 14 = _ := (h.val 13 (by omega) (ready_needs hi 13 (by kernel_rfl))).2.2 rfl
      have hf := fixed_calls rc 1 W
      simp only [actW, h1]
      go_simp
      refine hf.mono ?_
      rintro e w1 ⟨rfl, rfl⟩
      exact hK.out _ _ ⟨upd g 15 (.func (.func 100) #[] #[.pointer (some ⟨rc, 0, none⟩), .pointer (some ⟨W.heap.size, 0, none⟩)]), by simp [actW, upd, h1], h.put (i := 14) (by omega) rfl (by omega) hun (below_alloc _ _) ⟨fun e => absurd e (by decide), fun _ => .inr (.inr (.inr (.inr ⟨by decide, by decide, rc, W.heap.size, rfl, (CellsKept.below (below_alloc _ _)).boxed h.box, Boxed.new W _ _⟩))), fun e => absurd e (by decide)⟩⟩
    · refine wpOp_ofK rfl rfl fun K hK => ?_
      have h0 := ready_needs hi 0 (by kernel_rfl)
      obtain ⟨m, l, e5, hm, hl, hF⟩ := h.map h0
      have hv := (h.val 14 (by omega) (ready_needs hi 14 (by kernel_rfl))).2.1 rfl
      have hrun := run_insertU (P := Tryz.prog) (t := 111) Tryz.underlying111 Tryz.underlying5 W m l hl 212 (g 15) (fun p hp e => by
        obtain ⟨j, j1, j2, j3, j4⟩ := hF.keys p hp
        have := kk_inj j j1 15 (by omega) j3 (j2.trans e)
        subst this
        rw [hun] at j4; cases j4)
      simp only [actW, e5]
      go_simp
      exact hK.out _ _ ⟨g, by simp [actW, e5], h.ins h0 (i := 15) (by omega) (by decide) hun e5 hm hl hF hv⟩
    · refine wpOp_ofK rfl rfl fun K hK => ?_
      simp only [actW]
      go_simp
      exact hK.out _ _ ⟨upd g 16 (.func (.func 99) #[] #[.pointer (some ⟨rc, 0, none⟩)]), rfl, h.put (i := 16) (by omega) rfl (by omega) hun (Below.refl _ _) ⟨fun e => absurd e (by decide), fun e => absurd e (by decide), fun _ => rfl⟩⟩
    · refine wpOp_ofK rfl rfl fun K hK => ?_
      have h1 : g 16 = _ := (h.val 16 (by omega) (ready_needs hi 16 (by kernel_rfl))).2.2 rfl
      have hf := fixed_calls rc 2 W
      simp only [actW, h1]
      go_simp
      refine hf.mono ?_
      rintro e w1 ⟨rfl, rfl⟩
      exact hK.out _ _ ⟨upd g 17 (.func (.func 100) #[] #[.pointer (some ⟨rc, 0, none⟩), .pointer (some ⟨W.heap.size, 0, none⟩)]), by simp [actW, upd, h1], h.put (i := 17) (by omega) rfl (by omega) hun (below_alloc _ _) ⟨fun e => absurd e (by decide), fun _ => .inr (.inr (.inr (.inr ⟨by decide, by decide, rc, W.heap.size, rfl, (CellsKept.below (below_alloc _ _)).boxed h.box, Boxed.new W _ _⟩))), fun e => absurd e (by decide)⟩⟩
    · refine wpOp_ofK rfl rfl fun K hK => ?_
      have h0 := ready_needs hi 0 (by kernel_rfl)
      obtain ⟨m, l, e5, hm, hl, hF⟩ := h.map h0
      have hv := (h.val 17 (by omega) (ready_needs hi 17 (by kernel_rfl))).2.1 rfl
      have hrun := run_insertU (P := Tryz.prog) (t := 111) Tryz.underlying111 Tryz.underlying5 W m l hl 213 (g 17) (fun p hp e => by
        obtain ⟨j, j1, j2, j3, j4⟩ := hF.keys p hp
        have := kk_inj j j1 18 (by omega) j3 (j2.trans e)
        subst this
        rw [hun] at j4; cases j4)
      simp only [actW, e5]
      go_simp
      exact hK.out _ _ ⟨g, by simp [actW, e5], h.ins h0 (i := 18) (by omega) (by decide) hun e5 hm hl hF hv⟩
    · refine wpOp_ofK rfl rfl fun K hK => ?_
      simp only [actW]
      go_simp
      exact hK.out _ _ ⟨upd g 18 (.func (.func 99) #[] #[.pointer (some ⟨rc, 0, none⟩)]), rfl, h.put (i := 19) (by omega) rfl (by omega) hun (Below.refl _ _) ⟨fun e => absurd e (by decide), fun e => absurd e (by decide), fun _ => rfl⟩⟩
    · refine wpOp_ofK rfl rfl fun K hK => ?_
      have h1 : g 18 = _ := (h.val 19 (by omega) (ready_needs hi 19 (by kernel_rfl))).2.2 rfl
      have hf := fixed_calls rc 4 W
      simp only [actW, h1]
      go_simp
      refine hf.mono ?_
      rintro e w1 ⟨rfl, rfl⟩
      exact hK.out _ _ ⟨upd g 19 (.func (.func 100) #[] #[.pointer (some ⟨rc, 0, none⟩), .pointer (some ⟨W.heap.size, 0, none⟩)]), by simp [actW, upd, h1], h.put (i := 20) (by omega) rfl (by omega) hun (below_alloc _ _) ⟨fun e => absurd e (by decide), fun _ => .inr (.inr (.inr (.inr ⟨by decide, by decide, rc, W.heap.size, rfl, (CellsKept.below (below_alloc _ _)).boxed h.box, Boxed.new W _ _⟩))), fun e => absurd e (by decide)⟩⟩
    · refine wpOp_ofK rfl rfl fun K hK => ?_
      have h0 := ready_needs hi 0 (by kernel_rfl)
      obtain ⟨m, l, e5, hm, hl, hF⟩ := h.map h0
      have hv := (h.val 20 (by omega) (ready_needs hi 20 (by kernel_rfl))).2.1 rfl
      have hrun := run_insertU (P := Tryz.prog) (t := 111) Tryz.underlying111 Tryz.underlying5 W m l hl 214 (g 19) (fun p hp e => by
        obtain ⟨j, j1, j2, j3, j4⟩ := hF.keys p hp
        have := kk_inj j j1 21 (by omega) j3 (j2.trans e)
        subst this
        rw [hun] at j4; cases j4)
      simp only [actW, e5]
      go_simp
      exact hK.out _ _ ⟨g, by simp [actW, e5], h.ins h0 (i := 21) (by omega) (by decide) hun e5 hm hl hF hv⟩
    · refine wpOp_ofK rfl rfl fun K hK => ?_
      simp only [actW]
      go_simp
      exact hK.out _ _ ⟨upd g 20 (.func (.func 99) #[] #[.pointer (some ⟨rc, 0, none⟩)]), rfl, h.put (i := 22) (by omega) rfl (by omega) hun (Below.refl _ _) ⟨fun e => absurd e (by decide), fun e => absurd e (by decide), fun _ => rfl⟩⟩
    · refine wpOp_ofK rfl rfl fun K hK => ?_
      have h1 : g 20 = _ := (h.val 22 (by omega) (ready_needs hi 22 (by kernel_rfl))).2.2 rfl
      have hf := fixed_calls rc 8 W
      simp only [actW, h1]
      go_simp
      refine hf.mono ?_
      rintro e w1 ⟨rfl, rfl⟩
      exact hK.out _ _ ⟨upd g 21 (.func (.func 100) #[] #[.pointer (some ⟨rc, 0, none⟩), .pointer (some ⟨W.heap.size, 0, none⟩)]), by simp [actW, upd, h1], h.put (i := 23) (by omega) rfl (by omega) hun (below_alloc _ _) ⟨fun e => absurd e (by decide), fun _ => .inr (.inr (.inr (.inr ⟨by decide, by decide, rc, W.heap.size, rfl, (CellsKept.below (below_alloc _ _)).boxed h.box, Boxed.new W _ _⟩))), fun e => absurd e (by decide)⟩⟩
    · refine wpOp_ofK rfl rfl fun K hK => ?_
      have h0 := ready_needs hi 0 (by kernel_rfl)
      obtain ⟨m, l, e5, hm, hl, hF⟩ := h.map h0
      have hv := (h.val 23 (by omega) (ready_needs hi 23 (by kernel_rfl))).2.1 rfl
      have hrun := run_insertU (P := Tryz.prog) (t := 111) Tryz.underlying111 Tryz.underlying5 W m l hl 215 (g 21) (fun p hp e => by
        obtain ⟨j, j1, j2, j3, j4⟩ := hF.keys p hp
        have := kk_inj j j1 24 (by omega) j3 (j2.trans e)
        subst this
        rw [hun] at j4; cases j4)
      simp only [actW, e5]
      go_simp
      exact hK.out _ _ ⟨g, by simp [actW, e5], h.ins h0 (i := 24) (by omega) (by decide) hun e5 hm hl hF hv⟩
    · refine wpOp_ofK rfl rfl fun K hK => ?_
      simp only [actW]
      go_simp
      exact hK.out _ _ ⟨upd g 22 (.func (.func 99) #[] #[.pointer (some ⟨rc, 0, none⟩)]), rfl, h.put (i := 25) (by omega) rfl (by omega) hun (Below.refl _ _) ⟨fun e => absurd e (by decide), fun e => absurd e (by decide), fun _ => rfl⟩⟩
    · refine wpOp_ofK rfl rfl fun K hK => ?_
      have h1 : g 22 = _ := (h.val 25 (by omega) (ready_needs hi 25 (by kernel_rfl))).2.2 rfl
      have hf := fixed_calls rc 16 W
      simp only [actW, h1]
      go_simp
      refine hf.mono ?_
      rintro e w1 ⟨rfl, rfl⟩
      exact hK.out _ _ ⟨upd g 23 (.func (.func 100) #[] #[.pointer (some ⟨rc, 0, none⟩), .pointer (some ⟨W.heap.size, 0, none⟩)]), by simp [actW, upd, h1], h.put (i := 26) (by omega) rfl (by omega) hun (below_alloc _ _) ⟨fun e => absurd e (by decide), fun _ => .inr (.inr (.inr (.inr ⟨by decide, by decide, rc, W.heap.size, rfl, (CellsKept.below (below_alloc _ _)).boxed h.box, Boxed.new W _ _⟩))), fun e => absurd e (by decide)⟩⟩
    · refine wpOp_ofK rfl rfl fun K hK => ?_
      have h0 := ready_needs hi 0 (by kernel_rfl)
      obtain ⟨m, l, e5, hm, hl, hF⟩ := h.map h0
      have hv := (h.val 26 (by omega) (ready_needs hi 26 (by kernel_rfl))).2.1 rfl
      have hrun := run_insertU (P := Tryz.prog) (t := 111) Tryz.underlying111 Tryz.underlying5 W m l hl 216 (g 23) (fun p hp e => by
        obtain ⟨j, j1, j2, j3, j4⟩ := hF.keys p hp
        have := kk_inj j j1 27 (by omega) j3 (j2.trans e)
        subst this
        rw [hun] at j4; cases j4)
      simp only [actW, e5]
      go_simp
      exact hK.out _ _ ⟨g, by simp [actW, e5], h.ins h0 (i := 27) (by omega) (by decide) hun e5 hm hl hF hv⟩
    · refine wpOp_ofK rfl rfl fun K hK => ?_
      have hall : ∀ j, j < 28 → listed.getD j false = true := fun j hj => ready_needs hi j (by revert j; decide +kernel)
      simp only [actW]
      go_simp
      exact hK.out _ _ ⟨upd g 24 (g 5), rfl, h.last hall hun⟩
    · refine wpOp_ofK rfl rfl fun K hK => ?_
      have hall : ∀ j, j < 29 → listed.getD j false = true := fun j hj => ready_needs hi j (by revert j; decide +kernel)
      have h28 := h.d28 (hall 28 (by omega))
      simp only [actW, h28]
      go_simp
      exact hK.out _ _ ⟨upd g 2 (g 5), by simp [actW, upd, h28], h.last2 hall hun⟩
end Go.Proofs.YtpjlepkdiaohiaaGreatDoor

/- Package mpr: the reader's functions that read by a number: walked. -/
namespace Go.Proofs.YtpjlepkdiaohiaaGreatDoor
open Go.RowKit
attribute [local go_sem] Oper.semAt_some

theorem sx_take (s : ByteArray) {n : Nat} : B ((tx s).take n) = s.extract 0 n := by
  rw [← B_tx (s.extract 0 n), show tx (s.extract 0 n) = (tx s).take n from extract_take s n]

set_option maxRecDepth 100000 in
set_option maxHeartbeats 4000000 in
theorem rraw_calls (em ep et : Addr) (b : Nat) (s : ByteArray) (d n : Nat) (_hn : n < 18446744073709551616) (hs : s.size ≤ 1000000) (p : Pay) (w : World) (hR : Rd w b s d) (hE : Env em ep et b w) :
    Calls Tryz.prog 141 #[.pointer (some ⟨b, 0, none⟩), .int .u64 n, ndV p (.slice none 0 0)] w fun e w' => Ans em ep et b d w (rraw p n (tx s)) e w' := by
  have c0 := hR.cell 0 rfl
  have f0 := hR.frozen 0
  have e0 := hE.errs.c0
  have hblt := Cls.lt hR
  have hglt : 3 < w.heap.size := World.block_lt_of_cell? w _ e0
  have hb2 := (below_alloc w (.cells (ndL p (.slice none 0 0)).toArray 27)).alloc (by simp) (.cells (ndL Pay.z (.slice none 0 0)).toArray 27)
  have hP := (Cls.new w 27 (ndL p (.slice none 0 0))).alloc (.cells (ndL Pay.z (.slice none 0 0)).toArray 27)
  have hZ := Cls.new (w.alloc (.cells (ndL p (.slice none 0 0)).toArray 27)) 27 (ndL Pay.z (.slice none 0 0))
  rw [World.size_alloc] at hZ
  have hR2 := hR.up hb2
  have hws : IntKind.u64.wrap (s.size : Int) = s.size := IntWalk.u64_in _ (by omega)
  by_cases hlt : s.size < n
  · have hx : rraw p n (tx s) = .er 0 := by unfold rraw; rw [if_pos (by rw [txs_len]; exact hlt)]
    have hlz : (s.size : Int) < n := by omega
    have HX := hid (And.intro hb2 (And.intro hZ (And.intro hR2 hx)))
    clear hb2 hP hZ hR2 hx hR hE
    simp only [ndV, ndL, Pay.z] at HX ⊢
    go_enter Tryz.func141, Tryz.ntmps141
    go_wp2
    go_region
    go_wp2
    obtain ⟨hb2, hZ, hR2, hx⟩ := HX.out
    obtain ⟨f0, f1, f2, f3, f4, f5, f6, f7, f8⟩ : _ ∧ _ ∧ _ ∧ _ ∧ _ ∧ _ ∧ _ ∧ _ ∧ _ := ⟨hZ.cell 0 rfl, hZ.cell 1 rfl, hZ.cell 2 rfl, hZ.cell 3 rfl, hZ.cell 4 rfl, hZ.cell 5 rfl, hZ.cell 6 rfl, hZ.cell 7 rfl, hZ.cell 8 rfl⟩
    refine bodyPost_ret (v := .tuple #[ndV Pay.z (.slice none 0 0), errV em ep et 0]) (by simp [results, Tryz.results141, go_sem, ndV, ndL, Pay.z, errV]) rfl ?_
    rw [hx]
    exact Ans.err (.of_below hb2.drew (Nat.le_of_lt hblt)) (hR2.up (Below.refl _ _).drew) hs
  · have hx : rraw p n (tx s) = .ok (.nd { p with s := s.extract 0 n } []) ((tx s).drop n) := by unfold rraw; rw [if_neg (by rw [txs_len]; exact hlt), sx_take]
    have hlz : decide ((s.size : Int) < n) = false := decide_eq_false (by omega)
    have hnl : (n : Int) ≤ s.size := by omega
    have hP2 := hP
    have p5 := hP.cell 7 rfl
    have q5 := hP.frozen 7
    have c2 := hR2.cell 0 rfl
    have g2 := hR2.frozen 0
    have HX := hid (And.intro hR hx)
    clear hb2 hP hP2 hZ hR2 hx hR hE e0
    simp only [ndV, ndL, Pay.z] at HX p5 q5 c2 g2 ⊢
    go_enter Tryz.func141, Tryz.ntmps141
    go_wp2
    go_region
    go_wp2
    obtain ⟨hR, hx⟩ := HX.out
    have hK : RdK b w (w.setCell ⟨b, 0, none⟩ (.string (s.extract n s.size))) := (RdK.refl b w).set 0 _
    have hbb := ((below_alloc (w.setCell ⟨b, 0, none⟩ (.string (s.extract n s.size))) (.cells (ndL { p with s := s.extract 0 n } (.slice none 0 0)).toArray 27)).alloc (by simp) (.cells (ndL { p with s := s.extract 0 n } (.slice none 0 0)).toArray 27)).drew
    have hZ := Cls.new ((w.setCell ⟨b, 0, none⟩ (.string (s.extract n s.size))).alloc (.cells (ndL { p with s := s.extract 0 n } (.slice none 0 0)).toArray 27)) 27 (ndL { p with s := s.extract 0 n } (.slice none 0 0))
    rw [World.size_alloc, setCell_size] at hZ
    obtain ⟨f0, f1, f2, f3, f4, f5, f6, f7, f8⟩ := hZ.nine
    refine bodyPost_ret (v := .tuple #[ndV { p with s := s.extract 0 n } (.slice none 0 0), .nilIface]) (by simp only [ndL] at f0 f1 f2 f3 f4 f5 f6 f7 f8; simp [results, Tryz.results141, go_sem, f0, f1, f2, f3, f4, f5, f6, f7, f8, ndV, ndL]) rfl ?_
    rw [hx]
    exact Ans.leaf (rdrop s n) (hK.trans (.of_below hbb (by rw [setCell_size]; exact Nat.le_of_lt hblt))) (hR.rest.up hbb)
/-- what a callee answers is handed on: its node is stored into block g, and read there. -/
theorem RdK.putN {b : Nat} {A B : World} (h : RdK b A B) {g : Nat} (hg : A.heap.size ≤ g) (hb : b < A.heap.size) (p : Pay) (s : Value) : RdK b A (Go.Proofs.YtpjlepkdiaohiaaGreatDoor.putN B g 0 p s) :=
  ⟨putN_below h.below g 0 p s (by omega), fun k hk hkb => (putN_other _ _ _ _ _ (by omega)).trans (h.blk k hk hkb)⟩
theorem Ans.fwd {em ep et : Addr} {b d : Nat} {w w0 w1 : World} {x : RR} {e : Ending} {g : Nat} {p0 : Pay} {s0 : Value} (hK : RdK b w w0) (hg : w.heap.size ≤ g) (hC : Cls w0 g 27 (ndL p0 s0)) (hb : b < w.heap.size) (h : Ans em ep et b d w0 x e w1) :
    ∃ (p : Pay) (a : Option Addr) (n c : Nat) (ev : Value), e = .returned (.tuple #[ndV p (.slice a n c), ev]) ∧ Cls w1 g 27 (ndL p0 s0) ∧ Cls (putN w1 g 0 p (.slice a n c)) g 27 (ndL p (.slice a n c)) ∧ Ans em ep et b d w x (.returned (.tuple #[ndV p (.slice a n c), ev])) (putN w1 g 0 p (.slice a n c)) := by
  have hC1 : Cls w1 g 27 (ndL p0 s0) := (h.1.blk g hC.lt (by omega)).trans hC
  have hK1 : RdK b w w1 := hK.trans h.1
  rcases h.2 with ⟨t, q, a, n, c, hx, rfl, hB, hr⟩ | ⟨i, p, a, n, c, q, hx, rfl, hr, hq⟩
  · exact ⟨t.p, a, n, c, .nilIface, rfl, hC1, hC1.putN, hK1.putN hg hb _ _, .inl ⟨t, q, a, n, c, hx, rfl, (hB.kept fun k _ hk => putN_other _ _ _ _ _ (by have := hC.lt; have hk2 : w0.heap.size ≤ k := hk; omega)).mono fun k _ hk => Nat.le_trans hK.below.size hk, Cls.putN_other hr (by omega)⟩⟩
  · exact ⟨p, a, n, c, _, rfl, hC1, hC1.putN, hK1.putN hg hb _ _, .inr ⟨i, p, a, n, c, q, hx, rfl, Cls.putN_other hr (by omega), hq⟩⟩
theorem Ans.put {em ep et : Addr} {b d : Nat} {w w0 w1 : World} {x : RR} {e : Ending} {g : Nat} {p0 : Pay} {s0 : Value} (hK : RdK b w w0) (hg : w.heap.size ≤ g) (hC : Cls w0 g 27 (ndL p0 s0)) (hb : b < w.heap.size) (h : Ans em ep et b d w0 x e w1) (p : Pay) (s : Value) :
    Cls w1 g 27 (ndL p0 s0) ∧ Cls (Go.Proofs.YtpjlepkdiaohiaaGreatDoor.putN w1 g 0 p s) g 27 (ndL p s) ∧ Ans em ep et b d w x e (Go.Proofs.YtpjlepkdiaohiaaGreatDoor.putN w1 g 0 p s) := by
  have hC1 : Cls w1 g 27 (ndL p0 s0) := (h.1.blk g hC.lt (by omega)).trans hC
  have hK1 : RdK b w w1 := hK.trans h.1
  refine ⟨hC1, hC1.putN, hK1.putN hg hb _ _, ?_⟩
  rcases h.2 with ⟨t, q, a, n, c, hx, he, hB, hr⟩ | ⟨i, p, a, n, c, q, hx, he, hr, hq⟩
  · exact .inl ⟨t, q, a, n, c, hx, he, (hB.kept fun k _ hk => putN_other _ _ _ _ _ (by have := hC.lt; have hk2 : w0.heap.size ≤ k := hk; omega)).mono fun k _ hk => Nat.le_trans hK.below.size hk, Cls.putN_other hr (by omega)⟩
  · exact .inr ⟨i, p, a, n, c, q, hx, he, Cls.putN_other hr (by omega), hq⟩
theorem bp_at {Q : Exit → Act → World → Prop} {x : Exit} {a : Act} {W W' : World} (h : Q x a W') (e : W' = W) : Q x a W := e ▸ h
theorem Ans.rw {em ep et : Addr} {b d : Nat} {w w' : World} {x y : RR} {e : Ending} (h : Ans em ep et b d w x e w') (hx : x = y) : Ans em ep et b d w y e w' := hx ▸ h

set_option maxRecDepth 100000 in
set_option maxHeartbeats 4000000 in
theorem rtext_calls (f : List UInt8 → RR) (d : Nat) : ReadC f d 109 3 := by
  intro em ep et b s n z hn _ _ _ hs0 w hR hE
  have hs : s.size ≤ 140737488355328 := Nat.le_trans hs0 (by decide)
  have hblt := Cls.lt hR
  have hb1 := below_alloc w (.cells (ndL Pay.z (.slice none 0 0)).toArray 27)
  have hC0 := Cls.new w 27 (ndL Pay.z (.slice none 0 0))
  have hK0 : RdK b w (w.alloc (.cells (ndL Pay.z (.slice none 0 0)).toArray 27)) := .of_below hb1 (Nat.le_of_lt hblt)
  have hcall := rraw_calls em ep et b s d n hn hs0 (kP 5) _ (hR.up hb1) (hE.rdk (hb1.mono (Nat.le_of_lt hblt)))
  change Calls _ _ _ _ fun e w' => Ans em ep et b d w (rraw (kP 5) n (tx s)) e w'
  obtain ⟨x, hx⟩ : ∃ x, rraw (kP 5) n (tx s) = x := ⟨_, rfl⟩
  rw [hx] at hcall ⊢
  have HX := hid (And.intro hK0 (And.intro (Nat.le_refl w.heap.size) (And.intro hC0 hblt)))
  clear hK0 hC0 hx hE hR hb1
  simp only [ndV, ndL, kP, Pay.z] at hcall
  go_enter Tryz.func109, Tryz.ntmps109
  go_wp2_with fail
  refine (hcall).mono ?_
  rintro e w1 hA
  obtain ⟨p1, a1, n1, c1, ev, rfl, hC1, hC5, hA5⟩ := Ans.fwd HX.out.1 HX.out.2.1 HX.out.2.2.1 HX.out.2.2.2 hA
  obtain ⟨y0, y1, y2, y3, y4, y5, y6, y7, y8⟩ := hC1.nine
  obtain ⟨v0, v1, v2, v3, v4, v5, v6, v7, v8⟩ := hC1.frozens
  have HY := hid (And.intro hC5 hA5)
  clear hA hC1 hC5 hA5 hcall
  simp only [ndV, ndL]
  go_wp2
  obtain ⟨W5, hW5, hC5, hA5⟩ : ∃ W5, putN w1 w.heap.size 0 p1 (.slice a1 n1 c1) = W5 ∧ Cls W5 w.heap.size 27 (ndL p1 (.slice a1 n1 c1)) ∧ Ans em ep et b d w x (.returned (.tuple #[ndV p1 (.slice a1 n1 c1), ev])) W5 := ⟨_, rfl, HY.out.1, HY.out.2⟩
  unfold putN at hW5
  simp only [Nat.zero_add] at hW5
  rw [hW5]
  obtain ⟨f0, f1, f2, f3, f4, f5, f6, f7, f8⟩ := hC5.nine
  exact bodyPost_ret (v := .tuple #[ndV p1 (.slice a1 n1 c1), ev]) (by simp [results, Tryz.results109, go_sem, f0, f1, f2, f3, f4, f5, f6, f7, f8, ndV, ndL]) rfl hA5
set_option maxRecDepth 100000 in
set_option maxHeartbeats 4000000 in
theorem rbytes_calls (f : List UInt8 → RR) (d : Nat) : ReadC f d 110 4 := by
  intro em ep et b s n z hn _ _ _ hs0 w hR hE
  have hs : s.size ≤ 140737488355328 := Nat.le_trans hs0 (by decide)
  have hblt := Cls.lt hR
  have hb1 := below_alloc w (.cells (ndL Pay.z (.slice none 0 0)).toArray 27)
  have hC0 := Cls.new w 27 (ndL Pay.z (.slice none 0 0))
  have hK0 : RdK b w (w.alloc (.cells (ndL Pay.z (.slice none 0 0)).toArray 27)) := .of_below hb1 (Nat.le_of_lt hblt)
  have hcall := rraw_calls em ep et b s d n hn hs0 (kP 6) _ (hR.up hb1) (hE.rdk (hb1.mono (Nat.le_of_lt hblt)))
  change Calls _ _ _ _ fun e w' => Ans em ep et b d w (rraw (kP 6) n (tx s)) e w'
  obtain ⟨x, hx⟩ : ∃ x, rraw (kP 6) n (tx s) = x := ⟨_, rfl⟩
  rw [hx] at hcall ⊢
  have HX := hid (And.intro hK0 (And.intro (Nat.le_refl w.heap.size) (And.intro hC0 hblt)))
  clear hK0 hC0 hx hE hR hb1
  simp only [ndV, ndL, kP, Pay.z] at hcall
  go_enter Tryz.func110, Tryz.ntmps110
  go_wp2_with fail
  refine (hcall).mono ?_
  rintro e w1 hA
  obtain ⟨p1, a1, n1, c1, ev, rfl, hC1, hC5, hA5⟩ := Ans.fwd HX.out.1 HX.out.2.1 HX.out.2.2.1 HX.out.2.2.2 hA
  obtain ⟨y0, y1, y2, y3, y4, y5, y6, y7, y8⟩ := hC1.nine
  obtain ⟨v0, v1, v2, v3, v4, v5, v6, v7, v8⟩ := hC1.frozens
  have HY := hid (And.intro hC5 hA5)
  clear hA hC1 hC5 hA5 hcall
  simp only [ndV, ndL]
  go_wp2
  obtain ⟨W5, hW5, hC5, hA5⟩ : ∃ W5, putN w1 w.heap.size 0 p1 (.slice a1 n1 c1) = W5 ∧ Cls W5 w.heap.size 27 (ndL p1 (.slice a1 n1 c1)) ∧ Ans em ep et b d w x (.returned (.tuple #[ndV p1 (.slice a1 n1 c1), ev])) W5 := ⟨_, rfl, HY.out.1, HY.out.2⟩
  unfold putN at hW5
  simp only [Nat.zero_add] at hW5
  rw [hW5]
  obtain ⟨f0, f1, f2, f3, f4, f5, f6, f7, f8⟩ := hC5.nine
  exact bodyPost_ret (v := .tuple #[ndV p1 (.slice a1 n1 c1), ev]) (by simp [results, Tryz.results110, go_sem, f0, f1, f2, f3, f4, f5, f6, f7, f8, ndV, ndL]) rfl hA5
set_option maxRecDepth 100000 in
set_option maxHeartbeats 4000000 in
theorem rext_calls (f : List UInt8 → RR) (d : Nat) : ReadC f d 101 5 := by
  intro em ep et b s n z hn _ _ _ hs0 w hR hE
  have hs : s.size ≤ 140737488355328 := Nat.le_trans hs0 (by decide)
  have hblt := Cls.lt hR
  have hb1 := below_alloc w (.cells (ndL Pay.z (.slice none 0 0)).toArray 27)
  have hC0 := Cls.new w 27 (ndL Pay.z (.slice none 0 0))
  have hK0 : RdK b w (w.alloc (.cells (ndL Pay.z (.slice none 0 0)).toArray 27)) := .of_below hb1 (Nat.le_of_lt hblt)
  have hR0 := hR.up hb1
  have hE0 := hE.rdk (hb1.mono (Nat.le_of_lt hblt))
  have hnum := rnumber_calls b s d 1 (by omega) hs _ hR0 hE0.errs
  change Calls _ _ _ _ fun e w' => Ans em ep et b d w (rext n (tx s)) e w'
  have HX := hid (And.intro hK0 (And.intro (Nat.le_refl w.heap.size) (And.intro hC0 hblt)))
  by_cases hlt : s.size < 1
  · have hx : rext n (tx s) = .er 0 := by unfold rext rnum; rw [if_pos (by rw [txs_len]; exact hlt)]
    rw [hx]
    clear hK0 hC0 hx hE hR hb1 hR0 hE0
    simp only [ndL, Pay.z] at hnum
    go_enter Tryz.func101, Tryz.ntmps101
    go_wp2_with fail
    refine hnum.mono ?_
    rintro e w1 (⟨-, rfl, hk, hr⟩ | ⟨h, -⟩)
    case inr => omega
    have hA : Ans em ep et b d (w.alloc (.cells (ndL Pay.z (.slice none 0 0)).toArray 27)) (.er 0) (.returned (.tuple #[ndV (Pay.z) (.slice none 0 0), errV em ep et 0])) w1 := Ans.err (i := 0) hk hr hs0
    obtain ⟨hC1, hC5, hA5⟩ := Ans.put HX.out.1 HX.out.2.1 HX.out.2.2.1 HX.out.2.2.2 hA (Pay.z) (.slice none 0 0)
    obtain ⟨y0, y1, y2, y3, y4, y5, y6, y7, y8⟩ := hC1.nine
    obtain ⟨v0, v1, v2, v3, v4, v5, v6, v7, v8⟩ := hC1.frozens
    have HY := hid (And.intro hC5 hA5)
    clear hA hC1 hC5 hA5 hk hr hnum hlt
    go_wp2
    obtain ⟨W5, hW5, hC5, hA5⟩ : ∃ W5, putN w1 w.heap.size 0 (Pay.z) (.slice none 0 0) = W5 ∧ Cls W5 w.heap.size 27 (ndL (Pay.z) (.slice none 0 0)) ∧ Ans em ep et b d w (.er 0) (.returned (.tuple #[ndV (Pay.z) (.slice none 0 0), errV em ep et 0])) W5 := ⟨_, rfl, HY.out.1, HY.out.2⟩
    refine bp_at (W' := W5) ?_ hW5.symm
    obtain ⟨f0, f1, f2, f3, f4, f5, f6, f7, f8⟩ := hC5.nine
    exact bodyPost_ret (v := .tuple #[ndV (Pay.z) (.slice none 0 0), errV em ep et 0]) (by simp [results, Tryz.results101, go_sem, f0, f1, f2, f3, f4, f5, f6, f7, f8, ndV, ndL, Pay.z, errV]) rfl hA5

  · obtain ⟨u, hu⟩ : ∃ u, beN ((tx s).take 1) = u := ⟨_, rfl⟩
    obtain ⟨x, hxx⟩ : ∃ x, rext n (tx s) = x := ⟨_, rfl⟩
    rw [hxx]
    have hul : u < 256 := by
      rw [← hu]
      have := beN_lt ((tx s).take 1)
      rw [List.length_take, txs_len, Nat.min_eq_left (by omega)] at this
      simpa using this
    have hx : ∀ q : ByteArray, tx q = (tx s).drop 1 → x = rraw { Pay.z with k := 11, u := u } n (tx q) := fun q hq => by
      rw [← hxx]
      unfold rext rnum
      rw [if_neg (by rw [txs_len]; exact hlt), hu, hq]
    rw [hu] at hnum
    have HZ := hid (And.intro hx (And.intro hE0 hu))
    clear hK0 hC0 hx hE hR hb1 hR0 hE0 hu hxx
    simp only [ndL, Pay.z] at hnum
    go_enter Tryz.func101, Tryz.ntmps101
    go_wp2_with fail
    refine hnum.mono ?_
    rintro e w1 (⟨h, -⟩ | ⟨-, q, rfl, hq, hk, hr⟩)
    case inl => omega
    have hql : q.size ≤ 1000000 := by
      have := congrArg List.length hq
      rw [List.length_drop, txs_len, txs_len] at this
      omega
    obtain ⟨hx, hE0, hu⟩ := HZ.out
    have hcall := rraw_calls em ep et b q d n hn hql { Pay.z with k := 11, u := u } w1 hr (hE0.rdk hk.below)
    rw [← hx q hq] at hcall
    have HV := hid hk
    clear hx hE0 hq hk hr hql HZ hnum hu
    simp only [ndV, ndL, Pay.z] at hcall
    go_wp2_with fail
    refine hcall.mono ?_
    rintro e w2 hA
    obtain ⟨p1, a1, n1, c1, ev, rfl, hC1, hC5, hA5⟩ := Ans.fwd HX.out.1 HX.out.2.1 HX.out.2.2.1 HX.out.2.2.2 (hA.from HV.out)
    obtain ⟨y0, y1, y2, y3, y4, y5, y6, y7, y8⟩ := hC1.nine
    obtain ⟨v0, v1, v2, v3, v4, v5, v6, v7, v8⟩ := hC1.frozens
    have HY := hid (And.intro hC5 hA5)
    clear hA hC1 hC5 hA5 hcall HV
    simp only [ndV, ndL]
    go_wp2
    obtain ⟨W5, hW5, hC5, hA5⟩ : ∃ W5, putN w2 w.heap.size 0 p1 (.slice a1 n1 c1) = W5 ∧ Cls W5 w.heap.size 27 (ndL p1 (.slice a1 n1 c1)) ∧ Ans em ep et b d w x (.returned (.tuple #[ndV p1 (.slice a1 n1 c1), ev])) W5 := ⟨_, rfl, HY.out.1, HY.out.2⟩
    unfold putN at hW5
    simp only [Nat.zero_add] at hW5
    rw [hW5]
    obtain ⟨f0, f1, f2, f3, f4, f5, f6, f7, f8⟩ := hC5.nine
    exact bodyPost_ret (v := .tuple #[ndV p1 (.slice a1 n1 c1), ev]) (by simp [results, Tryz.results101, go_sem, f0, f1, f2, f3, f4, f5, f6, f7, f8, ndV, ndL]) rfl hA5

set_option maxRecDepth 100000 in
set_option maxHeartbeats 4000000 in
theorem rfloat4 (em ep et : Addr) (b d : Nat) (s : ByteArray) (n : Nat) (w : World) (hR : Rd w b s d) (_hE : Env em ep et b w) : Calls Tryz.prog 111 #[.pointer (some ⟨b, 0, none⟩), .int .u64 n, .int .i64 (4 : Nat)] w fun e w' => Ans em ep et b d w (.ok (.nd (floP 4 n) []) (tx s)) e w' := by
  have hblt := Cls.lt hR
  have hb1 := below_alloc w (.cells (ndL (floP 4 n) (.slice none 0 0)).toArray 27)
  have hC0 := Cls.new w 27 (ndL (floP 4 n) (.slice none 0 0))
  change Calls _ _ _ _ fun e w' => Ans em ep et b d w (.ok (.nd (floP 4 n) []) (tx s)) e w'
  have HX := hid (And.intro hR (And.intro hb1 (And.intro hC0 hblt)))
  clear hR hb1 hC0 _hE
  go_enter Tryz.func111, Tryz.ntmps111
  go_wp2
  obtain ⟨hR, hb1, hC0, hblt⟩ := HX.out
  obtain ⟨f0, f1, f2, f3, f4, f5, f6, f7, f8⟩ := hC0.nine
  exact bodyPost_ret (v := .tuple #[ndV (floP 4 n) (.slice none 0 0), .nilIface]) (by simp only [ndL, floP, Pay.z] at f0 f1 f2 f3 f4 f5 f6 f7 f8; simp [results, Tryz.results111, go_sem, ndV, ndL, floP, Pay.z]) rfl (Ans.leaf rfl (.of_below hb1 (Nat.le_of_lt hblt)) (hR.up hb1))

set_option maxRecDepth 100000 in
set_option maxHeartbeats 4000000 in
theorem rfloat8 (em ep et : Addr) (b d : Nat) (s : ByteArray) (n : Nat) (w : World) (hR : Rd w b s d) (_hE : Env em ep et b w) : Calls Tryz.prog 111 #[.pointer (some ⟨b, 0, none⟩), .int .u64 n, .int .i64 (8 : Nat)] w fun e w' => Ans em ep et b d w (.ok (.nd (floP 8 n) []) (tx s)) e w' := by
  have hblt := Cls.lt hR
  have hb1 := below_alloc w (.cells (ndL (floP 8 n) (.slice none 0 0)).toArray 27)
  have hC0 := Cls.new w 27 (ndL (floP 8 n) (.slice none 0 0))
  change Calls _ _ _ _ fun e w' => Ans em ep et b d w (.ok (.nd (floP 8 n) []) (tx s)) e w'
  have HX := hid (And.intro hR (And.intro hb1 (And.intro hC0 hblt)))
  clear hR hb1 hC0 _hE
  go_enter Tryz.func111, Tryz.ntmps111
  go_wp2
  obtain ⟨hR, hb1, hC0, hblt⟩ := HX.out
  obtain ⟨f0, f1, f2, f3, f4, f5, f6, f7, f8⟩ := hC0.nine
  exact bodyPost_ret (v := .tuple #[ndV (floP 8 n) (.slice none 0 0), .nilIface]) (by simp only [ndL, floP, Pay.z] at f0 f1 f2 f3 f4 f5 f6 f7 f8; simp [results, Tryz.results111, go_sem, ndV, ndL, floP, Pay.z]) rfl (Ans.leaf rfl (.of_below hb1 (Nat.le_of_lt hblt)) (hR.up hb1))

theorem rfloat_calls (f : List UInt8 → RR) (d : Nat) : ReadC f d 111 6 := by
  intro em ep et b s n z hn _ _ h6 _ w hR hE
  rcases h6 rfl with rfl | rfl
  · exact rfloat4 em ep et b d s n w hR hE
  · exact rfloat8 em ep et b d s n w hR hE

set_option maxRecDepth 100000 in
set_option maxHeartbeats 4000000 in
theorem rnull_calls (em ep et : Addr) (b d : Nat) (s : ByteArray) (w : World) (hR : Rd w b s d) (_hE : Env em ep et b w) : Calls Tryz.prog 102 #[.pointer (some ⟨b, 0, none⟩)] w fun e w' => Ans em ep et b d w (wdR 192 (tx s)) e w' := by
  have hblt := Cls.lt hR
  have hb1 := below_alloc w (.cells (ndL (kP 1) (.slice none 0 0)).toArray 27)
  have hC0 := Cls.new w 27 (ndL (kP 1) (.slice none 0 0))
  change Calls _ _ _ _ fun e w' => Ans em ep et b d w (.ok (.nd (kP 1) []) (tx s)) e w'
  have HX := hid (And.intro hR (And.intro hb1 (And.intro hC0 hblt)))
  clear hR hb1 hC0 _hE
  go_enter Tryz.func102, Tryz.ntmps102
  go_wp2
  obtain ⟨hR, hb1, hC0, hblt⟩ := HX.out
  obtain ⟨f0, f1, f2, f3, f4, f5, f6, f7, f8⟩ := hC0.nine
  exact bodyPost_ret (v := .tuple #[ndV (kP 1) (.slice none 0 0), .nilIface]) (by simp only [ndL, kP, Pay.z] at f0 f1 f2 f3 f4 f5 f6 f7 f8; simp [results, Tryz.results102, go_sem, ndV, ndL, kP, Pay.z]) rfl (Ans.leaf rfl (.of_below hb1 (Nat.le_of_lt hblt)) (hR.up hb1))

set_option maxRecDepth 100000 in
set_option maxHeartbeats 4000000 in
theorem risFalse_calls (em ep et : Addr) (b d : Nat) (s : ByteArray) (w : World) (hR : Rd w b s d) (_hE : Env em ep et b w) : Calls Tryz.prog 104 #[.pointer (some ⟨b, 0, none⟩)] w fun e w' => Ans em ep et b d w (wdR 194 (tx s)) e w' := by
  have hblt := Cls.lt hR
  have hb1 := below_alloc w (.cells (ndL (kP 2) (.slice none 0 0)).toArray 27)
  have hC0 := Cls.new w 27 (ndL (kP 2) (.slice none 0 0))
  change Calls _ _ _ _ fun e w' => Ans em ep et b d w (.ok (.nd (kP 2) []) (tx s)) e w'
  have HX := hid (And.intro hR (And.intro hb1 (And.intro hC0 hblt)))
  clear hR hb1 hC0 _hE
  go_enter Tryz.func104, Tryz.ntmps104
  go_wp2
  obtain ⟨hR, hb1, hC0, hblt⟩ := HX.out
  obtain ⟨f0, f1, f2, f3, f4, f5, f6, f7, f8⟩ := hC0.nine
  exact bodyPost_ret (v := .tuple #[ndV (kP 2) (.slice none 0 0), .nilIface]) (by simp only [ndL, kP, Pay.z] at f0 f1 f2 f3 f4 f5 f6 f7 f8; simp [results, Tryz.results104, go_sem, ndV, ndL, kP, Pay.z]) rfl (Ans.leaf rfl (.of_below hb1 (Nat.le_of_lt hblt)) (hR.up hb1))

set_option maxRecDepth 100000 in
set_option maxHeartbeats 4000000 in
theorem risTrue_calls (em ep et : Addr) (b d : Nat) (s : ByteArray) (w : World) (hR : Rd w b s d) (_hE : Env em ep et b w) : Calls Tryz.prog 105 #[.pointer (some ⟨b, 0, none⟩)] w fun e w' => Ans em ep et b d w (wdR 195 (tx s)) e w' := by
  have hblt := Cls.lt hR
  have hb1 := below_alloc w (.cells (ndL ({ kP 2 with b := true }) (.slice none 0 0)).toArray 27)
  have hC0 := Cls.new w 27 (ndL ({ kP 2 with b := true }) (.slice none 0 0))
  change Calls _ _ _ _ fun e w' => Ans em ep et b d w (.ok (.nd ({ kP 2 with b := true }) []) (tx s)) e w'
  have HX := hid (And.intro hR (And.intro hb1 (And.intro hC0 hblt)))
  clear hR hb1 hC0 _hE
  go_enter Tryz.func105, Tryz.ntmps105
  go_wp2
  obtain ⟨hR, hb1, hC0, hblt⟩ := HX.out
  obtain ⟨f0, f1, f2, f3, f4, f5, f6, f7, f8⟩ := hC0.nine
  exact bodyPost_ret (v := .tuple #[ndV ({ kP 2 with b := true }) (.slice none 0 0), .nilIface]) (by simp only [ndL, kP, Pay.z] at f0 f1 f2 f3 f4 f5 f6 f7 f8; simp [results, Tryz.results105, go_sem, ndV, ndL, kP, Pay.z]) rfl (Ans.leaf rfl (.of_below hb1 (Nat.le_of_lt hblt)) (hR.up hb1))

set_option maxRecDepth 100000 in
set_option maxHeartbeats 4000000 in
theorem rnone_calls (em ep et : Addr) (b d : Nat) (s : ByteArray) (hs : s.size ≤ 1000000) (w : World) (hR : Rd w b s d) (hE : Env em ep et b w) : Calls Tryz.prog 103 #[.pointer (some ⟨b, 0, none⟩)] w fun e w' => Ans em ep et b d w (wdR 193 (tx s)) e w' := by
  have hblt := Cls.lt hR
  have hb1 := below_alloc w (.cells (ndL Pay.z (.slice none 0 0)).toArray 27)
  have hC0 := Cls.new w 27 (ndL Pay.z (.slice none 0 0))
  have hK0 : RdK b w (w.alloc (.cells (ndL Pay.z (.slice none 0 0)).toArray 27)) := .of_below hb1 (Nat.le_of_lt hblt)
  have e0 := hE.errs.c1
  have hglt : 4 < w.heap.size := World.block_lt_of_cell? w _ e0
  change Calls _ _ _ _ fun e w' => Ans em ep et b d w (.er 1) e w'
  have HX := hid (And.intro hR (And.intro hb1 hC0))
  clear hR hb1 hC0 hE hK0
  simp only [ndL, Pay.z] at HX
  go_enter Tryz.func103, Tryz.ntmps103
  go_wp2
  go_region
  go_wp2
  obtain ⟨hR, hb1, hC0⟩ := HX.out
  obtain ⟨f0, f1, f2, f3, f4, f5, f6, f7, f8⟩ : _ ∧ _ ∧ _ ∧ _ ∧ _ ∧ _ ∧ _ ∧ _ ∧ _ := ⟨hC0.cell 0 rfl, hC0.cell 1 rfl, hC0.cell 2 rfl, hC0.cell 3 rfl, hC0.cell 4 rfl, hC0.cell 5 rfl, hC0.cell 6 rfl, hC0.cell 7 rfl, hC0.cell 8 rfl⟩
  exact bodyPost_ret (v := .tuple #[ndV Pay.z (.slice none 0 0), errV em ep et 1]) (by simp [results, Tryz.results103, go_sem, ndV, ndL, Pay.z, errV]) rfl (Ans.err (.of_below hb1.drew (Nat.le_of_lt hblt)) (hR.up hb1.drew) hs)

set_option maxRecDepth 100000 in
set_option maxHeartbeats 4000000 in
theorem rplus_calls (f : List UInt8 → RR) (d : Nat) : ReadC f d 106 0 := by
  intro em ep et b s n z hn _ _ _ hs0 w hR hE
  have hs : s.size ≤ 140737488355328 := Nat.le_trans hs0 (by decide)
  have hblt := Cls.lt hR
  have hb1 := below_alloc w (.cells (ndL Pay.z (.slice none 0 0)).toArray 27)
  have hC0 := Cls.new w 27 (ndL Pay.z (.slice none 0 0))
  have hK0 : RdK b w (w.alloc (.cells (ndL Pay.z (.slice none 0 0)).toArray 27)) := .of_below hb1 (Nat.le_of_lt hblt)
  have hR0 := hR.up hb1
  have hcall := ofInt_calls false n hn _ (hE.tabs.below hb1)
  obtain ⟨DD, hD⟩ : ∃ DD, (mk false (Lib.decDigits n) 0).1 = DD := ⟨_, rfl⟩
  have hp : plusP n = ⟨3, false, DD.neg, B DD.dg, DD.ex, 0, 0, ⟨#[]⟩⟩ := by unfold plusP decP; rw [hD]; rfl
  change Calls _ _ _ _ fun e w' => Ans em ep et b d w (.ok (.nd (plusP n) []) (tx s)) e w'
  rw [hD] at hcall
  rw [hp]
  have HX := hid (And.intro hK0 (And.intro (Nat.le_refl w.heap.size) (And.intro hC0 hblt)))
  have HZ := hid hR0
  clear hK0 hC0 hE hR hb1 hR0 hD hp
  simp only [ndL, Pay.z] at hcall
  go_enter Tryz.func106, Tryz.ntmps106
  go_wp2_with fail
  refine hcall.mono ?_
  rintro e w1 ⟨rfl, hb2⟩
  have hk : RdK b _ w1 := .of_below hb2 (by have := HX.out.2.2.2; rw [World.size_alloc]; omega)
  have hr := HZ.out.up hb2
  simp only [D.val, DV]
  have hA : Ans em ep et b d (w.alloc (.cells (ndL Pay.z (.slice none 0 0)).toArray 27)) (.ok (.nd ⟨3, false, DD.neg, B DD.dg, DD.ex, 0, 0, ⟨#[]⟩⟩ []) (tx s)) (.returned (.tuple #[ndV (⟨3, false, DD.neg, B DD.dg, DD.ex, 0, 0, ⟨#[]⟩⟩) (.slice none 0 0), .nilIface])) w1 := Ans.leaf rfl hk hr
  obtain ⟨hC1, hC5, hA5⟩ := Ans.put HX.out.1 HX.out.2.1 HX.out.2.2.1 HX.out.2.2.2 hA (⟨3, false, DD.neg, B DD.dg, DD.ex, 0, 0, ⟨#[]⟩⟩) (.slice none 0 0)
  obtain ⟨y0, y1, y2, y3, y4, y5, y6, y7, y8⟩ := hC1.nine
  obtain ⟨v0, v1, v2, v3, v4, v5, v6, v7, v8⟩ := hC1.frozens
  have HY := hid (And.intro hC5 hA5)
  clear hA hC1 hC5 hA5 hk hr hb2 hcall HZ
  go_wp2
  obtain ⟨W5, hW5, hC5, hA5⟩ : ∃ W5, putN w1 w.heap.size 0 (⟨3, false, DD.neg, B DD.dg, DD.ex, 0, 0, ⟨#[]⟩⟩) (.slice none 0 0) = W5 ∧ Cls W5 w.heap.size 27 (ndL (⟨3, false, DD.neg, B DD.dg, DD.ex, 0, 0, ⟨#[]⟩⟩) (.slice none 0 0)) ∧ Ans em ep et b d w (.ok (.nd ⟨3, false, DD.neg, B DD.dg, DD.ex, 0, 0, ⟨#[]⟩⟩ []) (tx s)) (.returned (.tuple #[ndV (⟨3, false, DD.neg, B DD.dg, DD.ex, 0, 0, ⟨#[]⟩⟩) (.slice none 0 0), .nilIface])) W5 := ⟨_, rfl, HY.out.1, HY.out.2⟩
  refine bp_at (W' := W5) ?_ hW5.symm
  obtain ⟨f0, f1, f2, f3, f4, f5, f6, f7, f8⟩ := hC5.nine
  exact bodyPost_ret (v := .tuple #[ndV (⟨3, false, DD.neg, B DD.dg, DD.ex, 0, 0, ⟨#[]⟩⟩) (.slice none 0 0), .nilIface]) (by simp [results, Tryz.results106, go_sem, f0, f1, f2, f3, f4, f5, f6, f7, f8, ndV, ndL]) rfl hA5

set_option maxRecDepth 100000 in
set_option maxHeartbeats 4000000 in
theorem rfix_calls (em ep et : Addr) (b d rc nb k : Nat) (hk : k < 18446744073709551616) (s : ByteArray) (hs : s.size ≤ 1000000) (w : World) (hR : Rd w b s d) (hE : Env em ep et b w) (h1 : Boxed w rc 77 (.pointer (some ⟨b, 0, none⟩))) (h2 : Boxed w nb 24 (.int .u64 k)) : Calls Tryz.prog 100 #[.pointer (some ⟨rc, 0, none⟩), .pointer (some ⟨nb, 0, none⟩)] w fun e w' => Ans em ep et b d w (rext k (tx s)) e w' := by
  have hblt := Cls.lt hR
  have hb1 := below_alloc w (.cells (ndL Pay.z (.slice none 0 0)).toArray 27)
  have hC0 := Cls.new w 27 (ndL Pay.z (.slice none 0 0))
  have hK0 : RdK b w (w.alloc (.cells (ndL Pay.z (.slice none 0 0)).toArray 27)) := .of_below hb1 (Nat.le_of_lt hblt)
  have hcall := rext_calls (fun _ => .er 0) d em ep et b s k 0 hk (fun e => absurd e (by decide)) (fun e => absurd e (by decide)) (fun e => absurd e (by decide)) hs _ (hR.up hb1) (hE.rdk (hb1.mono (Nat.le_of_lt hblt)))
  change Calls _ _ _ _ fun e w' => Ans _ _ _ _ _ _ (rext k (tx s)) e w' at hcall
  obtain ⟨x, hx⟩ : ∃ x, rext k (tx s) = x := ⟨_, rfl⟩
  rw [hx] at hcall ⊢
  have c1 := h1.cell
  have c2 := h2.cell
  have l1 : rc < w.heap.size := Cls.lt (xs := [_]) h1
  have l2 : nb < w.heap.size := Cls.lt (xs := [_]) h2
  have HX := hid (And.intro hK0 (And.intro (Nat.le_refl w.heap.size) (And.intro hC0 hblt)))
  clear hK0 hC0 hx hE hR hb1 h1 h2
  simp only [ndL, Pay.z] at hcall
  go_enter Tryz.func100, Tryz.ntmps100
  go_wp2_with fail
  refine (hcall).mono ?_
  rintro e w1 hA
  obtain ⟨p1, a1, n1, c1, ev, rfl, hC1, hC5, hA5⟩ := Ans.fwd HX.out.1 HX.out.2.1 HX.out.2.2.1 HX.out.2.2.2 hA
  obtain ⟨y0, y1, y2, y3, y4, y5, y6, y7, y8⟩ := hC1.nine
  obtain ⟨v0, v1, v2, v3, v4, v5, v6, v7, v8⟩ := hC1.frozens
  have HY := hid (And.intro hC5 hA5)
  clear hA hC1 hC5 hA5 hcall
  simp only [ndV, ndL]
  go_wp2
  obtain ⟨W5, hW5, hC5, hA5⟩ : ∃ W5, putN w1 w.heap.size 0 p1 (.slice a1 n1 c1) = W5 ∧ Cls W5 w.heap.size 27 (ndL p1 (.slice a1 n1 c1)) ∧ Ans em ep et b d w x (.returned (.tuple #[ndV p1 (.slice a1 n1 c1), ev])) W5 := ⟨_, rfl, HY.out.1, HY.out.2⟩
  unfold putN at hW5
  simp only [Nat.zero_add] at hW5
  rw [hW5]
  obtain ⟨f0, f1, f2, f3, f4, f5, f6, f7, f8⟩ := hC5.nine
  exact bodyPost_ret (v := .tuple #[ndV p1 (.slice a1 n1 c1), ev]) (by simp [results, Tryz.results100, go_sem, f0, f1, f2, f3, f4, f5, f6, f7, f8, ndV, ndL]) rfl hA5

end Go.Proofs.YtpjlepkdiaohiaaGreatDoor

