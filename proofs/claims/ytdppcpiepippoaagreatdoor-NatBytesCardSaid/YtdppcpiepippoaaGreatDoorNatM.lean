/- Package nat: Bytes. -/
import Derived.Test.YtdppcpiepippoaaGreatDoorNatL
namespace Go.Proofs.YtdppcpiepippoaaGreatDoor
open Go.RowKit Go.Shelf
attribute [local go_sem] Oper.semAt_some

/-- a number's bytes, the least one first. -/
def bdig (n : Nat) : List Nat := if h : n = 0 then [] else n % 256 :: bdig (n / 256)
  termination_by n
  decreasing_by exact Nat.div_lt_self (by omega) (by decide)
theorem bdig_zero : bdig 0 = [] := by rw [bdig]; simp
theorem bdig_pos {n : Nat} (h : n ≠ 0) : bdig n = n % 256 :: bdig (n / 256) := by rw [bdig, dif_neg h]

theorem bdig_len : ∀ (k n : Nat), n < 256 ^ k → (bdig n).length ≤ k
  | 0, n, h => by rw [Nat.pow_zero] at h; rw [show n = 0 by omega, bdig_zero]; simp
  | k + 1, n, h => by
    by_cases h0 : n = 0
    · rw [h0, bdig_zero]; simp
    · rw [bdig_pos h0, List.length_cons]
      have := bdig_len k (n / 256) (by rw [Nat.pow_succ] at h; exact Nat.div_lt_of_lt_mul (by rw [Nat.mul_comm]; exact h))
      omega

/-- a natural's bytes. -/
def bytesL (n : Nat) : List UInt8 := (bdig n).reverse.map fun x => UInt8.ofNat x
def bytS (s : ByteArray) : List UInt8 := if isRt (tx s) then bytesL (nv (tx s)) else []
def bytE (s : ByteArray) : Int := if isRt (tx s) then 0 else 10

theorem lt_256 {n d k : Nat} (h1 : n < 10 ^ d) (h2 : d ≤ k) : n < 256 ^ k :=
  Nat.lt_of_lt_of_le h1 (Nat.le_trans (Nat.pow_le_pow_right (by decide) h2) (Nat.pow_le_pow_left (by decide) _))

theorem bdig_dig {n d : Nat} (k : Nat) (h1 : n < 10 ^ d) (h2 : d ≤ k) : (bdig n).length ≤ k := bdig_len k n (lt_256 h1 h2)

theorem rt_bytes {s : List UInt8} (h : isRt s = true) : (bdig (nv s)).length ≤ 400 := by
  have h1 := (isRt_iff _).1 h
  have h2 : nv s < 10 ^ s.length := nv_lt (fun c hc => by rw [h1.1] at hc; exact dec_isDg _ c hc)
  exact bdig_dig 400 h2 h1.2

theorem conv_owns {base : Nat} {v : Value} {xs : List Nat} {w : World} (h : w.ownsRow base 5 1 v xs.length (xs.map enc8)) :
    (convert 44 9 v).run Tryz.prog w = .ok (.string ⟨(xs.map fun x => UInt8.ofNat x).toArray⟩) w := by
  obtain ⟨h0, ⟨rfl, h2⟩ | ⟨g, cap, cur, rfl, h1, h2, h3, h4, h5, h6⟩⟩ := id h
  · have hx : xs = [] := by cases xs with | nil => rfl | cons a r => simp at h2
    subst hx
    exact run_convert_bytes_nil w 44 5 (by kernel_rfl) (by kernel_rfl) 0 0 9 (by kernel_rfl)
  · have hc : ∀ i, i < xs.length → w.cell? ⟨g, 0 + i, none⟩ = some (.int .u8 ((xs.map fun x => ((x : Nat) : Int)).getD i 0)) := fun i hi => by
      rw [Nat.zero_add]
      refine cells_cell h2 (take_get h6 ?_)
      rw [List.getElem?_map, List.getElem?_eq_getElem hi]
      simp [enc8, List.getD, List.getElem?_eq_getElem hi]
    have h := run_convert_bytes_arg (P := Tryz.prog) w 44 5 (by kernel_rfl) (by kernel_rfl) g 0 xs.length cap (xs.map fun x => ((x : Nat) : Int)) (by simp) hc 9 (by kernel_rfl)
    rw [h]
    simp [strOfNums]

set_option maxRecDepth 100000 in
set_option maxHeartbeats 4000000 in
theorem natBytes_calls (s : ByteArray) (hs : s.size ≤ 140737488355328) (w : World) (hT : Tabs w) :
    Calls Tryz.prog 7 #[.string s] w fun e w' => e = .returned (.tuple #[.string ⟨(bytS s).toArray⟩, .int .i64 (bytE s)]) ∧ Below w.heap.size w w' := by
  have hof := of_one s hs w hT
  obtain ⟨i0, hi, hz0, hz1, hz2⟩ := info_parts info_u8
  go_enter Tryz.func7, Tryz.ntmps7
  go_wp2_with (go_at_call 25; refine hof.mono ?_; rintro e w1 ⟨hb, ⟨hr, g, cap, v0, rfl, c0, l0⟩ | ⟨hr, rfl⟩⟩)
  · have hlen := rt_lim hr
    have hbl := rt_bytes hr
    have hS : Hid (bytesL (nv (tx s)) = bytS s ∧ (0 : Int) = bytE s) := by unfold bytS bytE; rw [hr]; exact ⟨rfl, rfl⟩
    obtain ⟨n, hn⟩ : ∃ n, nv (tx s) = n := ⟨_, rfl⟩
    rw [hn] at hlen hbl hS l0
    clear hr hn hof
    go_wp2
    go_loopw [6, 7] (fun o x wr => ∃ (k : Nat) (xs : List Nat), Lim wr x (lim k) ∧ k ≤ n ∧ xs ++ bdig k = bdig n ∧ wr.ownsRow w.heap.size 5 1 o xs.length (xs.map enc8) ∧ Below w.heap.size w wr) (fun o _ _ => (bdig n).length - lenOf o)
    case atStart => exact ⟨n, [], l0, Nat.le_refl _, rfl, World.ownsRow_nil _ _ _ _, hb⟩
    case round =>
      obtain ⟨k, xs, hL, hkn, hx, hown, hB⟩ := hrel
      have hkl : (lim k).length ≤ 45 := by have := lim_mono hkn; omega
      have hL' := hL
      obtain ⟨a, c, rfl, _⟩ := hL'
      by_cases h0 : k = 0
      · subst h0
        have hll : (lim 0).length = 0 := by rw [lim_zero]; rfl
        rw [bdig_zero, List.append_nil] at hx
        subst hx
        have hHX := hid hS.out
        rw [hll]
        have hrev := reverse_owns w.heap.size u6 (bdig n) (by omega) wr hown
        go_wp2_with fail
        refine hrev.mono ?_
        rintro e w2 ⟨rfl, hown2, hb2⟩
        have hcv := conv_owns (xs := (bdig n).reverse) (by simpa using hown2)
        have hbs : (⟨((bdig n).reverse.map fun x => UInt8.ofNat x).toArray⟩ : ByteArray) = ⟨(bytS s).toArray⟩ := by rw [← hS.out.1]; rfl
        rw [hbs] at hcv
        go_wp2
        go_ret2
        exact ⟨by rw [← hS.out.2]; rfl, hB.trans hb2⟩
      · have hpos : 0 < (lim k).length := by rw [lim_pos h0]; simp
        have hxl : xs.length + (bdig k).length = (bdig n).length := by rw [← hx, List.length_append]
        have hbk : 1 ≤ (bdig k).length := by rw [bdig_pos h0]; simp
        have hdiv := div_calls _ _ (lim_grp k) 256 wr (by omega) (by omega) (by omega) hL
        rw [val_lim] at hdiv
        have hx2 : Hid ((xs ++ [k % 256]) ++ bdig (k / 256) = bdig n) := by rw [List.append_assoc]; rw [bdig_pos h0] at hx; exact hx
        obtain ⟨q, hq⟩ : ∃ q, k / 256 = q := ⟨_, rfl⟩
        obtain ⟨r, hr⟩ : ∃ r, k % 256 = r := ⟨_, rfl⟩
        have hqn : q ≤ n := by omega
        have hrb : r < 256 := by omega
        rw [hq, hr] at hdiv hx2
        obtain ⟨L, hLL⟩ : ∃ L, (lim k).length = L := ⟨_, rfl⟩
        rw [hLL] at hdiv hpos ⊢
        clear hq hr hx hL hLL hkl
        have hwr : IntKind.u8.wrap (r : Int) = (r : Int) := IntWalk.u8_in _ (by omega)
        go_wp2_with (first
          | (go_at_call 26; refine hdiv.mono ?_; rintro e w2 ⟨v', rfl, hv', hb2⟩; have hown2 := World.ownsRow.cellsKept hown (CellsKept.below hb2); have hB2 := hB.trans (hb2.mono hB.size))
          | (at_builtin; refine wpList_append_own _ rfl _ _ 44 rfl w.heap.size 5 i0 (.int .u8 0) 1 1 Tryz.underlying44 hi hz0 hz1 hz2 rfl (by decide) _ _ _ rfl (hown2.alloc _) ⟨_, 0, none⟩ 1 1 [.int .u8 (r : Int)] rfl rfl (cell_one_new _ _ _) (by simp [Value.oneCell']) (by simp only [maxLen]; omega) (by omega) (by have := hB2.size; simp; omega) ?_))
        intro o' w3 hown' hgrow _
        have hB3 : Below w.heap.size w w3 := (hB2.alloc hB2.size _).grown hgrow (by have := hB2.size; simp; omega) (fun j e => (hown2.lt j e).1)
        have hL3 : Lim w3 v' (lim q) := (hv'.below (below_alloc w2 _)).grown hgrow (hown2.alloc _) (by decide)
        have hO3 := hid (show w3.ownsRow w.heap.size 5 1 o' (xs ++ [r]).length ((xs ++ [r]).map enc8) from by simpa [enc8] using hown')
        have hlo := lenOf_owns hown
        clear hown' hgrow hown hown2 hv' hb2 hdiv
        go_wp2
        refine ⟨⟨q, xs ++ [r], hL3, hqn, hx2.out, hO3.out, hB3⟩, ?_⟩
        rw [hlo, lenOf_owns hO3.out, List.length_append, List.length_singleton]
        omega
  · have hS : Hid ([] = bytS s ∧ (10 : Int) = bytE s) := by unfold bytS bytE; rw [hr]; exact ⟨rfl, rfl⟩
    go_wp2
    go_ret2
    exact ⟨by rw [← hS.out.1, ← hS.out.2]; rfl, hb⟩
end Go.Proofs.YtdppcpiepippoaaGreatDoor
