/- PV: MqK MqJ MqL MqM MqN. -/
import Derived.Test.YtpjlepkdiaohiaaGreatDoorPU
import Derived.IntWalk
import Derived.Laws.EntriesVeiled
import Derived.Test.YtpjlepkdiaohiaaGreatDoorPI
import Derived.Test.YtpjlepkdiaohiaaGreatDoorPL
/- Package mpr: the rows of starts: which functions they name, and how one is taken out. -/
namespace Go.Proofs.YtpjlepkdiaohiaaGreatDoor
open Go.RowKit

theorem within_true {a n c : Nat} (h : a ≤ c ∧ c < a + n) : (decide ((a : Int) ≤ (c : Int)) && decide ((c : Int) < (a : Int) + (n : Int))) = true := by
  rw [Bool.and_eq_true, decide_eq_true_eq, decide_eq_true_eq]
  omega
theorem within_false {a n c : Nat} (h : ¬ (a ≤ c ∧ c < a + n)) : (decide ((a : Int) ≤ (c : Int)) && decide ((c : Int) < (a : Int) + (n : Int))) = false := by
  rw [Bool.and_eq_false_iff, decide_eq_false_iff_not, decide_eq_false_iff_not]
  omega
theorem sub_wrap {a c : Nat} (h : a ≤ c) (hc : c < 256) : wrap64 ((c : Int) - (a : Int)) = ((c - a : Nat) : Int) := by unfold wrap64; omega
theorem u64_small {k : Nat} (hk : k < 256) : IntKind.u64.wrap (k : Int) = (k : Int) := IntWalk.u64_in _ (by omega)
theorem num_lt {s : List UInt8} {z : Nat} (hz : z = 1 ∨ z = 2 ∨ z = 4 ∨ z = 8) (hl : z ≤ s.length) : beN (s.take z) < 256 ^ z ∧ beN (s.take z) < 18446744073709551616 := by
  have h := beN_lt (s.take z)
  rw [List.length_take, Nat.min_eq_left hl] at h
  refine ⟨h, ?_⟩
  rcases hz with rfl | rfl | rfl | rfl <;> omega
theorem st_g {c i : Nat} (hi : i < 13) (h1 : (st i).fr ≤ c) (h2 : c < (st i).fr + (st i).ct) (hz : (st i).z0 ≠ 0) : ((st i).g = 1 → (st i).z (c - (st i).fr) ≤ 4) ∧ ((st i).g = 6 → (st i).z (c - (st i).fr) = 4 ∨ (st i).z (c - (st i).fr) = 8) := by
  rcases st_cases hi with rfl | rfl | rfl | rfl | rfl | rfl | rfl | rfl | rfl | rfl | rfl | rfl | rfl <;> simp only [st, stL, List.getElem?_cons_zero, List.getElem?_cons_succ, Option.getD_some] at h1 h2 hz ⊢
  · exact absurd rfl hz
  · exact absurd rfl hz
  · exact absurd rfl hz
  · exact absurd rfl hz
  · exact ⟨fun e => absurd e (by decide), fun e => absurd e (by decide)⟩
  · exact ⟨fun e => absurd e (by decide), fun e => absurd e (by decide)⟩
  · rcases (show c = 202 ∨ c = 203 by omega) with rfl | rfl <;> decide
  · exact ⟨fun e => absurd e (by decide), fun e => absurd e (by decide)⟩
  · exact ⟨fun e => absurd e (by decide), fun e => absurd e (by decide)⟩
  · exact ⟨fun e => absurd e (by decide), fun e => absurd e (by decide)⟩
  · exact ⟨fun e => absurd e (by decide), fun e => absurd e (by decide)⟩
  · rcases (show c = 222 ∨ c = 223 by omega) with rfl | rfl <;> decide
  · omega
theorem row_size {W : World} {g b k : Nat} {R : StR} {T : TypeId} (h : Cls W g T (stC b R)) (hk : k < 4) : W.cell? ⟨g, 2 + k, none⟩ = some (.int .i64 (R.z k : Nat)) := by
  rcases (show k = 0 ∨ k = 1 ∨ k = 2 ∨ k = 3 by omega) with rfl | rfl | rfl | rfl
  · exact h.cell 2 rfl
  · exact h.cell 3 rfl
  · exact h.cell 4 rfl
  · exact h.cell 5 rfl
theorem eq4_zero (W : World) : (Op.equalIn 10000 113 (.agg #[.int .i64 0, .int .i64 0, .int .i64 0, .int .i64 0]) (.agg #[.int .i64 0, .int .i64 0, .int .i64 0, .int .i64 0])).run Tryz.prog W = .ok true W := by kernel_rfl
theorem eq4_z {a b c d : Nat} (ha : a = 0) (hb : b = 0) (hc : c = 0) (hd : d = 0) (W : World) : (Op.equalIn 10000 113 (.agg #[.int .i64 (a : Nat), .int .i64 (b : Nat), .int .i64 (c : Nat), .int .i64 (d : Nat)]) (.agg #[.int .i64 0, .int .i64 0, .int .i64 0, .int .i64 0])).run Tryz.prog W = .ok true W := by
  subst ha hb hc hd
  exact eq4_zero W
theorem pow4 {n z : Nat} (h : n < 256 ^ z) (hz : z ≤ 4) : n < 4294967296 := by
  have h2 : 256 ^ z ≤ 256 ^ 4 := Nat.pow_le_pow_right (by decide) hz
  have h3 : (256 : Nat) ^ 4 = 4294967296 := by decide
  omega
theorem eq4_succ (m b c d : Nat) (W : World) : (Op.equalIn 10000 113 (.agg #[.int .i64 ((m + 1 : Nat) : Int), .int .i64 (b : Nat), .int .i64 (c : Nat), .int .i64 (d : Nat)]) (.agg #[.int .i64 0, .int .i64 0, .int .i64 0, .int .i64 0])).run Tryz.prog W = .ok false W := by kernel_rfl
theorem eq4_ne {a : Nat} (h : a ≠ 0) (b c d : Nat) (W : World) : (Op.equalIn 10000 113 (.agg #[.int .i64 (a : Nat), .int .i64 (b : Nat), .int .i64 (c : Nat), .int .i64 (d : Nat)]) (.agg #[.int .i64 0, .int .i64 0, .int .i64 0, .int .i64 0])).run Tryz.prog W = .ok false W := by
  obtain ⟨m, rfl⟩ : ∃ m, a = m + 1 := ⟨a - 1, by omega⟩
  exact eq4_succ m b c d W
theorem rdF_enters {g : Nat} (hg : g ≤ 7) {F : Nat} (h : rdF g = F) : ∀ args w, (callFunc F args).run Tryz.prog w = .ok (.enter F args) w := by
  subst h
  rcases (show g = 0 ∨ g = 1 ∨ g = 2 ∨ g = 3 ∨ g = 4 ∨ g = 5 ∨ g = 6 ∨ g = 7 by omega) with rfl | rfl | rfl | rfl | rfl | rfl | rfl | rfl
  · exact enters_of Tryz.func106 (by kernel_rfl) rfl
  · exact enters_of Tryz.func107 (by kernel_rfl) rfl
  · exact enters_of Tryz.func108 (by kernel_rfl) rfl
  · exact enters_of Tryz.func109 (by kernel_rfl) rfl
  · exact enters_of Tryz.func110 (by kernel_rfl) rfl
  · exact enters_of Tryz.func101 (by kernel_rfl) rfl
  · exact enters_of Tryz.func111 (by kernel_rfl) rfl
  · exact enters_of Tryz.func61 (by kernel_rfl) rfl
theorem readC_of (j : Nat) (ih : ItemC j) (d : Nat) (hd : d + 1 + j = 16) {g : Nat} (hg : g ≤ 7) {F : Nat} (h : rdF g = F) : ReadC (rd j) d F g := by
  subst h
  rcases (show g = 0 ∨ g = 1 ∨ g = 2 ∨ g = 3 ∨ g = 4 ∨ g = 5 ∨ g = 6 ∨ g = 7 by omega) with rfl | rfl | rfl | rfl | rfl | rfl | rfl | rfl
  · exact rplus_calls _ d
  · exact rpairs_calls j ih d hd
  · exact rarray_calls j ih d hd
  · exact rtext_calls _ d
  · exact rbytes_calls _ d
  · exact rext_calls _ d
  · exact rfloat_calls _ d
  · exact rsigned_calls _ d
theorem index_row (b : Nat) {i : Nat} (hi : i < 13) {SA : Array Value} (h : (stA b).toArray = SA) (w : World) : (Instr.index 117 (.agg SA) (.int .i64 (i : Nat))).run Tryz.prog w = .ok (.agg (stC b (st i)).toArray) w := by
  subst h
  rcases st_cases hi with rfl | rfl | rfl | rfl | rfl | rfl | rfl | rfl | rfl | rfl | rfl | rfl | rfl <;> kernel_rfl
theorem st_bound {i : Nat} (hi : i < 13) : (st i).fr ≤ 256 ∧ (st i).ct ≤ 128 ∧ (st i).g ≤ 7 := by
  rcases st_cases hi with rfl | rfl | rfl | rfl | rfl | rfl | rfl | rfl | rfl | rfl | rfl | rfl | rfl <;> decide
theorem st_zero {i : Nat} (hi : i < 13) (h : (st i).z0 = 0) : (st i).z1 = 0 ∧ (st i).z2 = 0 ∧ (st i).z3 = 0 ∧ (st i).g ≤ 3 ∧ (st i).ct ≤ 128 := by
  rcases st_cases hi with rfl | rfl | rfl | rfl | rfl | rfl | rfl | rfl | rfl | rfl | rfl | rfl | rfl <;> first | decide | exact absurd h (by decide)
end Go.Proofs.YtpjlepkdiaohiaaGreatDoor

/- Package mpr: (*reader).item: walked. -/
namespace Go.Proofs.YtpjlepkdiaohiaaGreatDoor
open Go.RowKit
attribute [local go_sem] Oper.semAt_some

theorem ne_list {s : ByteArray} (h : 0 < s.size) : s.toList.isEmpty = false ∧ ¬ s.toList = [] := by
  have h1 : s.data.toList.length = s.size := len_str s
  rw [Lib.toList_data]
  cases e : s.data.toList with
  | nil => rw [e] at h1; simp at h1; omega
  | cons a r => exact ⟨rfl, by simp⟩

theorem look_some : ∀ {l : List (Int × Value)} {c : Int} {v : Value}, (c, v) ∈ l → ∃ k v', l.findIdx? (fun p => p.1 == c) = some k ∧ l[k]? = some (c, v')
  | [], _, _, h => by cases h
  | (a, u) :: r, c, v, h => by
    by_cases hac : a = c
    · subst hac
      exact ⟨0, u, by simp [List.findIdx?_cons], rfl⟩
    · have h2 : (c, v) ∈ r := by
        rcases List.mem_cons.1 h with e | e
        · exact absurd (congrArg Prod.fst e).symm hac
        · exact e
      obtain ⟨k, v', e1, e2⟩ := look_some h2
      exact ⟨k + 1, v', by simp [List.findIdx?_cons, hac, e1], by simpa using e2⟩
theorem look_none {l : List (Int × Value)} {c : Int} (h : ∀ p, p ∈ l → p.1 ≠ c) : l.findIdx? (fun p => p.1 == c) = none := List.findIdx?_eq_none_iff.2 fun p hp => by simpa using h p hp
theorem zero_word (w : World) : (zeroValue 83).run Tryz.prog w = .ok .nilFunc w := by kernel_rfl
theorem fix_lt {c : Nat} (h1 : (212 : Int) ≤ c) (h2 : (c : Int) ≤ 216) : 2 ^ ((c : Int) - 212).toNat < 18446744073709551616 := by
  rcases (show c = 212 ∨ c = 213 ∨ c = 214 ∨ c = 215 ∨ c = 216 by omega) with rfl | rfl | rfl | rfl | rfl <;> decide
theorem wdR_fix {c : Nat} {s : List UInt8} (h1 : (212 : Int) ≤ c) (h2 : (c : Int) ≤ 216) : wdR c s = rext (2 ^ ((c : Int) - 212).toNat) s := by
  rcases (show c = 212 ∨ c = 213 ∨ c = 214 ∨ c = 215 ∨ c = 216 by omega) with rfl | rfl | rfl | rfl | rfl <;> rfl

set_option maxRecDepth 100000 in
set_option maxHeartbeats 4000000 in
theorem item_none (em ep et : Addr) (b d : Nat) (s : ByteArray) (hs0 : s.size ≤ 1000000) (hz : s.size = 0) (w : World) (hR : Rd w b s d) (hE : Env em ep et b w) :
    Calls Tryz.prog 38 #[.pointer (some ⟨b, 0, none⟩)] w fun e w' => Ans em ep et b d w (.er 0) e w' := by
  have hs : s.size ≤ 140737488355328 := Nat.le_trans hs0 (by decide)
  have hblt := Cls.lt hR
  have hb1 := below_alloc w (.cells (ndL Pay.z (.slice none 0 0)).toArray 27)
  have hC0 := Cls.new w 27 (ndL Pay.z (.slice none 0 0))
  have hK0 : RdK b w (w.alloc (.cells (ndL Pay.z (.slice none 0 0)).toArray 27)) := .of_below hb1 (Nat.le_of_lt hblt)
  have hR0 := hR.up hb1
  have hnum := rnumber_calls b s d 1 (by omega) hs _ hR0 (hE.errs.below hb1)
  have c0 := hR.cell 0 rfl
  have c1 := hR.cell 1 rfl
  have HX := hid (And.intro hK0 (And.intro (Nat.le_refl w.heap.size) (And.intro hC0 hblt)))
  have hsz : s = ⟨#[]⟩ := by
    cases s with | mk a => exact congrArg ByteArray.mk (Array.eq_empty_of_size_eq_zero hz)
  clear hK0 hC0 hE hR hb1 hR0
  subst hsz
  simp only [ndL, Pay.z] at hnum
  go_enter Tryz.func38, Tryz.ntmps38
  go_wp2_with fail
  refine hnum.mono ?_
  rintro e w1 (⟨-, rfl, hk, hr⟩ | ⟨h, -⟩)
  case inr => exact absurd h (by decide)
  have hA : Ans em ep et b d (w.alloc (.cells (ndL Pay.z (.slice none 0 0)).toArray 27)) (.er 0) (.returned (.tuple #[ndV (Pay.z) (.slice none 0 0), errV em ep et 0])) w1 := Ans.err (i := 0) hk hr hs0
  obtain ⟨hC1, hC5, hA5⟩ := Ans.put HX.out.1 HX.out.2.1 HX.out.2.2.1 HX.out.2.2.2 hA (Pay.z) (.slice none 0 0)
  obtain ⟨y0, y1, y2, y3, y4, y5, y6, y7, y8⟩ := hC1.nine
  obtain ⟨v0, v1, v2, v3, v4, v5, v6, v7, v8⟩ := hC1.frozens
  have HY := hid (And.intro hC5 hA5)
  clear hA hC1 hC5 hA5 hk hr hnum
  go_wp2
  obtain ⟨W5, hW5, hC5, hA5⟩ : ∃ W5, putN w1 w.heap.size 0 (Pay.z) (.slice none 0 0) = W5 ∧ Cls W5 w.heap.size 27 (ndL (Pay.z) (.slice none 0 0)) ∧ Ans em ep et b d w (.er 0) (.returned (.tuple #[ndV (Pay.z) (.slice none 0 0), errV em ep et 0])) W5 := ⟨_, rfl, HY.out.1, HY.out.2⟩
  refine bp_at (W' := W5) ?_ hW5.symm
  obtain ⟨f0, f1, f2, f3, f4, f5, f6, f7, f8⟩ := hC5.nine
  exact bodyPost_ret (v := .tuple #[ndV (Pay.z) (.slice none 0 0), errV em ep et 0]) (by simp [results, Tryz.results38, go_sem, f0, f1, f2, f3, f4, f5, f6, f7, f8, ndV, ndL, Pay.z, errV]) rfl hA5

set_option maxRecDepth 100000 in
set_option maxHeartbeats 4000000 in
theorem item_deep (em ep et : Addr) (b d : Nat) (s : ByteArray) (hs0 : s.size ≤ 1000000) (hz : 0 < s.size) (hd : d = 16) (w : World) (hR : Rd w b s d) (hE : Env em ep et b w) :
    Calls Tryz.prog 38 #[.pointer (some ⟨b, 0, none⟩)] w fun e w' => Ans em ep et b d w (.er 2) e w' := by
  have hs : s.size ≤ 140737488355328 := Nat.le_trans hs0 (by decide)
  have hblt := Cls.lt hR
  have hb1 := below_alloc w (.cells (ndL Pay.z (.slice none 0 0)).toArray 27)
  have hC0 := Cls.new w 27 (ndL Pay.z (.slice none 0 0))
  have hK0 : RdK b w (w.alloc (.cells (ndL Pay.z (.slice none 0 0)).toArray 27)) := .of_below hb1 (Nat.le_of_lt hblt)
  have c0 := hR.cell 0 rfl
  have c1 := hR.cell 1 rfl
  have e0 := hE.errs.c2
  have hglt : 2 < w.heap.size := World.block_lt_of_cell? w _ e0
  have HX := hid (And.intro hR (And.intro hb1 hC0))
  obtain ⟨hne, hnl⟩ := ne_list hz
  clear hK0 hC0 hE hR hb1
  subst hd
  simp only [ndL, Pay.z] at HX
  go_enter Tryz.func38, Tryz.ntmps38
  go_wp2
  go_region
  go_wp2
  obtain ⟨hR, hb1, hC0⟩ := HX.out
  obtain ⟨f0, f1, f2, f3, f4, f5, f6, f7, f8⟩ : _ ∧ _ ∧ _ ∧ _ ∧ _ ∧ _ ∧ _ ∧ _ ∧ _ := ⟨hC0.cell 0 rfl, hC0.cell 1 rfl, hC0.cell 2 rfl, hC0.cell 3 rfl, hC0.cell 4 rfl, hC0.cell 5 rfl, hC0.cell 6 rfl, hC0.cell 7 rfl, hC0.cell 8 rfl⟩
  exact bodyPost_ret (v := .tuple #[ndV Pay.z (.slice none 0 0), errV em ep et 2]) (by simp [results, Tryz.results38, go_sem, ndV, ndL, Pay.z, errV]) rfl (Ans.err (.of_below hb1.drew (Nat.le_of_lt hblt)) (hR.up hb1.drew) hs0)

set_option maxRecDepth 100000 in
set_option maxHeartbeats 4000000 in
theorem item_step (j : Nat) (ih : ItemC j) (em ep et : Addr) (b d : Nat) (hd : d + 1 + j = 16) (s : ByteArray) (hs0 : s.size ≤ 1000000) (hz : 0 < s.size) (w : World) (hR : Rd w b s d) (hE : Env em ep et b w) :
    Calls Tryz.prog 38 #[.pointer (some ⟨b, 0, none⟩)] w fun e w' => Ans em ep et b d w (rd (j + 1) (tx s)) e w' := by
  have hs : s.size ≤ 140737488355328 := Nat.le_trans hs0 (by decide)
  have hblt := Cls.lt hR
  have hb1 := below_alloc w (.cells (ndL Pay.z (.slice none 0 0)).toArray 27)
  have hC0 := Cls.new w 27 (ndL Pay.z (.slice none 0 0))
  have hK0 : RdK b w (w.alloc (.cells (ndL Pay.z (.slice none 0 0)).toArray 27)) := .of_below hb1 (Nat.le_of_lt hblt)
  have hR0 := hR.up hb1
  have hE0 := hE.rdk (hb1.mono (Nat.le_of_lt hblt))
  have hnum := rnumber_calls b s d 1 (by omega) hs _ hR0 hE0.errs
  have c0 := hR.cell 0 rfl
  have c1 := hR.cell 1 rfl
  have HX := hid (And.intro hK0 (And.intro (Nat.le_refl w.heap.size) (And.intro hC0 hblt)))
  obtain ⟨hne, hnl⟩ := ne_list hz
  obtain ⟨u, hu⟩ : ∃ u : UInt8, (tx s)[0]? = some u := ⟨_, List.getElem?_eq_getElem (by rw [txs_len]; exact hz)⟩
  have hux : tx s = u :: (tx s).drop 1 := by
    cases e : tx s with
    | nil => rw [e] at hu; cases hu
    | cons a r => rw [e] at hu; cases hu; rfl
  obtain ⟨x, hxx⟩ : ∃ x, rd (j + 1) (tx s) = x := ⟨_, rfl⟩
  rw [hxx]
  have hbe : beN ((tx s).take 1) = u.toNat := by rw [hux]; exact beN_one _ _
  have hrd : ∀ q : ByteArray, tx q = (tx s).drop 1 → x = rhd (rd j) u.toNat (tx q) := fun q hq => by
    rw [← hxx]
    conv => lhs; rw [hux]
    rw [hq]; rfl
  obtain ⟨c, hc⟩ : ∃ c, u.toNat = c := ⟨_, rfl⟩
  have hcl : c < 256 := by rw [← hc]; exact u.toNat_lt
  rw [hbe, hc] at hnum
  rw [hc] at hrd
  have hd16 : ¬ (d : Int) = 16 := by omega
  have hd16' : ((d : Int) == 16) = false := by rw [beq_eq_false_iff_ne]; omega
  have HZ := hid (And.intro hrd (And.intro hE0 ih))
  clear hK0 hC0 hE hR hb1 hR0 hE0 hrd ih hu hux hbe hc hxx
  simp only [ndL, Pay.z] at hnum
  go_enter Tryz.func38, Tryz.ntmps38
  go_wp2_with fail
  refine hnum.mono ?_
  rintro e w1 (⟨h, -⟩ | ⟨-, q, rfl, hq, hk, hr⟩)
  case inl => omega
  have hqs : q.size ≤ 1000000 := by
    have := congrArg List.length hq
    rw [List.length_drop, txs_len, txs_len] at this
    omega
  obtain ⟨hrd, hE0, ih⟩ := HZ.out
  have hx := hrd q hq
  have hE1 := hE0.rdk hk.below
  have hwd := words_calls b w1
  have hcw : IntKind.u8.wrap (c : Int) = c := by simp [IntKind.wrap, IntKind.bits, IntKind.signed]; omega
  have HV := hid (And.intro hk (And.intro hr (And.intro hE1 (And.intro ih hx))))
  clear hrd hE0 ih hq hk hr hE1 hx hnum HZ
  go_wp2_with fail
  refine hwd.mono ?_
  rintro e w2 ⟨m, l, rfl, hb2, hl, hW⟩
  obtain ⟨hk, hr, hE1, ih, hx⟩ := HV.out
  have hk12 : RdK b w1 w2 := .of_below hb2 (Nat.le_of_lt (Cls.lt hr))
  have hk2 := hk.trans hk12
  have hr2 := hr.up hb2
  have hE2 := hE1.rdk hk12.below
  have hlk := run_lookU (P := Tryz.prog) (t := 111) Tryz.underlying111 Tryz.underlying5 zero_word w2 m l hl c
  by_cases hwc : wdB c = true
  · obtain ⟨v0, hv0⟩ := hW.all c hwc
    obtain ⟨ix, v, e1, e2⟩ := look_some hv0
    have hP := hW.vals _ (List.mem_of_getElem? e2)
    rw [e1] at hlk
    simp only [e2, Option.map_some, Option.getD_some] at hlk
    rw [rhd_wd _ _ hwc] at hx
    rcases hP with ⟨hc, rfl⟩ | ⟨hc, rfl⟩ | ⟨hc, rfl⟩ | ⟨hc, rfl⟩ | ⟨hc1, hc2, rc, nb, rfl, hx1, hx2⟩
    · have hcn : c = 192 := by simp only at hc; omega
      subst hcn
      have hcall := rnull_calls em ep et b d q w2 hr2 hE2
      rw [← hx] at hcall
      have HQ := hid hk2
      have hlk2 : (Instr.lookup 111 (.map (some m)) (.int .u8 192) true).run Tryz.prog w2 = _ := hlk
      clear hlk hl hW hv0 hx e1 e2 hk hr hE1 ih hk12 hk2 hr2 hE2 hb2 hwd HV
      go_wp2_with fail
      refine (hcall).mono ?_
      rintro e w3 hA
      obtain ⟨p1, a1, n1, c1, ev, rfl, hC1, hC5, hA5⟩ := Ans.fwd HX.out.1 HX.out.2.1 HX.out.2.2.1 HX.out.2.2.2 (hA.from HQ.out)
      obtain ⟨y0, y1, y2, y3, y4, y5, y6, y7, y8⟩ := hC1.nine
      obtain ⟨v0, v1, v2, v3, v4, v5, v6, v7, v8⟩ := hC1.frozens
      have HY := hid (And.intro hC5 hA5)
      clear hA hC1 hC5 hA5 hcall
      simp only [ndV, ndL]
      go_wp2
      obtain ⟨W5, hW5, hC5, hA5⟩ : ∃ W5, putN w3 w.heap.size 0 p1 (.slice a1 n1 c1) = W5 ∧ Cls W5 w.heap.size 27 (ndL p1 (.slice a1 n1 c1)) ∧ Ans em ep et b d w x (.returned (.tuple #[ndV p1 (.slice a1 n1 c1), ev])) W5 := ⟨_, rfl, HY.out.1, HY.out.2⟩
      unfold putN at hW5
      simp only [Nat.zero_add] at hW5
      rw [hW5]
      obtain ⟨f0, f1, f2, f3, f4, f5, f6, f7, f8⟩ := hC5.nine
      exact bodyPost_ret (v := .tuple #[ndV p1 (.slice a1 n1 c1), ev]) (by simp [results, Tryz.results38, go_sem, f0, f1, f2, f3, f4, f5, f6, f7, f8, ndV, ndL]) rfl hA5
    · have hcn : c = 193 := by simp only at hc; omega
      subst hcn
      have hcall := rnone_calls em ep et b d q hqs w2 hr2 hE2
      rw [← hx] at hcall
      have HQ := hid hk2
      have hlk2 : (Instr.lookup 111 (.map (some m)) (.int .u8 193) true).run Tryz.prog w2 = _ := hlk
      clear hlk hl hW hv0 hx e1 e2 hk hr hE1 ih hk12 hk2 hr2 hE2 hb2 hwd HV
      go_wp2_with fail
      refine (hcall).mono ?_
      rintro e w3 hA
      obtain ⟨p1, a1, n1, c1, ev, rfl, hC1, hC5, hA5⟩ := Ans.fwd HX.out.1 HX.out.2.1 HX.out.2.2.1 HX.out.2.2.2 (hA.from HQ.out)
      obtain ⟨y0, y1, y2, y3, y4, y5, y6, y7, y8⟩ := hC1.nine
      obtain ⟨v0, v1, v2, v3, v4, v5, v6, v7, v8⟩ := hC1.frozens
      have HY := hid (And.intro hC5 hA5)
      clear hA hC1 hC5 hA5 hcall
      simp only [ndV, ndL]
      go_wp2
      obtain ⟨W5, hW5, hC5, hA5⟩ : ∃ W5, putN w3 w.heap.size 0 p1 (.slice a1 n1 c1) = W5 ∧ Cls W5 w.heap.size 27 (ndL p1 (.slice a1 n1 c1)) ∧ Ans em ep et b d w x (.returned (.tuple #[ndV p1 (.slice a1 n1 c1), ev])) W5 := ⟨_, rfl, HY.out.1, HY.out.2⟩
      unfold putN at hW5
      simp only [Nat.zero_add] at hW5
      rw [hW5]
      obtain ⟨f0, f1, f2, f3, f4, f5, f6, f7, f8⟩ := hC5.nine
      exact bodyPost_ret (v := .tuple #[ndV p1 (.slice a1 n1 c1), ev]) (by simp [results, Tryz.results38, go_sem, f0, f1, f2, f3, f4, f5, f6, f7, f8, ndV, ndL]) rfl hA5
    · have hcn : c = 194 := by simp only at hc; omega
      subst hcn
      have hcall := risFalse_calls em ep et b d q w2 hr2 hE2
      rw [← hx] at hcall
      have HQ := hid hk2
      have hlk2 : (Instr.lookup 111 (.map (some m)) (.int .u8 194) true).run Tryz.prog w2 = _ := hlk
      clear hlk hl hW hv0 hx e1 e2 hk hr hE1 ih hk12 hk2 hr2 hE2 hb2 hwd HV
      go_wp2_with fail
      refine (hcall).mono ?_
      rintro e w3 hA
      obtain ⟨p1, a1, n1, c1, ev, rfl, hC1, hC5, hA5⟩ := Ans.fwd HX.out.1 HX.out.2.1 HX.out.2.2.1 HX.out.2.2.2 (hA.from HQ.out)
      obtain ⟨y0, y1, y2, y3, y4, y5, y6, y7, y8⟩ := hC1.nine
      obtain ⟨v0, v1, v2, v3, v4, v5, v6, v7, v8⟩ := hC1.frozens
      have HY := hid (And.intro hC5 hA5)
      clear hA hC1 hC5 hA5 hcall
      simp only [ndV, ndL]
      go_wp2
      obtain ⟨W5, hW5, hC5, hA5⟩ : ∃ W5, putN w3 w.heap.size 0 p1 (.slice a1 n1 c1) = W5 ∧ Cls W5 w.heap.size 27 (ndL p1 (.slice a1 n1 c1)) ∧ Ans em ep et b d w x (.returned (.tuple #[ndV p1 (.slice a1 n1 c1), ev])) W5 := ⟨_, rfl, HY.out.1, HY.out.2⟩
      unfold putN at hW5
      simp only [Nat.zero_add] at hW5
      rw [hW5]
      obtain ⟨f0, f1, f2, f3, f4, f5, f6, f7, f8⟩ := hC5.nine
      exact bodyPost_ret (v := .tuple #[ndV p1 (.slice a1 n1 c1), ev]) (by simp [results, Tryz.results38, go_sem, f0, f1, f2, f3, f4, f5, f6, f7, f8, ndV, ndL]) rfl hA5
    · have hcn : c = 195 := by simp only at hc; omega
      subst hcn
      have hcall := risTrue_calls em ep et b d q w2 hr2 hE2
      rw [← hx] at hcall
      have HQ := hid hk2
      have hlk2 : (Instr.lookup 111 (.map (some m)) (.int .u8 195) true).run Tryz.prog w2 = _ := hlk
      clear hlk hl hW hv0 hx e1 e2 hk hr hE1 ih hk12 hk2 hr2 hE2 hb2 hwd HV
      go_wp2_with fail
      refine (hcall).mono ?_
      rintro e w3 hA
      obtain ⟨p1, a1, n1, c1, ev, rfl, hC1, hC5, hA5⟩ := Ans.fwd HX.out.1 HX.out.2.1 HX.out.2.2.1 HX.out.2.2.2 (hA.from HQ.out)
      obtain ⟨y0, y1, y2, y3, y4, y5, y6, y7, y8⟩ := hC1.nine
      obtain ⟨v0, v1, v2, v3, v4, v5, v6, v7, v8⟩ := hC1.frozens
      have HY := hid (And.intro hC5 hA5)
      clear hA hC1 hC5 hA5 hcall
      simp only [ndV, ndL]
      go_wp2
      obtain ⟨W5, hW5, hC5, hA5⟩ : ∃ W5, putN w3 w.heap.size 0 p1 (.slice a1 n1 c1) = W5 ∧ Cls W5 w.heap.size 27 (ndL p1 (.slice a1 n1 c1)) ∧ Ans em ep et b d w x (.returned (.tuple #[ndV p1 (.slice a1 n1 c1), ev])) W5 := ⟨_, rfl, HY.out.1, HY.out.2⟩
      unfold putN at hW5
      simp only [Nat.zero_add] at hW5
      rw [hW5]
      obtain ⟨f0, f1, f2, f3, f4, f5, f6, f7, f8⟩ := hC5.nine
      exact bodyPost_ret (v := .tuple #[ndV p1 (.slice a1 n1 c1), ev]) (by simp [results, Tryz.results38, go_sem, f0, f1, f2, f3, f4, f5, f6, f7, f8, ndV, ndL]) rfl hA5
    · simp only at hc1 hc2 hx2
      have hcall := rfix_calls em ep et b d rc nb (2 ^ ((c : Int) - 212).toNat) (fix_lt hc1 hc2) q hqs w2 hr2 hE2 hx1 hx2
      rw [show wdR c (tx q) = rext (2 ^ ((c : Int) - 212).toNat) (tx q) from wdR_fix hc1 hc2] at hx
      rw [← hx] at hcall
      have HQ := hid hk2
      have hlk2 : (Instr.lookup 111 (.map (some m)) (.int .u8 c) true).run Tryz.prog w2 = _ := hlk
      clear hlk hl hW hv0 hx e1 e2 hk hr hE1 ih hk12 hk2 hr2 hE2 hb2 hwd HV hx1 hx2
      go_wp2_with fail
      refine (hcall).mono ?_
      rintro e w3 hA
      obtain ⟨p1, a1, n1, c1, ev, rfl, hC1, hC5, hA5⟩ := Ans.fwd HX.out.1 HX.out.2.1 HX.out.2.2.1 HX.out.2.2.2 (hA.from HQ.out)
      obtain ⟨y0, y1, y2, y3, y4, y5, y6, y7, y8⟩ := hC1.nine
      obtain ⟨v0, v1, v2, v3, v4, v5, v6, v7, v8⟩ := hC1.frozens
      have HY := hid (And.intro hC5 hA5)
      clear hA hC1 hC5 hA5 hcall
      simp only [ndV, ndL]
      go_wp2
      obtain ⟨W5, hW5, hC5, hA5⟩ : ∃ W5, putN w3 w.heap.size 0 p1 (.slice a1 n1 c1) = W5 ∧ Cls W5 w.heap.size 27 (ndL p1 (.slice a1 n1 c1)) ∧ Ans em ep et b d w x (.returned (.tuple #[ndV p1 (.slice a1 n1 c1), ev])) W5 := ⟨_, rfl, HY.out.1, HY.out.2⟩
      unfold putN at hW5
      simp only [Nat.zero_add] at hW5
      rw [hW5]
      obtain ⟨f0, f1, f2, f3, f4, f5, f6, f7, f8⟩ := hC5.nine
      exact bodyPost_ret (v := .tuple #[ndV p1 (.slice a1 n1 c1), ev]) (by simp [results, Tryz.results38, go_sem, f0, f1, f2, f3, f4, f5, f6, f7, f8, ndV, ndL]) rfl hA5
  · have hnone := look_none (c := c) (l := l) (fun p hp e => hwc (by
      have h := hW.vals p hp
      rw [e] at h
      rcases h with ⟨h, _⟩ | ⟨h, _⟩ | ⟨h, _⟩ | ⟨h, _⟩ | ⟨h1, h2, _⟩
      · obtain rfl : c = 192 := by omega
        rfl
      · obtain rfl : c = 193 := by omega
        rfl
      · obtain rfl : c = 194 := by omega
        rfl
      · obtain rfl : c = 195 := by omega
        rfl
      · unfold wdB
        simp only [Bool.or_eq_true, decide_eq_true_eq]
        omega))
    rw [hnone] at hlk
    simp only at hlk
    have hci : wrap64 (c : Int) = c := by unfold wrap64; omega
    have hst := starts_calls b w2
    have hwf : wdB c = false := by cases e : wdB c with | false => rfl | true => exact absurd e hwc
    have HQ := hid (And.intro hk2 (And.intro hr2 (And.intro hE2 (And.intro ih (And.intro hx hwf)))))
    clear hl hW hx hk hr hE1 ih hk12 hk2 hr2 hE2 hb2 hwd HV hnone hwc hwf
    go_wp2_with fail
    refine hst.mono ?_
    rintro e w3 ⟨rfl, hb3⟩
    clear hlk hst
    obtain ⟨hk2, hr2, hE2, ih, hx, hwf⟩ := HQ.out
    have hk3 := hk2.trans (.of_below hb3 (Nat.le_of_lt (Cls.lt hr2)))
    have hr3 := hr2.up hb3
    have hE3 := hE2.rdk (hb3.mono (Nat.le_of_lt (Cls.lt hr2)))
    have HT := hid (And.intro hk3 (And.intro hr3 (And.intro hE3 (And.intro ih (And.intro hx hwf)))))
    clear hk2 hr2 hE2 ih hx hwf hk3 hr3 hE3 hb3 HQ
    obtain ⟨SA, hSA⟩ : ∃ SA, (stA b).toArray = SA := ⟨_, rfl⟩
    rw [hSA]
    have HA := hid hSA
    clear hSA
    go_wp2_with fail
    go_loopw [55] (fun v55 wr => ∃ i : Nat, v55 = .int .i64 i ∧ i ≤ 13 ∧ (∀ i', i' < i → ¬ ((st i').fr ≤ c ∧ c < (st i').fr + (st i').ct)) ∧ RdK b (w.alloc (.cells (ndL Pay.z (.slice none 0 0)).toArray 27)) wr ∧ Rd wr b q d ∧ Env em ep et b wr) (fun v55 _ => 13 - (intOf v55).toNat)
    case atStart => exact ⟨0, rfl, Nat.zero_le _, fun i' h => absurd h (Nat.not_lt_zero _), HT.out.1, HT.out.2.1, HT.out.2.2.1⟩
    case round =>
      obtain ⟨i, rfl, hi, hno, hk, hr, hE⟩ := hrel
      by_cases h13 : i < 13
      · have hi13 : (i : Int) < 13 := by omega
        have hi0 : (0 : Int) ≤ i := by omega
        have hix := index_row b h13 HA.out wr
        obtain ⟨hfr, hct, hg7⟩ := st_bound h13
        have hst := fun hm1 hm2 => rhd_st (rd j) (c := c) (tx q) h13 hm1 hm2
        have hzz := st_zero h13
        have hszs := fun hm1 hm2 hz => And.intro (st_z (c := c) h13 hm1 hm2 hz) (st_g (c := c) h13 hm1 hm2 hz)
        have hno2 : ¬ ((st i).fr ≤ c ∧ c < (st i).fr + (st i).ct) → ∀ i', i' < i + 1 → ¬ ((st i').fr ≤ c ∧ c < (st i').fr + (st i').ct) := fun h i' hi' => by
          by_cases e : i' = i
          · rw [e]; exact h
          · exact hno i' (by omega)
        obtain ⟨R, hRw⟩ : ∃ R, st i = R := ⟨_, rfl⟩
        rw [hRw] at hix hfr hct hg7 hst hzz hszs hno2
        have hRwH := hid hRw
        clear hRw
        obtain ⟨FF, hFF⟩ : ∃ FF, rdF R.g = FF := ⟨_, rfl⟩
        have heF := rdF_enters hg7 hFF
        have b0 := Cls.new wr 116 (stC b R)
        have b1 := Cls.new (wr.alloc (.cells (stC b R).toArray 116)) 3 [.int .i64 (R.fr : Nat), .int .i64 ((R.fr : Int) + (R.ct : Nat))]
        rw [World.size_alloc] at b1
        have bw := (below_alloc wr (.cells (stC b R).toArray 116)).alloc (by simp) (.cells #[.int .i64 (R.fr : Nat), .int .i64 ((R.fr : Int) + (R.ct : Nat))] 3)
        have b2 := b0.alloc (.cells #[.int .i64 (R.fr : Nat), .int .i64 ((R.fr : Int) + (R.ct : Nat))] 3)
        have hwi := rwithin_calls c (R.fr : Nat) ((R.fr : Int) + (R.ct : Nat)) (wr.heap.size + 1) _ b1
        have hws : wrap64 ((R.fr : Int) + (R.ct : Int)) = (R.fr : Int) + (R.ct : Int) := by unfold wrap64; omega
        have hwi1 : wrap64 ((i : Int) + 1) = ((i + 1 : Nat) : Int) := by unfold wrap64; omega
        have HI1 := hid hwi1
        clear hwi1
        have b3 := b2
        simp only [stC, hFF] at hix b0 b1 b2 bw hwi
        have hFH := hid hFF
        clear hFF
        have HY := hid (And.intro hno2 (And.intro hk (And.intro hr (And.intro hE (And.intro b0 (And.intro b1 (And.intro b2 (And.intro bw (And.intro hst (And.intro hzz (And.intro hszs b3)))))))))))
        clear hno2 hk hr hE hno b0 b1 b2 bw hst hzz hszs b3
        have HN := hid (And.intro hfr (And.intro hct (And.intro hg7 (And.intro hi (And.intro hcl (And.intro hs0 (And.intro hqs (And.intro hd (And.intro hz h13)))))))))
        clear hfr hct hg7 hi hcl hs0 hqs hd hz h13 hs hd16 hd16' hi0 hci hcw hne hnl
        by_cases hm : R.fr ≤ c ∧ c < R.fr + R.ct
        · rw [within_true hm] at hwi
          go_upto_region 13 with fail
          clear hix
          go_wp2_with fail
          refine hwi.mono ?_
          rintro e w4 ⟨rfl, rfl⟩
          obtain ⟨-, hk, hr, hE, -, -, b2, bw, hst, hzz, hszs, b3⟩ := HY.out
          obtain ⟨hfr, hct, hg7, hi, hcl, hs0, hqs, hd, hz, h13⟩ := HN.out
          have hblr := Cls.lt hr
          have hk4 := hk.trans (.of_below bw (Nat.le_of_lt hblr))
          have hr4 := hr.up bw
          have hE4 := hE.rdk (bw.mono (Nat.le_of_lt hblr))
          have hsub := sub_wrap hm.1 hcl
          have hkl : c - R.fr < 256 := Nat.lt_of_le_of_lt (Nat.sub_le _ _) hcl
          obtain ⟨kk0, hkk⟩ : ∃ kk0, c - R.fr = kk0 := ⟨_, rfl⟩
          have hst2 := hst hm.1 hm.2
          rw [hkk] at hsub hkl hst2
          have hku := u64_small hkl
          obtain ⟨-, -, -, ih, hx, -⟩ := HT.out
          rw [hst2] at hx
          have hrc := readC_of j ih d hd hg7 hFH.out
          by_cases hz0 : R.z0 = 0
          · obtain ⟨ez1, ez2, ez3, hg3, -⟩ := hzz hz0
            rw [if_pos hz0] at hx
            have hcall := hrc em ep et b q kk0 0 (Nat.lt_of_lt_of_le hkl (by decide)) (fun e => absurd (e ▸ hg3) (by decide)) (fun _ => Nat.lt_of_lt_of_le hkl (by decide)) (fun e => absurd (e ▸ hg3) (by decide)) hqs _ hr4 hE4
            rw [← hx] at hcall
            have HQ := hid hk4
            clear hk hr hE b2 b3 bw hst hzz hszs hfr hct hg7 hi hcl hs0 hqs hd hz h13 hblr hk4 hr4 hE4 hst2 ih hx hrc hm hkk hkl hg3
            have heq := eq4_z hz0 ez1 ez2 ez3
            clear hz0 ez1 ez2 ez3
            change Calls _ _ #[_, _, .int .i64 0] _ _ at hcall
            go_wp2_with fail
            refine (hcall).mono ?_
            rintro e w5 hA
            obtain ⟨p1, a1, n1, c1, ev, rfl, hC1, hC5, hA5⟩ := Ans.fwd HX.out.1 HX.out.2.1 HX.out.2.2.1 HX.out.2.2.2 (hA.from HQ.out)
            obtain ⟨y0, y1, y2, y3, y4, y5, y6, y7, y8⟩ := hC1.nine
            obtain ⟨v0, v1, v2, v3, v4, v5, v6, v7, v8⟩ := hC1.frozens
            have HY := hid (And.intro hC5 hA5)
            clear hA hC1 hC5 hA5 hcall
            simp only [ndV, ndL]
            go_wp2
            obtain ⟨W5, hW5, hC5, hA5⟩ : ∃ W5, putN w5 w.heap.size 0 p1 (.slice a1 n1 c1) = W5 ∧ Cls W5 w.heap.size 27 (ndL p1 (.slice a1 n1 c1)) ∧ Ans em ep et b d w x (.returned (.tuple #[ndV p1 (.slice a1 n1 c1), ev])) W5 := ⟨_, rfl, HY.out.1, HY.out.2⟩
            unfold putN at hW5
            simp only [Nat.zero_add] at hW5
            rw [hW5]
            obtain ⟨f0, f1, f2, f3, f4, f5, f6, f7, f8⟩ := hC5.nine
            exact bodyPost_ret (v := .tuple #[ndV p1 (.slice a1 n1 c1), ev]) (by simp [results, Tryz.results38, go_sem, f0, f1, f2, f3, f4, f5, f6, f7, f8, ndV, ndL]) rfl hA5
          · rw [if_neg hz0] at hx
            obtain ⟨⟨hk4l, hzs⟩, hg1, hg6⟩ := hszs hm.1 hm.2 hz0
            rw [hkk] at hk4l hzs hg1 hg6
            have hcs := row_size b3 hk4l
            obtain ⟨zz, hzz2⟩ : ∃ zz, R.z kk0 = zz := ⟨_, rfl⟩
            rw [hzz2] at hzs hg1 hg6 hcs hx
            have hz8 : zz ≤ 8 := by rcases hzs with e | e | e | e <;> rw [e] <;> decide
            have hnum := rnumber_calls b q d zz hz8 (Nat.le_trans hqs (by decide)) _ hr4 hE4.errs
            have heq := eq4_ne hz0
            have hkb : (0 : Int) ≤ (kk0 : Int) := Int.natCast_nonneg _
            have hkb2 : (kk0 : Int) < 4 := Int.ofNat_lt.2 hk4l
            simp only [stC, hFH.out] at hcs
            by_cases hlq : q.size < zz
            · have hxe : x = .er 0 := by rw [hx]; unfold rnum; rw [if_pos (by rw [txs_len]; exact hlq)]
              have HQ := hid (And.intro hk4 (And.intro hqs (And.intro hxe hlq)))
              clear hk hr hE b2 b3 bw hst hzz hszs hfr hct hg7 hi hcl hs0 hqs hd hz h13 hblr hk4 hr4 hE4 hst2 ih hx hrc hm hkk hkl hk4l hzs hg1 hg6 hz8 hxe hlq
              go_wp2_with fail
              refine hnum.mono ?_
              rintro e w5 (⟨-, rfl, hk5, hr5⟩ | ⟨h, -⟩)
              case inr => exact absurd HQ.out.2.2.2 (Nat.not_lt_of_le h)
              have hA : Ans em ep et b d (w.alloc (.cells (ndL Pay.z (.slice none 0 0)).toArray 27)) x (.returned (.tuple #[ndV (Pay.z) (.slice none 0 0), errV em ep et 0])) w5 := by rw [HQ.out.2.2.1]; exact Ans.err (i := 0) (HQ.out.1.trans hk5) hr5 HQ.out.2.1
              obtain ⟨hC1, hC5, hA5⟩ := Ans.put HX.out.1 HX.out.2.1 HX.out.2.2.1 HX.out.2.2.2 hA (Pay.z) (.slice none 0 0)
              obtain ⟨y0, y1, y2, y3, y4, y5, y6, y7, y8⟩ := hC1.nine
              obtain ⟨v0, v1, v2, v3, v4, v5, v6, v7, v8⟩ := hC1.frozens
              have HY := hid (And.intro hC5 hA5)
              clear hA hC1 hC5 hA5 hk5 hr5 hnum
              go_wp2
              obtain ⟨W5, hW5, hC5, hA5⟩ : ∃ W5, putN w5 w.heap.size 0 (Pay.z) (.slice none 0 0) = W5 ∧ Cls W5 w.heap.size 27 (ndL (Pay.z) (.slice none 0 0)) ∧ Ans em ep et b d w x (.returned (.tuple #[ndV (Pay.z) (.slice none 0 0), errV em ep et 0])) W5 := ⟨_, rfl, HY.out.1, HY.out.2⟩
              refine bp_at (W' := W5) ?_ hW5.symm
              obtain ⟨f0, f1, f2, f3, f4, f5, f6, f7, f8⟩ := hC5.nine
              exact bodyPost_ret (v := .tuple #[ndV (Pay.z) (.slice none 0 0), errV em ep et 0]) (by simp [results, Tryz.results38, go_sem, f0, f1, f2, f3, f4, f5, f6, f7, f8, ndV, ndL, Pay.z, errV]) rfl hA5
            · have hxe : ∀ q2 : ByteArray, tx q2 = (tx q).drop zz → x = rdK (rd j) R.g (beN ((tx q).take zz)) zz (tx q2) := fun q2 hq2 => by
                rw [hx]; unfold rnum; rw [if_neg (by rw [txs_len]; exact hlq), hq2]
              have hnl := num_lt (s := tx q) hzs (by rw [txs_len]; exact Nat.le_of_not_lt hlq)
              obtain ⟨nn, hnn⟩ : ∃ nn, beN ((tx q).take zz) = nn := ⟨_, rfl⟩
              rw [hnn] at hnl hnum
              rw [hnn] at hxe
              have HQ := hid (And.intro hk4 (And.intro hqs (And.intro hxe (And.intro hlq (And.intro hnl (And.intro hrc (And.intro hzs (And.intro hg1 (And.intro hg6 (And.intro hE4 (And.intro b3 hblr)))))))))))
              clear hk hr hE b2 b3 bw hst hzz hszs hfr hct hg7 hi hcl hs0 hqs hd hz h13 hblr hk4 hr4 hE4 hst2 ih hx hrc hm hkk hkl hk4l hzs hg1 hg6 hz8 hxe hlq hnl hnn
              go_wp2_with fail
              refine hnum.mono ?_
              rintro e w5 (⟨h, -⟩ | ⟨-, q2, rfl, hq2, hk5, hr5⟩)
              case inl => exact absurd h HQ.out.2.2.2.1
              obtain ⟨hk4, hqs, hxe, hlq, hnl, hrc, hzs, hg1, hg6, hE4, b3, hblr⟩ := HQ.out
              simp only [stC, hFH.out] at b3
              have b5 := (hk5.blk _ (Cls.lt b3) (Nat.ne_of_gt hblr)).trans b3
              have c6 := Cls.cell b5 6 rfl
              have hq2s : q2.size ≤ 1000000 := by
                have h1 := congrArg List.length hq2
                rw [List.length_drop, txs_len, txs_len] at h1
                exact Nat.le_trans (by rw [h1]; exact Nat.sub_le _ _) hqs
              have hcall := hrc em ep et b q2 nn zz hnl.2 (fun _ => ⟨hzs, hnl.1⟩) (fun e => pow4 hnl.1 (hg1 e)) hg6 hq2s _ hr5 (hE4.rdk hk5.below)
              rw [← hxe q2 hq2] at hcall
              have HQ2 := hid (hk4.trans hk5)
              clear hk4 hqs hxe hlq hnl hrc hzs hg1 hg6 hE4 hq2s hq2 hk5 hr5 hnum HQ b3 hblr b5
              go_wp2_with fail
              refine (hcall).mono ?_
              rintro e w6 hA
              obtain ⟨p1, a1, n1, c1, ev, rfl, hC1, hC5, hA5⟩ := Ans.fwd HX.out.1 HX.out.2.1 HX.out.2.2.1 HX.out.2.2.2 (hA.from HQ2.out)
              obtain ⟨y0, y1, y2, y3, y4, y5, y6, y7, y8⟩ := hC1.nine
              obtain ⟨v0, v1, v2, v3, v4, v5, v6, v7, v8⟩ := hC1.frozens
              have HY := hid (And.intro hC5 hA5)
              clear hA hC1 hC5 hA5 hcall
              simp only [ndV, ndL]
              go_wp2
              obtain ⟨W5, hW5, hC5, hA5⟩ : ∃ W5, putN w6 w.heap.size 0 p1 (.slice a1 n1 c1) = W5 ∧ Cls W5 w.heap.size 27 (ndL p1 (.slice a1 n1 c1)) ∧ Ans em ep et b d w x (.returned (.tuple #[ndV p1 (.slice a1 n1 c1), ev])) W5 := ⟨_, rfl, HY.out.1, HY.out.2⟩
              unfold putN at hW5
              simp only [Nat.zero_add] at hW5
              rw [hW5]
              obtain ⟨f0, f1, f2, f3, f4, f5, f6, f7, f8⟩ := hC5.nine
              exact bodyPost_ret (v := .tuple #[ndV p1 (.slice a1 n1 c1), ev]) (by simp [results, Tryz.results38, go_sem, f0, f1, f2, f3, f4, f5, f6, f7, f8, ndV, ndL]) rfl hA5
        · rw [within_false hm] at hwi
          go_upto_region 13 with fail
          clear hix
          go_wp2_with fail
          refine hwi.mono ?_
          rintro e w4 ⟨rfl, rfl⟩
          go_wp2
          go_roundw
          case rel =>
            obtain ⟨hno2, hk, hr, hE, b0, b1, b2, bw, -⟩ := HY.out
            exact ⟨i + 1, by simp, HN.out.2.2.2.2.2.2.2.2.2, hno2 hm, hk.trans (.of_below bw (Nat.le_of_lt (Cls.lt hr))), hr.up bw, hE.rdk (bw.mono (Nat.le_of_lt (Cls.lt hr)))⟩
          case measure => simp [intOf]; omega
      · obtain rfl : i = 13 := Nat.le_antisymm hi (Nat.le_of_not_lt h13)
        obtain ⟨-, -, -, -, hx, hwf⟩ := HT.out
        have hge := rhd_rest hwf hno
        rw [rhd_ge hge] at hx
        have hcall := rsigned_calls (rd j) d em ep et b q c 1 (Nat.lt_of_lt_of_le hcl (by decide)) (fun _ => ⟨.inl rfl, hcl⟩) (fun e => absurd e (by decide)) (fun e => absurd e (by decide)) hqs _ hr hE
        change Calls _ _ #[_, _, .int .i64 1] _ (fun e w' => Ans _ _ _ _ _ _ (.ok (.nd (intP 1 c) []) (tx q)) e w') at hcall
        rw [← hx] at hcall
        have HQ := hid hk
        clear hno hk hr hE hx hwf hge HT hcl hs0 hqs hd hz hs hd16 hd16' hci hcw hne hnl h13 hi
        go_wp2_with fail
        refine (hcall).mono ?_
        rintro e w4 hA
        obtain ⟨p1, a1, n1, c1, ev, rfl, hC1, hC5, hA5⟩ := Ans.fwd HX.out.1 HX.out.2.1 HX.out.2.2.1 HX.out.2.2.2 (hA.from HQ.out)
        obtain ⟨y0, y1, y2, y3, y4, y5, y6, y7, y8⟩ := hC1.nine
        obtain ⟨v0, v1, v2, v3, v4, v5, v6, v7, v8⟩ := hC1.frozens
        have HY := hid (And.intro hC5 hA5)
        clear hA hC1 hC5 hA5 hcall
        simp only [ndV, ndL]
        go_wp2
        obtain ⟨W5, hW5, hC5, hA5⟩ : ∃ W5, putN w4 w.heap.size 0 p1 (.slice a1 n1 c1) = W5 ∧ Cls W5 w.heap.size 27 (ndL p1 (.slice a1 n1 c1)) ∧ Ans em ep et b d w x (.returned (.tuple #[ndV p1 (.slice a1 n1 c1), ev])) W5 := ⟨_, rfl, HY.out.1, HY.out.2⟩
        unfold putN at hW5
        simp only [Nat.zero_add] at hW5
        rw [hW5]
        obtain ⟨f0, f1, f2, f3, f4, f5, f6, f7, f8⟩ := hC5.nine
        exact bodyPost_ret (v := .tuple #[ndV p1 (.slice a1 n1 c1), ev]) (by simp [results, Tryz.results38, go_sem, f0, f1, f2, f3, f4, f5, f6, f7, f8, ndV, ndL]) rfl hA5
theorem tx_zero {s : ByteArray} (h : s.size = 0) : tx s = [] := List.eq_nil_of_length_eq_zero (by rw [txs_len]; exact h)
theorem item_all : ∀ j, ItemC j
  | 0 => fun em ep et b d s hd hs w hR hE => by
    by_cases hz : s.size = 0
    · rw [tx_zero hz]
      exact item_none em ep et b d s hs hz w hR hE
    · have h := item_deep em ep et b d s hs (Nat.pos_of_ne_zero hz) hd w hR hE
      rw [show rd 0 (tx s) = .er 2 by cases e : tx s with | nil => exact absurd (by rw [← txs_len, e]; rfl) hz | cons a r => rfl]
      exact h
  | j + 1 => fun em ep et b d s hd hs w hR hE => by
    by_cases hz : s.size = 0
    · rw [tx_zero hz]
      exact item_none em ep et b d s hs hz w hR hE
    · exact item_step j (item_all j) em ep et b d (by omega) s hs (Nat.pos_of_ne_zero hz) w hR hE
end Go.Proofs.YtpjlepkdiaohiaaGreatDoor

/- Package mpr: told, Item, Read: walked. -/
namespace Go.Proofs.YtpjlepkdiaohiaaGreatDoor
open Go.RowKit
attribute [local go_sem] Oper.semAt_some

/-- the errors' numbers. -/
def erN (i : Nat) : Int := if i = 0 then 100 else if i = 1 then 140 else 60
theorem ix3e0 (a b c : Value) (w : World) : (Instr.index 120 (.agg #[a, b, c]) (.int .i64 0)).run Tryz.prog w = .ok a w := by kernel_rfl
theorem ix3e1 (a b c : Value) (w : World) : (Instr.index 120 (.agg #[a, b, c]) (.int .i64 1)).run Tryz.prog w = .ok b w := by kernel_rfl
theorem ix3e2 (a b c : Value) (w : World) : (Instr.index 120 (.agg #[a, b, c]) (.int .i64 2)).run Tryz.prog w = .ok c w := by kernel_rfl
theorem ix3n0 (a b c : Value) (w : World) : (Instr.index 121 (.agg #[a, b, c]) (.int .i64 0)).run Tryz.prog w = .ok a w := by kernel_rfl
theorem ix3n1 (a b c : Value) (w : World) : (Instr.index 121 (.agg #[a, b, c]) (.int .i64 1)).run Tryz.prog w = .ok b w := by kernel_rfl
theorem ix3n2 (a b c : Value) (w : World) : (Instr.index 121 (.agg #[a, b, c]) (.int .i64 2)).run Tryz.prog w = .ok c w := by kernel_rfl

set_option maxRecDepth 100000 in
set_option maxHeartbeats 4000000 in
theorem told0 (w : World) {em ep et : Addr} (hQ : ErrQ w em ep et) :
    Calls Tryz.prog 39 #[.iface 251 (.pointer (some em))] w fun e w' => e = .returned (.int .i64 100) ∧ w' = w := by
  obtain ⟨hE, ⟨ca, ta, ha⟩, ⟨cb, tb, hb⟩, ⟨cc, tc, hc⟩, n01, n02, n12⟩ := hQ
  have e0 := hE.c0
  have e1 := hE.c1
  have e2 := hE.c2
  have q0 := is_same em w
  have HQ := hid (q0)
  clear hE ha hb hc n01 n02 n12 q0
  have x0 := ix3e0
  have x1 := ix3e1
  have x2 := ix3e2
  have y0 := ix3n0
  have y1 := ix3n1
  have y2 := ix3n2
  go_enter Tryz.func39, Tryz.ntmps39
  go_wp2
  go_loop [9] (fun v9 => ∃ k : Nat, v9 = .int .i64 k ∧ k ≤ 0) (fun v9 => 3 - (intOf v9).toNat)
  case atStart => exact ⟨0, rfl, by decide⟩
  case round =>
    obtain ⟨k, rfl, hk⟩ := hrel
    rcases (show k = 0 by omega) with rfl
    · clear hk
      go_wp2_with fail
      refine (HQ.out).mono ?_
      rintro e w1 ⟨rfl, rfl⟩
      go_wp2
      go_ret
      exact ⟨by first | rfl | simp, rfl⟩
set_option maxRecDepth 100000 in
set_option maxHeartbeats 4000000 in
theorem told1 (w : World) {em ep et : Addr} (hQ : ErrQ w em ep et) :
    Calls Tryz.prog 39 #[.iface 251 (.pointer (some ep))] w fun e w' => e = .returned (.int .i64 140) ∧ w' = w := by
  obtain ⟨hE, ⟨ca, ta, ha⟩, ⟨cb, tb, hb⟩, ⟨cc, tc, hc⟩, n01, n02, n12⟩ := hQ
  have e0 := hE.c0
  have e1 := hE.c1
  have e2 := hE.c2
  have q0 := is_other ep em cb ca tb ta w (Ne.symm n01) hb ha
  have q1 := is_same ep w
  have HQ := hid (And.intro q0 q1)
  clear hE ha hb hc n01 n02 n12 q0 q1
  have x0 := ix3e0
  have x1 := ix3e1
  have x2 := ix3e2
  have y0 := ix3n0
  have y1 := ix3n1
  have y2 := ix3n2
  go_enter Tryz.func39, Tryz.ntmps39
  go_wp2
  go_loop [9] (fun v9 => ∃ k : Nat, v9 = .int .i64 k ∧ k ≤ 1) (fun v9 => 3 - (intOf v9).toNat)
  case atStart => exact ⟨0, rfl, by decide⟩
  case round =>
    obtain ⟨k, rfl, hk⟩ := hrel
    rcases (show k = 0 ∨ k = 1 by omega) with rfl | rfl
    · clear hk
      go_wp2_with fail
      refine (HQ.out.1).mono ?_
      rintro e w1 ⟨rfl, rfl⟩
      go_wp2
      go_round
      case rel => exact ⟨1, by first | rfl | simp, by decide⟩
      case measure => simp [intOf]
    · clear hk
      go_wp2_with fail
      refine (HQ.out.2).mono ?_
      rintro e w1 ⟨rfl, rfl⟩
      go_wp2
      go_ret
      exact ⟨by first | rfl | simp, rfl⟩
set_option maxRecDepth 100000 in
set_option maxHeartbeats 4000000 in
theorem told2 (w : World) {em ep et : Addr} (hQ : ErrQ w em ep et) :
    Calls Tryz.prog 39 #[.iface 251 (.pointer (some et))] w fun e w' => e = .returned (.int .i64 60) ∧ w' = w := by
  obtain ⟨hE, ⟨ca, ta, ha⟩, ⟨cb, tb, hb⟩, ⟨cc, tc, hc⟩, n01, n02, n12⟩ := hQ
  have e0 := hE.c0
  have e1 := hE.c1
  have e2 := hE.c2
  have q0 := is_other et em cc ca tc ta w (Ne.symm n02) hc ha
  have q1 := is_other et ep cc cb tc tb w (Ne.symm n12) hc hb
  have q2 := is_same et w
  have HQ := hid (And.intro q0 (And.intro q1 q2))
  clear hE ha hb hc n01 n02 n12 q0 q1 q2
  have x0 := ix3e0
  have x1 := ix3e1
  have x2 := ix3e2
  have y0 := ix3n0
  have y1 := ix3n1
  have y2 := ix3n2
  go_enter Tryz.func39, Tryz.ntmps39
  go_wp2
  go_loop [9] (fun v9 => ∃ k : Nat, v9 = .int .i64 k ∧ k ≤ 2) (fun v9 => 3 - (intOf v9).toNat)
  case atStart => exact ⟨0, rfl, by decide⟩
  case round =>
    obtain ⟨k, rfl, hk⟩ := hrel
    rcases (show k = 0 ∨ k = 1 ∨ k = 2 by omega) with rfl | rfl | rfl
    · clear hk
      go_wp2_with fail
      refine (HQ.out.1).mono ?_
      rintro e w1 ⟨rfl, rfl⟩
      go_wp2
      go_round
      case rel => exact ⟨1, by first | rfl | simp, by decide⟩
      case measure => simp [intOf]
    · clear hk
      go_wp2_with fail
      refine (HQ.out.2.1).mono ?_
      rintro e w1 ⟨rfl, rfl⟩
      go_wp2
      go_round
      case rel => exact ⟨2, by first | rfl | simp, by decide⟩
      case measure => simp [intOf]
    · clear hk
      go_wp2_with fail
      refine (HQ.out.2.2).mono ?_
      rintro e w1 ⟨rfl, rfl⟩
      go_wp2
      go_ret
      exact ⟨by first | rfl | simp, rfl⟩
theorem told_calls (i : Nat) (w : World) {em ep et : Addr} (hQ : ErrQ w em ep et) :
    Calls Tryz.prog 39 #[errV em ep et i] w fun e w' => e = .returned (.int .i64 (erN i)) ∧ w' = w := by
  unfold errV erN
  by_cases h0 : i = 0
  · rw [if_pos h0, if_pos h0]; exact told0 w hQ
  · rw [if_neg h0, if_neg h0]
    by_cases h1 : i = 1
    · rw [if_pos h1, if_pos h1]; exact told1 w hQ
    · rw [if_neg h1, if_neg h1]; exact told2 w hQ

/-- what Item answers. -/
def ItA (s : ByteArray) (w : World) (e : Ending) (w' : World) : Prop :=
  Below w.heap.size w w' ∧ ((∃ (t : Tr) (q : ByteArray) (a : Option Addr) (n c : Nat), rd 16 (tx s) = .ok t (tx q) ∧ e = .returned (.tuple #[ndV t.p (.slice a n c), .string q, .int .i64 0]) ∧ InB (fun k => w.heap.size ≤ k) w' (ndV t.p (.slice a n c)) t) ∨
    (∃ i, rd 16 (tx s) = .er i ∧ e = .returned (.tuple #[ndV Pay.z (.slice none 0 0), .string s, .int .i64 (erN i)])))
set_option maxRecDepth 100000 in
set_option maxHeartbeats 4000000 in
theorem item_calls (s : ByteArray) (hs : s.size ≤ 1000000) (w : World) {ea eb : Addr} (hT : TabQ w ea eb) :
    Calls Tryz.prog 27 #[.string s] w fun e w' => ItA s w e w' := by
  obtain ⟨em, ep, et, hQ⟩ := hT.err
  have hb2 := (below_alloc w (.cells (ndL Pay.z (.slice none 0 0)).toArray 27)).alloc (by simp) (.cells #[.string s, .int .i64 0] 81)
  have hC0 := (Cls.new w 27 (ndL Pay.z (.slice none 0 0))).alloc (.cells #[.string s, .int .i64 0] 81)
  have hR0 : Rd ((w.alloc (.cells (ndL Pay.z (.slice none 0 0)).toArray 27)).alloc (.cells #[.string s, .int .i64 0] 81)) (w.heap.size + 1) s 0 := by
    have h := Cls.new (w.alloc (.cells (ndL Pay.z (.slice none 0 0)).toArray 27)) 81 [.string s, .int .i64 0]
    rw [World.size_alloc] at h
    exact h
  have hE0 : Env em ep et (w.heap.size + 1) ((w.alloc (.cells (ndL Pay.z (.slice none 0 0)).toArray 27)).alloc (.cells #[.string s, .int .i64 0] 81)) := .mk' hT.tab.tabs hQ.cells hb2 (Nat.le_succ _)
  have hcall := item_all 16 em ep et (w.heap.size + 1) 0 s rfl hs _ hR0 hE0
  have HX := hid (And.intro hb2 (And.intro hC0 hQ))
  clear hb2 hC0 hR0 hE0 hT hQ
  simp only [ndL, Pay.z] at hcall
  go_enter Tryz.func27, Tryz.ntmps27
  go_wp2_with fail
  refine hcall.mono ?_
  clear hcall
  rintro e w1 ⟨hk, ⟨t, q, a, n, c, hx, rfl, hB, hr⟩ | ⟨i, p, a, n, c, q, hx, rfl, hr, hqs⟩⟩
  · obtain ⟨hb2, hC0, hQ⟩ := HX.out
    have hG : Cls w1 w.heap.size 27 (ndL Pay.z (.slice none 0 0)) := (hk.blk _ hC0.lt (Nat.ne_of_lt (Nat.lt_succ_self _))).trans hC0
    have hbw : Below w.heap.size w w1 := hb2.trans (hk.below.mono (Nat.le_succ _))
    have c0 := hr.cell 0 rfl
    obtain ⟨y0, y1, y2, y3, y4, y5, y6, y7, y8⟩ : _ ∧ _ ∧ _ ∧ _ ∧ _ ∧ _ ∧ _ ∧ _ ∧ _ := ⟨hG.cell 0 rfl, hG.cell 1 rfl, hG.cell 2 rfl, hG.cell 3 rfl, hG.cell 4 rfl, hG.cell 5 rfl, hG.cell 6 rfl, hG.cell 7 rfl, hG.cell 8 rfl⟩
    obtain ⟨v0, v1, v2, v3, v4, v5, v6, v7, v8⟩ := hG.frozens
    have hGl := hG.lt
    have hrl := Cls.lt hr
    have HY := hid (And.intro hG (And.intro hbw (And.intro hB (And.intro hr hx))))
    clear hG hbw hB hr hx hk hb2 hC0 hQ
    simp only [ndV, ndL]
    go_wp2_with fail
    go_region
    go_wp2
    obtain ⟨hG, hbw, hB, hr, hx⟩ := HY.out
    obtain ⟨W6, hW6, hC6, hB6, hb6⟩ : ∃ W6, ((putN w1 w.heap.size 0 t.p (.slice a n c)).alloc (.cells (ndL t.p (.slice a n c)).toArray 27)).drew = W6 ∧ Cls W6 w.heap.size 27 (ndL t.p (.slice a n c)) ∧ InB (fun k => w.heap.size ≤ k) W6 (ndV t.p (.slice a n c)) t ∧ Below w.heap.size w W6 := by
      have hs1 := putN_size w1 w.heap.size 0 t.p (.slice a n c)
      have hbA := (below_alloc (putN w1 w.heap.size 0 t.p (.slice a n c)) (.cells (ndL t.p (.slice a n c)).toArray 27)).drew
      refine ⟨_, rfl, hG.putN.below hbA, (((hB.mono fun k _ hk => ?_).kept fun k _ (hk : w.heap.size + 1 ≤ k) => putN_other _ _ _ _ _ (by omega)).up hbA).mono fun k _ hk => Nat.le_of_succ_le hk, (putN_below hbw _ _ _ _ (Nat.le_refl _)).trans (hbA.mono (by rw [hs1]; exact hbw.size))⟩
      have hk2 : ((w.alloc (.cells (ndL Pay.z (.slice none 0 0)).toArray 27)).alloc (.cells #[.string s, .int .i64 0] 81)).heap.size ≤ k := hk
      simp only [World.size_alloc] at hk2
      omega
    refine bp_at (W' := W6) ?_ (by rw [← hW6]; rfl)
    obtain ⟨f0, f1, f2, f3, f4, f5, f6, f7, f8⟩ := hC6.nine
    exact bodyPost_ret (v := .tuple #[ndV t.p (.slice a n c), .string q, .int .i64 0]) (by simp [results, Tryz.results27, go_sem, f0, f1, f2, f3, f4, f5, f6, f7, f8, ndV, ndL]) rfl ⟨hb6, .inl ⟨t, q, a, n, c, hx, rfl, hB6⟩⟩
  · obtain ⟨hb2, hC0, hQ⟩ := HX.out
    have hG : Cls w1 w.heap.size 27 (ndL Pay.z (.slice none 0 0)) := (hk.blk _ hC0.lt (Nat.ne_of_lt (Nat.lt_succ_self _))).trans hC0
    have hbw : Below w.heap.size w w1 := hb2.trans (hk.below.mono (Nat.le_succ _))
    have htold := fun W (h : Below w.heap.size w W) => told_calls i W (hQ.below h)
    obtain ⟨ad, had⟩ : ∃ ad, errV em ep et i = .iface 251 (.pointer (some ad)) := ⟨_, rfl⟩
    rw [had] at htold ⊢
    obtain ⟨y0, y1, y2, y3, y4, y5, y6, y7, y8⟩ : _ ∧ _ ∧ _ ∧ _ ∧ _ ∧ _ ∧ _ ∧ _ ∧ _ := ⟨hG.cell 0 rfl, hG.cell 1 rfl, hG.cell 2 rfl, hG.cell 3 rfl, hG.cell 4 rfl, hG.cell 5 rfl, hG.cell 6 rfl, hG.cell 7 rfl, hG.cell 8 rfl⟩
    obtain ⟨v0, v1, v2, v3, v4, v5, v6, v7, v8⟩ := hG.frozens
    have hGl := hG.lt
    have hbA := hbw.alloc hbw.size (.cells (ndL p (.slice a n c)).toArray 27)
    have hto := htold _ hbA
    have HY := hid (And.intro hG (And.intro hbw hx))
    clear hG hbw hr hx hk hb2 hC0 hQ hqs had htold hbA
    simp only [ndV, ndL] at hto ⊢
    go_wp2_with fail
    refine hto.mono ?_
    rintro e w2 ⟨rfl, rfl⟩
    clear hto
    go_wp2
    obtain ⟨hG, hbw, hx⟩ := HY.out
    obtain ⟨W6, hW6, hC6, hb6⟩ : ∃ W6, (putN w1 w.heap.size 0 Pay.z (.slice none 0 0)).alloc (.cells (ndL p (.slice a n c)).toArray 27) = W6 ∧ Cls W6 w.heap.size 27 (ndL Pay.z (.slice none 0 0)) ∧ Below w.heap.size w W6 := by
      have hs1 := putN_size w1 w.heap.size 0 Pay.z (.slice none 0 0)
      have hbA := below_alloc (putN w1 w.heap.size 0 Pay.z (.slice none 0 0)) (.cells (ndL p (.slice a n c)).toArray 27)
      exact ⟨_, rfl, hG.putN.below hbA, (putN_below hbw _ _ _ _ (Nat.le_refl _)).trans (hbA.mono (by rw [hs1]; exact hbw.size))⟩
    refine bp_at (W' := W6) ?_ (by rw [← hW6]; rfl)
    obtain ⟨f0, f1, f2, f3, f4, f5, f6, f7, f8⟩ := hC6.nine
    exact bodyPost_ret (v := .tuple #[ndV Pay.z (.slice none 0 0), .string s, .int .i64 (erN i)]) (by simp [results, Tryz.results27, go_sem, f0, f1, f2, f3, f4, f5, f6, f7, f8, ndV, ndL, Pay.z]) rfl ⟨hb6, .inr ⟨i, hx, rfl⟩⟩

end Go.Proofs.YtpjlepkdiaohiaaGreatDoor

/- Package mpr: Read: walked. -/
namespace Go.Proofs.YtpjlepkdiaohiaaGreatDoor
open Go.RowKit
attribute [local go_sem] Oper.semAt_some

/-- the error's number that Read tells. -/
def rdN (s : ByteArray) : Int :=
  if 4000 < s.size then 81 else match rd 16 (tx s) with
    | .er i => erN i
    | .ok t r => if r = [] then chk t 4 else 140
theorem erN_ne (i : Nat) : ¬ erN i = 0 ∧ (erN i == 0) = false := by
  unfold erN
  split
  · exact ⟨by decide, rfl⟩
  · split <;> exact ⟨by decide, rfl⟩
/-- what Read answers. -/
def RdA (s : ByteArray) (w : World) (e : Ending) (w' : World) : Prop :=
  Below w.heap.size w w' ∧ ((∃ (t : Tr) (a : Option Addr) (n c : Nat), s.size ≤ 4000 ∧ rd 16 (tx s) = .ok t [] ∧ chk t 4 = 0 ∧ rdN s = 0 ∧ e = .returned (.tuple #[ndV t.p (.slice a n c), .int .i64 0]) ∧ InB (fun k => w.heap.size ≤ k) w' (ndV t.p (.slice a n c)) t) ∨
    (rdN s ≠ 0 ∧ e = .returned (.tuple #[ndV Pay.z (.slice none 0 0), .int .i64 (rdN s)])))
theorem es_empty {s : ByteArray} (h : s.size = 0) : s.toList.isEmpty = true ∧ s.toList = [] := by
  have h1 : s.data.toList.length = s.size := len_str s
  rw [Lib.toList_data]
  cases e : s.data.toList with
  | nil => exact ⟨rfl, rfl⟩
  | cons a r => rw [e] at h1; simp at h1; omega
set_option maxRecDepth 100000 in
set_option maxHeartbeats 4000000 in
theorem read_calls (s : ByteArray) (hs : s.size ≤ 1000000) (w : World) {ea eb : Addr} (hT : TabQ w ea eb) :
    Calls Tryz.prog 25 #[.string s] w fun e w' => RdA s w e w' := by
  have hb1 := below_alloc w (.cells (ndL Pay.z (.slice none 0 0)).toArray 27)
  have hC0 := Cls.new w 27 (ndL Pay.z (.slice none 0 0))
  have hit := item_calls s hs _ (hT.below hb1)
  by_cases h4 : 4000 < s.size
  · have hlz : (4000 : Int) < s.size := by omega
    have hN : rdN s = 81 := by unfold rdN; rw [if_pos h4]
    have HX := hid (And.intro hb1 (And.intro hC0 hN))
    clear hb1 hC0 hT hit h4 hN hs
    simp only [ndL, Pay.z] at HX
    go_enter Tryz.func25, Tryz.ntmps25
    go_wp2
    obtain ⟨hb1, hC0, hN⟩ := HX.out
    obtain ⟨f0, f1, f2, f3, f4, f5, f6, f7, f8⟩ : _ ∧ _ ∧ _ ∧ _ ∧ _ ∧ _ ∧ _ ∧ _ ∧ _ := ⟨hC0.cell 0 rfl, hC0.cell 1 rfl, hC0.cell 2 rfl, hC0.cell 3 rfl, hC0.cell 4 rfl, hC0.cell 5 rfl, hC0.cell 6 rfl, hC0.cell 7 rfl, hC0.cell 8 rfl⟩
    exact bodyPost_ret (v := .tuple #[ndV Pay.z (.slice none 0 0), .int .i64 81]) (by simp [results, Tryz.results25, go_sem, ndV, ndL, Pay.z]) rfl ⟨hb1, .inr ⟨by rw [hN]; decide, by rw [hN]⟩⟩
  · have hlz : decide ((4000 : Int) < s.size) = false := decide_eq_false (by omega)
    have hN : rdN s = match rd 16 (tx s) with | .er i => erN i | .ok t r => if r = [] then chk t 4 else 140 := by unfold rdN; rw [if_neg h4]
    have hck := fun (t : Tr) (q : ByteArray) (hx : rd 16 (tx s) = .ok t (tx q)) W hW sl (hi : InT W (ndV t.p sl) t) => check_calls t (rd_fine 16 _ t _ (by rw [txs_len]; omega) hx).1 (by have := rd_dep_le hx; omega) 4 sl W (hW : TabT W ea eb) hi
    have HX := hid (And.intro hb1 (And.intro hC0 (And.intro hT (And.intro hN (And.intro hck (Nat.le_of_not_lt h4))))))
    clear hb1 hC0 hT h4 hN hs hck
    simp only [ndL, Pay.z] at hit
    go_enter Tryz.func25, Tryz.ntmps25
    go_wp2_with fail
    refine hit.mono ?_
    clear hit
    rintro e w1 ⟨hb2, ⟨t, q, a, n, c, hx, rfl, hB⟩ | ⟨i, hx, rfl⟩⟩
    · obtain ⟨hb1, hC0, hT, hN, hck, h4⟩ := HX.out
      rw [hx] at hN
      simp only at hN
      have hG := hC0.below hb2
      have hbw := hb1.trans (hb2.mono hb1.size)
      have hsW : (w.alloc (.cells (ndL Pay.z (.slice none 0 0)).toArray 27)).heap.size = w.heap.size + 1 := by rw [World.size_alloc]
      obtain ⟨y0, y1, y2, y3, y4, y5, y6, y7, y8⟩ : _ ∧ _ ∧ _ ∧ _ ∧ _ ∧ _ ∧ _ ∧ _ ∧ _ := ⟨hG.cell 0 rfl, hG.cell 1 rfl, hG.cell 2 rfl, hG.cell 3 rfl, hG.cell 4 rfl, hG.cell 5 rfl, hG.cell 6 rfl, hG.cell 7 rfl, hG.cell 8 rfl⟩
      obtain ⟨v0, v1, v2, v3, v4, v5, v6, v7, v8⟩ := hG.frozens
      have hGl := hG.lt
      by_cases hq : q.size = 0
      · obtain ⟨hq1, hq2⟩ := es_empty hq
        have htq := tx_zero hq
        rw [htq] at hN hx
        rw [if_pos rfl] at hN
        have hbA := below_alloc w1 (.cells (ndL t.p (.slice a n c)).toArray 27)
        have hcall := hck t ⟨#[]⟩ hx _ ((hT.below (hbw.trans (hbA.mono hbw.size))).tab) (.slice a n c) (hB.toT.up hbA)
        obtain ⟨C, hC⟩ : ∃ C, chk t 4 = C := ⟨_, rfl⟩
        rw [hC] at hcall hN
        have HY := hid (And.intro hG (And.intro hbw (And.intro hB (And.intro hx (And.intro hN (And.intro hC (And.intro hsW h4)))))))
        clear hG hbw hB hx hN hC hb1 hb2 hC0 hT hck htq hq hsW h4 hbA
        simp only [ndV, ndL] at hcall ⊢
        go_wp2_with fail
        refine hcall.mono ?_
        rintro e w2 ⟨rfl, hb3⟩
        clear hcall
        obtain ⟨hG, hbw, hB, hx, hN, hC, hsW, h4⟩ := HY.out
        have hbA := below_alloc w1 (.cells (ndL t.p (.slice a n c)).toArray 27)
        have hG2 := (hG.below hbA).below hb3
        have hB2 := (hB.up hbA).up hb3
        have hbw2 := (hbw.trans (hbA.mono hbw.size)).trans (hb3.mono (hbw.trans (hbA.mono hbw.size)).size)
        have hN4 := (Cls.new w1 27 (ndL t.p (.slice a n c))).below hb3
        clear y0 y1 y2 y3 y4 y5 y6 y7 y8 v0 v1 v2 v3 v4 v5 v6 v7 v8
        obtain ⟨y0, y1, y2, y3, y4, y5, y6, y7, y8⟩ : _ ∧ _ ∧ _ ∧ _ ∧ _ ∧ _ ∧ _ ∧ _ ∧ _ := ⟨hG2.cell 0 rfl, hG2.cell 1 rfl, hG2.cell 2 rfl, hG2.cell 3 rfl, hG2.cell 4 rfl, hG2.cell 5 rfl, hG2.cell 6 rfl, hG2.cell 7 rfl, hG2.cell 8 rfl⟩
        obtain ⟨v0, v1, v2, v3, v4, v5, v6, v7, v8⟩ := hG2.frozens
        obtain ⟨x0, x1, x2, x3, x4, x5, x6, x7, x8⟩ : _ ∧ _ ∧ _ ∧ _ ∧ _ ∧ _ ∧ _ ∧ _ ∧ _ := ⟨hN4.cell 0 rfl, hN4.cell 1 rfl, hN4.cell 2 rfl, hN4.cell 3 rfl, hN4.cell 4 rfl, hN4.cell 5 rfl, hN4.cell 6 rfl, hN4.cell 7 rfl, hN4.cell 8 rfl⟩
        by_cases hC0 : C = 0
        · subst hC0
          have HZ := hid (And.intro hG2 (And.intro hB2 (And.intro hbw2 (And.intro hx (And.intro hN (And.intro hC (And.intro hsW h4)))))))
          clear hG hbw hB hx hN hC hsW h4 hbA hG2 hB2 hbw2 hN4 hb3 HY
          go_wp2
          obtain ⟨hG2, hB2, hbw2, hx, hN, hC, hsW, h4⟩ := HZ.out
          obtain ⟨W6, hW6, hC6, hB6, hb6⟩ : ∃ W6, putN w2 w.heap.size 0 t.p (.slice a n c) = W6 ∧ Cls W6 w.heap.size 27 (ndL t.p (.slice a n c)) ∧ InB (fun k => w.heap.size ≤ k) W6 (ndV t.p (.slice a n c)) t ∧ Below w.heap.size w W6 :=
            ⟨_, rfl, hG2.putN, ((hB2.mono fun k _ hk => (by simp only [World.size_alloc] at hk; exact hk : w.heap.size + 1 ≤ k)).kept fun k _ (hk : w.heap.size + 1 ≤ k) => putN_other _ _ _ _ _ (by omega)).mono fun k _ hk => Nat.le_of_succ_le hk, putN_below hbw2 _ _ _ _ (Nat.le_refl _)⟩
          refine bp_at (W' := W6) ?_ (by rw [← hW6]; rfl)
          obtain ⟨f0, f1, f2, f3, f4, f5, f6, f7, f8⟩ := hC6.nine
          exact bodyPost_ret (v := .tuple #[ndV t.p (.slice a n c), .int .i64 0]) (by simp [results, Tryz.results25, go_sem, f0, f1, f2, f3, f4, f5, f6, f7, f8, ndV, ndL]) rfl ⟨hb6, .inl ⟨t, a, n, c, h4, hx, hC, hN, rfl, hB6⟩⟩
        · have HZ := hid (And.intro hG2 (And.intro hbw2 hN))
          have hCb : (C == 0) = false := by rw [beq_eq_false_iff_ne]; exact hC0
          clear hG hbw hB hx hN hC hsW h4 hbA hG2 hB2 hbw2 hN4 hb3 HY
          go_wp2
          obtain ⟨hG2, hbw2, hN⟩ := HZ.out
          obtain ⟨W6, hW6, hC6, hb6⟩ : ∃ W6, putN w2 w.heap.size 0 Pay.z (.slice none 0 0) = W6 ∧ Cls W6 w.heap.size 27 (ndL Pay.z (.slice none 0 0)) ∧ Below w.heap.size w W6 := ⟨_, rfl, hG2.putN, putN_below hbw2 _ _ _ _ (Nat.le_refl _)⟩
          refine bp_at (W' := W6) ?_ (by rw [← hW6]; rfl)
          obtain ⟨f0, f1, f2, f3, f4, f5, f6, f7, f8⟩ := hC6.nine
          exact bodyPost_ret (v := .tuple #[ndV Pay.z (.slice none 0 0), .int .i64 C]) (by simp [results, Tryz.results25, go_sem, f0, f1, f2, f3, f4, f5, f6, f7, f8, ndV, ndL, Pay.z]) rfl ⟨hb6, .inr ⟨by rw [hN]; exact hC0, by rw [hN]⟩⟩
      · obtain ⟨hq1, hq2⟩ := ne_list (Nat.pos_of_ne_zero hq)
        rw [if_neg (fun e => hq (by rw [← txs_len, e]; rfl))] at hN
        have HY := hid (And.intro hG (And.intro hbw hN))
        clear hG hbw hB hx hN hb1 hb2 hC0 hT hck hq hsW h4
        simp only [ndV, ndL]
        go_wp2
        obtain ⟨hG, hbw, hN⟩ := HY.out
        obtain ⟨W6, hW6, hC6, hb6⟩ : ∃ W6, (putN w1 w.heap.size 0 Pay.z (.slice none 0 0)).alloc (.cells (ndL t.p (.slice a n c)).toArray 27) = W6 ∧ Cls W6 w.heap.size 27 (ndL Pay.z (.slice none 0 0)) ∧ Below w.heap.size w W6 := by
          have hs1 := putN_size w1 w.heap.size 0 Pay.z (.slice none 0 0)
          have hbA := below_alloc (putN w1 w.heap.size 0 Pay.z (.slice none 0 0)) (.cells (ndL t.p (.slice a n c)).toArray 27)
          exact ⟨_, rfl, hG.putN.below hbA, (putN_below hbw _ _ _ _ (Nat.le_refl _)).trans (hbA.mono (by rw [hs1]; exact hbw.size))⟩
        refine bp_at (W' := W6) ?_ (by rw [← hW6]; rfl)
        obtain ⟨f0, f1, f2, f3, f4, f5, f6, f7, f8⟩ := hC6.nine
        exact bodyPost_ret (v := .tuple #[ndV Pay.z (.slice none 0 0), .int .i64 140]) (by simp [results, Tryz.results25, go_sem, f0, f1, f2, f3, f4, f5, f6, f7, f8, ndV, ndL, Pay.z]) rfl ⟨hb6, .inr ⟨by rw [hN]; decide, by rw [hN]⟩⟩
    · obtain ⟨hb1, hC0, hT, hN, hck, h4⟩ := HX.out
      rw [hx] at hN
      simp only at hN
      have hG := hC0.below hb2
      have hbw := hb1.trans (hb2.mono hb1.size)
      obtain ⟨y0, y1, y2, y3, y4, y5, y6, y7, y8⟩ : _ ∧ _ ∧ _ ∧ _ ∧ _ ∧ _ ∧ _ ∧ _ ∧ _ := ⟨hG.cell 0 rfl, hG.cell 1 rfl, hG.cell 2 rfl, hG.cell 3 rfl, hG.cell 4 rfl, hG.cell 5 rfl, hG.cell 6 rfl, hG.cell 7 rfl, hG.cell 8 rfl⟩
      obtain ⟨v0, v1, v2, v3, v4, v5, v6, v7, v8⟩ := hG.frozens
      have hGl := hG.lt
      obtain ⟨hk0, hk1⟩ := erN_ne i
      obtain ⟨kn, hkn⟩ : ∃ kn, erN i = kn := ⟨_, rfl⟩
      rw [hkn] at hk0 hk1 hN ⊢
      have HY := hid (And.intro hG (And.intro hbw (And.intro hN hk0)))
      clear hG hbw hx hN hb1 hb2 hC0 hT hck h4 hkn
      simp only [ndV, ndL, Pay.z]
      go_wp2
      obtain ⟨hG, hbw, hN, hk0⟩ := HY.out
      obtain ⟨W6, hW6, hC6, hb6⟩ : ∃ W6, (putN w1 w.heap.size 0 Pay.z (.slice none 0 0)).alloc (.cells (ndL Pay.z (.slice none 0 0)).toArray 27) = W6 ∧ Cls W6 w.heap.size 27 (ndL Pay.z (.slice none 0 0)) ∧ Below w.heap.size w W6 := by
        have hs1 := putN_size w1 w.heap.size 0 Pay.z (.slice none 0 0)
        have hbA := below_alloc (putN w1 w.heap.size 0 Pay.z (.slice none 0 0)) (.cells (ndL Pay.z (.slice none 0 0)).toArray 27)
        exact ⟨_, rfl, hG.putN.below hbA, (putN_below hbw _ _ _ _ (Nat.le_refl _)).trans (hbA.mono (by rw [hs1]; exact hbw.size))⟩
      refine bp_at (W' := W6) ?_ (by rw [← hW6]; rfl)
      obtain ⟨f0, f1, f2, f3, f4, f5, f6, f7, f8⟩ := hC6.nine
      exact bodyPost_ret (v := .tuple #[ndV Pay.z (.slice none 0 0), .int .i64 kn]) (by simp [results, Tryz.results25, go_sem, f0, f1, f2, f3, f4, f5, f6, f7, f8, ndV, ndL, Pay.z]) rfl ⟨hb6, .inr ⟨by rw [hN]; exact hk0, by rw [hN]⟩⟩
end Go.Proofs.YtpjlepkdiaohiaaGreatDoor

/- The statements' helper shown of layer 14: walked. -/
namespace Go.Proofs.YtpjlepkdiaohiaaGreatDoor
open Go.RowKit
attribute [local go_sem] Oper.semAt_some

def srT : Tr := .nd (kP 8) [.nd { kP 5 with s := ⟨#[97]⟩ } [], .nd (decP true 1) [], .nd (plusP 1) [], .nd { kP 6 with s := ⟨#[0]⟩ } []]
theorem sr_rd : rd 16 (tx ⟨#[130, 161, 97, 255, 1, 196, 1, 0]⟩) = .ok srT [] := by kernel_rfl
theorem sr_d : (decP true 1).n = true ∧ (decP true 1).dg = ⟨#[49]⟩ ∧ (decP true 1).ex = 0 := by
  refine ⟨?_, ?_, ?_⟩ <;> kernel_rfl
theorem sr_A : rdN ⟨#[130, 161, 97, 255, 1, 196, 1, 0]⟩ = 0 := by kernel_rfl
theorem sr_B : rdN ⟨#[193]⟩ = 140 := by kernel_rfl
theorem sr_C : rdN ⟨#[146, 1]⟩ = 100 := by kernel_rfl

set_option maxRecDepth 100000 in
set_option maxHeartbeats 4000000 in
theorem shown14_calls (w : World) {ea eb : Addr} (hT : TabQ w ea eb) :
    Calls Tryz.prog 24 #[] w fun e w' => e = .returned (.bool true) ∧ Below w.heap.size w w' := by
  have hr1 := read_calls ⟨#[130, 161, 97, 255, 1, 196, 1, 0]⟩ (by decide) w hT
  have hr2 := fun W (h : Below w.heap.size w W) => read_calls ⟨#[193]⟩ (by decide) W (hT.below h)
  have hr3 := fun W (h : Below w.heap.size w W) => read_calls ⟨#[146, 1]⟩ (by decide) W (hT.below h)
  have HR := hid (And.intro hr2 hr3)
  clear hr2 hr3 hT
  go_enter Tryz.func24, Tryz.ntmps24
  go_wp2_with fail
  refine hr1.mono ?_
  clear hr1
  rintro e w1 ⟨hb1, ⟨t, a, n, c, -, hx, -, -, rfl, hB⟩ | ⟨hne, -⟩⟩
  case inr => exact absurd sr_A hne
  obtain rfl : t = srT := by
    have h := hx.symm.trans sr_rd
    injection h
  obtain ⟨l', a', n', c', f', h1, h2, h3, hL⟩ := InT.inv hB.toT
  have hl : l' = srT.l := by
    have h := congrArg Tr.l h1
    exact h.symm
  obtain ⟨rfl, rfl, rfl⟩ : a = a' ∧ n = n' ∧ c = c' := by
    injection h2 with i1 i2 i3
    exact ⟨i1, i2, i3⟩
  obtain ⟨⟨g, o, rfl, hAt⟩, -⟩ := hL 1 (.nd (decP true 1) []) (by rw [hl]; rfl)
  obtain rfl : n = 4 := by rw [h3, hl]; rfl
  have q2 := hAt 2 (.bool true) (congrArg (fun x => some (Value.bool x)) sr_d.1)
  have q3 := hAt 3 (.string ⟨#[49]⟩) (congrArg (fun x => some (Value.string x)) sr_d.2.1)
  have q4 := hAt 4 (.int .i64 0) (congrArg (fun x => some (Value.int .i64 x)) sr_d.2.2)
  have hC1 := Cls.new w1 27 (ndL (kP 8) (.slice (some ⟨g, o, none⟩) 4 c))
  have hbA := below_alloc w1 (.cells (ndL (kP 8) (.slice (some ⟨g, o, none⟩) 4 c)).toArray 27)
  have q2 := cell_kept hbA q2
  have q3 := cell_kept hbA q3
  have q4 := cell_kept hbA q4
  have hbw := hb1.trans (hbA.mono hb1.size)
  have hr2 := HR.out.1 _ hbw
  have HC := hid (And.intro q2 (And.intro q3 (And.intro q4 (And.intro hC1 hbw))))
  clear q2 q3 q4 hC1 hbw hbA hAt hL hl h1 h2 h3 hx hB hb1
  rw [show srT.p = kP 8 from rfl]
  simp only [ndV, ndL, kP, Pay.z] at hr2 ⊢
  go_wp2_with fail
  refine hr2.mono ?_
  clear hr2
  rintro e w2 ⟨hb2, ⟨t, a, n, c2, -, -, -, h0, -⟩ | ⟨-, rfl⟩⟩
  case inl => exact absurd (sr_B.symm.trans h0) (by decide)
  rw [sr_B]
  obtain ⟨q2, q3, q4, hC1, hbw⟩ := HC.out
  have hbA := below_alloc w2 (.cells (ndL Pay.z (.slice none 0 0)).toArray 27)
  have hb2' : Below w2.heap.size w2 (w2.alloc (.cells (ndL Pay.z (.slice none 0 0)).toArray 27)) := hbA
  have q2 := cell_kept hbA (cell_kept hb2 q2)
  have q3 := cell_kept hbA (cell_kept hb2 q3)
  have q4 := cell_kept hbA (cell_kept hb2 q4)
  have hC2 := (Cls.below hC1 hb2).below hbA
  have hbw2 := (hbw.trans (hb2.mono hbw.size)).trans (hbA.mono (hbw.trans (hb2.mono hbw.size)).size)
  have hr3 := HR.out.2 _ hbw2
  have HD := hid (And.intro q2 (And.intro q3 (And.intro q4 (And.intro hC2 hbw2))))
  clear q2 q3 q4 hC1 hC2 hbw hbw2 hbA hb2 hb2' HC
  simp only [ndV, ndL, Pay.z] at hr3 ⊢
  go_wp2_with fail
  refine hr3.mono ?_
  clear hr3
  rintro e w3 ⟨hb3, ⟨t, a, n, c3, -, -, -, h0, -⟩ | ⟨-, rfl⟩⟩
  case inl => exact absurd (sr_C.symm.trans h0) (by decide)
  rw [sr_C]
  obtain ⟨q2, q3, q4, hC2, hbw2⟩ := HD.out
  have q2 := cell_kept hb3 q2
  have q3 := cell_kept hb3 q3
  have q4 := cell_kept hb3 q4
  have hC3 := Cls.below hC2 hb3
  have hbw3 := hbw2.trans (hb3.mono hbw2.size)
  have l2 : g < w3.heap.size := World.block_lt_of_cell? w3 _ q2
  have l3 := Cls.lt hC3
  have x0 := hC3.cell 0 rfl
  have x8 := hC3.cell 8 rfl
  rw [show o + 1 * 9 + 2 = o + 9 + 2 by omega] at q2
  rw [show o + 1 * 9 + 3 = o + 9 + 2 + 1 by omega] at q3
  rw [show o + 1 * 9 + 4 = o + 9 + 2 + 2 by omega] at q4
  have HE := hid hbw3
  have hbB := below_alloc w3 (.cells (ndL Pay.z (.slice none 0 0)).toArray 27)
  clear hC2 hC3 hbw2 hbw3 hb3 HD HR
  simp only [ndV, ndL, kP, Pay.z] at x0 x8 ⊢
  go_wp2
  go_ret
  exact ⟨by first | rfl | simp, HE.out.alloc HE.out.size _⟩
end Go.Proofs.YtpjlepkdiaohiaaGreatDoor

