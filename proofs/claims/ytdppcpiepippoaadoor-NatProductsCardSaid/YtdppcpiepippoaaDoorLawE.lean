/- The statement NatProducts, walked. -/
import Derived.Test.YtdppcpiepippoaaDoorLawA
import Derived.Test.YtdppcpiepippoaaDoorRefD
namespace Go.Proofs.YtdppcpiepippoaaDoor
open Go.RowKit Go.Shelf
attribute [local go_sem] Oper.semAt_some

theorem rMul_same (s t : ByteArray) (hs : s.size ≤ 140737488355328) (ht : t.size ≤ 140737488355328) (w : World) :
    Calls Tryd.prog 12 #[.string s, .string t] w fun e w' => e = .returned (.tuple #[.string ⟨(mulS s t).toArray⟩, .int .i64 (mulE s t)]) ∧ Below w.heap.size w w' := rMul_calls s t hs ht w
theorem rDiv_same (s : ByteArray) (b : Nat) (hb32 : b < 4294967296) (hs : s.size ≤ 140737488355328) (w : World) :
    Calls Tryd.prog 14 #[.string s, .int .u32 b] w fun e w' => e = .returned (.tuple #[.string ⟨(divQ s b).toArray⟩, .int .u32 (divR s b : Nat), .int .i64 (divE s b)]) ∧ Below w.heap.size w w' := rDiv_calls s b hb32 hs w

set_option maxRecDepth 100000 in
set_option maxHeartbeats 4000000 in
theorem products_law (a b : ByteArray) (n : Nat) (hn : n < 4294967296) (x : Int) (w : World) (hT : Tabs w) :
    Calls Tryd.prog 3 #[.string a, .string b, .int .u32 n, .int .i64 x] w fun e w' => e = .returned (.bool true) ∧ Below w.heap.size w w' := by
  have hts := pre_size 410 a
  have hus := pre_size 410 b
  have hcut1 := cut_calls a
  have hcut2 := cut_calls b
  obtain ⟨t, ht⟩ : ∃ t, pre 410 a = t := ⟨_, rfl⟩
  obtain ⟨u, hu⟩ : ∃ u, pre 410 b = u := ⟨_, rfl⟩
  rw [ht] at hts hcut1
  rw [hu] at hus hcut2
  have c1 := natMul_calls t u (by omega) (by omega)
  have c2 := rMul_same t u (by omega) (by omega)
  have c3 := natDiv_calls t n hn (by omega)
  have c4 := rDiv_same t n hn (by omega)
  have c5 := natPower_calls n x hn
  have c6 := rPower_calls n hn x
  change ∀ w, Tabs w → Calls _ _ _ _ fun e w' => e = .returned (.tuple #[.string (B _), _]) ∧ _ at c1
  change ∀ w, Calls _ _ _ _ fun e w' => e = .returned (.tuple #[.string (B _), _]) ∧ _ at c2
  change ∀ w, Tabs w → Calls _ _ _ _ fun e w' => e = .returned (.tuple #[.string (B _), _, _]) ∧ _ at c3
  change ∀ w, Calls _ _ _ _ fun e w' => e = .returned (.tuple #[.string (B _), _, _]) ∧ _ at c4
  change ∀ w, Tabs w → Calls _ _ _ _ fun e w' => e = .returned (.tuple #[.string (B _), _]) ∧ _ at c5
  change ∀ w, Calls _ _ _ _ fun e w' => e = .returned (.tuple #[.string (B _), _]) ∧ _ at c6
  obtain ⟨s1, hs1⟩ : ∃ d, B (mulS t u) = d := ⟨_, rfl⟩
  obtain ⟨s2, hs2⟩ : ∃ d, B (divQ t n) = d := ⟨_, rfl⟩
  obtain ⟨s3, hs3⟩ : ∃ d, B (powS n x) = d := ⟨_, rfl⟩
  obtain ⟨r, hr⟩ : ∃ d, divR t n = d := ⟨_, rfl⟩
  obtain ⟨e1, he1⟩ : ∃ z, mulE t u = z := ⟨_, rfl⟩
  obtain ⟨e2, he2⟩ : ∃ z, divE t n = z := ⟨_, rfl⟩
  obtain ⟨e3, he3⟩ : ∃ z, powE n x = z := ⟨_, rfl⟩
  rw [hs1, he1] at c1 c2
  rw [hs2, he2, hr] at c3 c4
  rw [hs3, he3] at c5 c6
  clear hs1 hs2 hs3 hr he1 he2 he3 hts hus ht hu
  go_enter Tryd.func3, Tryd.ntmps3
  go_wp2_with fail
  refine (shown_calls w hT).mono ?_
  rintro e w1 ⟨rfl, hb1⟩
  have hB1 := hb1
  have hT1 := hT.below hB1
  go_wp2_with fail
  refine (hcut1 w1).mono ?_
  rintro e v2 ⟨rfl, rfl⟩
  go_wp2_with fail
  refine (hcut2 w1).mono ?_
  rintro e v3 ⟨rfl, rfl⟩
  go_wp2_with fail
  refine (c1 w1 hT1).mono ?_
  rintro e w4 ⟨rfl, hb4⟩
  have hB4 := hB1.trans (hb4.mono hB1.size)
  have hT4 := hT.below hB4
  go_wp2_with fail
  refine (c2 w4).mono ?_
  rintro e w5 ⟨rfl, hb5⟩
  have hB5 := hB4.trans (hb5.mono hB4.size)
  have hT5 := hT.below hB5
  go_wp2_with fail
  refine (c3 w5 hT5).mono ?_
  rintro e w6 ⟨rfl, hb6⟩
  have hB6 := hB5.trans (hb6.mono hB5.size)
  have hT6 := hT.below hB6
  go_wp2_with fail
  refine (c4 w6).mono ?_
  rintro e w7 ⟨rfl, hb7⟩
  have hB7 := hB6.trans (hb7.mono hB6.size)
  have hT7 := hT.below hB7
  go_wp2_with fail
  refine (c5 w7 hT7).mono ?_
  rintro e w8 ⟨rfl, hb8⟩
  have hB8 := hB7.trans (hb8.mono hB7.size)
  have hT8 := hT.below hB8
  go_wp2_with fail
  refine (c6 w8).mono ?_
  rintro e w9 ⟨rfl, hb9⟩
  have hB9 := hB8.trans (hb9.mono hB8.size)
  have hT9 := hT.below hB9
  go_wp2
  go_ret
  exact ⟨rfl, hB9⟩
end Go.Proofs.YtdppcpiepippoaaDoor
