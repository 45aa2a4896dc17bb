/- The statements NatSums and NatBytes, walked. -/
import Derived.Test.YtdppcpiepippoaaGreatDoorLawA
import Derived.Test.YtdppcpiepippoaaGreatDoorRefH
namespace Go.Proofs.YtdppcpiepippoaaGreatDoor
open Go.RowKit Go.Shelf
attribute [local go_sem] Oper.semAt_some

set_option maxRecDepth 100000 in
set_option maxHeartbeats 4000000 in
theorem sums_law (a b : ByteArray) (w : World) (hT : Tabs w) :
    Calls Tryz.prog 4 #[.string a, .string b] w fun e w' => e = .returned (.bool true) ∧ Below w.heap.size w w' := by
  have hts := pre_size 410 a
  have hus := pre_size 410 b
  have hcut1 := cut_calls a
  have hcut2 := cut_calls b
  obtain ⟨t, ht⟩ : ∃ t, pre 410 a = t := ⟨_, rfl⟩
  obtain ⟨u, hu⟩ : ∃ u, pre 410 b = u := ⟨_, rfl⟩
  rw [ht] at hts hcut1
  rw [hu] at hus hcut2
  have c1 := natCompare_calls t u (by omega) (by omega)
  have c2 := rCompare_calls t u (by omega) (by omega)
  have c3 := natAdd_calls t u (by omega) (by omega)
  have c4 := rAdd_calls t u (by omega) (by omega)
  have c5 := natSub_calls t u (by omega) (by omega)
  have c6 := rSub_calls t u (by omega) (by omega)
  have c7 := fun W => right_calls t W (by omega)
  have c8 := fun W => same_symm (rRight_calls t (by omega) W)
  change ∀ w, Calls _ _ _ _ fun e w' => e = .returned (.bool (isRt (tx t))) ∧ _ at c7
  change ∀ w, Tabs w → Calls _ _ _ _ fun e w' => e = .returned (.tuple #[.string (B _), _]) ∧ _ at c3
  change ∀ w, Calls _ _ _ _ fun e w' => e = .returned (.tuple #[.string (B _), _]) ∧ _ at c4
  change ∀ w, Tabs w → Calls _ _ _ _ fun e w' => e = .returned (.tuple #[.string (B _), _]) ∧ _ at c5
  change ∀ w, Calls _ _ _ _ fun e w' => e = .returned (.tuple #[.string (B _), _]) ∧ _ at c6
  obtain ⟨s1, hs1⟩ : ∃ d, B (addS t u) = d := ⟨_, rfl⟩
  obtain ⟨s2, hs2⟩ : ∃ d, B (subS t u) = d := ⟨_, rfl⟩
  obtain ⟨r, hr⟩ : ∃ d, cmpR t u = d := ⟨_, rfl⟩
  obtain ⟨e1, he1⟩ : ∃ z, addE t u = z := ⟨_, rfl⟩
  obtain ⟨e2, he2⟩ : ∃ z, subE t u = z := ⟨_, rfl⟩
  obtain ⟨e3, he3⟩ : ∃ z, cmpE t u = z := ⟨_, rfl⟩
  obtain ⟨bb, hbb⟩ : ∃ z, isRt (tx t) = z := ⟨_, rfl⟩
  rw [hr, he3] at c1 c2
  rw [hs1, he1] at c3 c4
  rw [hs2, he2] at c5 c6
  rw [hbb] at c7 c8
  clear hs1 hs2 hr he1 he2 he3 hts hus ht hu hbb
  go_enter Tryz.func4, Tryz.ntmps4

  go_wp2_with fail
  refine (shown_calls w hT).mono ?_
  rintro e w1 ⟨rfl, hb1⟩
  have hB1 := hb1
  have hT1 := hT.below hB1
  go_wp2_with fail
  refine (hcut1 w1).mono ?_
  rintro e v2 ⟨rfl, rfl⟩
  go_wp2_with fail
  refine (hcut2 w1).mono ?_
  rintro e v3 ⟨rfl, rfl⟩
  go_wp2_with fail
  refine (c1 w1 hT1).mono ?_
  rintro e w4 ⟨rfl, hb4⟩
  have hB4 := hB1.trans (hb4.mono hB1.size)
  have hT4 := hT.below hB4
  go_wp2_with fail
  refine (c2 w4).mono ?_
  rintro e w5 ⟨rfl, hb5⟩
  have hB5 := hB4.trans (hb5.mono hB4.size)
  have hT5 := hT.below hB5
  go_wp2_with fail
  refine (c3 w5 hT5).mono ?_
  rintro e w6 ⟨rfl, hb6⟩
  have hB6 := hB5.trans (hb6.mono hB5.size)
  have hT6 := hT.below hB6
  go_wp2_with fail
  refine (c4 w6).mono ?_
  rintro e w7 ⟨rfl, hb7⟩
  have hB7 := hB6.trans (hb7.mono hB6.size)
  have hT7 := hT.below hB7
  go_wp2_with fail
  refine (c5 w7 hT7).mono ?_
  rintro e w8 ⟨rfl, hb8⟩
  have hB8 := hB7.trans (hb8.mono hB7.size)
  have hT8 := hT.below hB8
  go_wp2_with fail
  refine (c6 w8).mono ?_
  rintro e w9 ⟨rfl, hb9⟩
  have hB9 := hB8.trans (hb9.mono hB8.size)
  have hT9 := hT.below hB9
  go_wp2_with fail
  refine (c7 w9).mono ?_
  rintro e w10 ⟨rfl, hb10⟩
  have hB10 := hB9.trans (hb10.mono hB9.size)
  have hT10 := hT.below hB10
  go_wp2_with fail
  refine (c8 w10).mono ?_
  rintro e v11 ⟨rfl, rfl⟩
  go_wp2
  go_ret
  exact ⟨rfl, hB10⟩

set_option maxRecDepth 100000 in
set_option maxHeartbeats 4000000 in
theorem bytes_law (a b : ByteArray) (n : Nat) (hn : n < 18446744073709551616) (w : World) (hT : Tabs w) :
    Calls Tryz.prog 3 #[.string a, .string b, .int .u64 n] w fun e w' => e = .returned (.bool true) ∧ Below w.heap.size w w' := by
  have hts := pre_size 410 a
  have hus := pre_size 200 b
  have hcut1 := cut_calls a
  obtain ⟨t, ht⟩ : ∃ t, pre 410 a = t := ⟨_, rfl⟩
  obtain ⟨u, hu⟩ : ∃ u, pre 200 b = u := ⟨_, rfl⟩
  have hp : b.extract 0 (min (b.size : Int) 200).toNat = u := by rw [← hu, pre]; congr 1; omega
  rw [ht] at hts hcut1
  rw [hu] at hus
  have c1 := natBytes_calls t (by omega)
  have c2 := rBytes_calls t (by omega)
  have c3 := natOfBytes_calls u (by omega)
  have c4 := rOfBytes_calls u (by omega)
  have c5 := natTo_calls t (by omega)
  have c6 := rTo_calls t (by omega)
  have c7 := fun W h => natOf_calls n hn W h
  have c8 := fun W => rOf_calls n hn W
  change ∀ w, Tabs w → Calls _ _ _ _ fun e w' => e = .returned (.tuple #[.string (B _), _]) ∧ _ at c1
  change ∀ w, Calls _ _ _ _ fun e w' => e = .returned (.tuple #[.string (B _), _]) ∧ _ at c2
  change ∀ w, Tabs w → Calls _ _ _ _ fun e w' => e = .returned (.tuple #[.string (B _), _]) ∧ _ at c3
  change ∀ w, Calls _ _ _ _ fun e w' => e = .returned (.tuple #[.string (B _), _]) ∧ _ at c4
  change ∀ w, Tabs w → Calls _ _ _ _ fun e w' => e = .returned (.string (B _)) ∧ _ at c7
  change ∀ w, Calls _ _ _ _ fun e w' => e = .returned (.string (B _)) ∧ _ at c8
  obtain ⟨s1, hs1⟩ : ∃ d, B (bytS t) = d := ⟨_, rfl⟩
  obtain ⟨s2, hs2⟩ : ∃ d, B (ofbS u) = d := ⟨_, rfl⟩
  obtain ⟨s3, hs3⟩ : ∃ d, B (Lib.decDigits n) = d := ⟨_, rfl⟩
  obtain ⟨r, hr⟩ : ∃ d, toN t = d := ⟨_, rfl⟩
  obtain ⟨bb, hbb⟩ : ∃ d, toB t = d := ⟨_, rfl⟩
  obtain ⟨e1, he1⟩ : ∃ z, bytE t = z := ⟨_, rfl⟩
  obtain ⟨e2, he2⟩ : ∃ z, ofbE u = z := ⟨_, rfl⟩
  rw [hs1, he1] at c1 c2
  rw [hs2, he2] at c3 c4
  rw [hr, hbb] at c5 c6
  rw [hs3] at c7 c8
  clear hs1 hs2 hs3 hr he1 he2 hts hus ht hu hbb hn
  go_enter Tryz.func3, Tryz.ntmps3
  go_wp2_with fail
  refine (shown_calls w hT).mono ?_
  rintro e w1 ⟨rfl, hb1⟩
  have hB1 := hb1
  have hT1 := hT.below hB1
  go_wp2_with fail
  refine (hcut1 w1).mono ?_
  rintro e v2 ⟨rfl, rfl⟩
  go_wp2_with fail
  refine (c1 w1 hT1).mono ?_
  rintro e w3 ⟨rfl, hb3⟩
  have hB3 := hB1.trans (hb3.mono hB1.size)
  have hT3 := hT.below hB3
  go_wp2_with fail
  refine (c2 w3).mono ?_
  rintro e w4 ⟨rfl, hb4⟩
  have hB4 := hB3.trans (hb4.mono hB3.size)
  have hT4 := hT.below hB4
  go_wp2_with fail
  refine (c3 w4 hT4).mono ?_
  rintro e w5 ⟨rfl, hb5⟩
  have hB5 := hB4.trans (hb5.mono hB4.size)
  have hT5 := hT.below hB5
  go_wp2_with fail
  refine (c4 w5).mono ?_
  rintro e w6 ⟨rfl, hb6⟩
  have hB6 := hB5.trans (hb6.mono hB5.size)
  have hT6 := hT.below hB6
  go_wp2_with fail
  refine (c5 w6 hT6).mono ?_
  rintro e w7 ⟨rfl, hb7⟩
  have hB7 := hB6.trans (hb7.mono hB6.size)
  have hT7 := hT.below hB7
  go_wp2_with fail
  refine (c6 w7).mono ?_
  rintro e w8 ⟨rfl, hb8⟩
  have hB8 := hB7.trans (hb8.mono hB7.size)
  have hT8 := hT.below hB8
  go_wp2_with fail
  refine (c7 w8 hT8).mono ?_
  rintro e w9 ⟨rfl, hb9⟩
  have hB9 := hB8.trans (hb9.mono hB8.size)
  have hT9 := hT.below hB9
  go_wp2_with fail
  refine (c8 w9).mono ?_
  rintro e w10 ⟨rfl, hb10⟩
  have hB10 := hB9.trans (hb10.mono hB9.size)
  have hT10 := hT.below hB10
  go_wp2
  go_ret
  exact ⟨rfl, hB10⟩
end Go.Proofs.YtdppcpiepippoaaGreatDoor
