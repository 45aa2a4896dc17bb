/- The statements' own helpers (targumlaw04): shown, cut, Cut. -/
import Derived.Test.YtbopikeoaokdpaaDoorDecI
import Derived.Test.YtbopikeoaokdpaaDoorDecQ
namespace Go.Proofs.YtbopikeoaokdpaaDoor
open Go.RowKit Go.Shelf
attribute [local go_sem] Oper.semAt_some

/-- a text's first letters. -/
def pre (k : Nat) (s : ByteArray) : ByteArray := s.extract 0 (min s.size k)
theorem pre_tx (k : Nat) (s : ByteArray) : tx (pre k s) = (tx s).take (min s.size k) := extract_take s _
theorem pre_size (k : Nat) (s : ByteArray) : (pre k s).size ≤ k := by
  rw [← len_str, show (pre k s).data.toList = tx (pre k s) from rfl, pre_tx, List.length_take]
  omega

theorem dcut_calls (s : ByteArray) (w : World) :
    Calls Tryd.prog 10 #[.string s] w fun e w' => e = .returned (.string (pre 420 s)) ∧ w = w' := by
  obtain ⟨t, ht⟩ : ∃ t, pre 420 s = t := ⟨_, rfl⟩
  have hp : s.extract 0 (min (s.size : Int) 420).toNat = t := by rw [← ht, pre]; congr 1; omega
  rw [ht]
  clear ht
  go_enter Tryd.func10, Tryd.ntmps10
  go_wp2
  go_ret
  exact ⟨rfl, rfl⟩

set_option maxRecDepth 100000 in
theorem dCut_calls (n : Bool) (s : ByteArray) (x : Int) (w : World) :
    Calls Tryd.prog 12 #[.agg #[.bool n, .string s, .int .i64 x]] w fun e w' => e = .returned (.agg #[.bool n, .string (pre 200 s), .int .i64 x]) ∧ Below w.heap.size w w' := by
  obtain ⟨t, ht⟩ : ∃ t, pre 200 s = t := ⟨_, rfl⟩
  have hp : s.extract 0 (min (s.size : Int) 200).toNat = t := by rw [← ht, pre]; congr 1; omega
  rw [ht]
  clear ht
  have hA := below_alloc w (.cells #[.bool n, .string t, .int .i64 x] 24)
  have hB := hA.alloc hA.size (.cells #[.bool n, .string t, .int .i64 x] 24)
  have hC := Cls.new (w.alloc (.cells #[.bool n, .string t, .int .i64 x] 24)) 24 [.bool n, .string t, .int .i64 x]
  rw [World.size_alloc] at hC
  go_enter Tryd.func12, Tryd.ntmps12
  go_wp2
  have f0 := hC.cell 0 rfl
  have f1 := hC.cell 1 rfl
  have f2 := hC.cell 2 rfl
  exact bodyPost_ret (v := .agg #[.bool n, .string t, .int .i64 x]) (by simp [results, Tryd.results12, go_sem, f0, f1, f2]) rfl ⟨rfl, hB⟩

theorem shown_p1 : parseD (tx ⟨#[45, 49, 46, 53, 48, 101, 49, 93]⟩) = ⟨true, [49, 53], 0⟩ ∧ parseR (tx ⟨#[45, 49, 46, 53, 48, 101, 49, 93]⟩) = [93] ∧ parseE (tx ⟨#[45, 49, 46, 53, 48, 101, 49, 93]⟩) = 0 := ⟨by rfl, by rfl, by rfl⟩
theorem shown_p2 : fmtL ⟨true, tx ⟨#[49, 53]⟩, 0⟩ = [45, 49, 53] ∧ fmtE ⟨true, tx ⟨#[49, 53]⟩, 0⟩ = 0 := ⟨by rfl, by rfl⟩
theorem shown_p3 : parseD (tx ⟨#[120]⟩) = D0 ∧ parseR (tx ⟨#[120]⟩) = [120] ∧ parseE (tx ⟨#[120]⟩) = 40 := ⟨by rfl, by rfl, by rfl⟩

theorem ret_t3 {a b c a' b' c' : Value} (h1 : a = a') (h2 : b = b') (h3 : c = c') : Ending.returned (.tuple #[a, b, c]) = .returned (.tuple #[a', b', c']) := by rw [h1, h2, h3]

theorem eqD_same (n : Bool) (s : ByteArray) (x : Int) (w : World) :
    (binOp .eql 24 (.agg #[.bool n, .string s, .int .i64 x]) (.agg #[.bool n, .string s, .int .i64 x])).run Tryd.prog w = .ok (.bool true) w := by
  have h := eqD n n s s x x w
  rw [show (n == n && (s.toList == s.toList && x == x)) = true by simp] at h
  exact h

set_option maxRecDepth 100000 in
set_option maxHeartbeats 2000000 in
theorem dshown_calls (w : World) (hT : Tabs w) :
    Calls Tryd.prog 8 #[] w fun e w' => e = .returned (.bool true) ∧ Below w.heap.size w w' := by
  have hp1 := fun W h => parse_calls ⟨#[45, 49, 46, 53, 48, 101, 49, 93]⟩ (by decide) W h
  rw [shown_p1.1, shown_p1.2.1, shown_p1.2.2] at hp1
  change ∀ W, Tabs W → Calls _ _ _ _ fun e w' => e = .returned (.tuple #[.agg #[.bool true, .string ⟨#[49, 53]⟩, .int .i64 0], .string ⟨#[93]⟩, .int .i64 0]) ∧ _ at hp1
  have hf := fun W h => format_calls true ⟨#[49, 53]⟩ 0 (by decide) W h
  rw [shown_p2.1, shown_p2.2] at hf
  change ∀ W, Tabs W → Calls _ _ _ _ fun e w' => e = .returned (.tuple #[.string ⟨#[45, 49, 53]⟩, .int .i64 0]) ∧ _ at hf
  have hp2 := fun W h => parse_calls ⟨#[120]⟩ (by decide) W h
  rw [shown_p3.1, shown_p3.2.1, shown_p3.2.2] at hp2
  change ∀ W, Tabs W → Calls _ _ _ _ fun e w' => e = .returned (.tuple #[.agg #[.bool false, .string ⟨#[]⟩, .int .i64 0], .string ⟨#[120]⟩, .int .i64 40]) ∧ _ at hp2
  have heq := eqD_same true ⟨#[49, 53]⟩ 0
  have hg := guardD
  go_enter Tryd.func8, Tryd.ntmps8
  go_wp2_with fail
  refine (hp1 w hT).mono ?_
  rintro e w1 ⟨rfl, hb1⟩
  have hA := Cls.new w1 24 [.bool true, .string ⟨#[49, 53]⟩, .int .i64 0]
  have hW1 := hb1.alloc hb1.size (.cells #[.bool true, .string ⟨#[49, 53]⟩, .int .i64 0] 24)
  go_wp2_with fail
  generalize w1.alloc (.cells #[.bool true, .string ⟨#[49, 53]⟩, .int .i64 0] 24) = V1 at *
  refine (hf _ (hT.below hW1)).mono ?_
  rintro e w2 ⟨rfl, hb2⟩
  have hA2 := hA.below hb2
  have hW2 := hW1.trans (hb2.mono hW1.size)
  go_wp2_with fail
  refine (hp2 _ (hT.below hW2)).mono ?_
  rintro e w3 ⟨rfl, hb3⟩
  have hA3 := (hA2.below hb3).alloc (.cells #[.bool false, .string ⟨#[]⟩, .int .i64 0] 24)
  have hW3 := hW2.trans (hb3.mono hW2.size)
  have hW4 := hW3.alloc hW3.size (.cells #[.bool false, .string ⟨#[]⟩, .int .i64 0] 24)
  have c0 := hA3.cell 0 rfl
  have c1 := hA3.cell 1 rfl
  have c2 := hA3.cell 2 rfl
  go_wp2
  go_ret
  exact ⟨rfl, hW4⟩
end Go.Proofs.YtbopikeoaokdpaaDoor
