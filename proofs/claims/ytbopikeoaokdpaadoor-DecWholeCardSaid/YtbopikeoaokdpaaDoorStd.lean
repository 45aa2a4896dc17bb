/- strconv.FormatUint at base 10: the number's decimal digits; nat.Right: is a text a natural? -/
import Derived.Test.YtbopikeoaokdpaaDoorMem
namespace Go.Proofs.YtbopikeoaokdpaaDoor
open Go.RowKit Go.Shelf Go.Sort Go.Lib

theorem below_row {enc : UInt8 → Value} {B blk off : Nat} {w0 w : World} {d : Array UInt8} (h : Below B w0 w) (hg : B ≤ blk) : Below B w0 (putRow enc w blk off d) :=
  h.trans ⟨rfl, rfl, rfl, by simp [putRow, mapBlock], fun k hk => by
    simp only [putRow, mapBlock, Array.getElem?_modify]
    rw [if_neg (by omega)]⟩

set_option maxHeartbeats 1600000 in
set_option maxRecDepth 100000 in
theorem iFormatUint (u : Nat) (hu64 : u < 18446744073709551616) (w : World) (hT : Tabs w) :
    Calls Tryd.prog 78 #[.int .u64 u, .int .i64 10] w fun e w' => e = .returned (.string ⟨(Lib.decDigits u).toArray⟩) ∧ Below w.heap.size w w' := by
  by_cases hs : u < 100
  · have hs' : ((u : Int)) < 100 := by omega
    go_enter Tryd.func78, Tryd.ntmps78
    go_wp2_with (go_at_call 86; refine (Tryd.internal_strconv_small u hs _).mono ?_; rintro e w' ⟨rfl, rfl⟩)
    go_ret
    exact ⟨rfl, Below.refl _ _⟩
  · have hs' : ¬ ((u : Int)) < 100 := by omega
    have hu1 : 1 ≤ u := by omega
    have hnd20 : Lib.nDigits u ≤ 20 := by have := Lib.numDigits_eq u hu1 hu64; split at this <;> omega
    have htab := hT.pow10
    have hsl : ∀ W, (Instr.sliceAt 112 (.pointer (some ⟨w.heap.size, 0, none⟩)) none (some (.int .i64 (Lib.nDigits u : Int))) none).run Tryd.prog W = .ok (.slice (some ⟨w.heap.size, 0, none⟩) (Lib.nDigits u) 24) W := fun W => by
      rw [run_sliceAt_array_h W 112 ⟨w.heap.size, 0, none⟩ (by simp [Program.arrayLen, Program.elem, Tryd.underlying112]) .i64 (Lib.nDigits u : Int) (by omega) (by rw [show Tryd.prog.arrayLen 112 = 24 by simp [Program.arrayLen, Tryd.underlying112]]; omega)]
      go_simp
    have hH0 : Holds (fun (b : UInt8) => Value.int .u8 (b.toNat : Int)) (w.alloc (.cells Lib.zeros24 112)) w.heap.size 0 (Array.replicate (Lib.nDigits u) (0 : UInt8)) := fun j hj => by
      rw [Array.size_replicate] at hj
      rw [World.cell?_alloc_new]
      simpa [hj] using Lib.zeros24_at (0 + j) (by omega)
    have hfmt := Tryd.internal_strconv_formatBase10 w.heap.size 0 24 u (Array.replicate (Lib.nDigits u) 0) (w.alloc (.cells Lib.zeros24 112)) hH0 (by rw [Array.size_replicate]; exact Lib.lt_pow_nDigits u) hu64 (by rw [Array.size_replicate]; omega)
    rw [Array.size_replicate] at hfmt
    have HH0 := hid hH0
    clear hH0
    go_enter Tryd.func78, Tryd.ntmps78
    go_wp2_with (go_at_call 87; refine (Tryd.internal_strconv_numDigits u hu1 hu64 _ (Lib.tabIs_alloc htab _)).mono ?_; rintro e w' ⟨rfl, rfl⟩)
    refine hfmt.mono ?_
    rintro e w' ⟨rfl, k, v', dk, rfl, hF⟩
    have hcv : (convert 56 9 (.slice (some ⟨w.heap.size, 0, none⟩) (Lib.nDigits u) 24)).run Tryd.prog ((putRow (fun (b : UInt8) => Value.int .u8 (b.toNat : Int)) (w.alloc (.cells Lib.zeros24 112)) w.heap.size 0 dk).drewN k) = .ok (.string ⟨(Lib.decDigits u).toArray⟩) ((putRow (fun (b : UInt8) => Value.int .u8 (b.toNat : Int)) (w.alloc (.cells Lib.zeros24 112)) w.heap.size 0 dk).drewN k) := by
      have h := run_convert_bytes_back (P := Tryd.prog) ((putRow (fun (b : UInt8) => Value.int .u8 (b.toNat : Int)) (w.alloc (.cells Lib.zeros24 112)) w.heap.size 0 dk).drewN k) 56 9 5 ⟨w.heap.size, 0, none⟩ 24 (Lib.decDigits u) Tryd.underlying56 Tryd.underlying5 Tryd.underlying9 (fun j hj => by
        rw [Lib.row_is_numeral hF j hj, Lib.add_plain, World.cell?_drewN]
        exact cell?_putRow (fun (b : UInt8) => Value.int .u8 (b.toNat : Int)) _ w.heap.size 0 _ dk HH0.out (by rw [hF.size, Array.size_replicate]) j (by rw [hF.size]; rw [Lib.decDigits_length] at hj; exact hj))
      rw [Lib.decDigits_length] at h
      exact h
    go_wp2
    go_ret
    exact ⟨rfl, belowN (below_row (below_alloc w _) (Nat.le_refl _)) k⟩

set_option maxRecDepth 100000 in
theorem formatUint (u : Nat) (hu64 : u < 18446744073709551616) (w : World) (hT : Tabs w) :
    Calls Tryd.prog 62 #[.int .u64 u, .int .i64 10] w fun e w' => e = .returned (.string ⟨(Lib.decDigits u).toArray⟩) ∧ Below w.heap.size w w' := by
  go_enter Tryd.func62, Tryd.ntmps62
  go_wp2_with (go_at_call 78; refine (iFormatUint u hu64 _ hT).mono ?_; rintro e w' ⟨rfl, hb⟩)
  go_ret
  exact ⟨rfl, hb⟩

theorem dropWhile_nil {p : UInt8 → Bool} {l : List UInt8} : l.dropWhile p = [] ↔ ∀ c ∈ l, p c = true := by
  induction l with
  | nil => simp
  | cons x r ih =>
    rw [List.dropWhile_cons]
    by_cases h : p x = true
    · simp [h, ih]
    · simp [h]

theorem dropWhile_idem {p : UInt8 → Bool} (l : List UInt8) : (l.dropWhile p).dropWhile p = l.dropWhile p := by
  induction l with
  | nil => rfl
  | cons x r ih =>
    rw [List.dropWhile_cons]
    by_cases h : p x = true
    · simp only [h, if_true, ih]
    · simp [h]

theorem trimS_nil {l ds : List UInt8} : Lib.trimS l ds = [] ↔ ∀ c ∈ l, ds.contains c = true := by
  unfold Lib.trimS Lib.trimLeftS Lib.trimRightS
  rw [dropWhile_nil]
  constructor
  · intro h
    have h' : ∀ c ∈ l.reverse.dropWhile (ds.contains ·), ds.contains c = true := fun c hc => h c (by simpa using hc)
    have e := dropWhile_nil.2 h'
    rw [dropWhile_idem] at e
    have := dropWhile_nil.1 e
    exact fun c hc => this c (by simpa using hc)
  · intro h
    have e : l.reverse.dropWhile (ds.contains ·) = [] := dropWhile_nil.2 fun c hc => h c (by simpa using hc)
    rw [e]
    simp

theorem digs_has (c : UInt8) : digs.data.toList.contains c = isDg c := by
  have key : ∀ n : Fin 256, digs.data.toList.contains (UInt8.ofNat n.val) = isDg (UInt8.ofNat n.val) := by decide +kernel
  have := key ⟨c.toNat, c.toNat_lt⟩
  simpa using this

theorem trim_all (l : List UInt8) : (Lib.trimS l digs.data.toList).isEmpty = l.all isDg := by
  rw [Bool.eq_iff_iff, List.isEmpty_iff, trimS_nil, List.all_eq_true]
  exact ⟨fun h c hc => by rw [← digs_has]; exact h c hc, fun h c hc => by rw [digs_has]; exact h c hc⟩

theorem trim_digs (s : ByteArray) (w : World) (hs : s.size ≤ 140737488355328) :
    Calls Tryd.prog 52 #[.string s, .string digs] w fun e w' => e = .returned (.string ⟨(Lib.trimS s.data.toList digs.data.toList).toArray⟩) ∧ Below w.heap.size w w' :=
  Any.strings_Trim_laid Tryd.lays160 (by kernel_rfl) s digs w (by omega) (by decide) (ascii_of_all (by decide))

theorem emp_of (s : ByteArray) (h : s.size = 0) : s.toList = [] ∧ s.data.toList = [] := by
  have : s.data.toList = [] := List.eq_nil_of_length_eq_zero (by rw [len_str]; exact h)
  exact ⟨by rw [Lib.toList_data]; exact this, this⟩
theorem ne_of (s : ByteArray) (h : ¬ s.size = 0) : ¬ s.toList = [] ∧ s.toList.isEmpty = false := by
  have : ¬ s.toList = [] := by
    rw [Lib.toList_data]
    intro e
    exact h (by rw [← len_str, e]; rfl)
  exact ⟨this, by simp [this]⟩

theorem isRt_long {l : List UInt8} (h : 400 < l.length) : isRt l = false := by
  unfold isRt
  rw [show decide (l.length ≤ 400) = false by simp; omega]
  simp
theorem isRt_zero {l : List UInt8} (h : 1 < l.length) (h0 : l.head? = some 48) : isRt l = false := by
  unfold isRt
  rw [h0]
  simp [h]
theorem isRt_main {l : List UInt8} (h1 : 1 ≤ l.length) (h : l.length ≤ 400) (h0 : ¬ (1 < l.length ∧ l.head? = some 48)) : isRt l = l.all isDg := by
  unfold isRt
  have : (decide (1 < l.length) && l.head? == some 48) = false := by
    by_cases h2 : 1 < l.length
    · simp only [h2, true_and] at h0
      simp [h0]
    · simp [h2]
  rw [this]
  simp [h1, h]

theorem head_of (s : ByteArray) (h : 0 < s.size) : s.data.toList.head? = some s[0] := by
  have h' : 0 < s.data.toList.length := by rw [len_str]; exact h
  rw [List.head?_eq_getElem?, List.getElem?_eq_getElem h']
  rfl
theorem byte48 (c : UInt8) : c = 48 ↔ ((c.toNat : Nat) : Int) = 48 := by
  rw [← UInt8.toNat_inj]
  constructor
  · intro h; rw [h]; rfl
  · intro h
    have : c.toNat = 48 := by omega
    rw [this]; rfl

set_option maxRecDepth 100000 in
theorem right_calls (s : ByteArray) (w : World) (hs : s.size ≤ 140737488355328) :
    Calls Tryd.prog 33 #[.string s] w fun e w' => e = .returned (.bool (isRt s.data.toList)) ∧ Below w.heap.size w w' := by
  by_cases h0 : s.size = 0
  · obtain ⟨h1, h2⟩ := emp_of s h0
    have hf : Hid (isRt s.data.toList = false) := by rw [h2]; exact rfl
    clear h2 h0
    go_enter Tryd.func33, Tryd.ntmps33
    go_wp2
    go_ret
    exact ⟨ret_bool hf.out.symm, Below.refl _ _⟩
  · obtain ⟨h1, h2⟩ := ne_of s h0
    have hlen := len_str s
    have hpos : 0 < s.size := by omega
    have hhd := head_of s hpos
    by_cases h400 : 400 < s.size
    · have hf : Hid (isRt s.data.toList = false) := isRt_long (by rw [hlen]; exact h400)
      clear hhd hlen
      go_enter Tryd.func33, Tryd.ntmps33
      go_wp2
      go_ret
      exact ⟨ret_bool hf.out.symm, Below.refl _ _⟩
    · by_cases h48 : ((s[0].toNat : Nat) : Int) = 48
      · by_cases h1' : 1 < s.size
        · have hf : Hid (isRt s.data.toList = false) := isRt_zero (by rw [hlen]; exact h1') (by rw [hhd, (byte48 _).2 h48])
          have h48' : (((s[0].toNat : Nat) : Int) == 48) = true := by simpa using h48
          clear hhd hlen
          go_enter Tryd.func33, Tryd.ntmps33
          go_wp2
          go_ret
          exact ⟨ret_bool hf.out.symm, Below.refl _ _⟩
        · have hf : Hid (isRt s.data.toList = s.data.toList.all isDg) := isRt_main (by omega) (by omega) (by omega)
          have h48' : (((s[0].toNat : Nat) : Int) == 48) = true := by simpa using h48
          clear hhd hlen
          go_enter Tryd.func33, Tryd.ntmps33
          go_wp2_with (go_at_call 52; refine (trim_digs s _ hs).mono ?_; rintro e w' ⟨rfl, hb⟩)
          go_ret
          exact ⟨ret_bool ((trim_all _).trans hf.out.symm), hb⟩
      · have hf : Hid (isRt s.data.toList = s.data.toList.all isDg) := isRt_main (by omega) (by omega) (by rw [hhd]; simp only [Option.some.injEq, byte48]; omega)
        have h48' : (((s[0].toNat : Nat) : Int) == 48) = false := by simpa using h48
        clear hhd hlen
        go_enter Tryd.func33, Tryd.ntmps33
        go_wp2_with (go_at_call 52; refine (trim_digs s _ hs).mono ?_; rintro e w' ⟨rfl, hb⟩)
        go_ret
        exact ⟨ret_bool ((trim_all _).trans hf.out.symm), hb⟩
end Go.Proofs.YtbopikeoaokdpaaDoor
