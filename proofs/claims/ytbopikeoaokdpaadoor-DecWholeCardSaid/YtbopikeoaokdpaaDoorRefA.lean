/- The document's own naturals (targumref01): Right, Trim, digit, ends, Of: walked. -/
import Derived.Test.YtbopikeoaokdpaaDoorStd
import Derived.Test.YtbopikeoaokdpaaDoorRefP
namespace Go.Proofs.YtbopikeoaokdpaaDoor
open Go.RowKit
attribute [local go_sem] Oper.semAt_some

theorem same_symm {f : FuncId} {args : Array Value} {w : World} {E : Ending} (h : Calls Tryd.prog f args w fun e w' => e = E ∧ w' = w) : Calls Tryd.prog f args w fun e w' => e = E ∧ w = w' :=
  h.mono fun _ _ h => ⟨h.1, h.2.symm⟩
theorem isRt_no {l : List UInt8} (h : l = [] ∨ 400 < l.length ∨ (1 < l.length ∧ l.head? = some 48) ∨ ∃ c ∈ l, isDg c = false) : isRt l = false := by
  cases e : isRt l with
  | false => rfl
  | true =>
    exfalso
    simp only [isRt, Bool.and_eq_true, decide_eq_true_eq, Bool.not_eq_true', List.all_eq_true] at e
    obtain ⟨⟨⟨h1, h2⟩, h3⟩, h4⟩ := e
    rcases h with rfl | h | ⟨h, h'⟩ | ⟨c, hc, h⟩
    · simp at h1
    · omega
    · rw [h'] at h3; simp [h] at h3
    · rw [h4 c hc] at h; cases h
theorem isRt_yes {l : List UInt8} (h1 : l ≠ []) (h2 : l.length ≤ 400) (h3 : 1 < l.length → l.head? ≠ some 48) (h4 : Dgs l) : isRt l = true := by
  simp only [isRt, Bool.and_eq_true, decide_eq_true_eq, Bool.not_eq_true', List.all_eq_true]
  refine ⟨⟨⟨List.length_pos_iff.2 h1, h2⟩, ?_⟩, h4⟩
  by_cases h : 1 < l.length
  · simp [h3 h]
  · simp [h]

theorem txs_len (s : ByteArray) : (tx s).length = s.size := len_str s
theorem txs_at (s : ByteArray) {k : Nat} (h : k < s.size) : (tx s)[k]'(by rw [txs_len]; exact h) = s[k] := rfl
theorem txs_take (s : ByteArray) {k : Nat} (h : k < s.size) : (tx s).take (k + 1) = (tx s).take k ++ [s[k]] := by
  rw [List.take_succ_eq_append_getElem (by rw [txs_len]; exact h)]; rfl
theorem isDg_of {c : UInt8} (h : 48 ≤ c.toNat ∧ c.toNat ≤ 57) : isDg c = true := by unfold isDg; simp; omega
theorem isDg_not {c : UInt8} (h : c.toNat < 48 ∨ 57 < c.toNat) : isDg c = false := by
  cases e : isDg c with
  | false => rfl
  | true => have := dg_bounds e; omega

set_option maxRecDepth 100000 in
set_option maxHeartbeats 1000000 in
theorem rRight_calls (s : ByteArray) (hs : s.size ≤ 140737488355328) (w : World) :
    Calls Tryd.prog 67 #[.string s] w fun e w' => e = .returned (.bool (isRt (tx s))) ∧ w' = w := by
  have hl := txs_len s
  by_cases h0 : s.size = 0
  · have hr := hid (isRt_no (l := tx s) (.inl (List.eq_nil_of_length_eq_zero (by omega))))
    have h0i : (s.size : Int) < 1 := by omega
    clear h0 hl
    go_enter Tryd.func67, Tryd.ntmps67
    go_wp2
    go_ret
    exact ⟨ret_bool hr.out.symm, rfl⟩
  by_cases h4 : 400 < s.size
  · have hr := hid (isRt_no (l := tx s) (.inr (.inl (by omega))))
    have h0i : ¬ (s.size : Int) < 1 := by omega
    clear h0 hl
    go_enter Tryd.func67, Tryd.ntmps67
    go_wp2
    go_ret
    exact ⟨ret_bool hr.out.symm, rfl⟩
  have hpos : 0 < s.size := by omega
  have hloop : ∀ (hz : 1 < s.size → s[0] ≠ 48) , (1 < s.size ∨ s.size = 1) → Calls Tryd.prog 67 #[.string s] w fun e w' => e = .returned (.bool (isRt (tx s))) ∧ w' = w := by
    intro hz hsz
    have hh : 1 < s.size → (tx s).head? ≠ some 48 := fun h e => hz h (Option.some.inj ((head_of s hpos).symm.trans e))
    have HH := hid (And.intro hh hl)
    have h1i : ¬ (s.size : Int) < 1 := by omega
    have h4i : ¬ (400 : Int) < (s.size : Int) := by omega
    have hb0 : 1 < s.size → (((s[0].toNat : Nat) : Int) == 48) = false := fun h => by
      rw [beq_eq_false_iff_ne]; intro e; exact hz h ((byte48 _).2 e)
    clear hh hz hl
    have hsz2 : ((((s[0].toNat : Nat) : Int) == 48) = false ∧ 1 < s.size) ∨ (s.size : Int) ≤ 1 := by
      rcases hsz with hsz | hsz
      · exact .inl ⟨hb0 hsz, hsz⟩
      · exact .inr (by omega)
    clear hb0 hsz
    rcases hsz2 with ⟨hb0, hsz⟩ | hsz
    all_goals (
      go_enter Tryd.func67, Tryd.ntmps67
      go_wp2
      go_loop [3] (fun i => ∃ k : Nat, i = .int .i64 k ∧ k ≤ s.size ∧ Dgs ((tx s).take k)) (fun i => s.size - (intOf i).toNat)
      case atStart => exact ⟨0, rfl, Nat.zero_le _, by rw [List.take_zero]; exact Dgs.nil⟩
      case round =>
        obtain ⟨k, rfl, hk, hD⟩ := hrel
        obtain ⟨hh, hl⟩ := id HH.out
        by_cases hlt : k < s.size
        · obtain ⟨ch, hch⟩ : ∃ ch, s[k] = ch := ⟨_, rfl⟩
          have htk := txs_take s hlt
          rw [hch] at htk
          have hcm : ch ∈ tx s := by rw [← hch]; exact List.getElem_mem (l := tx s) (by rw [txs_len]; exact hlt)
          by_cases hd : 48 ≤ ch.toNat ∧ ch.toNat ≤ 57
          · have HD := hid (show Dgs ((tx s).take (k + 1)) by rw [htk]; exact hD.append (Dgs.cons (isDg_of hd) Dgs.nil))
            obtain ⟨hd1, hd2⟩ := hd
            have e1 : (48 : Int) ≤ (ch.toNat : Int) := by omega
            have e2 : (ch.toNat : Int) ≤ 57 := by omega
            clear htk hcm hD hh hl
            go_wp2
            go_round
            case rel => exact ⟨k + 1, by go_num, hlt, HD.out⟩
            case measure => simp [intOf]; omega
          · have HN := hid (isRt_no (l := tx s) (.inr (.inr (.inr ⟨ch, hcm, isDg_not (by omega)⟩))))
            have hcase : (ch.toNat : Int) < 48 ∨ (48 ≤ (ch.toNat : Int) ∧ 57 < (ch.toNat : Int)) := by omega
            clear htk hcm hD hh hl hd
            rcases hcase with e1 | ⟨e1, e2⟩
            all_goals (
              go_wp2
              go_ret
              exact ⟨ret_bool HN.out.symm, rfl⟩)
        · rw [List.take_of_length_le (by omega)] at hD
          have HN := hid (isRt_yes (l := tx s) (by intro e; rw [e] at hl; simp at hl; omega) (by omega) (fun h => hh (by omega)) hD)
          clear hD hh hl
          go_wp2
          go_ret
          exact ⟨ret_bool HN.out.symm, rfl⟩)
  by_cases h1 : 1 < s.size
  · by_cases hz : s[0] = 48
    · have hr := hid (isRt_no (l := tx s) (.inr (.inr (.inl ⟨by omega, by rw [show (tx s).head? = some s[0] from head_of s hpos, hz]⟩))))
      have hb0 : (((s[0].toNat : Nat) : Int) == 48) = true := by rw [beq_iff_eq]; exact (byte48 _).1 hz
      have h1i : ¬ (s.size : Int) < 1 := by omega
      have h4i : ¬ (400 : Int) < (s.size : Int) := by omega
      clear hz h0 hl hloop
      go_enter Tryd.func67, Tryd.ntmps67
      go_wp2
      go_ret
      exact ⟨ret_bool hr.out.symm, rfl⟩
    · exact hloop (fun _ => hz) (.inl h1)
  · exact hloop (fun h => absurd h h1) (.inr (by omega))

def sizeV : Value → Nat
  | .string s => s.size
  | _ => 0

set_option maxRecDepth 100000 in
set_option maxHeartbeats 1000000 in
theorem rTrim_calls (s : ByteArray) (_hs : s.size ≤ 140737488355328) (w : World) :
    Calls Tryd.prog 44 #[.string s] w fun e w' => e = .returned (.string ⟨(trimL (tx s)).toArray⟩) ∧ w' = w := by
  go_enter Tryd.func44, Tryd.ntmps44
  go_wp2
  go_loop [0] (fun v => ∃ t : ByteArray, v = .string t ∧ t.size ≤ s.size ∧ trimL (tx t) = trimL (tx s)) (fun v => sizeV v)
  case atStart => exact ⟨s, rfl, Nat.le_refl _, rfl⟩
  case round =>
    obtain ⟨t, rfl, hts, ht⟩ := hrel
    have hl := txs_len t
    have HT := hid ht
    clear ht
    by_cases h1 : 1 < t.size
    · have hpos : 0 < t.size := by omega
      have hhd := head_of t hpos
      by_cases hz : t[0] = 48
      · have hb0 : (((t[0].toNat : Nat) : Int) == 48) = true := by rw [beq_iff_eq]; exact (byte48 _).1 hz
        have hx : tx (t.extract 1 t.size) = (tx t).drop 1 := by unfold tx; rw [Lib.extract_data, List.take_of_length_le (by rw [List.length_drop, len_str]; omega)]
        have hsz : (t.extract 1 t.size).size = t.size - 1 := by rw [← txs_len, hx, List.length_drop, txs_len]
        have hstep : trimL (tx (t.extract 1 t.size)) = trimL (tx t) := by
          rw [hx]
          rw [show t.data.toList = tx t from rfl, hz] at hhd
          match hm : tx t, hl, hhd with
          | [], hl, _ => rw [List.length_nil] at hl; omega
          | [_], hl, _ => rw [List.length_singleton] at hl; omega
          | c :: d :: r, _, hhd =>
            rw [List.head?_cons] at hhd
            rw [Option.some.inj hhd, trimL_zero]; rfl
        have HS := hid (And.intro hstep hsz)
        clear hstep hsz hx hz hhd hl
        go_wp2
        go_round
        case rel => exact ⟨_, rfl, by rw [HS.out.2]; omega, HS.out.1.trans HT.out⟩
        case measure => simp only [sizeV]; rw [HS.out.2]; omega
      · have hb0 : (((t[0].toNat : Nat) : Int) == 48) = false := by rw [beq_eq_false_iff_ne]; intro e; exact hz ((byte48 _).2 e)
        have hstep : trimL (tx t) = tx t := by
          rw [show t.data.toList = tx t from rfl] at hhd
          match hm : tx t, hhd with
          | [], h => cases h
          | c :: r, h => rw [List.head?_cons] at h; exact trimL_other (by rw [Option.some.inj h]; exact hz) r
        have HS := hid hstep
        clear hstep hz hhd hl
        go_wp2
        go_ret
        exact ⟨ret_str (by rw [← HT.out, HS.out]; exact (str_eq t).symm), rfl⟩
    · have hstep : trimL (tx t) = tx t := by
        match hm : tx t, hl with
        | [], _ => rfl
        | [c], _ => exact trimL_one c
        | c :: d :: r, h => simp at h; omega
      have HS := hid hstep
      clear hstep hl
      go_wp2
      go_ret
      exact ⟨ret_str (by rw [← HT.out, HS.out]; exact (str_eq t).symm), rfl⟩

end Go.Proofs.YtbopikeoaokdpaaDoor
