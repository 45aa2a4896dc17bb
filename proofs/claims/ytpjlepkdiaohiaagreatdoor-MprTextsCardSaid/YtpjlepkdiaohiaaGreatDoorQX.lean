/- QX: MqXr MqX. -/
import Derived.Test.YtpjlepkdiaohiaaGreatDoorPZ
import Derived.Deep.DeepCutAuto
import Derived.RegionTactic
import Derived.BigRegion
/- A region that draws its order: of each operation that is done its value is known; a box that is laid and filled, one byte that is laid and read. -/
namespace Go.Proofs.YtpjlepkdiaohiaaGreatDoor
open Go.RowKit
attribute [local go_sem] Oper.semAt_some

theorem tmp_cell (W : World) (z : Int) : (W.alloc (.cells #[.int .u8 z] 5)).cell? ⟨W.heap.size, 0, none⟩ = some (.int .u8 z) := (Cls.new W 5 [.int .u8 z]).cell 0 rfl
theorem cvG (c : UInt8) (z : Int) (hz : z = (c.toNat : Nat)) (X : World) (b : Nat) (h : X.cell? ⟨b, 0, none⟩ = some (.int .u8 z)) : (convert 41 9 (.slice (some ⟨b, 0, none⟩) 1 1)).run Tryz.prog X = .ok (.string (o14 c)) X :=
  run_convert_bytes_back (P := Tryz.prog) X 41 9 5 ⟨b, 0, none⟩ 1 [c] Tryz.underlying41 Tryz.underlying5 Tryz.underlying9 (fun j hj => by
    obtain rfl : j = 0 := by simpa using hj
    rw [Lib.add_plain]
    subst hz
    exact h)

def dn (D : List Nat) (j : Nat) : Nat := D[j]?.getD 0
structure RInv (D : List Nat) (u : Int) (F : Nat → Value → Prop) (G : World → Nat → Prop) (V : World) (listed : Array Bool) (g : Nat → Value) (W : World) : Prop where
  sz : listed.size = 18
  val : ∀ j, j < 18 → j ≠ 4 → j ≠ 14 → j ≠ 15 → listed.getD j false = true → F j (g (dn D j))
  tmp : listed.getD 4 false = true → ∃ b, g (dn D 4) = .slice (some ⟨b, 0, none⟩) 1 1 ∧ (listed.getD 5 false = false → W.cell? ⟨b, 0, none⟩ = some (.int .u8 u))
  ch : ∀ j, j ∈ [6, 8, 9, 10, 11] → listed.getD j false = true → listed.getD 5 false = true
  late : listed.getD 15 false = true → listed.getD 14 false = true
  box : listed.getD 14 false = true → ∃ b, g (dn D 14) = .pointer (some ⟨b, 0, none⟩) ∧ V.heap.size ≤ b ∧ (listed.getD 15 false = false → Cls W b 27 (ndL Pay.z (.slice none 0 0))) ∧ (listed.getD 15 false = true → G W b)
  bel : Below V.heap.size V W
def DInj (D : List Nat) : Prop := ∀ i, i < 18 → ∀ j, j < 18 → i ≠ 15 → j ≠ 15 → dn D i = dn D j → i = j
theorem rset_ne {listed : Array Bool} {i j : Nat} (h : i ≠ j) (d : Bool) : (listed.setIfInBounds i true).getD j d = listed.getD j d := getD_set_ne d h
theorem rset_self {listed : Array Bool} {i n : Nat} (h : listed.size = n) (hi : i < n) (d : Bool) : (listed.setIfInBounds i true).getD i d = true := by
  simp [h, hi]
theorem upd_self (g : Nat → Value) (d : Nat) (v : Value) : upd g d v d = v := if_pos rfl
theorem upd_ne (g : Nat → Value) {d e : Nat} (v : Value) (h : e ≠ d) : upd g d v e = g e := if_neg h
theorem RInv.put {D : List Nat} {u : Int} {F : Nat → Value → Prop} {G : World → Nat → Prop} {V : World} {listed : Array Bool} {g : Nat → Value} {W W' : World} (hD : DInj D) (hG : ∀ W W' b, G W b → Below W.heap.size W W' → G W' b)
    (h : RInv D u F G V listed g W) (i : Nat) (hi : i < 18) (h4 : i ≠ 4) (h14 : i ≠ 14) (h15 : i ≠ 15) (hc : i ∈ [6, 8, 9, 10, 11] → listed.getD 5 false = true) (hb : Below W.heap.size W W') (v : Value) (hv : F i v) :
    RInv D u F G V (listed.setIfInBounds i true) (upd g (dn D i) v) W' := by
  refine ⟨by simpa using h.sz, fun j hj j4 j14 j15 hl => ?_, fun hl => ?_, fun j hj hl => ?_, fun hl => (by rw [rset_ne h15] at hl; rw [rset_ne h14]; exact h.late hl), fun hl => ?_, h.bel.trans (hb.mono h.bel.size)⟩
  · by_cases e : j = i
    · subst e; rw [upd_self]; exact hv
    · rw [upd_ne _ _ (fun e2 => e (hD j hj i hi j15 h15 e2))]
      rw [rset_ne (Ne.symm e)] at hl
      exact h.val j hj j4 j14 j15 hl
  · rw [rset_ne h4] at hl
    obtain ⟨b, h1, h2⟩ := h.tmp hl
    refine ⟨b, by rw [upd_ne _ _ (fun e2 => h4 (hD 4 (by decide) i hi (by decide) h15 e2).symm)]; exact h1, fun h5 => ?_⟩
    have h5' : listed.getD 5 false = false := by
      by_cases e : i = 5
      · subst e; rw [rset_self h.sz (by decide)] at h5; cases h5
      · rwa [rset_ne e] at h5
    exact cell_below (h2 h5') hb
  · by_cases e5 : i = 5
    · subst e5; exact rset_self h.sz (by decide) _
    · rw [rset_ne e5]
      by_cases e : i = j
      · subst e; exact hc hj
      · rw [rset_ne e] at hl; exact h.ch j hj hl
  · rw [rset_ne h14] at hl
    obtain ⟨b, h1, h2, h3, h6⟩ := h.box hl
    rw [rset_ne h15]
    exact ⟨b, by rw [upd_ne _ _ (fun e2 => h14 (hD 14 (by decide) i hi (by decide) h15 e2).symm)]; exact h1, h2, fun e => (h3 e).below hb, fun e => hG _ _ _ (h6 e) hb⟩
/-- the byte is laid. -/
theorem RInv.byte {D : List Nat} {u : Int} {F : Nat → Value → Prop} {G : World → Nat → Prop} {V : World} {listed : Array Bool} {g : Nat → Value} {W : World} (hD : DInj D) (hG : ∀ W W' b, G W b → Below W.heap.size W W' → G W' b)
    (h : RInv D u F G V listed g W) : RInv D u F G V (listed.setIfInBounds 4 true) (upd g (dn D 4) (.slice (some ⟨W.heap.size, 0, none⟩) 1 1)) (W.alloc (.cells #[.int .u8 u] 5)) := by
  have hb := below_alloc W (.cells #[.int .u8 u] 5)
  refine ⟨by simpa using h.sz, fun j hj j4 j14 j15 hl => ?_, fun _ => ⟨W.heap.size, upd_self _ _ _, fun _ => tmp_cell W u⟩, fun j hj hl => ?_, fun hl => (by rw [rset_ne (by decide)] at hl ⊢; exact h.late hl), fun hl => ?_, h.bel.trans (hb.mono h.bel.size)⟩
  · rw [upd_ne _ _ (fun e2 => j4 (hD j hj 4 (by decide) j15 (by decide) e2))]
    rw [rset_ne (Ne.symm j4)] at hl
    exact h.val j hj j4 j14 j15 hl
  · rw [rset_ne (by decide)]
    rw [rset_ne (by rintro rfl; simp at hj)] at hl
    exact h.ch j hj hl
  · rw [rset_ne (by decide)] at hl
    obtain ⟨b, h1, h2, h3, h6⟩ := h.box hl
    rw [rset_ne (by decide)]
    exact ⟨b, by rw [upd_ne _ _ (fun e2 => absurd (hD 14 (by decide) 4 (by decide) (by decide) (by decide) e2) (by decide))]; exact h1, h2, fun e => (h3 e).below hb, fun e => hG _ _ _ (h6 e) hb⟩
/-- the box is laid. -/
theorem RInv.lay {D : List Nat} {u : Int} {F : Nat → Value → Prop} {G : World → Nat → Prop} {V : World} {listed : Array Bool} {g : Nat → Value} {W : World} (hD : DInj D)
    (h : RInv D u F G V listed g W) (h15 : listed.getD 15 false = false) : RInv D u F G V (listed.setIfInBounds 14 true) (upd g (dn D 14) (.pointer (some ⟨W.heap.size, 0, none⟩))) (W.alloc (.cells (ndL Pay.z (.slice none 0 0)).toArray 27)) := by
  have hb := below_alloc W (.cells (ndL Pay.z (.slice none 0 0)).toArray 27)
  refine ⟨by simpa using h.sz, fun j hj j4 j14 j15 hl => ?_, fun hl => ?_, fun j hj hl => ?_, fun _ => rset_self h.sz (by decide) _, fun _ => ⟨W.heap.size, upd_self _ _ _, h.bel.size, fun _ => Cls.new W _ _, fun e => ?_⟩, h.bel.trans (hb.mono h.bel.size)⟩
  · rw [upd_ne _ _ (fun e2 => j14 (hD j hj 14 (by decide) j15 (by decide) e2))]
    rw [rset_ne (Ne.symm j14)] at hl
    exact h.val j hj j4 j14 j15 hl
  · rw [rset_ne (by decide)] at hl
    obtain ⟨b, h1, h2⟩ := h.tmp hl
    rw [rset_ne (by decide)]
    exact ⟨b, by rw [upd_ne _ _ (fun e2 => absurd (hD 4 (by decide) 14 (by decide) (by decide) (by decide) e2) (by decide))]; exact h1, fun e => cell_below (h2 e) hb⟩
  · rw [rset_ne (by decide)]
    rw [rset_ne (by rintro rfl; simp at hj)] at hl
    exact h.ch j hj hl
  · rw [rset_ne (by decide), h15] at e; cases e
/-- the box is filled. -/
theorem RInv.fill {D : List Nat} {u : Int} {F : Nat → Value → Prop} {G : World → Nat → Prop} {V : World} {listed : Array Bool} {g : Nat → Value} {W : World} {b : Nat} {p : Pay} {sl : Value}
    (h : RInv D u F G V listed g W) (h14 : listed.getD 14 false = true) (h11 : listed.getD 11 false = true) (hg : g (dn D 14) = .pointer (some ⟨b, 0, none⟩)) (hb : V.heap.size ≤ b) (hG : G (putN W b 0 p sl) b) : RInv D u F G V (listed.setIfInBounds 15 true) g (putN W b 0 p sl) := by
  have h5 := h.ch 11 (by decide) h11
  refine ⟨by simpa using h.sz, fun j hj j4 j14 j15 hl => ?_, fun hl => ?_, fun j hj hl => ?_, fun _ => (by rw [rset_ne (by decide)]; exact h14), fun _ => ⟨b, hg, hb, fun e => ?_, fun _ => hG⟩, putN_below h.bel _ _ _ _ hb⟩
  · rw [rset_ne (Ne.symm j15)] at hl
    exact h.val j hj j4 j14 j15 hl
  · rw [rset_ne (by decide)] at hl
    obtain ⟨b, h1, -⟩ := h.tmp hl
    rw [rset_ne (by decide)]
    exact ⟨b, h1, fun e => by rw [h5] at e; cases e⟩
  · rw [rset_ne (by decide)]; exact h5
  · rw [rset_self h.sz (by decide)] at e; cases e
theorem RInv.ini {D : List Nat} {u : Int} {F : Nat → Value → Prop} {G : World → Nat → Prop} {V W : World} {g : Nat → Value} (hb : Below V.heap.size V W) : RInv D u F G V (Array.replicate 18 false) g W := by
  have hz : ∀ j, (Array.replicate 18 false).getD j false = false := fun j => by
    simp only [Array.getD_eq_getD_getElem?, Array.getElem?_replicate]
    split <;> rfl
  exact ⟨by simp, fun j _ _ _ _ hl => (by rw [hz] at hl; cases hl), fun hl => (by rw [hz] at hl; cases hl), fun j _ hl => (by rw [hz] at hl; cases hl), fun hl => (by rw [hz] at hl; cases hl), fun hl => (by rw [hz] at hl; cases hl), hb⟩
theorem RInv.un {D : List Nat} {u : Int} {F : Nat → Value → Prop} {G : World → Nat → Prop} {V W : World} {listed : Array Bool} {g : Nat → Value} (h : RInv D u F G V listed g W) {i : Nat} (hi : i < 18) (hu : listed.getD i true = false) : listed.getD i false = false := by
  have hs := h.sz
  simp only [Array.getD_eq_getD_getElem?] at hu ⊢
  rw [Array.getElem?_eq_getElem (by omega)] at hu ⊢
  exact hu
theorem RInv.un15 {D : List Nat} {u : Int} {F : Nat → Value → Prop} {G : World → Nat → Prop} {V W : World} {listed : Array Bool} {g : Nat → Value} (h : RInv D u F G V listed g W) (hu : listed.getD 14 true = false) : listed.getD 15 false = false := by
  have h14 := h.un (by decide) hu
  cases e : listed.getD 15 false with
  | false => rfl
  | true => rw [h.late e] at h14; cases h14

/-- an extension's node. -/
def exV (u : Nat) (S : ByteArray) (a : Option Addr) (c : Nat) : Value := .agg #[.int .i64 11, .bool false, .bool false, .string ⟨#[]⟩, .int .i64 0, .int .u64 u, .int .i64 0, .string S, .slice a 0 c]
/-- the values of the region in which an extension's item is made and read. -/
def FE (S N O q : ByteArray) (u : Nat) : Nat → Value → Prop
  | 0, v => v = .int .u64 (S.size : Nat)
  | 1, v => v = .string N
  | 2, v => v = .string (q ++ N)
  | 3, v => v = .int .u8 u
  | 5, v => v = .string O
  | 6, v => v = .string ((q ++ N) ++ O)
  | 7, v => v = .string S
  | 8, v => v = .string (((q ++ N) ++ O) ++ S)
  | 9, v => ∃ a c, v = .tuple #[exV u S a c, .string ⟨#[]⟩, .int .i64 0]
  | 10, v => ∃ a c, v = .tuple #[exV u S a c, .string ⟨#[]⟩, .int .i64 0]
  | 11, v => ∃ a c, v = exV u S a c
  | 12, v => v = .string ⟨#[]⟩
  | 13, v => v = .int .i64 0
  | 16, v => v = .string ⟨#[]⟩
  | 17, v => v = .int .i64 0
  | _, _ => True
def GE (S : ByteArray) (u : Nat) (W : World) (b : Nat) : Prop := ∃ a c, Cls W b 27 (ndL { Pay.z with k := 11, u := u, s := S } (.slice a 0 c))
theorem GE.up {S : ByteArray} {u : Nat} (W W' : World) (b : Nat) (h : GE S u W b) (hb : Below W.heap.size W W') : GE S u W' b := h.imp fun _ h => h.imp fun _ h => h.below hb
end Go.Proofs.YtpjlepkdiaohiaaGreatDoor

/- The statement MprTexts: walked. -/
namespace Go.Proofs.YtpjlepkdiaohiaaGreatDoor
open Go.RowKit
attribute [local go_sem] Oper.semAt_some

/-- a text, bytes, an extension behind their size. -/
theorem text_rd (c k : Nat) (hc : (c = 217 ∧ k = 1) ∨ (c = 218 ∧ k = 2) ∨ (c = 219 ∧ k = 4)) (S : ByteArray) (hS : S.size ≤ 200) (r : List UInt8) : rd 16 (ch c :: (beL k S.size ++ (tx S ++ r))) = .ok (.nd { kP 5 with s := S } []) r := by
  have h1 := Nat.mod_eq_of_lt (show S.size < 256 ^ 1 by omega)
  have h2 := Nat.mod_eq_of_lt (show S.size < 256 ^ 2 by omega)
  have h4 := Nat.mod_eq_of_lt (show S.size < 256 ^ 4 by omega)
  rcases hc with ⟨rfl, rfl⟩ | ⟨rfl, rfl⟩ | ⟨rfl, rfl⟩
  · rw [rd_ch 15 _ (by decide), show ∀ q, rhd (rd 15) 217 q = rnum 1 q fun n r => rraw (kP 5) n r from fun _ => rfl, rnum_be, h1, rraw_app]
  · rw [rd_ch 15 _ (by decide), show ∀ q, rhd (rd 15) 218 q = rnum 2 q fun n r => rraw (kP 5) n r from fun _ => rfl, rnum_be, h2, rraw_app]
  · rw [rd_ch 15 _ (by decide), show ∀ q, rhd (rd 15) 219 q = rnum 4 q fun n r => rraw (kP 5) n r from fun _ => rfl, rnum_be, h4, rraw_app]
theorem bytes_rd (c k : Nat) (hc : (c = 196 ∧ k = 1) ∨ (c = 198 ∧ k = 4)) (S : ByteArray) (hS : S.size ≤ 200) (r : List UInt8) : rd 16 (ch c :: (beL k S.size ++ (tx S ++ r))) = .ok (.nd { kP 6 with s := S } []) r := by
  have h1 := Nat.mod_eq_of_lt (show S.size < 256 ^ 1 by omega)
  have h4 := Nat.mod_eq_of_lt (show S.size < 256 ^ 4 by omega)
  rcases hc with ⟨rfl, rfl⟩ | ⟨rfl, rfl⟩
  · rw [rd_ch 15 _ (by decide), show ∀ q, rhd (rd 15) 196 q = rnum 1 q fun n r => rraw (kP 6) n r from fun _ => rfl, rnum_be, h1, rraw_app]
  · rw [rd_ch 15 _ (by decide), show ∀ q, rhd (rd 15) 198 q = rnum 4 q fun n r => rraw (kP 6) n r from fun _ => rfl, rnum_be, h4, rraw_app]
theorem ext_rd (c k : Nat) (hc : (c = 199 ∧ k = 1) ∨ (c = 200 ∧ k = 2)) (S : ByteArray) (hS : S.size ≤ 200) (u : Nat) (hu : u ≤ 255) (r : List UInt8) : rd 16 (ch c :: (beL k S.size ++ (ch u :: (tx S ++ r)))) = .ok (.nd { Pay.z with k := 11, u := u, s := S } []) r := by
  have h1 := Nat.mod_eq_of_lt (show S.size < 256 ^ 1 by omega)
  have h2 := Nat.mod_eq_of_lt (show S.size < 256 ^ 2 by omega)
  rcases hc with ⟨rfl, rfl⟩ | ⟨rfl, rfl⟩
  · rw [rd_ch 15 _ (by decide), show ∀ q, rhd (rd 15) 199 q = rnum 1 q fun n r => rext n r from fun _ => rfl, rnum_be, h1, rext_app _ _ hu]
  · rw [rd_ch 15 _ (by decide), show ∀ q, rhd (rd 15) 200 q = rnum 2 q fun n r => rext n r from fun _ => rfl, rnum_be, h2, rext_app _ _ hu]


set_option maxRecDepth 100000 in
set_option maxHeartbeats 16000000 in
theorem texts_law14 (s : ByteArray) (u : Nat) (hu : u ≤ 255) (w : World) {ea eb : Addr} (hT : TabQ w ea eb) :
    Calls Tryz.prog 11 #[.string s, .int .u8 u] w fun e w' => e = .returned (.bool true) ∧ Below w.heap.size w w' := by
  have hsh := shown14_calls w hT
  have hm1 := pre_le (x := s.size) 200
  have e1 := hid (min_toNat s.size 200)
  have hPs := cut_size s 200
  obtain ⟨S, hS⟩ : ∃ S, s.extract 0 (min s.size 200) = S := ⟨_, rfl⟩
  rw [hS] at hPs
  have hcw := cvG (ch u) u (by unfold ch; rw [UInt8.toNat_ofNat']; omega)
  have hO1 := o14_size (ch u)
  have hO2 : tx (o14 (ch u)) = [ch u] := rfl
  obtain ⟨O, hO⟩ : ∃ O, o14 (ch u) = O := ⟨_, rfl⟩
  rw [hO] at hcw hO1 hO2
  have hB : ∀ k, (B (beL k S.size)).size = k := fun k => by rw [size_B, beL_len]
  have hit : ∀ (P : ByteArray) (p : Pay) (q : ByteArray), P.size ≤ 1000 → rd 16 (tx P) = .ok (.nd p []) (tx q) → ∀ W, Below w.heap.size w W → Calls Tryz.prog 27 #[.string P] W fun e w' => Below W.heap.size W w' ∧ ∃ a c, e = .returned (.tuple #[ndV p (.slice a 0 c), .string q, .int .i64 0]) := fun P p q h1 h2 W hW => leaf_item P (Nat.le_trans h1 (by decide)) p q h2 W (hT.below hW)
  have hnb : ∀ k : Nat, k ≤ 8 → ∀ W, Calls Tryz.prog 28 #[.int .u64 (S.size : Nat), .int .i64 k] W fun e w' => e = .returned (.string (B (beL k S.size))) ∧ Below W.heap.size W w' := fun k hk W => num14_calls S.size k (by omega) hk W
  have nb1 : ∀ W, Calls Tryz.prog 28 #[.int .u64 (S.size : Nat), .int .i64 1] W fun e w' => e = .returned (.string (B (beL 1 S.size))) ∧ Below W.heap.size W w' := hnb 1 (by decide)
  have nb2 : ∀ W, Calls Tryz.prog 28 #[.int .u64 (S.size : Nat), .int .i64 2] W fun e w' => e = .returned (.string (B (beL 2 S.size))) ∧ Below W.heap.size W w' := hnb 2 (by decide)
  have nb4 : ∀ W, Calls Tryz.prog 28 #[.int .u64 (S.size : Nat), .int .i64 4] W fun e w' => e = .returned (.string (B (beL 4 S.size))) ∧ Below W.heap.size W w' := hnb 4 (by decide)
  have hz1 := hB 1
  have hz2 := hB 2
  have hz4 := hB 4
  obtain ⟨N1, hN1⟩ : ∃ N, B (beL 1 S.size) = N := ⟨_, rfl⟩
  obtain ⟨N2, hN2⟩ : ∃ N, B (beL 2 S.size) = N := ⟨_, rfl⟩
  obtain ⟨N4, hN4⟩ : ∃ N, B (beL 4 S.size) = N := ⟨_, rfl⟩
  have ht1 : tx N1 = beL 1 S.size := by rw [← hN1, tx_B]
  have ht2 : tx N2 = beL 2 S.size := by rw [← hN2, tx_B]
  have ht4 : tx N4 = beL 4 S.size := by rw [← hN4, tx_B]
  rw [hN1] at nb1 hz1
  rw [hN2] at nb2 hz2
  rw [hN4] at nb4 hz4
  have it0 := hit ((⟨#[217]⟩ ++ N1) ++ S) { kP 5 with s := S } ⟨#[]⟩ (by simp only [ByteArray.size_append, hz1, show (⟨#[217]⟩ : ByteArray).size = 1 from rfl]; omega) (by
    have h := text_rd 217 1 (by decide) S hPs (tx ⟨#[]⟩)
    rw [show tx ((⟨#[217]⟩ ++ N1) ++ S) = ch 217 :: (beL 1 S.size ++ (tx S ++ tx ⟨#[]⟩)) by
      simp only [tx_cat, ht1, List.append_assoc]
      simp [tx]; rfl]
    exact h)
  have it1 := hit ((⟨#[218]⟩ ++ N2) ++ S) { kP 5 with s := S } ⟨#[]⟩ (by simp only [ByteArray.size_append, hz2, show (⟨#[218]⟩ : ByteArray).size = 1 from rfl]; omega) (by
    have h := text_rd 218 2 (by decide) S hPs (tx ⟨#[]⟩)
    rw [show tx ((⟨#[218]⟩ ++ N2) ++ S) = ch 218 :: (beL 2 S.size ++ (tx S ++ tx ⟨#[]⟩)) by
      simp only [tx_cat, ht2, List.append_assoc]
      simp [tx]; rfl]
    exact h)
  have it2 := hit (((⟨#[219]⟩ ++ N4) ++ S) ++ ⟨#[109, 111, 114, 101]⟩) { kP 5 with s := S } ⟨#[109, 111, 114, 101]⟩ (by simp only [ByteArray.size_append, hz4, show (⟨#[219]⟩ : ByteArray).size = 1 from rfl, show (⟨#[109, 111, 114, 101]⟩ : ByteArray).size = 4 from rfl]; omega) (by
    have h := text_rd 219 4 (by decide) S hPs (tx ⟨#[109, 111, 114, 101]⟩)
    rw [show tx (((⟨#[219]⟩ ++ N4) ++ S) ++ ⟨#[109, 111, 114, 101]⟩) = ch 219 :: (beL 4 S.size ++ (tx S ++ tx ⟨#[109, 111, 114, 101]⟩)) by
      simp only [tx_cat, ht4, List.append_assoc]
      rfl]
    exact h)
  have it3 := hit ((⟨#[196]⟩ ++ N1) ++ S) { kP 6 with s := S } ⟨#[]⟩ (by simp only [ByteArray.size_append, hz1, show (⟨#[196]⟩ : ByteArray).size = 1 from rfl]; omega) (by
    have h := bytes_rd 196 1 (by decide) S hPs (tx ⟨#[]⟩)
    rw [show tx ((⟨#[196]⟩ ++ N1) ++ S) = ch 196 :: (beL 1 S.size ++ (tx S ++ tx ⟨#[]⟩)) by
      simp only [tx_cat, ht1, List.append_assoc]
      simp [tx]; rfl]
    exact h)
  have it4 := hit ((⟨#[198]⟩ ++ N4) ++ S) { kP 6 with s := S } ⟨#[]⟩ (by simp only [ByteArray.size_append, hz4, show (⟨#[198]⟩ : ByteArray).size = 1 from rfl]; omega) (by
    have h := bytes_rd 198 4 (by decide) S hPs (tx ⟨#[]⟩)
    rw [show tx ((⟨#[198]⟩ ++ N4) ++ S) = ch 198 :: (beL 4 S.size ++ (tx S ++ tx ⟨#[]⟩)) by
      simp only [tx_cat, ht4, List.append_assoc]
      simp [tx]; rfl]
    exact h)
  have it5 := hit (((⟨#[199]⟩ ++ N1) ++ O) ++ S) { Pay.z with k := 11, u := u, s := S } ⟨#[]⟩ (by simp only [ByteArray.size_append, hz1, hO1, show (⟨#[199]⟩ : ByteArray).size = 1 from rfl]; omega) (by
    have h := ext_rd 199 1 (by decide) S hPs u hu (tx ⟨#[]⟩)
    rw [show tx (((⟨#[199]⟩ ++ N1) ++ O) ++ S) = ch 199 :: (beL 1 S.size ++ (ch u :: (tx S ++ tx ⟨#[]⟩))) by
      simp only [tx_cat, ht1, hO2, List.append_assoc]
      simp [tx]; rfl]
    exact h)
  have it6 := hit (((⟨#[200]⟩ ++ N2) ++ O) ++ S) { Pay.z with k := 11, u := u, s := S } ⟨#[]⟩ (by simp only [ByteArray.size_append, hz2, hO1, show (⟨#[200]⟩ : ByteArray).size = 1 from rfl]; omega) (by
    have h := ext_rd 200 2 (by decide) S hPs u hu (tx ⟨#[]⟩)
    rw [show tx (((⟨#[200]⟩ ++ N2) ++ O) ++ S) = ch 200 :: (beL 2 S.size ++ (ch u :: (tx S ++ tx ⟨#[]⟩))) by
      simp only [tx_cat, ht2, hO2, List.append_assoc]
      simp [tx]; rfl]
    exact h)
  have hcat : ∀ a b : ByteArray, a.size ≤ 1000 → b.size ≤ 1000 → ¬ 9223372036854775807 < a.size + b.size := fun a b h1 h2 => by omega
  have hsa := fun a b c d W => leaf_same { kP 5 with s := S } (raw_fine 5 (by decide) 0 (by decide) S (by omega)) a b c d W
  have hsd := fun a b c d W => leaf_same { kP 6 with s := S } (raw_fine 6 (by decide) 0 (by decide) S (by omega)) a b c d W
  have hsk := fun a b c d W => leaf_same { Pay.z with k := 11, u := u, s := S } (raw_fine 11 (by decide) u (by omega) S (by omega)) a b c d W
  have s1 : (S.toList == S.toList) = true := by simp
  have HN := hid (And.intro nb1 (And.intro nb2 nb4))
  have HI := hid (And.intro it0 (And.intro it1 (And.intro it2 (And.intro it3 (And.intro it4 (And.intro it5 (it6)))))))
  have HM := hid (And.intro hsa (And.intro hsd hsk))
  have HP := hid (And.intro hS (And.intro hPs (And.intro hz1 (And.intro hz2 (And.intro hz4 hO1)))))
  have HV := hid hcw
  clear nb1 nb2 nb4 it0 it1 it2 it3 it4 it5 it6 hsa hsd hsk hS hPs hz1 hz2 hz4 hO1 hO2 hO hB hit hnb hN1 hN2 hN4 ht1 ht2 ht4 hT hcw
  go_enter Tryz.func11, Tryz.ntmps11
  go_wp2_with fail
  refine hsh.mono ?_
  rintro e w1 ⟨rfl, hb1⟩
  have HB := hid hb1
  clear hsh hb1
  go_upto_region 3 with fail
  rw [show (min (s.size : Int) 200).toNat = min s.size 200 from e1.out, HP.out.1]
  have wS : IntKind.u64.wrap (S.size : Int) = (S.size : Int) := by
    have := HP.out.2.1
    rw [show IntKind.u64.wrap (S.size : Int) = (S.size : Int) % 18446744073709551616 from rfl]; omega
  clear hm1 e1
  go_wp2_with fail
  clear wS
  refine (HN.out.1 _).mono ?_
  rintro e u0 ⟨rfl, hu⟩
  replace HB := hid (HB.out.trans (hu.mono HB.out.size))
  clear hu
  obtain ⟨-, hPs, hz1, hz2, hz4, hO1⟩ := HP.out
  have ca0 : ¬ 9223372036854775807 < (⟨#[217]⟩ : ByteArray).size + N1.size := by simp only [show (⟨#[217]⟩ : ByteArray).size = 1 from rfl]; omega
  have ca1 : ¬ 9223372036854775807 < (⟨#[217]⟩ ++ N1 : ByteArray).size + S.size := by simp only [ByteArray.size_append, show (⟨#[217]⟩ : ByteArray).size = 1 from rfl]; omega
  clear hPs hz1 hz2 hz4 hO1
  go_wp2_with fail
  refine (HI.out.1 _ HB.out).mono ?_
  rintro e v0 ⟨hu, a0, c0, rfl⟩
  have hbA := HB.out.trans (hu.mono HB.out.size)
  have HC0 := hid (Cls.new v0 27 [.int .i64 5, .bool false, .bool false, .string ⟨#[]⟩, .int .i64 0, .int .u64 0, .int .i64 0, .string S, .slice a0 0 c0])
  replace HB := hid (hbA.alloc hbA.size (.cells [.int .i64 5, .bool false, .bool false, .string ⟨#[]⟩, .int .i64 0, .int .u64 0, .int .i64 0, .string S, .slice a0 0 c0].toArray 27))
  clear hu hbA ca0 ca1
  simp only [ndV, ndL, kP, Pay.z]
  go_wp2_with fail
  generalize v0.alloc (.cells #[.int .i64 5, .bool false, .bool false, .string ⟨#[]⟩, .int .i64 0, .int .u64 0, .int .i64 0, .string S, .slice a0 0 c0] 27) = V0 at *
  refine (HN.out.2.1 _).mono ?_
  rintro e u1 ⟨rfl, hu⟩
  replace HB := hid (HB.out.trans (hu.mono HB.out.size))
  replace HC0 := hid (HC0.out.below hu)
  clear hu
  obtain ⟨-, hPs, hz1, hz2, hz4, hO1⟩ := HP.out
  have ca0 : ¬ 9223372036854775807 < (⟨#[218]⟩ : ByteArray).size + N2.size := by simp only [show (⟨#[218]⟩ : ByteArray).size = 1 from rfl]; omega
  have ca1 : ¬ 9223372036854775807 < (⟨#[218]⟩ ++ N2 : ByteArray).size + S.size := by simp only [ByteArray.size_append, show (⟨#[218]⟩ : ByteArray).size = 1 from rfl]; omega
  clear hPs hz1 hz2 hz4 hO1
  go_wp2_with fail
  refine (HI.out.2.1 _ HB.out).mono ?_
  rintro e v1 ⟨hu, a1, c1, rfl⟩
  have hbA := HB.out.trans (hu.mono HB.out.size)
  replace HC0 := hid ((HC0.out.below hu).alloc (.cells [.int .i64 5, .bool false, .bool false, .string ⟨#[]⟩, .int .i64 0, .int .u64 0, .int .i64 0, .string S, .slice a1 0 c1].toArray 27))
  have HC1 := hid (Cls.new v1 27 [.int .i64 5, .bool false, .bool false, .string ⟨#[]⟩, .int .i64 0, .int .u64 0, .int .i64 0, .string S, .slice a1 0 c1])
  replace HB := hid (hbA.alloc hbA.size (.cells [.int .i64 5, .bool false, .bool false, .string ⟨#[]⟩, .int .i64 0, .int .u64 0, .int .i64 0, .string S, .slice a1 0 c1].toArray 27))
  clear hu hbA ca0 ca1
  simp only [ndV, ndL, kP, Pay.z]
  go_wp2_with fail
  generalize v1.alloc (.cells #[.int .i64 5, .bool false, .bool false, .string ⟨#[]⟩, .int .i64 0, .int .u64 0, .int .i64 0, .string S, .slice a1 0 c1] 27) = V1 at *
  refine (HN.out.2.2 _).mono ?_
  rintro e u2 ⟨rfl, hu⟩
  replace HB := hid (HB.out.trans (hu.mono HB.out.size))
  replace HC0 := hid (HC0.out.below hu)
  replace HC1 := hid (HC1.out.below hu)
  clear hu
  obtain ⟨-, hPs, hz1, hz2, hz4, hO1⟩ := HP.out
  have ca0 : ¬ 9223372036854775807 < (⟨#[219]⟩ : ByteArray).size + N4.size := by simp only [show (⟨#[219]⟩ : ByteArray).size = 1 from rfl]; omega
  have ca1 : ¬ 9223372036854775807 < (⟨#[219]⟩ ++ N4 : ByteArray).size + S.size := by simp only [ByteArray.size_append, show (⟨#[219]⟩ : ByteArray).size = 1 from rfl]; omega
  have ca2 : ¬ 9223372036854775807 < ((⟨#[219]⟩ ++ N4) ++ S : ByteArray).size + (⟨#[109, 111, 114, 101]⟩ : ByteArray).size := by simp only [ByteArray.size_append, show (⟨#[219]⟩ : ByteArray).size = 1 from rfl, show (⟨#[109, 111, 114, 101]⟩ : ByteArray).size = 4 from rfl]; omega
  clear hPs hz1 hz2 hz4 hO1
  go_wp2_with fail
  refine (HI.out.2.2.1 _ HB.out).mono ?_
  rintro e v2 ⟨hu, a2, c2, rfl⟩
  have hbA := HB.out.trans (hu.mono HB.out.size)
  replace HC0 := hid ((HC0.out.below hu).alloc (.cells [.int .i64 5, .bool false, .bool false, .string ⟨#[]⟩, .int .i64 0, .int .u64 0, .int .i64 0, .string S, .slice a2 0 c2].toArray 27))
  replace HC1 := hid ((HC1.out.below hu).alloc (.cells [.int .i64 5, .bool false, .bool false, .string ⟨#[]⟩, .int .i64 0, .int .u64 0, .int .i64 0, .string S, .slice a2 0 c2].toArray 27))
  have HC2 := hid (Cls.new v2 27 [.int .i64 5, .bool false, .bool false, .string ⟨#[]⟩, .int .i64 0, .int .u64 0, .int .i64 0, .string S, .slice a2 0 c2])
  replace HB := hid (hbA.alloc hbA.size (.cells [.int .i64 5, .bool false, .bool false, .string ⟨#[]⟩, .int .i64 0, .int .u64 0, .int .i64 0, .string S, .slice a2 0 c2].toArray 27))
  clear hu hbA ca0 ca1 ca2
  simp only [ndV, ndL, kP, Pay.z]
  go_wp2_with fail
  generalize v2.alloc (.cells #[.int .i64 5, .bool false, .bool false, .string ⟨#[]⟩, .int .i64 0, .int .u64 0, .int .i64 0, .string S, .slice a2 0 c2] 27) = V2 at *
  refine (HN.out.1 _).mono ?_
  rintro e u3 ⟨rfl, hu⟩
  replace HB := hid (HB.out.trans (hu.mono HB.out.size))
  replace HC0 := hid (HC0.out.below hu)
  replace HC1 := hid (HC1.out.below hu)
  replace HC2 := hid (HC2.out.below hu)
  clear hu
  obtain ⟨-, hPs, hz1, hz2, hz4, hO1⟩ := HP.out
  have ca0 : ¬ 9223372036854775807 < (⟨#[196]⟩ : ByteArray).size + N1.size := by simp only [show (⟨#[196]⟩ : ByteArray).size = 1 from rfl]; omega
  have ca1 : ¬ 9223372036854775807 < (⟨#[196]⟩ ++ N1 : ByteArray).size + S.size := by simp only [ByteArray.size_append, show (⟨#[196]⟩ : ByteArray).size = 1 from rfl]; omega
  clear hPs hz1 hz2 hz4 hO1
  go_wp2_with fail
  refine (HI.out.2.2.2.1 _ HB.out).mono ?_
  rintro e v3 ⟨hu, a3, c3, rfl⟩
  have hbA := HB.out.trans (hu.mono HB.out.size)
  replace HC0 := hid ((HC0.out.below hu).alloc (.cells [.int .i64 6, .bool false, .bool false, .string ⟨#[]⟩, .int .i64 0, .int .u64 0, .int .i64 0, .string S, .slice a3 0 c3].toArray 27))
  replace HC1 := hid ((HC1.out.below hu).alloc (.cells [.int .i64 6, .bool false, .bool false, .string ⟨#[]⟩, .int .i64 0, .int .u64 0, .int .i64 0, .string S, .slice a3 0 c3].toArray 27))
  replace HC2 := hid ((HC2.out.below hu).alloc (.cells [.int .i64 6, .bool false, .bool false, .string ⟨#[]⟩, .int .i64 0, .int .u64 0, .int .i64 0, .string S, .slice a3 0 c3].toArray 27))
  have HC3 := hid (Cls.new v3 27 [.int .i64 6, .bool false, .bool false, .string ⟨#[]⟩, .int .i64 0, .int .u64 0, .int .i64 0, .string S, .slice a3 0 c3])
  replace HB := hid (hbA.alloc hbA.size (.cells [.int .i64 6, .bool false, .bool false, .string ⟨#[]⟩, .int .i64 0, .int .u64 0, .int .i64 0, .string S, .slice a3 0 c3].toArray 27))
  clear hu hbA ca0 ca1
  simp only [ndV, ndL, kP, Pay.z]
  go_upto_region 8 with fail
  generalize v3.alloc (.cells #[.int .i64 6, .bool false, .bool false, .string ⟨#[]⟩, .int .i64 0, .int .u64 0, .int .i64 0, .string S, .slice a3 0 c3] 27) = V3 at *
  go_cut [19, 20, 21] (fun v0 v1 v2 wx => ∃ b a c, v0 = .pointer (some ⟨b, 0, none⟩) ∧ v1 = .string ⟨#[]⟩ ∧ v2 = .int .i64 0 ∧ Cls wx b 27 [.int .i64 6, .bool false, .bool false, .string ⟨#[]⟩, .int .i64 0, .int .u64 0, .int .i64 0, .string S, .slice a 0 c] ∧ Below V3.heap.size V3 wx)
  case first =>
    go_wp2_with fail
    refine (HN.out.2.2 _).mono ?_
    rintro e u4 ⟨rfl, hu⟩
    have HB4 := hid (HB.out.trans (hu.mono HB.out.size))
    have HU := hid hu
    clear hu
    obtain ⟨-, hPs, hz1, hz2, hz4, hO1⟩ := HP.out
    have ca0 : ¬ 9223372036854775807 < (⟨#[198]⟩ : ByteArray).size + N4.size := by simp only [show (⟨#[198]⟩ : ByteArray).size = 1 from rfl]; omega
    have ca1 : ¬ 9223372036854775807 < (⟨#[198]⟩ ++ N4 : ByteArray).size + S.size := by simp only [ByteArray.size_append, show (⟨#[198]⟩ : ByteArray).size = 1 from rfl]; omega
    clear hPs hz1 hz2 hz4 hO1
    go_wp2_with fail
    refine (HI.out.2.2.2.2.1 _ HB4.out).mono ?_
    rintro e v4 ⟨hu, a4, c4, rfl⟩
    have hbe := HU.out.trans (hu.mono HU.out.size)
    simp only [ndV, ndL, kP, Pay.z]
    go_wp2_with fail
    go_meet
    exact ⟨v4.heap.size, a4, c4, rfl, rfl, rfl, Cls.new v4 27 [.int .i64 6, .bool false, .bool false, .string ⟨#[]⟩, .int .i64 0, .int .u64 0, .int .i64 0, .string S, .slice a4 0 c4], hbe.alloc hbe.size _⟩
  case rest =>
  obtain ⟨b4, a4, c4, rfl, rfl, rfl, hbx, hu⟩ := hcut
  replace HB := hid (HB.out.trans (hu.mono HB.out.size))
  replace HC0 := hid (HC0.out.below hu)
  replace HC1 := hid (HC1.out.below hu)
  replace HC2 := hid (HC2.out.below hu)
  replace HC3 := hid (HC3.out.below hu)
  have HC4 := hid hbx
  rename World => V4
  clear hu hbx
  go_upto_region 9 with fail
  obtain ⟨-, hPs, hz1, hz2, hz4, hO1⟩ := HP.out
  have ca0 : ¬ 9223372036854775807 < 1 + N1.size := by omega
  have ca3 : ¬ 9223372036854775807 < 1 + N1.size + O.size := by omega
  have ca4 : ¬ 9223372036854775807 < 1 + N1.size + O.size + S.size := by omega
  clear hPs hz1 hz2 hz4 hO1
  obtain ⟨A5, hA⟩ : ∃ A : (Nat → Value) → Act, ∀ g, A g = { tmps := #[.string S, .int .u8 u, undef, undef, .bool false, .bool true, .int .u64 (S.size : Nat), .pointer (some ⟨v0.heap.size, 0, none⟩), .string ⟨#[]⟩, .int .i64 0, .pointer (some ⟨v1.heap.size, 0, none⟩), .string ⟨#[]⟩, .int .i64 0, .pointer (some ⟨v2.heap.size, 0, none⟩), .string ⟨#[109, 111, 114, 101]⟩, .int .i64 0, .pointer (some ⟨v3.heap.size, 0, none⟩), .string ⟨#[]⟩, .int .i64 0, .pointer (some ⟨b4, 0, none⟩), .string ⟨#[]⟩, .int .i64 0, g 22, g 23, g 24, undef, undef, undef, undef, u29, u30, u31, u32, u33, u34, u35, u36, u37, u38, u39, u40, u41, u42, u43, u44, u45, u46, u47, u48, u49, u50, u51, u52, u53, u54, u55, u56, u57, u58, u59, u60, u61, u62, u63, u64, u65, u66, u67, u68, u69, u70, u71, u72, u73, u74, u75, u76, u77, u78, u79, u80, u81, u82, u83, u84, u85, u86, u87, u88, g 89, g 90, g 91, g 92, g 93, g 94, g 95, g 96, g 97, g 98, g 99, g 100, g 101, g 102, u103, u104, u105, u106, u107, u108, u109, u110, u111, u112, u113, u114, u115, u116, u117, u118, u119, u120, u121, u122, u123, u124, u125, u126, u127, u128, u129, u130, u131, u132, u133, u134, u135, u136, u137, u138, u139, u140, u141, u142, u143, u144, u145, u146, u147, u148, u149, u150, u151, u152, u153, u154, u155, u156, u157, u158, u159, u160, u161, u162, u163, u164, u165, u166, u167, u168, u169, u170, u171, u172, u173, u174, u175, u176, u177, u178, u179, u180, u181, u182, u183, u184, u185, u186, u187, u188, u189, u190, u191, u192, u193, u194, u195, u196, u197, u198, u199, u200, u201, u202, u203, u204, u205, u206, u207, u208, u209, u210, u211, u212, u213, u214, u215, u216, u217, u218], defers := [] } := ⟨_, fun _ => rfl⟩
  have hD : DInj [90, 91, 92, 93, 94, 95, 96, 97, 98, 99, 89, 100, 101, 102, 22, 0, 23, 24] := by unfold DInj; decide
  refine wp_region_any (by kernel_rfl) ?_
  refine wpAny_inv (fun listed a W => ∃ g, a = A5 g ∧ RInv [90, 91, 92, 93, 94, 95, 96, 97, 98, 99, 89, 100, 101, 102, 22, 0, 23, 24] u (FE S N1 O (⟨#[199]⟩ : ByteArray) u) (GE S u) V4 listed g W) ?step ?fin _ _ _ _ ⟨fun k => match k with | 89 => u89 | 90 => u90 | 91 => u91 | 92 => u92 | 93 => u93 | 94 => u94 | 95 => u95 | 96 => u96 | 97 => u97 | 98 => u98 | 99 => u99 | 100 => u100 | 101 => u101 | 102 => u102 | _ => undef, ?ie, RInv.ini (Below.refl _ _).drew⟩ (by unfold unl; exact Nat.le_trans (List.length_filter_le ..) (by simp))
  case ie =>
    rw [hA]
    rfl
  case step =>
    rintro listed a W i ⟨g, rfl, h⟩ hi
    have hi18 : i < 18 := by
      obtain ⟨_, o, ho, _⟩ := mem_ready.1 hi
      exact (Array.getElem?_eq_some_iff.1 ho).1
    clear HC0 HC1 HC2 HC3 HC4 HP HM
    rcases (show i = 0 ∨ i = 1 ∨ i = 2 ∨ i = 3 ∨ i = 4 ∨ i = 5 ∨ i = 6 ∨ i = 7 ∨ i = 8 ∨ i = 9 ∨ i = 10 ∨ i = 11 ∨ i = 12 ∨ i = 13 ∨ i = 14 ∨ i = 15 ∨ i = 16 ∨ i = 17 by omega) with rfl | rfl | rfl | rfl | rfl | rfl | rfl | rfl | rfl | rfl | rfl | rfl | rfl | rfl | rfl | rfl | rfl | rfl
    · refine wpOp_ofK rfl rfl fun K hK => ?_
      rw [hA]
      go_simp
      exact hK.out _ _ ⟨upd g 90 (.int .u64 (S.size : Nat)), by rw [hA]; first | done | simp [upd], h.put hD GE.up 0 (by decide) (by decide) (by decide) (by decide) (fun e => absurd e (by decide)) (Below.refl _ _) (.int .u64 (S.size : Nat)) rfl⟩
    · refine wpOp_ofK rfl rfl fun K hK => ?_
      have e0 : g 90 = .int .u64 (S.size : Nat) := (h.val 0 (by decide) (by decide) (by decide) (by decide) (ready_needs hi 0 (by kernel_rfl)))
      rw [hA]
      simp only [e0]
      go_simp
      refine (HN.out.1 _).mono ?_
      rintro e wn ⟨rfl, hu⟩
      exact hK.out _ _ ⟨upd g 91 (.string N1), by rw [hA]; first | done | simp [upd, e0], h.put hD GE.up 1 (by decide) (by decide) (by decide) (by decide) (fun e => absurd e (by decide)) hu (.string N1) rfl⟩
    · refine wpOp_ofK rfl rfl fun K hK => ?_
      have e1 : g 91 = .string N1 := (h.val 1 (by decide) (by decide) (by decide) (by decide) (ready_needs hi 1 (by kernel_rfl)))
      rw [hA]
      simp only [e1]
      go_simp
      exact hK.out _ _ ⟨upd g 92 (.string ((⟨#[199]⟩ : ByteArray) ++ N1)), by rw [hA]; first | done | simp [upd, e1], h.put hD GE.up 2 (by decide) (by decide) (by decide) (by decide) (fun e => absurd e (by decide)) (Below.refl _ _) (.string ((⟨#[199]⟩ : ByteArray) ++ N1)) rfl⟩
    · refine wpOp_ofK rfl rfl fun K hK => ?_
      rw [hA]
      go_simp
      exact hK.out _ _ ⟨upd g 93 (.int .u8 u), by rw [hA]; first | done | simp [upd], h.put hD GE.up 3 (by decide) (by decide) (by decide) (by decide) (fun e => absurd e (by decide)) (Below.refl _ _) (.int .u8 u) rfl⟩
    · refine wpOp_ofK rfl rfl fun K hK => ?_
      have e3 : g 93 = .int .u8 u := (h.val 3 (by decide) (by decide) (by decide) (by decide) (ready_needs hi 3 (by kernel_rfl)))
      rw [hA]
      simp only [e3]
      go_simp
      exact hK.out _ _ ⟨upd g 94 (.slice (some ⟨W.heap.size, 0, none⟩) 1 1), by rw [hA]; first | done | simp [upd, e3], h.byte hD GE.up⟩
    · refine wpOp_ofK rfl rfl fun K hK => ?_
      obtain ⟨bt, e4, hbt⟩ := h.tmp (ready_needs hi 4 (by kernel_rfl))
      change g 94 = _ at e4
      have hcv := HV.out W bt (hbt (h.un (by decide) (mem_ready.1 hi).1))
      rw [hA]
      simp only [e4]
      go_simp
      exact hK.out _ _ ⟨upd g 95 (.string O), by rw [hA]; first | done | simp [upd, e4], h.put hD GE.up 5 (by decide) (by decide) (by decide) (by decide) (fun e => absurd e (by decide)) (Below.refl _ _) (.string O) rfl⟩
    · refine wpOp_ofK rfl rfl fun K hK => ?_
      have e2 : g 92 = .string ((⟨#[199]⟩ : ByteArray) ++ N1) := (h.val 2 (by decide) (by decide) (by decide) (by decide) (ready_needs hi 2 (by kernel_rfl)))
      have e5 : g 95 = .string O := (h.val 5 (by decide) (by decide) (by decide) (by decide) (ready_needs hi 5 (by kernel_rfl)))
      rw [hA]
      simp only [e2, e5]
      go_simp
      exact hK.out _ _ ⟨upd g 96 (.string (((⟨#[199]⟩ : ByteArray) ++ N1) ++ O)), by rw [hA]; first | done | simp [upd, e2, e5], h.put hD GE.up 6 (by decide) (by decide) (by decide) (by decide) (fun _ => ready_needs hi 5 (by kernel_rfl)) (Below.refl _ _) (.string (((⟨#[199]⟩ : ByteArray) ++ N1) ++ O)) rfl⟩
    · refine wpOp_ofK rfl rfl fun K hK => ?_
      rw [hA]
      go_simp
      exact hK.out _ _ ⟨upd g 97 (.string S), by rw [hA]; first | done | simp [upd], h.put hD GE.up 7 (by decide) (by decide) (by decide) (by decide) (fun e => absurd e (by decide)) (Below.refl _ _) (.string S) rfl⟩
    · refine wpOp_ofK rfl rfl fun K hK => ?_
      have e6 : g 96 = .string (((⟨#[199]⟩ : ByteArray) ++ N1) ++ O) := (h.val 6 (by decide) (by decide) (by decide) (by decide) (ready_needs hi 6 (by kernel_rfl)))
      have e7 : g 97 = .string S := (h.val 7 (by decide) (by decide) (by decide) (by decide) (ready_needs hi 7 (by kernel_rfl)))
      rw [hA]
      simp only [e6, e7]
      go_simp
      exact hK.out _ _ ⟨upd g 98 (.string ((((⟨#[199]⟩ : ByteArray) ++ N1) ++ O) ++ S)), by rw [hA]; first | done | simp [upd, e6, e7], h.put hD GE.up 8 (by decide) (by decide) (by decide) (by decide) (fun _ => h.ch 6 (by decide) (ready_needs hi 6 (by kernel_rfl))) (Below.refl _ _) (.string ((((⟨#[199]⟩ : ByteArray) ++ N1) ++ O) ++ S)) rfl⟩
    · refine wpOp_ofK rfl rfl fun K hK => ?_
      have e8 : g 98 = .string ((((⟨#[199]⟩ : ByteArray) ++ N1) ++ O) ++ S) := (h.val 8 (by decide) (by decide) (by decide) (by decide) (ready_needs hi 8 (by kernel_rfl)))
      rw [hA]
      simp only [e8]
      go_simp
      refine (HI.out.2.2.2.2.2.1 W (HB.out.trans (h.bel.mono HB.out.size))).mono ?_
      rintro e wi ⟨hu, a, c, rfl⟩
      exact hK.out _ _ ⟨upd g 99 (.tuple #[exV u S a c, .string ⟨#[]⟩, .int .i64 0]), by rw [hA]; first | done | simp [upd, e8, ndV, ndL, Pay.z, exV], h.put hD GE.up 9 (by decide) (by decide) (by decide) (by decide) (fun _ => h.ch 8 (by decide) (ready_needs hi 8 (by kernel_rfl))) hu (.tuple #[exV u S a c, .string ⟨#[]⟩, .int .i64 0]) ⟨a, c, rfl⟩⟩
    · refine wpOp_ofK rfl rfl fun K hK => ?_
      obtain ⟨a, c, e9⟩ := (h.val 9 (by decide) (by decide) (by decide) (by decide) (ready_needs hi 9 (by kernel_rfl)))
      change g 99 = _ at e9
      rw [hA]
      simp only [e9]
      go_simp
      exact hK.out _ _ ⟨upd g 89 (.tuple #[exV u S a c, .string ⟨#[]⟩, .int .i64 0]), by rw [hA]; first | done | simp [upd, e9], h.put hD GE.up 10 (by decide) (by decide) (by decide) (by decide) (fun _ => h.ch 9 (by decide) (ready_needs hi 9 (by kernel_rfl))) (Below.refl _ _) (.tuple #[exV u S a c, .string ⟨#[]⟩, .int .i64 0]) ⟨a, c, rfl⟩⟩
    · refine wpOp_ofK rfl rfl fun K hK => ?_
      obtain ⟨a, c, e10⟩ := (h.val 10 (by decide) (by decide) (by decide) (by decide) (ready_needs hi 10 (by kernel_rfl)))
      change g 89 = _ at e10
      rw [hA]
      simp only [e10]
      go_simp
      exact hK.out _ _ ⟨upd g 100 (exV u S a c), by rw [hA]; first | done | simp [upd, e10], h.put hD GE.up 11 (by decide) (by decide) (by decide) (by decide) (fun _ => h.ch 10 (by decide) (ready_needs hi 10 (by kernel_rfl))) (Below.refl _ _) (exV u S a c) ⟨a, c, rfl⟩⟩
    · refine wpOp_ofK rfl rfl fun K hK => ?_
      obtain ⟨a, c, e10⟩ := (h.val 10 (by decide) (by decide) (by decide) (by decide) (ready_needs hi 10 (by kernel_rfl)))
      change g 89 = _ at e10
      rw [hA]
      simp only [e10]
      go_simp
      exact hK.out _ _ ⟨upd g 101 (.string ⟨#[]⟩), by rw [hA]; first | done | simp [upd, e10], h.put hD GE.up 12 (by decide) (by decide) (by decide) (by decide) (fun e => absurd e (by decide)) (Below.refl _ _) (.string ⟨#[]⟩) rfl⟩
    · refine wpOp_ofK rfl rfl fun K hK => ?_
      obtain ⟨a, c, e10⟩ := (h.val 10 (by decide) (by decide) (by decide) (by decide) (ready_needs hi 10 (by kernel_rfl)))
      change g 89 = _ at e10
      rw [hA]
      simp only [e10]
      go_simp
      exact hK.out _ _ ⟨upd g 102 (.int .i64 0), by rw [hA]; first | done | simp [upd, e10], h.put hD GE.up 13 (by decide) (by decide) (by decide) (by decide) (fun e => absurd e (by decide)) (Below.refl _ _) (.int .i64 0) rfl⟩
    · refine wpOp_ofK rfl rfl fun K hK => ?_
      rw [hA]
      go_simp
      exact hK.out _ _ ⟨upd g 22 (.pointer (some ⟨W.heap.size, 0, none⟩)), by rw [hA]; first | done | simp [upd], h.lay hD (h.un15 (mem_ready.1 hi).1)⟩
    · refine wpOp_ofK rfl rfl fun K hK => ?_
      obtain ⟨bb, e14, hbb, hcl, -⟩ := h.box (ready_needs hi 14 (by kernel_rfl))
      change g 22 = _ at e14
      have hcl := hcl (h.un (by decide) (mem_ready.1 hi).1)
      obtain ⟨a, c, e11⟩ := (h.val 11 (by decide) (by decide) (by decide) (by decide) (ready_needs hi 11 (by kernel_rfl)))
      change g 100 = _ at e11
      obtain ⟨x0, x1, x2, x3, x4, x5, x6, x7, x8⟩ := hcl.nine
      obtain ⟨f0, f1, f2, f3, f4, f5, f6, f7, f8⟩ := hcl.frozens
      rw [hA]
      simp only [e14, e11, exV]
      go_simp
      exact hK.out _ _ ⟨g, by rw [hA]; first | done | simp [e14, e11, exV], h.fill (p := { Pay.z with k := 11, u := u, s := S }) (sl := .slice a 0 c) (ready_needs hi 14 (by kernel_rfl)) (ready_needs hi 11 (by kernel_rfl)) e14 hbb ⟨a, c, hcl.putN⟩⟩
    · refine wpOp_ofK rfl rfl fun K hK => ?_
      have e12 : g 101 = .string ⟨#[]⟩ := (h.val 12 (by decide) (by decide) (by decide) (by decide) (ready_needs hi 12 (by kernel_rfl)))
      rw [hA]
      simp only [e12]
      go_simp
      exact hK.out _ _ ⟨upd g 23 (.string ⟨#[]⟩), by rw [hA]; first | done | simp [upd, e12], h.put hD GE.up 16 (by decide) (by decide) (by decide) (by decide) (fun e => absurd e (by decide)) (Below.refl _ _) (.string ⟨#[]⟩) rfl⟩
    · refine wpOp_ofK rfl rfl fun K hK => ?_
      have e13 : g 102 = .int .i64 0 := (h.val 13 (by decide) (by decide) (by decide) (by decide) (ready_needs hi 13 (by kernel_rfl)))
      rw [hA]
      simp only [e13]
      go_simp
      exact hK.out _ _ ⟨upd g 24 (.int .i64 0), by rw [hA]; first | done | simp [upd, e13], h.put hD GE.up 17 (by decide) (by decide) (by decide) (by decide) (fun e => absurd e (by decide)) (Below.refl _ _) (.int .i64 0) rfl⟩
  case fin =>
  rintro listed a W ⟨g5, rfl, h⟩ hr
  have hall := ready_done (by decide +kernel) h.sz hr
  have e16 : g5 23 = .string ⟨#[]⟩ := (h.val 16 (by decide) (by decide) (by decide) (by decide) (hall 16 (by decide)))
  have e17 : g5 24 = .int .i64 0 := (h.val 17 (by decide) (by decide) (by decide) (by decide) (hall 17 (by decide)))
  obtain ⟨b5, e14, -, -, hcl⟩ := h.box (hall 14 (by decide))
  change g5 22 = _ at e14
  obtain ⟨a5, c5, hcl⟩ := hcl (hall 15 (by decide))
  have hu := h.bel
  replace HB := hid (HB.out.trans (hu.mono HB.out.size))
  replace HC0 := hid (HC0.out.below hu)
  replace HC1 := hid (HC1.out.below hu)
  replace HC2 := hid (HC2.out.below hu)
  replace HC3 := hid (HC3.out.below hu)
  replace HC4 := hid (HC4.out.below hu)
  have HC5 := hid hcl
  rw [hA]
  simp only [e14, e16, e17, Exit.then]
  clear hu hcl ca0 ca3 ca4 e14 e16 e17 hall hr h hA A5 hD
  rename World => V5
  go_upto_region 10 with fail
  obtain ⟨-, hPs, hz1, hz2, hz4, hO1⟩ := HP.out
  have ca0 : ¬ 9223372036854775807 < 1 + N2.size := by omega
  have ca3 : ¬ 9223372036854775807 < 1 + N2.size + O.size := by omega
  have ca4 : ¬ 9223372036854775807 < 1 + N2.size + O.size + S.size := by omega
  clear hPs hz1 hz2 hz4 hO1
  obtain ⟨A6, hA⟩ : ∃ A : (Nat → Value) → Act, ∀ g, A g = { tmps := #[.string S, .int .u8 u, undef, undef, .bool false, .bool true, .int .u64 (S.size : Nat), .pointer (some ⟨v0.heap.size, 0, none⟩), .string ⟨#[]⟩, .int .i64 0, .pointer (some ⟨v1.heap.size, 0, none⟩), .string ⟨#[]⟩, .int .i64 0, .pointer (some ⟨v2.heap.size, 0, none⟩), .string ⟨#[109, 111, 114, 101]⟩, .int .i64 0, .pointer (some ⟨v3.heap.size, 0, none⟩), .string ⟨#[]⟩, .int .i64 0, .pointer (some ⟨b4, 0, none⟩), .string ⟨#[]⟩, .int .i64 0, .pointer (some ⟨b5, 0, none⟩), .string ⟨#[]⟩, .int .i64 0, g 25, g 26, g 27, undef, u29, u30, u31, u32, u33, u34, u35, u36, u37, u38, u39, u40, u41, u42, u43, u44, u45, u46, u47, u48, u49, u50, u51, u52, u53, u54, u55, u56, u57, u58, u59, u60, u61, u62, u63, u64, u65, u66, u67, u68, u69, u70, u71, u72, u73, u74, u75, u76, u77, u78, u79, u80, u81, u82, u83, u84, u85, u86, u87, u88, g5 89, g5 90, g5 91, g5 92, g5 93, g5 94, g5 95, g5 96, g5 97, g5 98, g5 99, g5 100, g5 101, g5 102, g 103, g 104, g 105, g 106, g 107, g 108, g 109, g 110, g 111, g 112, g 113, g 114, g 115, g 116, u117, u118, u119, u120, u121, u122, u123, u124, u125, u126, u127, u128, u129, u130, u131, u132, u133, u134, u135, u136, u137, u138, u139, u140, u141, u142, u143, u144, u145, u146, u147, u148, u149, u150, u151, u152, u153, u154, u155, u156, u157, u158, u159, u160, u161, u162, u163, u164, u165, u166, u167, u168, u169, u170, u171, u172, u173, u174, u175, u176, u177, u178, u179, u180, u181, u182, u183, u184, u185, u186, u187, u188, u189, u190, u191, u192, u193, u194, u195, u196, u197, u198, u199, u200, u201, u202, u203, u204, u205, u206, u207, u208, u209, u210, u211, u212, u213, u214, u215, u216, u217, u218], defers := [] } := ⟨_, fun _ => rfl⟩
  have hD : DInj [104, 105, 106, 107, 108, 109, 110, 111, 112, 113, 103, 114, 115, 116, 25, 0, 26, 27] := by unfold DInj; decide
  refine wp_region_any (by kernel_rfl) ?_
  refine wpAny_inv (fun listed a W => ∃ g, a = A6 g ∧ RInv [104, 105, 106, 107, 108, 109, 110, 111, 112, 113, 103, 114, 115, 116, 25, 0, 26, 27] u (FE S N2 O (⟨#[200]⟩ : ByteArray) u) (GE S u) V5 listed g W) ?step ?fin _ _ _ _ ⟨fun k => match k with | 103 => u103 | 104 => u104 | 105 => u105 | 106 => u106 | 107 => u107 | 108 => u108 | 109 => u109 | 110 => u110 | 111 => u111 | 112 => u112 | 113 => u113 | 114 => u114 | 115 => u115 | 116 => u116 | _ => undef, ?ie, RInv.ini (Below.refl _ _).drew⟩ (by unfold unl; exact Nat.le_trans (List.length_filter_le ..) (by simp))
  case ie =>
    rw [hA]
    rfl
  case step =>
    rintro listed a W i ⟨g, rfl, h⟩ hi
    have hi18 : i < 18 := by
      obtain ⟨_, o, ho, _⟩ := mem_ready.1 hi
      exact (Array.getElem?_eq_some_iff.1 ho).1
    clear HC0 HC1 HC2 HC3 HC4 HC5 HP HM
    rcases (show i = 0 ∨ i = 1 ∨ i = 2 ∨ i = 3 ∨ i = 4 ∨ i = 5 ∨ i = 6 ∨ i = 7 ∨ i = 8 ∨ i = 9 ∨ i = 10 ∨ i = 11 ∨ i = 12 ∨ i = 13 ∨ i = 14 ∨ i = 15 ∨ i = 16 ∨ i = 17 by omega) with rfl | rfl | rfl | rfl | rfl | rfl | rfl | rfl | rfl | rfl | rfl | rfl | rfl | rfl | rfl | rfl | rfl | rfl
    · refine wpOp_ofK rfl rfl fun K hK => ?_
      rw [hA]
      go_simp
      exact hK.out _ _ ⟨upd g 104 (.int .u64 (S.size : Nat)), by rw [hA]; first | done | simp [upd], h.put hD GE.up 0 (by decide) (by decide) (by decide) (by decide) (fun e => absurd e (by decide)) (Below.refl _ _) (.int .u64 (S.size : Nat)) rfl⟩
    · refine wpOp_ofK rfl rfl fun K hK => ?_
      have e0 : g 104 = .int .u64 (S.size : Nat) := (h.val 0 (by decide) (by decide) (by decide) (by decide) (ready_needs hi 0 (by kernel_rfl)))
      rw [hA]
      simp only [e0]
      go_simp
      refine (HN.out.2.1 _).mono ?_
      rintro e wn ⟨rfl, hu⟩
      exact hK.out _ _ ⟨upd g 105 (.string N2), by rw [hA]; first | done | simp [upd, e0], h.put hD GE.up 1 (by decide) (by decide) (by decide) (by decide) (fun e => absurd e (by decide)) hu (.string N2) rfl⟩
    · refine wpOp_ofK rfl rfl fun K hK => ?_
      have e1 : g 105 = .string N2 := (h.val 1 (by decide) (by decide) (by decide) (by decide) (ready_needs hi 1 (by kernel_rfl)))
      rw [hA]
      simp only [e1]
      go_simp
      exact hK.out _ _ ⟨upd g 106 (.string ((⟨#[200]⟩ : ByteArray) ++ N2)), by rw [hA]; first | done | simp [upd, e1], h.put hD GE.up 2 (by decide) (by decide) (by decide) (by decide) (fun e => absurd e (by decide)) (Below.refl _ _) (.string ((⟨#[200]⟩ : ByteArray) ++ N2)) rfl⟩
    · refine wpOp_ofK rfl rfl fun K hK => ?_
      rw [hA]
      go_simp
      exact hK.out _ _ ⟨upd g 107 (.int .u8 u), by rw [hA]; first | done | simp [upd], h.put hD GE.up 3 (by decide) (by decide) (by decide) (by decide) (fun e => absurd e (by decide)) (Below.refl _ _) (.int .u8 u) rfl⟩
    · refine wpOp_ofK rfl rfl fun K hK => ?_
      have e3 : g 107 = .int .u8 u := (h.val 3 (by decide) (by decide) (by decide) (by decide) (ready_needs hi 3 (by kernel_rfl)))
      rw [hA]
      simp only [e3]
      go_simp
      exact hK.out _ _ ⟨upd g 108 (.slice (some ⟨W.heap.size, 0, none⟩) 1 1), by rw [hA]; first | done | simp [upd, e3], h.byte hD GE.up⟩
    · refine wpOp_ofK rfl rfl fun K hK => ?_
      obtain ⟨bt, e4, hbt⟩ := h.tmp (ready_needs hi 4 (by kernel_rfl))
      change g 108 = _ at e4
      have hcv := HV.out W bt (hbt (h.un (by decide) (mem_ready.1 hi).1))
      rw [hA]
      simp only [e4]
      go_simp
      exact hK.out _ _ ⟨upd g 109 (.string O), by rw [hA]; first | done | simp [upd, e4], h.put hD GE.up 5 (by decide) (by decide) (by decide) (by decide) (fun e => absurd e (by decide)) (Below.refl _ _) (.string O) rfl⟩
    · refine wpOp_ofK rfl rfl fun K hK => ?_
      have e2 : g 106 = .string ((⟨#[200]⟩ : ByteArray) ++ N2) := (h.val 2 (by decide) (by decide) (by decide) (by decide) (ready_needs hi 2 (by kernel_rfl)))
      have e5 : g 109 = .string O := (h.val 5 (by decide) (by decide) (by decide) (by decide) (ready_needs hi 5 (by kernel_rfl)))
      rw [hA]
      simp only [e2, e5]
      go_simp
      exact hK.out _ _ ⟨upd g 110 (.string (((⟨#[200]⟩ : ByteArray) ++ N2) ++ O)), by rw [hA]; first | done | simp [upd, e2, e5], h.put hD GE.up 6 (by decide) (by decide) (by decide) (by decide) (fun _ => ready_needs hi 5 (by kernel_rfl)) (Below.refl _ _) (.string (((⟨#[200]⟩ : ByteArray) ++ N2) ++ O)) rfl⟩
    · refine wpOp_ofK rfl rfl fun K hK => ?_
      rw [hA]
      go_simp
      exact hK.out _ _ ⟨upd g 111 (.string S), by rw [hA]; first | done | simp [upd], h.put hD GE.up 7 (by decide) (by decide) (by decide) (by decide) (fun e => absurd e (by decide)) (Below.refl _ _) (.string S) rfl⟩
    · refine wpOp_ofK rfl rfl fun K hK => ?_
      have e6 : g 110 = .string (((⟨#[200]⟩ : ByteArray) ++ N2) ++ O) := (h.val 6 (by decide) (by decide) (by decide) (by decide) (ready_needs hi 6 (by kernel_rfl)))
      have e7 : g 111 = .string S := (h.val 7 (by decide) (by decide) (by decide) (by decide) (ready_needs hi 7 (by kernel_rfl)))
      rw [hA]
      simp only [e6, e7]
      go_simp
      exact hK.out _ _ ⟨upd g 112 (.string ((((⟨#[200]⟩ : ByteArray) ++ N2) ++ O) ++ S)), by rw [hA]; first | done | simp [upd, e6, e7], h.put hD GE.up 8 (by decide) (by decide) (by decide) (by decide) (fun _ => h.ch 6 (by decide) (ready_needs hi 6 (by kernel_rfl))) (Below.refl _ _) (.string ((((⟨#[200]⟩ : ByteArray) ++ N2) ++ O) ++ S)) rfl⟩
    · refine wpOp_ofK rfl rfl fun K hK => ?_
      have e8 : g 112 = .string ((((⟨#[200]⟩ : ByteArray) ++ N2) ++ O) ++ S) := (h.val 8 (by decide) (by decide) (by decide) (by decide) (ready_needs hi 8 (by kernel_rfl)))
      rw [hA]
      simp only [e8]
      go_simp
      refine (HI.out.2.2.2.2.2.2 W (HB.out.trans (h.bel.mono HB.out.size))).mono ?_
      rintro e wi ⟨hu, a, c, rfl⟩
      exact hK.out _ _ ⟨upd g 113 (.tuple #[exV u S a c, .string ⟨#[]⟩, .int .i64 0]), by rw [hA]; first | done | simp [upd, e8, ndV, ndL, Pay.z, exV], h.put hD GE.up 9 (by decide) (by decide) (by decide) (by decide) (fun _ => h.ch 8 (by decide) (ready_needs hi 8 (by kernel_rfl))) hu (.tuple #[exV u S a c, .string ⟨#[]⟩, .int .i64 0]) ⟨a, c, rfl⟩⟩
    · refine wpOp_ofK rfl rfl fun K hK => ?_
      obtain ⟨a, c, e9⟩ := (h.val 9 (by decide) (by decide) (by decide) (by decide) (ready_needs hi 9 (by kernel_rfl)))
      change g 113 = _ at e9
      rw [hA]
      simp only [e9]
      go_simp
      exact hK.out _ _ ⟨upd g 103 (.tuple #[exV u S a c, .string ⟨#[]⟩, .int .i64 0]), by rw [hA]; first | done | simp [upd, e9], h.put hD GE.up 10 (by decide) (by decide) (by decide) (by decide) (fun _ => h.ch 9 (by decide) (ready_needs hi 9 (by kernel_rfl))) (Below.refl _ _) (.tuple #[exV u S a c, .string ⟨#[]⟩, .int .i64 0]) ⟨a, c, rfl⟩⟩
    · refine wpOp_ofK rfl rfl fun K hK => ?_
      obtain ⟨a, c, e10⟩ := (h.val 10 (by decide) (by decide) (by decide) (by decide) (ready_needs hi 10 (by kernel_rfl)))
      change g 103 = _ at e10
      rw [hA]
      simp only [e10]
      go_simp
      exact hK.out _ _ ⟨upd g 114 (exV u S a c), by rw [hA]; first | done | simp [upd, e10], h.put hD GE.up 11 (by decide) (by decide) (by decide) (by decide) (fun _ => h.ch 10 (by decide) (ready_needs hi 10 (by kernel_rfl))) (Below.refl _ _) (exV u S a c) ⟨a, c, rfl⟩⟩
    · refine wpOp_ofK rfl rfl fun K hK => ?_
      obtain ⟨a, c, e10⟩ := (h.val 10 (by decide) (by decide) (by decide) (by decide) (ready_needs hi 10 (by kernel_rfl)))
      change g 103 = _ at e10
      rw [hA]
      simp only [e10]
      go_simp
      exact hK.out _ _ ⟨upd g 115 (.string ⟨#[]⟩), by rw [hA]; first | done | simp [upd, e10], h.put hD GE.up 12 (by decide) (by decide) (by decide) (by decide) (fun e => absurd e (by decide)) (Below.refl _ _) (.string ⟨#[]⟩) rfl⟩
    · refine wpOp_ofK rfl rfl fun K hK => ?_
      obtain ⟨a, c, e10⟩ := (h.val 10 (by decide) (by decide) (by decide) (by decide) (ready_needs hi 10 (by kernel_rfl)))
      change g 103 = _ at e10
      rw [hA]
      simp only [e10]
      go_simp
      exact hK.out _ _ ⟨upd g 116 (.int .i64 0), by rw [hA]; first | done | simp [upd, e10], h.put hD GE.up 13 (by decide) (by decide) (by decide) (by decide) (fun e => absurd e (by decide)) (Below.refl _ _) (.int .i64 0) rfl⟩
    · refine wpOp_ofK rfl rfl fun K hK => ?_
      rw [hA]
      go_simp
      exact hK.out _ _ ⟨upd g 25 (.pointer (some ⟨W.heap.size, 0, none⟩)), by rw [hA]; first | done | simp [upd], h.lay hD (h.un15 (mem_ready.1 hi).1)⟩
    · refine wpOp_ofK rfl rfl fun K hK => ?_
      obtain ⟨bb, e14, hbb, hcl, -⟩ := h.box (ready_needs hi 14 (by kernel_rfl))
      change g 25 = _ at e14
      have hcl := hcl (h.un (by decide) (mem_ready.1 hi).1)
      obtain ⟨a, c, e11⟩ := (h.val 11 (by decide) (by decide) (by decide) (by decide) (ready_needs hi 11 (by kernel_rfl)))
      change g 114 = _ at e11
      obtain ⟨x0, x1, x2, x3, x4, x5, x6, x7, x8⟩ := hcl.nine
      obtain ⟨f0, f1, f2, f3, f4, f5, f6, f7, f8⟩ := hcl.frozens
      rw [hA]
      simp only [e14, e11, exV]
      go_simp
      exact hK.out _ _ ⟨g, by rw [hA]; first | done | simp [e14, e11, exV], h.fill (p := { Pay.z with k := 11, u := u, s := S }) (sl := .slice a 0 c) (ready_needs hi 14 (by kernel_rfl)) (ready_needs hi 11 (by kernel_rfl)) e14 hbb ⟨a, c, hcl.putN⟩⟩
    · refine wpOp_ofK rfl rfl fun K hK => ?_
      have e12 : g 115 = .string ⟨#[]⟩ := (h.val 12 (by decide) (by decide) (by decide) (by decide) (ready_needs hi 12 (by kernel_rfl)))
      rw [hA]
      simp only [e12]
      go_simp
      exact hK.out _ _ ⟨upd g 26 (.string ⟨#[]⟩), by rw [hA]; first | done | simp [upd, e12], h.put hD GE.up 16 (by decide) (by decide) (by decide) (by decide) (fun e => absurd e (by decide)) (Below.refl _ _) (.string ⟨#[]⟩) rfl⟩
    · refine wpOp_ofK rfl rfl fun K hK => ?_
      have e13 : g 116 = .int .i64 0 := (h.val 13 (by decide) (by decide) (by decide) (by decide) (ready_needs hi 13 (by kernel_rfl)))
      rw [hA]
      simp only [e13]
      go_simp
      exact hK.out _ _ ⟨upd g 27 (.int .i64 0), by rw [hA]; first | done | simp [upd, e13], h.put hD GE.up 17 (by decide) (by decide) (by decide) (by decide) (fun e => absurd e (by decide)) (Below.refl _ _) (.int .i64 0) rfl⟩
  case fin =>
  rintro listed a W ⟨g6, rfl, h⟩ hr
  have hall := ready_done (by decide +kernel) h.sz hr
  have e16 : g6 26 = .string ⟨#[]⟩ := (h.val 16 (by decide) (by decide) (by decide) (by decide) (hall 16 (by decide)))
  have e17 : g6 27 = .int .i64 0 := (h.val 17 (by decide) (by decide) (by decide) (by decide) (hall 17 (by decide)))
  obtain ⟨b6, e14, -, -, hcl⟩ := h.box (hall 14 (by decide))
  change g6 25 = _ at e14
  obtain ⟨a6, c6, hcl⟩ := hcl (hall 15 (by decide))
  have hu := h.bel
  replace HB := hid (HB.out.trans (hu.mono HB.out.size))
  replace HC0 := hid (HC0.out.below hu)
  replace HC1 := hid (HC1.out.below hu)
  replace HC2 := hid (HC2.out.below hu)
  replace HC3 := hid (HC3.out.below hu)
  replace HC4 := hid (HC4.out.below hu)
  replace HC5 := hid (HC5.out.below hu)
  have HC6 := hid hcl
  rw [hA]
  simp only [e14, e16, e17, Exit.then]
  clear hu hcl ca0 ca3 ca4 e14 e16 e17 hall hr h hA A6 hD
  rename World => V6
  have y00 := HC0.out.cell 0 rfl
  have y01 := HC0.out.cell 1 rfl
  have y02 := HC0.out.cell 2 rfl
  have y03 := HC0.out.cell 3 rfl
  have y04 := HC0.out.cell 4 rfl
  have y05 := HC0.out.cell 5 rfl
  have y06 := HC0.out.cell 6 rfl
  have y07 := HC0.out.cell 7 rfl
  have y08 := HC0.out.cell 8 rfl
  have y10 := HC1.out.cell 0 rfl
  have y11 := HC1.out.cell 1 rfl
  have y12 := HC1.out.cell 2 rfl
  have y13 := HC1.out.cell 3 rfl
  have y14 := HC1.out.cell 4 rfl
  have y15 := HC1.out.cell 5 rfl
  have y16 := HC1.out.cell 6 rfl
  have y17 := HC1.out.cell 7 rfl
  have y18 := HC1.out.cell 8 rfl
  have y30 := HC3.out.cell 0 rfl
  have y31 := HC3.out.cell 1 rfl
  have y32 := HC3.out.cell 2 rfl
  have y33 := HC3.out.cell 3 rfl
  have y34 := HC3.out.cell 4 rfl
  have y35 := HC3.out.cell 5 rfl
  have y36 := HC3.out.cell 6 rfl
  have y37 := HC3.out.cell 7 rfl
  have y38 := HC3.out.cell 8 rfl
  have y50 := HC5.out.cell 0 rfl
  have y51 := HC5.out.cell 1 rfl
  have y52 := HC5.out.cell 2 rfl
  have y53 := HC5.out.cell 3 rfl
  have y54 := HC5.out.cell 4 rfl
  have y55 := HC5.out.cell 5 rfl
  have y56 := HC5.out.cell 6 rfl
  have y57 := HC5.out.cell 7 rfl
  have y58 := HC5.out.cell 8 rfl
  go_wp2_with fail
  refine (HM.out.1 _ _ _ _ _).mono ?_
  rintro e z0 ⟨rfl, hu⟩
  replace HB := hid (HB.out.trans (hu.mono HB.out.size))
  replace HC0 := hid (HC0.out.below hu)
  replace HC1 := hid (HC1.out.below hu)
  replace HC2 := hid (HC2.out.below hu)
  replace HC3 := hid (HC3.out.below hu)
  replace HC4 := hid (HC4.out.below hu)
  replace HC5 := hid (HC5.out.below hu)
  replace HC6 := hid (HC6.out.below hu)
  clear hu y00 y01 y02 y03 y04 y05 y06 y07 y08 y10 y11 y12 y13 y14 y15 y16 y17 y18 y30 y31 y32 y33 y34 y35 y36 y37 y38 y50 y51 y52 y53 y54 y55 y56 y57 y58
  have y00 := HC0.out.cell 0 rfl
  have y01 := HC0.out.cell 1 rfl
  have y02 := HC0.out.cell 2 rfl
  have y03 := HC0.out.cell 3 rfl
  have y04 := HC0.out.cell 4 rfl
  have y05 := HC0.out.cell 5 rfl
  have y06 := HC0.out.cell 6 rfl
  have y07 := HC0.out.cell 7 rfl
  have y08 := HC0.out.cell 8 rfl
  have y20 := HC2.out.cell 0 rfl
  have y21 := HC2.out.cell 1 rfl
  have y22 := HC2.out.cell 2 rfl
  have y23 := HC2.out.cell 3 rfl
  have y24 := HC2.out.cell 4 rfl
  have y25 := HC2.out.cell 5 rfl
  have y26 := HC2.out.cell 6 rfl
  have y27 := HC2.out.cell 7 rfl
  have y28 := HC2.out.cell 8 rfl
  go_wp2_with fail
  refine (HM.out.1 _ _ _ _ _).mono ?_
  rintro e z1 ⟨rfl, hu⟩
  replace HB := hid (HB.out.trans (hu.mono HB.out.size))
  replace HC0 := hid (HC0.out.below hu)
  replace HC1 := hid (HC1.out.below hu)
  replace HC2 := hid (HC2.out.below hu)
  replace HC3 := hid (HC3.out.below hu)
  replace HC4 := hid (HC4.out.below hu)
  replace HC5 := hid (HC5.out.below hu)
  replace HC6 := hid (HC6.out.below hu)
  clear hu y00 y01 y02 y03 y04 y05 y06 y07 y08 y20 y21 y22 y23 y24 y25 y26 y27 y28
  have y30 := HC3.out.cell 0 rfl
  have y31 := HC3.out.cell 1 rfl
  have y32 := HC3.out.cell 2 rfl
  have y33 := HC3.out.cell 3 rfl
  have y34 := HC3.out.cell 4 rfl
  have y35 := HC3.out.cell 5 rfl
  have y36 := HC3.out.cell 6 rfl
  have y37 := HC3.out.cell 7 rfl
  have y38 := HC3.out.cell 8 rfl
  have y40 := HC4.out.cell 0 rfl
  have y41 := HC4.out.cell 1 rfl
  have y42 := HC4.out.cell 2 rfl
  have y43 := HC4.out.cell 3 rfl
  have y44 := HC4.out.cell 4 rfl
  have y45 := HC4.out.cell 5 rfl
  have y46 := HC4.out.cell 6 rfl
  have y47 := HC4.out.cell 7 rfl
  have y48 := HC4.out.cell 8 rfl
  go_wp2_with fail
  refine (HM.out.2.1 _ _ _ _ _).mono ?_
  rintro e z2 ⟨rfl, hu⟩
  replace HB := hid (HB.out.trans (hu.mono HB.out.size))
  replace HC0 := hid (HC0.out.below hu)
  replace HC1 := hid (HC1.out.below hu)
  replace HC2 := hid (HC2.out.below hu)
  replace HC3 := hid (HC3.out.below hu)
  replace HC4 := hid (HC4.out.below hu)
  replace HC5 := hid (HC5.out.below hu)
  replace HC6 := hid (HC6.out.below hu)
  clear hu y30 y31 y32 y33 y34 y35 y36 y37 y38 y40 y41 y42 y43 y44 y45 y46 y47 y48
  have y50 := HC5.out.cell 0 rfl
  have y51 := HC5.out.cell 1 rfl
  have y52 := HC5.out.cell 2 rfl
  have y53 := HC5.out.cell 3 rfl
  have y54 := HC5.out.cell 4 rfl
  have y55 := HC5.out.cell 5 rfl
  have y56 := HC5.out.cell 6 rfl
  have y57 := HC5.out.cell 7 rfl
  have y58 := HC5.out.cell 8 rfl
  have y60 := HC6.out.cell 0 rfl
  have y61 := HC6.out.cell 1 rfl
  have y62 := HC6.out.cell 2 rfl
  have y63 := HC6.out.cell 3 rfl
  have y64 := HC6.out.cell 4 rfl
  have y65 := HC6.out.cell 5 rfl
  have y66 := HC6.out.cell 6 rfl
  have y67 := HC6.out.cell 7 rfl
  have y68 := HC6.out.cell 8 rfl
  go_wp2_with fail
  refine (HM.out.2.2 _ _ _ _ _).mono ?_
  rintro e z3 ⟨rfl, hu⟩
  replace HB := hid (HB.out.trans (hu.mono HB.out.size))
  replace HC0 := hid (HC0.out.below hu)
  replace HC1 := hid (HC1.out.below hu)
  replace HC2 := hid (HC2.out.below hu)
  replace HC3 := hid (HC3.out.below hu)
  replace HC4 := hid (HC4.out.below hu)
  replace HC5 := hid (HC5.out.below hu)
  replace HC6 := hid (HC6.out.below hu)
  clear hu y50 y51 y52 y53 y54 y55 y56 y57 y58 y60 y61 y62 y63 y64 y65 y66 y67 y68
  have HB1 := HB.out
  have y00 := HC0.out.cell 0 rfl
  have y30 := HC3.out.cell 0 rfl
  have y50 := HC5.out.cell 0 rfl
  go_wp2
  go_ret
  exact ⟨by first | rfl | simp, HB1⟩
end Go.Proofs.YtpjlepkdiaohiaaGreatDoor

