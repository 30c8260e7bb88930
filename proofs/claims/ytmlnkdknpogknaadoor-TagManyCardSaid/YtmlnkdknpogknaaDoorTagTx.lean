/-
  layer 4: A TAG's TEXT, in plain words: eight digits, what is read off them, how many; and the printed functions' answers.
-/
import Derived.Test.YtmlnkdknpogknaaDoorPx3
import Derived.Test.YtmlnkdknpogknaaDoorDig
set_option linter.unusedVariables false
set_option linter.unusedSimpArgs false
namespace Go.Proofs.YtmlnkdknpogknaaDoor.TagTx
open Go.RowKit Go.Proofs.YtmlnkdknpogknaaDoor.P Go.Proofs.YtmlnkdknpogknaaDoorW.PrintWords Go.Proofs.YtmlnkdknpogknaaDoorW.PrintLast Go.Proofs.YtmlnkdknpogknaaDoorW.PrintMore Go.Proofs.YtmlnkdknpogknaaDoor.PureKit Go.Proofs.YtmlnkdknpogknaaDoor.Laid Go.Proofs.YtmlnkdknpogknaaDoor.Dig

theorem ev_succ {α : Type} {g : Nat → Option α} {r : α} (h : Ev (fun k => g (k + 1)) r) : Ev g r := ev_step (fun _ => rfl) h
theorem toList_oc {s t : ByteArray} : s.toList = t.toList ↔ oc s = oc t := by
  constructor
  · intro h
    rw [ByteArray.toList_eq, ByteArray.toList_eq] at h
    unfold oc
    rw [h]
  · intro h
    rw [oc_inj h]
theorem toList_nil {s : ByteArray} : s.toList = [] ↔ oc s = [] := by
  rw [ByteArray.toList_eq]
  simp [oc]
def ofL (l : List Nat) : ByteArray := strOfNums (l.map fun x => ((x : Nat) : Int))
theorem oc_ofL {l : List Nat} (h : ∀ x ∈ l, x < 256) : oc (ofL l) = l := nums_oc l h
theorem oc_take (s : ByteArray) (n : Nat) : oc (s.extract 0 n) = (oc s).take n := by rw [oc_extract]; simp
theorem oc_drop (s : ByteArray) (n : Nat) : oc (s.extract n s.size) = (oc s).drop n := by
  rw [oc_extract, List.take_of_length_le]
  rw [List.length_drop, oc_length]
  omega
theorem size_of {s : ByteArray} {l : List Nat} (h : oc s = l) : s.size = l.length := size_split h
/-! ### Base sixteen -/
def hx (d : Nat) : Nat := if d < 10 then 48 + d else 87 + d
def hexL (t : Nat) : List Nat := [hx (t / 268435456 % 16), hx (t / 16777216 % 16), hx (t / 1048576 % 16), hx (t / 65536 % 16), hx (t / 4096 % 16), hx (t / 256 % 16), hx (t / 16 % 16), hx (t % 16)]
theorem hexL_len (t : Nat) : (hexL t).length = 8 := rfl
theorem hx_inj {a b : Nat} (ha : a < 16) (hb : b < 16) (h : hx a = hx b) : a = b := by unfold hx at h; split at h <;> split at h <;> omega
theorem hx_45 {d : Nat} : hx d ≠ 45 := by unfold hx; split <;> omega
theorem hexL_45 (t : Nat) : 45 ∉ hexL t := by
  unfold hexL
  simp only [List.mem_cons, not_or, List.not_mem_nil, not_false_eq_true, and_true]
  exact ⟨fun h => hx_45 h.symm, fun h => hx_45 h.symm, fun h => hx_45 h.symm, fun h => hx_45 h.symm, fun h => hx_45 h.symm, fun h => hx_45 h.symm, fun h => hx_45 h.symm, fun h => hx_45 h.symm⟩
theorem hx_lt {d : Nat} (h : d < 16) : hx d < 256 := by unfold hx; split <;> omega
theorem hexL_lt (t : Nat) : ∀ x ∈ hexL t, x < 256 := by
  unfold hexL
  intro x hx'
  simp only [List.mem_cons, List.not_mem_nil, or_false] at hx'
  rcases hx' with rfl | rfl | rfl | rfl | rfl | rfl | rfl | rfl <;> exact hx_lt (Nat.mod_lt _ (by decide))
theorem hexL_inj {a b : Nat} (ha : a < 4294967296) (hb : b < 4294967296) (h : hexL a = hexL b) : a = b := by
  unfold hexL at h
  simp only [List.cons.injEq, and_true] at h
  obtain ⟨h1, h2, h3, h4, h5, h6, h7, h8⟩ := h
  have e1 := hx_inj (Nat.mod_lt _ (by decide)) (Nat.mod_lt _ (by decide)) h1
  have e2 := hx_inj (Nat.mod_lt _ (by decide)) (Nat.mod_lt _ (by decide)) h2
  have e3 := hx_inj (Nat.mod_lt _ (by decide)) (Nat.mod_lt _ (by decide)) h3
  have e4 := hx_inj (Nat.mod_lt _ (by decide)) (Nat.mod_lt _ (by decide)) h4
  have e5 := hx_inj (Nat.mod_lt _ (by decide)) (Nat.mod_lt _ (by decide)) h5
  have e6 := hx_inj (Nat.mod_lt _ (by decide)) (Nat.mod_lt _ (by decide)) h6
  have e7 := hx_inj (Nat.mod_lt _ (by decide)) (Nat.mod_lt _ (by decide)) h7
  have e8 := hx_inj (Nat.mod_lt _ (by decide)) (Nat.mod_lt _ (by decide)) h8
  omega
/-- A digit's value. -/
def val (c : Nat) : Option Nat := if 48 ≤ c ∧ c ≤ 57 then some (c - 48) else if 97 ≤ c ∧ c ≤ 102 then some (c - 87) else none
theorem val_hx {d : Nat} (h : d < 16) : val (hx d) = some d := by
  unfold val hx
  split
  · rw [if_pos (by omega)]; congr 1; omega
  · rw [if_neg (by omega), if_pos (by omega)]; congr 1; omega
theorem hx_val {c d : Nat} (h : val c = some d) : c = hx d ∧ d < 16 := by
  unfold val at h
  unfold hx
  split at h
  · obtain rfl := Option.some.inj h
    rw [if_pos (by omega)]
    omega
  · split at h
    · obtain rfl := Option.some.inj h
      rw [if_neg (by omega)]
      omega
    · cases h
def vals : Nat → List Nat → Option Nat
  | acc, [] => some acc
  | acc, c :: r => match val c with
    | some d => vals (16 * acc + d) r
    | none => none
theorem vals_hexL {t : Nat} (h : t < 4294967296) : vals 0 (hexL t) = some t := by
  unfold hexL
  simp only [vals, val_hx (Nat.mod_lt _ (show 0 < 16 by decide))]
  congr 1
  omega
theorem vals_some {l : List Nat} {t : Nat} (hl : l.length = 8) (h : vals 0 l = some t) : l = hexL t ∧ t < 4294967296 := by
  match l, hl with
  | [c0, c1, c2, c3, c4, c5, c6, c7], _ =>
    simp only [vals] at h
    cases h0 : val c0 with
    | none => simp [h0] at h
    | some d0 =>
      cases h1 : val c1 with
      | none => simp [h0, h1] at h
      | some d1 =>
        cases h2 : val c2 with
        | none => simp [h0, h1, h2] at h
        | some d2 =>
          cases h3 : val c3 with
          | none => simp [h0, h1, h2, h3] at h
          | some d3 =>
            cases h4 : val c4 with
            | none => simp [h0, h1, h2, h3, h4] at h
            | some d4 =>
              cases h5 : val c5 with
              | none => simp [h0, h1, h2, h3, h4, h5] at h
              | some d5 =>
                cases h6 : val c6 with
                | none => simp [h0, h1, h2, h3, h4, h5, h6] at h
                | some d6 =>
                  cases h7 : val c7 with
                  | none => simp [h0, h1, h2, h3, h4, h5, h6, h7] at h
                  | some d7 =>
                    simp only [h0, h1, h2, h3, h4, h5, h6, h7, Option.some.injEq] at h
                    obtain ⟨rfl, b0⟩ := hx_val h0
                    obtain ⟨rfl, b1⟩ := hx_val h1
                    obtain ⟨rfl, b2⟩ := hx_val h2
                    obtain ⟨rfl, b3⟩ := hx_val h3
                    obtain ⟨rfl, b4⟩ := hx_val h4
                    obtain ⟨rfl, b5⟩ := hx_val h5
                    obtain ⟨rfl, b6⟩ := hx_val h6
                    obtain ⟨rfl, b7⟩ := hx_val h7
                    clear h0 h1 h2 h3 h4 h5 h6 h7
                    constructor
                    · unfold hexL
                      have e0 : t / 268435456 % 16 = d0 := by omega
                      have e1 : t / 16777216 % 16 = d1 := by omega
                      have e2 : t / 1048576 % 16 = d2 := by omega
                      have e3 : t / 65536 % 16 = d3 := by omega
                      have e4 : t / 4096 % 16 = d4 := by omega
                      have e5 : t / 256 % 16 = d5 := by omega
                      have e6 : t / 16 % 16 = d6 := by omega
                      have e7 : t % 16 = d7 := by omega
                      rw [e0, e1, e2, e3, e4, e5, e6, e7]
                    · omega
/-- What eight digits are. -/
def parseT (l : List Nat) : Option Nat := if l.length = 8 then vals 0 l else none
theorem parseT_iff {l : List Nat} {t : Nat} : parseT l = some t ↔ l = hexL t ∧ t < 4294967296 := by
  unfold parseT
  constructor
  · intro h
    split at h
    · rename_i hl
      exact vals_some hl h
    · cases h
  · rintro ⟨rfl, h⟩
    rw [if_pos (hexL_len t), vals_hexL h]
theorem parseT_45 {l : List Nat} (h : 45 ∈ l) : parseT l = none := by
  cases hp : parseT l with
  | none => rfl
  | some t =>
    rw [(parseT_iff.1 hp).1] at h
    exact absurd h (hexL_45 t)
/-! ### The program's -/
theorem text_oc (t : Nat) : oc (⟨(TagText.text (t : Int)).toArray⟩ : ByteArray) = hexL t := by
  have hd : ∀ d : Nat, d < 16 → (TagText.dg d).toNat = hx d := by
    have : ∀ d : Fin 16, (TagText.dg d.val).toNat = hx d.val := by decide
    exact fun d h => this ⟨d, h⟩
  unfold oc TagText.text hexL
  simp only [List.map_map]
  show [(TagText.tx (t : Int) 0).toNat, (TagText.tx (t : Int) 1).toNat, (TagText.tx (t : Int) 2).toNat, (TagText.tx (t : Int) 3).toNat, (TagText.tx (t : Int) 4).toNat, (TagText.tx (t : Int) 5).toNat, (TagText.tx (t : Int) 6).toNat, (TagText.tx (t : Int) 7).toNat] = _
  unfold TagText.tx
  simp only [Int.toNat_natCast, hd _ (Nat.mod_lt _ (show 0 < 16 by decide))]
  simp
theorem text_is (t : Nat) (h : t < 4294967296) : tag_Text.f (t : Int) = some (ofL (hexL t)) := by
  unfold tag_Text.f
  rw [if_pos ⟨by omega, by omega⟩]
  congr 1
  apply oc_inj
  rw [text_oc, oc_ofL (hexL_lt t)]
theorem digit_at (c : Nat) (hc : c < 256) : strings_IndexByte.f (⟨#[48, 49, 50, 51, 52, 53, 54, 55, 56, 57, 97, 98, 99, 100, 101, 102]⟩ : ByteArray) (c : Int) = some (match val c with | some d => (d : Int) | none => -1) := by
  have : ∀ x : Fin 256, Lib.indexByte [48, 49, 50, 51, 52, 53, 54, 55, 56, 57, 97, 98, 99, 100, 101, 102] (x.val : Int).toNat.toUInt8 = (match val x.val with | some d => (d : Int) | none => -1) := by decide +kernel
  unfold strings_IndexByte.f stringslite_IndexByte.f
  rw [Option.bind_some]
  congr 1
  exact this ⟨c, hc⟩
theorem or_low (a d : Nat) (ha : a < 268435456) (hd : d < 16) : Go.bits .or .u32 (((a : Int) * 16) % 4294967296) ((d : Int) % 4294967296) = ((16 * a + d : Nat) : Int) := by
  have e1 : ((a : Int) * 16) % 4294967296 = ((16 * a : Nat) : Int) := by omega
  have e2 : (d : Int) % 4294967296 = (d : Int) := by omega
  rw [e1, e2]
  have h3 : (16 * a) ||| d = 16 * a + d := by
    have := Nat.two_pow_add_eq_or_of_lt (i := 4) (b := d) (by omega) a
    rw [show (2 : Nat) ^ 4 = 16 from rfl] at this
    exact this.symm
  have ha' : (16 * a) % 2 ^ IntKind.u32.bits = 16 * a := Nat.mod_eq_of_lt (by show 16 * a < 2 ^ 32; omega)
  have hd' : d % 2 ^ IntKind.u32.bits = d := Nat.mod_eq_of_lt (by show d < 2 ^ 32; omega)
  simp only [Go.bits, BitVec.ofInt_natCast, BitVec.toNat_or, BitVec.toNat_ofNat, ha', hd', h3, IntKind.wrap_u32]
  omega
end Go.Proofs.YtmlnkdknpogknaaDoor.TagTx
