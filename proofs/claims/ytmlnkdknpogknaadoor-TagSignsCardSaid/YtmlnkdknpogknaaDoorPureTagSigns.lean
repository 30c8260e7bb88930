/- Every tag's text: eight octets, parsed and read as it was; two tags' texts stand in their order. -/
import Derived.Test.YtmlnkdknpogknaaDoorTagPure
import Derived.Test.YtmlnkdknpogknaaDoorPx3
import Derived.Test.YtmlnkdknpogknaaDoorPxOpens
set_option linter.unusedVariables false
set_option linter.unusedSimpArgs false
namespace Go.Proofs.YtmlnkdknpogknaaDoor.Pure
open Go.RowKit Go.Proofs.YtmlnkdknpogknaaDoor.P Go.Proofs.YtmlnkdknpogknaaDoorW.PrintWords Go.Proofs.YtmlnkdknpogknaaDoorW.PrintLast Go.Proofs.YtmlnkdknpogknaaDoorW.PrintMore Go.Proofs.YtmlnkdknpogknaaDoor.PureKit Go.Proofs.YtmlnkdknpogknaaDoor.Laid Go.Proofs.YtmlnkdknpogknaaDoor.Dig Go.Proofs.YtmlnkdknpogknaaDoor.TagTx Go.Proofs.YtmlnkdknpogknaaDoor.TagPure

def lessN : List Nat → List Nat → Bool
  | _, [] => false
  | [], _ :: _ => true
  | a :: x, b :: y => decide (a < b) || (a == b && lessN x y)
theorem less_nat : ∀ x y : List UInt8, Op.bytesLess x y = lessN (x.map UInt8.toNat) (y.map UInt8.toNat)
  | x, [] => by cases x <;> rfl
  | [], _ :: _ => rfl
  | a :: x, b :: y => by
    have ih := less_nat x y
    simp only [Op.bytesLess, List.map_cons, lessN, ih]
    congr 1
    · congr 1
      rw [Bool.eq_iff_iff, beq_iff_eq, beq_iff_eq]
      exact UInt8.toNat_inj.symm
theorem hx_lt_iff {a b : Nat} (ha : a < 16) (hb : b < 16) : hx a < hx b ↔ a < b := by unfold hx; split <;> split <;> omega
theorem hx_eq_iff {a b : Nat} (ha : a < 16) (hb : b < 16) : hx a = hx b ↔ a = b := ⟨hx_inj ha hb, fun h => by rw [h]⟩
def digs : Nat → Nat → List Nat
  | 0, _ => []
  | k + 1, t => hx (t / 16 ^ k % 16) :: digs k t
theorem lex (q a b d e : Nat) (ha : a < q) (hb : b < q) : a + q * d < b + q * e ↔ d < e ∨ (d = e ∧ a < b) := by
  rcases Nat.lt_trichotomy d e with h | h | h
  · have : q * (d + 1) ≤ q * e := Nat.mul_le_mul_left q h
    rw [Nat.mul_add] at this
    constructor
    · exact fun _ => .inl h
    · intro _; omega
  · subst h
    constructor
    · intro h; exact .inr ⟨rfl, by omega⟩
    · rintro (h | h) <;> omega
  · have : q * (e + 1) ≤ q * d := Nat.mul_le_mul_left q h
    rw [Nat.mul_add] at this
    constructor
    · intro _; omega
    · rintro (h | h) <;> omega
theorem digs_less (a b : Nat) : ∀ k, lessN (digs k a) (digs k b) = decide (a % 16 ^ k < b % 16 ^ k)
  | 0 => by simp [digs, lessN, Nat.mod_one]
  | k + 1 => by
    have hp : 0 < 16 ^ k := Nat.pow_pos (by decide)
    rw [Nat.pow_succ, Nat.mod_mul, Nat.mod_mul]
    simp only [digs, lessN, digs_less a b k]
    rw [Bool.eq_iff_iff]
    simp only [Bool.or_eq_true, Bool.and_eq_true, decide_eq_true_eq, beq_iff_eq]
    rw [hx_lt_iff (Nat.mod_lt _ (by decide)) (Nat.mod_lt _ (by decide)), hx_eq_iff (Nat.mod_lt _ (by decide)) (Nat.mod_lt _ (by decide)), lex _ _ _ _ _ (Nat.mod_lt _ hp) (Nat.mod_lt _ hp)]
theorem hexL_digs (t : Nat) : hexL t = digs 8 t := by
  simp [digs, hexL]
theorem less_hex {a b : Nat} (ha : a < 4294967296) (hb : b < 4294967296) : Op.bytesLess (ofL (hexL a)).toList (ofL (hexL b)).toList = decide (a < b) := by
  rw [ByteArray.toList_eq, ByteArray.toList_eq, less_nat]
  show lessN (oc (ofL (hexL a))) (oc (ofL (hexL b))) = _
  rw [oc_ofL (hexL_lt a), oc_ofL (hexL_lt b), hexL_digs, hexL_digs, digs_less, Nat.mod_eq_of_lt (show a < 16 ^ 8 from ha), Nat.mod_eq_of_lt (show b < 16 ^ 8 from hb)]
theorem TagSigns : cellarerlaw04_TagSigns.Pure := by
  intro a b ha hb
  have ha := wf_u32 ha
  have hb := wf_u32 hb
  obtain ⟨a, rfl⟩ := Int.eq_ofNat_of_zero_le ha.1
  obtain ⟨b, rfl⟩ := Int.eq_ofNat_of_zero_le hb.1
  have ha' : a < 4294967296 := by omega
  have hb' : b < 4294967296 := by omega
  have hz := size_of (oc_ofL (hexL_lt a))
  rw [hexL_len] at hz
  have hp := parse_is (ofL (hexL a))
  rw [oc_ofL (hexL_lt a), parseT_iff.2 ⟨rfl, ha'⟩] at hp
  have hr := read_yes (ofL (hexL a)) (by omega) (t := a) (n := 0) ⟨ha', .inl ⟨rfl, oc_ofL (hexL_lt a)⟩⟩
  apply Ev.rounds
  unfold cellarerlaw04_TagSigns.f
  refine ev_is (text_is a ha') (ev_is (text_is b hb') (ev_bind hp (ev_bind hr (ev_pos (by omega) (ev_pos rfl (ev_pos rfl (ev_pos rfl (ev_pos rfl (ev_pos rfl (ev_pos ?_ (ev_is awake_is (ev_now _))))))))))))
  rw [less_hex ha' hb', beq_iff_eq]
  congr 1
  exact propext (by omega)
end Go.Proofs.YtmlnkdknpogknaaDoor.Pure
