/- Of texts of one length: the tags of four, of which each octet is the other three's together, are likewise. -/
import Derived.Test.YtmlnkdknpogknaaPureTag
namespace Go.Proofs.Ytmlnkdknpogknaa.Pure
open Go.RowKit Go.Proofs.Ytmlnkdknpogknaa.P Go.Proofs.YtmlnkdknpogknaaW.PrintWords Go.Proofs.YtmlnkdknpogknaaW.PrintLast Go.Proofs.YtmlnkdknpogknaaW.PrintMore Go.Proofs.Ytmlnkdknpogknaa.PureKit Go.Proofs.Ytmlnkdknpogknaa.PureTag
/-- Three texts' octets together. -/
def tri : List Nat → List Nat → List Nat → List Nat
  | x :: l, y :: m, z :: n => (x ^^^ y ^^^ z) :: tri l m n
  | _, _, _ => []
theorem run_tri : ∀ (l m n : List Nat) (a b c : Nat), l.length = m.length → l.length = n.length →
    TagNat.run (a ^^^ b ^^^ c) (tri l m n) = TagNat.run a l ^^^ TagNat.run b m ^^^ TagNat.run c n
  | [], [], [], a, b, c, _, _ => rfl
  | x :: l, y :: m, z :: n, a, b, c, h, h' => by
    show TagNat.run (TagNat.sN 8 (a ^^^ b ^^^ c ^^^ (x ^^^ y ^^^ z))) (tri l m n) = TagNat.run (TagNat.sN 8 (a ^^^ x)) l ^^^ TagNat.run (TagNat.sN 8 (b ^^^ y)) m ^^^ TagNat.run (TagNat.sN 8 (c ^^^ z)) n
    rw [← run_tri l m n _ _ _ (by simpa using h) (by simpa using h'), ← TagNat.sN_xor, ← TagNat.sN_xor]
    congr 2
    ac_rfl
  | [], _ :: _, _, _, _, _, h, _ => by simp at h
  | _ :: _, [], _, _, _, _, h, _ => by simp at h
  | [], [], _ :: _, _, _, _, _, h => by simp at h
  | _ :: _, _ :: _, [], _, _, _, _, h => by simp at h
theorem no_tri {a b c : Nat} (ha : a < 2 ^ 32) (hb : b < 2 ^ 32) (hc : c < 2 ^ 32) : TagNat.no (a ^^^ b ^^^ c) = TagNat.no a ^^^ TagNat.no b ^^^ TagNat.no c := by
  rw [TagNat.no_xor (Nat.xor_lt_two_pow (Nat.xor_lt_two_pow ha hb) hc), TagNat.no_xor ha, TagNat.no_xor hb, TagNat.no_xor hc]
  have : (4294967295 : Nat) = 4294967295 ^^^ 4294967295 ^^^ 4294967295 := by decide
  rw [show a ^^^ b ^^^ c ^^^ 4294967295 = a ^^^ b ^^^ c ^^^ (4294967295 ^^^ 4294967295 ^^^ 4294967295) by rw [← this]]
  ac_rfl
theorem more_tri (l m n : List Nat) (hl : ∀ x ∈ l, x < 256) (hm : ∀ x ∈ m, x < 256) (hn : ∀ x ∈ n, x < 256) (h : l.length = m.length) (h' : l.length = n.length) :
    TagNat.more 0 (tri l m n) = TagNat.more 0 l ^^^ TagNat.more 0 m ^^^ TagNat.more 0 n := by
  unfold TagNat.more
  rw [← no_tri (TagNat.run_lt l (TagNat.no_lt 0) hl) (TagNat.run_lt m (TagNat.no_lt 0) hm) (TagNat.run_lt n (TagNat.no_lt 0) hn), ← run_tri l m n _ _ _ h h']
  rfl
theorem tri_length : ∀ (l m n : List Nat), l.length = m.length → l.length = n.length → (tri l m n).length = l.length
  | [], [], [], _, _ => rfl
  | x :: l, y :: m, z :: n, h, h' => by simp [tri, tri_length l m n (by simpa using h) (by simpa using h')]
  | [], _ :: _, _, h, _ => by simp at h
  | _ :: _, [], _, h, _ => by simp at h
  | [], [], _ :: _, _, h => by simp at h
  | _ :: _, _ :: _, [], _, h => by simp at h
theorem tri_get : ∀ (l m n : List Nat) (i : Nat) (h1 : i < l.length) (h2 : i < m.length) (h3 : i < n.length), (tri l m n)[i]? = some (l[i] ^^^ m[i] ^^^ n[i])
  | x :: l, y :: m, z :: n, 0, _, _, _ => rfl
  | x :: l, y :: m, z :: n, i + 1, h1, h2, h3 => tri_get l m n i (by simpa using h1) (by simpa using h2) (by simpa using h3)
  | [], _, _, _, h, _, _ => by simp at h
  | _ :: _, [], _, _, _, h, _ => by simp at h
  | _ :: _, _ :: _, [], _, _, _, h => by simp at h
/-- What has been laid after i rounds. -/
def laid (L : List Nat) (i : Nat) : List Int := (L.take i).map (fun x => ((x : Nat) : Int)) ++ List.replicate (L.length - i) 0
theorem laid_set (L : List Nat) (i : Nat) (h : i < L.length) : (laid L i).set i ((L[i] : Nat) : Int) = laid L (i + 1) := by
  unfold laid
  rw [List.set_append, if_neg (by simp; omega)]
  simp only [List.length_map, List.length_take]
  rw [show i - min i L.length = 0 by omega, show L.length - i = (L.length - (i + 1)) + 1 by omega, List.replicate_succ, List.set_cons_zero, List.take_succ_eq_append_getElem h, List.map_append, List.append_assoc]
  rfl
theorem loop (a b c : ByteArray) (n : Nat) (ha : n ≤ a.size) (hb : n ≤ b.size) (hc : n ≤ c.size) (hn : n ≤ 4100) (L : List Nat) (hL : L = tri ((oc a).take n) ((oc b).take n) ((oc c).take n)) :
    ∀ (d i k : Nat), i + d = n → d < k → cellarerlaw04_TagSums.l0 k a b c (n : Int) (laid L i) (i : Int) = some true := by
  have hla : ((oc a).take n).length = n := by rw [List.length_take, oc_length]; omega
  have hlb : ((oc b).take n).length = n := by rw [List.length_take, oc_length]; omega
  have hlc : ((oc c).take n).length = n := by rw [List.length_take, oc_length]; omega
  have hLl : L.length = n := by rw [hL, tri_length _ _ _ (by omega) (by omega), hla]
  have hlt : ∀ (s : ByteArray), ∀ x ∈ (oc s).take n, x < 256 := fun s x hx => oc_lt s x (List.mem_of_mem_take hx)
  have hLt : ∀ x ∈ L, x < 256 := fun x hx => by
    obtain ⟨i, hi, rfl⟩ := List.getElem_of_mem hx
    have h3 := tri_get ((oc a).take n) ((oc b).take n) ((oc c).take n) i (by omega) (by omega) (by omega)
    rw [← hL, List.getElem?_eq_getElem hi] at h3
    injection h3 with h3
    rw [h3]
    exact Nat.xor_lt_two_pow (n := 8) (Nat.xor_lt_two_pow (n := 8) (hlt a _ (List.getElem_mem _)) (hlt b _ (List.getElem_mem _))) (hlt c _ (List.getElem_mem _))
  intro d
  induction d with
  | zero =>
    intro i k hi hk
    obtain ⟨k, rfl⟩ : ∃ m, k = m + 1 := ⟨k - 1, by omega⟩
    obtain rfl : i = n := by omega
    simp only [cellarerlaw04_TagSums.l0]
    have e : laid L i = L.map (fun x => ((x : Nat) : Int)) := by
      unfold laid
      rw [List.take_of_length_le (by omega), show L.length - i = 0 by omega]
      simp
    have hs : ∀ s : ByteArray, i ≤ s.size → oc (s.extract 0 i) = (oc s).take i := fun s h => by rw [oc_extract]; simp
    rw [if_neg (by omega), e, of_is _ (by rw [strOfNums_size]; simp; omega), nums_oc L hLt, Int.toNat_natCast]
    simp only [Option.bind_some]
    rw [if_pos (by omega), if_pos (by omega), of_is _ (by rw [ByteArray.size_extract]; omega), hs a ha]
    simp only [Option.bind_some]
    rw [if_pos (by omega), of_is _ (by rw [ByteArray.size_extract]; omega), hs b hb]
    simp only [Option.bind_some]
    rw [if_pos (by omega), of_is _ (by rw [ByteArray.size_extract]; omega), hs c hc]
    simp only [Option.bind_some]
    rw [TagMore.xor_u32 _ _ (more_lt _ _) (more_lt _ _), TagMore.xor_u32 _ _ (Nat.xor_lt_two_pow (more_lt _ _) (more_lt _ _)) (more_lt _ _), hL, more_tri _ _ _ (hlt a) (hlt b) (hlt c) (by omega) (by omega), if_pos rfl, awake_is]
    rfl
  | succ d ih =>
    intro i k hi hk
    obtain ⟨k, rfl⟩ : ∃ m, k = m + 1 := ⟨k - 1, by omega⟩
    have ll : (laid L i).length = n := by unfold laid; simp; omega
    simp only [cellarerlaw04_TagSums.l0]
    rw [if_pos (by omega), if_pos (by omega), if_pos (by omega), if_pos (by omega), if_pos (by omega), if_pos (by omega)]
    rw [Int.toNat_natCast, bt_at_nat a i (by omega), bt_at_nat b i (by omega), bt_at_nat c i (by omega)]
    have h8 : ∀ (s : ByteArray) (h : i < (oc s).length), (oc s)[i] < 2 ^ 8 := fun s h => oc_lt s _ (List.getElem_mem h)
    rw [TagMore.xor_u8 _ _ (h8 a _) (h8 b _), TagMore.xor_u8 _ _ (Nat.xor_lt_two_pow (h8 a _) (h8 b _)) (h8 c _)]
    have h3 := tri_get ((oc a).take n) ((oc b).take n) ((oc c).take n) i (by omega) (by omega) (by omega)
    rw [← hL, List.getElem?_eq_getElem (by omega)] at h3
    injection h3 with h3
    simp only [List.getElem_take] at h3
    rw [← h3, laid_set L i (by omega), wrap_id (by omega) (by omega), show ((i : Int) + 1) = ((i + 1 : Nat) : Int) by omega]
    exact ih (i + 1) k (by omega) (by omega)
theorem TagSums : cellarerlaw04_TagSums.Pure := by
  intro a b c _ _ _
  obtain ⟨a, ha, hal⟩ := few a
  obtain ⟨b, hb, hbl⟩ := few b
  obtain ⟨c, hc, hcl⟩ := few c
  apply Ev.rounds
  unfold cellarerlaw04_TagSums.f
  refine ev_bind ha ?_
  refine ev_bind hb ?_
  refine ev_bind hc ?_
  have e : mn (mn (a.size : Int) (b.size : Int)) (c.size : Int) = ((min (min a.size b.size) c.size : Nat) : Int) := by
    unfold mn
    split <;> split <;> omega
  rw [e]
  have h1 : min (min a.size b.size) c.size ≤ a.size := by omega
  have h2 : min (min a.size b.size) c.size ≤ b.size := by omega
  have h3 : min (min a.size b.size) c.size ≤ c.size := by omega
  generalize min (min a.size b.size) c.size = n at *
  refine ev_pos (by omega) ?_
  rw [Int.toNat_natCast]
  refine ev_pos (by omega) ?_
  refine ⟨n + 1, fun k hk => ?_⟩
  have := loop a b c n h1 h2 h3 (by omega) _ rfl n 0 k (by omega) (by omega)
  have hl : (tri ((oc a).take n) ((oc b).take n) ((oc c).take n)).length = n := by
    rw [tri_length] <;> simp [oc_length] <;> omega
  have e0 : laid (tri ((oc a).take n) ((oc b).take n) ((oc c).take n)) 0 = List.replicate n 0 := by
    unfold laid
    rw [hl]
    simp
  rw [e0] at this
  exact this
end Go.Proofs.Ytmlnkdknpogknaa.Pure
