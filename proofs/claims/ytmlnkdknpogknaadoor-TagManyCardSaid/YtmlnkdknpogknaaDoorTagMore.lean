/-
  tag: THE TAG OF MORE OCTETS, and of octets.
-/
import Derived.Test.YtmlnkdknpogknaaDoorTagOnce
import Derived.Test.YtmlnkdknpogknaaDoorTagNat
import Derived.KernelRfl
import Derived.Outline
namespace Go.Proofs.YtmlnkdknpogknaaDoor.TagMore
open Go.RowKit Go.Proofs.YtmlnkdknpogknaaDoor.TagOnce

/-- A fresh table's cells. -/
def tz : Array Value := #[.int .u32 0, .int .i32 0, .int .u32 0] ++ Array.replicate 256 (.int .u32 0)
theorem zero_table (W : World) : (zeroValue 69).run Tryd.prog W = .ok (.agg tz) W := by kernel_rfl
theorem tz_low (j : Nat) : tz[j]? = if j < 3 then some (if j = 1 then .int .i32 0 else .int .u32 0) else if j < 259 then some (.int .u32 0) else none := by
  unfold tz
  rw [Array.getElem?_append]
  split
  · rename_i h
    simp at h
    rw [if_pos h]
    have : j = 0 ∨ j = 1 ∨ j = 2 := by omega
    rcases this with rfl | rfl | rfl <;> rfl
  · rename_i h
    simp at h
    rw [if_neg (by omega)]
    by_cases h2 : j < 259
    · simp [h2, Array.getElem?_replicate]; omega
    · simp [h2, Array.getElem?_replicate]; omega
theorem tz_cell (w : World) (j : Nat) : (w.alloc (.cells tz 69)).cell? ⟨w.heap.size, j, none⟩ = tz[j]? := World.cell?_alloc_at tz _ w.heap.size j rfl
theorem tz_free (w : World) (j : Nat) : (w.alloc (.cells tz 69)).frozen? ⟨w.heap.size, j, none⟩ = false := World.frozen?_alloc_at tz _ w.heap.size j rfl

theorem made_fresh (w : World) : Calls Tryd.prog 30 #[.pointer (some ⟨w.heap.size, 0, none⟩)] (w.alloc (.cells tz 69)) fun e w' =>
    e = .returned (.pointer (some ⟨w.heap.size, 3, none⟩)) ∧ Tabled w.heap.size (w.alloc (.cells tz 69)) w' :=
  made_any w.heap.size _ (by simp) (by rw [tz_cell, tz_low]; rfl) (by rw [tz_cell, tz_low]; rfl) (tz_free _ _) (tz_free _ _)
    (fun i hi => ⟨.int .u32 0, by rw [tz_cell, tz_low, if_neg (by omega), if_pos (by omega)]⟩) (fun i hi => tz_free _ _)

/-- The register behind the first k octets, as a number of the machine's. -/
def reg (t : Int) (s : ByteArray) (k : Nat) : Int := ((TagNat.run (TagNat.no t.toNat) ((s.data.toList.take k).map UInt8.toNat) : Nat) : Int)

theorem xor_u32 (a b : Nat) (ha : a < 2 ^ 32) (hb : b < 2 ^ 32) : Go.bits .xor .u32 (a : Int) (b : Int) = ((a ^^^ b : Nat) : Int) := by
  have h := Nat.xor_lt_two_pow ha hb
  have ha' : a % 2 ^ IntKind.u32.bits = a := Nat.mod_eq_of_lt ha
  have hb' : b % 2 ^ IntKind.u32.bits = b := Nat.mod_eq_of_lt hb
  simp only [Go.bits, BitVec.ofInt_natCast, BitVec.toNat_xor, BitVec.toNat_ofNat, ha', hb', IntKind.wrap_u32]
  omega
theorem xor_u8 (a b : Nat) (ha : a < 2 ^ 8) (hb : b < 2 ^ 8) : Go.bits .xor .u8 (a : Int) (b : Int) = ((a ^^^ b : Nat) : Int) := by
  have h := Nat.xor_lt_two_pow ha hb
  have ha' : a % 2 ^ IntKind.u8.bits = a := Nat.mod_eq_of_lt ha
  have hb' : b % 2 ^ IntKind.u8.bits = b := Nat.mod_eq_of_lt hb
  simp only [Go.bits, BitVec.ofInt_natCast, BitVec.toNat_xor, BitVec.toNat_ofNat, ha', hb', IntKind.wrap_u8]
  omega
theorem and1_u32 (a : Nat) (ha : a < 2 ^ 32) : Go.bits .and .u32 (a : Int) 1 = ((a % 2 : Nat) : Int) := by
  have ha' : a % 2 ^ IntKind.u32.bits = a := Nat.mod_eq_of_lt ha
  have h1' : 1 % 2 ^ IntKind.u32.bits = 1 := rfl
  have h : a &&& 1 = a % 2 := by rw [Nat.and_one_is_mod]
  rw [show (1 : Int) = ((1 : Nat) : Int) from rfl]
  simp only [Go.bits, BitVec.ofInt_natCast, BitVec.toNat_and, BitVec.toNat_ofNat, ha', h1', h, IntKind.wrap_u32]
  omega
theorem sh_nat (c : Nat) (hc : c < 2 ^ 32) : sh (c : Int) = ((TagNat.s c : Nat) : Int) := by
  unfold sh
  rw [and1_u32 c hc, show (c : Int) / 2 = ((c / 2 : Nat) : Int) by omega]
  unfold TagNat.s TagNat.pol
  have h2 : c % 2 = 0 ∨ c % 2 = 1 := by omega
  rcases h2 with h2 | h2
  · rw [h2, if_neg (by omega)]
    rw [show (2197175160 * ((0 : Nat) : Int)) % 4294967296 = ((0 : Nat) : Int) by omega, xor_u32 _ _ (by omega) (by omega), Nat.xor_zero]
  · rw [h2, if_pos rfl]
    rw [show (2197175160 * ((1 : Nat) : Int)) % 4294967296 = ((2197175160 : Nat) : Int) by omega, xor_u32 _ _ (by omega) (by omega)]
theorem it_nat (c : Nat) (hc : c < 2 ^ 32) : ∀ k, it k (c : Int) = ((TagNat.sN k c : Nat) : Int)
  | 0 => rfl
  | k + 1 => by
    rw [it, it_nat c hc k, sh_nat _ (TagNat.sN_lt k hc), TagNat.sN_last]
theorem tabv_nat (i : Nat) (hi : i < 256) : tabv i = ((TagNat.sN 8 i : Nat) : Int) := it_nat i (by omega) 8
theorem no_u32 (t : Int) (h0 : 0 ≤ t) (h1 : t < 4294967296) : Go.bits .xor .u32 IntKind.u32.max t = ((TagNat.no t.toNat : Nat) : Int) := by
  obtain ⟨n, rfl⟩ := Int.eq_ofNat_of_zero_le h0
  have hn : n < 2 ^ 32 := by omega
  rw [show IntKind.u32.max = ((4294967295 : Nat) : Int) from rfl, xor_u32 _ _ (by omega) hn, Int.toNat_natCast, TagNat.no_xor hn, Nat.xor_comm]

theorem xor_range (x y : Int) : 0 ≤ Go.bits .xor .u8 x y ∧ Go.bits .xor .u8 x y < 256 := by
  unfold Go.bits
  rw [IntKind.wrap_u8]
  omega
theorem bytes_lt (s : ByteArray) (k : Nat) : ∀ x ∈ (s.data.toList.take k).map UInt8.toNat, x < 256 := fun x hx => by
  obtain ⟨c, _, rfl⟩ := List.mem_map.1 hx
  exact c.toNat_lt
theorem reg_range (t : Int) (s : ByteArray) (k : Nat) : 0 ≤ reg t s k ∧ reg t s k < 4294967296 := by
  have := TagNat.run_lt ((s.data.toList.take k).map UInt8.toNat) (TagNat.no_lt t.toNat) (bytes_lt s k)
  unfold reg
  omega

theorem take_succ (s : ByteArray) (k : Nat) (h : k < s.size) : (s.data.toList.take (k + 1)).map UInt8.toNat = (s.data.toList.take k).map UInt8.toNat ++ [s[k].toNat] := by
  rw [List.take_succ_eq_append_getElem (by simpa using h), List.map_append]; rfl
theorem reg_step (t : Int) (s : ByteArray) (k : Nat) (h : k < s.size) :
    Go.bits .xor .u32 (tabv (Go.bits .xor .u8 (reg t s k % 256) (s[k].toNat : Int)).toNat) (reg t s k / 256) = reg t s (k + 1) := by
  have hb : s[k].toNat < 256 := s[k].toNat_lt
  have hR := TagNat.run_lt ((s.data.toList.take k).map UInt8.toNat) (TagNat.no_lt t.toNat) (bytes_lt s k)
  unfold reg
  rw [take_succ s k h, TagNat.run_append]
  generalize TagNat.run (TagNat.no t.toNat) ((s.data.toList.take k).map UInt8.toNat) = R at *
  rw [show ((R : Int) % 256) = ((R % 256 : Nat) : Int) by omega, show ((R : Int) / 256) = ((R / 256 : Nat) : Int) by omega, xor_u8 _ _ (by omega) hb, Int.toNat_natCast]
  have hx : R % 256 ^^^ s[k].toNat < 256 := Nat.xor_lt_two_pow (n := 8) (by omega) (by omega)
  rw [tabv_nat _ hx, xor_u32 _ _ (TagNat.sN_lt 8 (by omega)) (by omega), TagNat.by_table]
  rfl

theorem reg_done (t : Int) (s : ByteArray) : Go.bits .xor .u32 IntKind.u32.max (reg t s s.size) = ((TagNat.more t.toNat (s.data.toList.map UInt8.toNat) : Nat) : Int) := by
  rw [no_u32 _ (reg_range t s _).1 (reg_range t s _).2]
  unfold reg TagNat.more
  rw [Int.toNat_natCast, List.take_of_length_le (by simp)]
theorem _root_.Go.Proofs.YtmlnkdknpogknaaDoor.TagOnce.Tabled.drewN {b : Nat} {w w' : World} (h : Tabled b w w') (n : Nat) : Tabled b w (w'.drewN n) := ⟨⟨h.below.os, h.below.tape, h.below.output, h.below.size, h.below.block⟩, h.tab⟩

set_option maxRecDepth 100000 in
set_option maxHeartbeats 1600000 in
theorem more_any (t : Int) (s : ByteArray) (w : World) (h0 : 0 ≤ t) (h1 : t < 4294967296) (hs : s.size ≤ 9223372036854775807) :
    Calls Tryd.prog 21 #[.int .u32 t, .string s] w fun e w' => e = .returned (.int .u32 ((TagNat.more t.toNat (s.data.toList.map UInt8.toNat) : Nat) : Int)) ∧ Below w.heap.size w w' := by
  have hz := zero_table
  have C := made_fresh w
  go_enter Tryd.func21, Tryd.ntmps21
  go_wp2_with fail
  refine C.mono ?_
  rintro e w1 ⟨rfl, hT⟩
  have HT := hid hT
  clear hT C
  go_wp2
  go_loopw [7, 14] (fun c i wr => ∃ k : Nat, k ≤ s.size ∧ i = .int .i64 k ∧ c = .int .u32 (reg t s k) ∧ Tabled w.heap.size (w.alloc (.cells tz 69)) wr) (fun _ i _ => s.size - (intOf i).toNat)
  case atStart => exact ⟨0, by omega, rfl, congrArg (Value.int .u32) (no_u32 t h0 h1), HT.out⟩
  case round =>
    obtain ⟨k, hk, rfl, rfl, hT⟩ := hrel
    have HH := hid hT
    clear hT
    have hr0 := (reg_range t s k).1
    have hr1 := (reg_range t s k).2
    by_cases hlt : k < s.size
    · have hb1 : s[k].toNat < 256 := s[k].toNat_lt
      have hx0 : 0 ≤ Go.bits .xor .u8 (reg t s k % 256) (s[k].toNat : Int) := (xor_range _ _).1
      have hx1 : Go.bits .xor .u8 (reg t s k % 256) (s[k].toNat : Int) < 256 := (xor_range _ _).2
      have hcell : wr.cell? ⟨w.heap.size, 3 + (Go.bits .xor .u8 (reg t s k % 256) (s[k].toNat : Int)).toNat, none⟩ = some (.int .u32 (tabv (Go.bits .xor .u8 (reg t s k % 256) (s[k].toNat : Int)).toNat)) := HH.out.tab _ (by omega)
      go_wp2_with fail
      go_quiet (fail)
      clear hx0 hx1 hcell hb1
      go_wp2
      exact ⟨⟨k + 1, by omega, by go_num, congrArg (Value.int .u32) (reg_step t s k hlt), HH.out.drewN _⟩, by simp [intOf]; omega⟩
    · obtain rfl : k = s.size := by omega
      go_wp2
      go_ret
      exact ⟨congrArg (fun z => Ending.returned (Value.int .u32 z)) (reg_done t s), ((Below.refl _ _).alloc (Nat.le_refl _) _).trans HH.out.below⟩
end Go.Proofs.YtmlnkdknpogknaaDoor.TagMore
