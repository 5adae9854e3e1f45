/- Plain facts on rows of bits and the numbers that hold them; no program here. -/
import Derived.Laws.BitsAllLaws
import Derived.Laws.BitsLemmas
namespace Go.Proofs.Ytkgabbenmoocgaa
set_option linter.unusedSimpArgs false
set_option linter.unusedVariables false
set_option linter.unnecessarySimpa false
/-- The number that holds a row of bits, the first bit the least. -/
def pack : List Bool → Nat
  | [] => 0
  | b :: l => b.toNat + 2 * pack l
/-- The first bits of a number. -/
def unpack (b n : Nat) : List Bool := (List.range n).map b.testBit
theorem pack_lt (l : List Bool) : pack l < 2 ^ l.length := by
  induction l with
  | nil => simp [pack]
  | cons b l ih =>
    simp only [pack, List.length_cons, Nat.pow_succ]
    cases b <;> simp <;> omega
theorem pack_lt64 {l : List Bool} (h : l.length ≤ 64) : pack l < 2 ^ 64 := Nat.lt_of_lt_of_le (pack_lt l) (Nat.pow_le_pow_right (by omega) h)
theorem pack_append (a b : List Bool) : pack (a ++ b) = pack a + 2 ^ a.length * pack b := by
  induction a with
  | nil => simp [pack]
  | cons x a ih => simp only [List.cons_append, pack, List.length_cons, ih, Nat.pow_succ, Nat.mul_add]; rw [Nat.mul_comm (2 ^ a.length) 2, ← Nat.mul_assoc]; omega
theorem testBit_pack (l : List Bool) (i : Nat) : (pack l).testBit i = l.getD i false := by
  induction l generalizing i with
  | nil => simp [pack]
  | cons b l ih =>
    cases i with
    | zero => cases b <;> simp [pack, Nat.testBit_zero]
    | succ i =>
      rw [Nat.testBit_succ, show (pack (b :: l)) / 2 = pack l by cases b <;> simp [pack]; omega, ih]; simp
theorem pack_mod (l : List Bool) (k : Nat) : pack l % 2 ^ k = pack (l.take k) := by
  rcases Nat.lt_or_ge k l.length with h | h
  · have e := pack_append (l.take k) (l.drop k)
    rw [List.take_append_drop, List.length_take, Nat.min_eq_left (Nat.le_of_lt h)] at e
    have hl := pack_lt (l.take k)
    rw [List.length_take, Nat.min_eq_left (Nat.le_of_lt h)] at hl
    rw [e, Nat.add_mul_mod_self_left, Nat.mod_eq_of_lt hl]
  · rw [List.take_of_length_le h, Nat.mod_eq_of_lt (Nat.lt_of_lt_of_le (pack_lt l) (Nat.pow_le_pow_right (by omega) h))]
theorem pack_div (l : List Bool) (k : Nat) : pack l / 2 ^ k = pack (l.drop k) := by
  rcases Nat.lt_or_ge k l.length with h | h
  · have e := pack_append (l.take k) (l.drop k)
    rw [List.take_append_drop, List.length_take, Nat.min_eq_left (Nat.le_of_lt h)] at e
    have hl := pack_lt (l.take k)
    rw [List.length_take, Nat.min_eq_left (Nat.le_of_lt h)] at hl
    rw [e, Nat.add_mul_div_left _ _ (Nat.two_pow_pos k), Nat.div_eq_of_lt hl, Nat.zero_add]
  · rw [List.drop_of_length_le h, Nat.div_eq_of_lt (Nat.lt_of_lt_of_le (pack_lt l) (Nat.pow_le_pow_right (by omega) h))]; rfl
theorem unpack_length (b n : Nat) : (unpack b n).length = n := by simp [unpack]
theorem pack_unpack (b n : Nat) (h : b < 2 ^ n) : pack (unpack b n) = b := by
  apply Nat.eq_of_testBit_eq
  intro i
  rw [testBit_pack]
  unfold unpack
  rcases Nat.lt_or_ge i n with hi | hi
  · simp [List.getD_eq_getElem?_getD, List.getElem?_map, List.getElem?_range hi]
  · rw [List.getD_eq_getElem?_getD, List.getElem?_eq_none (by simpa using hi)]
    rw [Nat.testBit_lt_two_pow (Nat.lt_of_lt_of_le h (Nat.pow_le_pow_right (by omega) hi))]; rfl
theorem pack_inj {a b : List Bool} (hl : a.length = b.length) (h : pack a = pack b) : a = b := by
  apply List.ext_getElem hl
  intro i h1 h2
  have := congrArg (·.testBit i) h
  simp only [testBit_pack] at this
  simpa [List.getD_eq_getElem?_getD, h1, h2] using this
/-- The bits that are 1 in a row's number. -/
theorem wrap_u64 {x : Int} (a : 0 ≤ x) (b : x < 18446744073709551616) : IntKind.u64.wrap x = x := by
  simp [IntKind.wrap, IntKind.bits, IntKind.signed]; omega
theorem wrap_first (n : Nat) (h : n < 64) : IntKind.u64.wrap (IntKind.u64.wrap (2 ^ n) - 1) = ((2 ^ n - 1 : Nat) : Int) := by
  have h1 : (2:Nat) ^ n ≤ 2 ^ 63 := Nat.pow_le_pow_right (by omega) (by omega)
  have h0 : 1 ≤ (2:Nat) ^ n := Nat.one_le_two_pow
  have h2 : ((2:Int) ^ n) = ((2 ^ n : Nat) : Int) := by simp
  rw [h2, wrap_u64 (x := ((2 ^ n : Nat) : Int)) (by omega) (by omega), wrap_u64 (by omega) (by omega)]; omega
theorem andNot_first (b n : Nat) (hb : b < 2 ^ 64) (hn : n ≤ 64) : Go.bits .andNot .u64 (b : Int) ((2 ^ n - 1 : Nat) : Int) = ((b - b % 2 ^ n : Nat) : Int) := by
  have h1 : (2:Nat) ^ n ≤ 2 ^ 64 := Nat.pow_le_pow_right (by omega) (by omega)
  have h0 : 1 ≤ (2:Nat) ^ n := Nat.one_le_two_pow
  rw [u64_andNot_nat _ _ (by omega) (by omega)]
  congr 1
  apply Nat.eq_of_testBit_eq
  intro i
  have e : b - b % 2 ^ n = (b >>> n) <<< n := by
    rw [Nat.shiftRight_eq_div_pow, Nat.shiftLeft_eq]
    have := Nat.div_add_mod b (2 ^ n); rw [Nat.mul_comm] at this; omega
  have e2 : 18446744073709551615 - (2 ^ n - 1) = (2 ^ (64 - n) - 1) <<< n := by
    rw [Nat.shiftLeft_eq, Nat.sub_mul, ← Nat.pow_add, show 64 - n + n = 64 by omega]; omega
  rw [e, e2, Nat.testBit_and, Nat.testBit_shiftLeft, Nat.testBit_shiftLeft, Nat.testBit_shiftRight, Nat.testBit_two_pow_sub_one]
  by_cases h : n ≤ i
  · simp only [ge_iff_le, h, decide_true, Bool.true_and, show n + (i - n) = i by omega]
    by_cases h2 : i < 64
    · simp [show i - n < 64 - n by omega]
    · rw [Nat.testBit_lt_two_pow (Nat.lt_of_lt_of_le hb (Nat.pow_le_pow_right (by omega) (by omega)))]; simp
  · simp [h]
theorem and_first (b n : Nat) (hb : b < 2 ^ 64) (hn : n ≤ 64) : Go.bits .and .u64 (b : Int) ((2 ^ n - 1 : Nat) : Int) = ((b % 2 ^ n : Nat) : Int) := by
  have h1 : (2:Nat) ^ n ≤ 2 ^ 64 := Nat.pow_le_pow_right (by omega) (by omega)
  have h0 : 1 ≤ (2:Nat) ^ n := Nat.one_le_two_pow
  rw [u64_and_nat _ _ (by omega) (by omega), Nat.and_two_pow_sub_one_eq_mod]
theorem or_shift (x y n : Nat) (hx : x < 2 ^ n) (hn : x + 2 ^ n * y < 2 ^ 64) : Go.bits .or .u64 (x : Int) ((2 ^ n * y : Nat) : Int) = ((x + 2 ^ n * y : Nat) : Int) := by
  rw [u64_or_nat _ _ (by omega) (by omega)]
  congr 1
  rw [Nat.or_comm, ← Nat.two_pow_add_eq_or_of_lt hx, Nat.add_comm]
/-- Digits. -/
def val (B : Nat) : List Nat → Nat
  | [] => 0
  | d :: l => d + B * val B l
def pairUp : List Nat → List Nat
  | a :: b :: l => (a + b) :: pairUp l
  | l => l
/-- n digits of w bits that are all 1, a digit of w bits 0 behind each. -/
def msk (w : Nat) : Nat → Nat
  | 0 => 0
  | n + 1 => (2 ^ w - 1) + 2 ^ w * (2 ^ w * msk w n)
theorem and_split (a b x y w : Nat) (ha : a < 2 ^ w) (hb : b < 2 ^ w) : (a + 2 ^ w * x) &&& (b + 2 ^ w * y) = (a &&& b) + 2 ^ w * (x &&& y) := by
  have hab : a &&& b < 2 ^ w := Nat.and_lt_two_pow _ hb
  rw [Nat.add_comm a, Nat.add_comm b, Nat.add_comm (a &&& b), Nat.two_pow_add_eq_or_of_lt ha, Nat.two_pow_add_eq_or_of_lt hb, Nat.two_pow_add_eq_or_of_lt hab]
  apply Nat.eq_of_testBit_eq
  intro i
  simp only [Nat.testBit_and, Nat.testBit_or, Nat.testBit_two_pow_mul]
  rcases Nat.lt_or_ge i w with h | h
  · simp [show ¬ w ≤ i by omega]
  · rw [Nat.testBit_lt_two_pow (Nat.lt_of_lt_of_le ha (Nat.pow_le_pow_right (by omega) h)), Nat.testBit_lt_two_pow (Nat.lt_of_lt_of_le hb (Nat.pow_le_pow_right (by omega) h))]
    simp [h]
theorem swar_low (w : Nat) : ∀ (n : Nat) (l : List Nat), l.length = 2 * n → (∀ d ∈ l, d < 2 ^ w) →
    (val (2 ^ w) l &&& msk w n) + (val (2 ^ w) l / 2 ^ w &&& msk w n) = val (2 ^ w * 2 ^ w) (pairUp l)
  | 0, l, h, _ => by
    obtain rfl : l = [] := by simpa using h
    simp [val, pairUp, msk]
  | n + 1, l, h, hd => by
    match l, h with
    | a :: b :: l, h =>
      have ha := hd a (by simp)
      have hb := hd b (by simp)
      have ih := swar_low w n l (by simp at h; omega) (fun d hm => hd d (by simp [hm]))
      have hp : 0 < 2 ^ w := Nat.two_pow_pos w
      have hm : (2 ^ w - 1) < 2 ^ w := by omega
      have e1 : ∀ x, x < 2 ^ w → x &&& (2 ^ w - 1) = x := fun x hx => by rw [Nat.and_two_pow_sub_one_eq_mod, Nat.mod_eq_of_lt hx]
      have e2 : val (2 ^ w) l = val (2 ^ w) l % 2 ^ w + 2 ^ w * (val (2 ^ w) l / 2 ^ w) := (Nat.mod_add_div _ _).symm
      simp only [val, pairUp, msk]
      rw [Nat.add_mul_div_left _ _ hp, Nat.div_eq_of_lt ha, Nat.zero_add, and_split a _ _ _ w ha hm, e1 a ha,
        and_split b _ _ _ w hb hm, e1 b hb]
      have e3 : b + 2 ^ w * val (2 ^ w) l &&& 2 ^ w * msk w n = 2 ^ w * (val (2 ^ w) l &&& msk w n) := by
        have := and_split b 0 (val (2 ^ w) l) (msk w n) w hb hp
        simpa using this
      have e4 : val (2 ^ w) l &&& 2 ^ w * msk w n = 2 ^ w * (val (2 ^ w) l / 2 ^ w &&& msk w n) := by
        have := and_split (val (2 ^ w) l % 2 ^ w) 0 (val (2 ^ w) l / 2 ^ w) (msk w n) w (Nat.mod_lt _ hp) hp
        rw [← e2] at this
        simpa using this
      rw [e3, e4, ← ih]
      simp only [Nat.mul_add, Nat.mul_assoc]; omega
theorem pairUp_sum : ∀ l : List Nat, (pairUp l).sum = l.sum
  | [] => rfl
  | [_] => rfl
  | a :: b :: l => by simp [pairUp, pairUp_sum l, Nat.add_assoc]
theorem pairUp_length : ∀ (n : Nat) (l : List Nat), l.length = 2 * n → (pairUp l).length = n
  | 0, l, h => by obtain rfl : l = [] := by simpa using h
                  rfl
  | n + 1, l, h => by
    match l, h with
    | a :: b :: l, h => simp [pairUp, pairUp_length n l (by simp at h; omega)]
theorem pairUp_le (m : Nat) : ∀ l : List Nat, (∀ d ∈ l, d ≤ m) → ∀ d ∈ pairUp l, d ≤ 2 * m
  | [], _ => by simp [pairUp]
  | [a], h => by intro d hd; have := h a (by simp); simp [pairUp] at hd; omega
  | a :: b :: l, h => by
    intro d hd
    simp only [pairUp, List.mem_cons] at hd
    rcases hd with rfl | hd
    · have := h a (by simp); have := h b (by simp); omega
    · exact pairUp_le m l (fun d hm => h d (by simp [hm])) d hd
theorem val_pack (l : List Bool) : val 2 (l.map Bool.toNat) = pack l := by
  induction l with
  | nil => rfl
  | cons b l ih => simp [val, pack, ih]
theorem swar_add : ∀ (n : Nat) (l : List Nat), l.length = 2 * n → (∀ d ∈ l, d ≤ 7) → (val 16 l / 16 + val 16 l) &&& msk 4 n = val 256 (pairUp l)
  | 0, l, h, _ => by
    obtain rfl : l = [] := by simpa using h
    simp [val, pairUp, msk]
  | n + 1, l, h, hd => by
    match l, h with
    | a :: b :: l, h =>
      have ha := hd a (by simp)
      have hb := hd b (by simp)
      have ih := swar_add n l (by simp at h; omega) (fun d hm => hd d (by simp [hm]))
      have hv : val 16 l % 16 ≤ 7 := by
        cases l with
        | nil => simp [val]
        | cons c l => have := hd c (by simp); simp only [val]; omega
      simp only [val, pairUp, msk]
      have e0 : (a + 16 * (b + 16 * val 16 l)) / 16 + (a + 16 * (b + 16 * val 16 l)) = (a + b) + 2 ^ 4 * ((b + val 16 l % 16) + 2 ^ 4 * (val 16 l / 16 + val 16 l)) := by omega
      rw [e0, and_split (a + b) _ _ _ 4 (by omega) (by omega), show (a + b) &&& (2 ^ 4 - 1) = a + b by rw [Nat.and_two_pow_sub_one_eq_mod]; omega]
      have e1 := and_split (b + val 16 l % 16) 0 (val 16 l / 16 + val 16 l) (msk 4 n) 4 (by omega) (by omega)
      simp only [Nat.zero_add, Nat.and_zero] at e1
      rw [e1, ih]
      omega
theorem le_mem_cons {a m : Nat} {l : List Nat} (h : ∀ d ∈ a :: l, d ≤ m) : a ≤ m ∧ ∀ d ∈ l, d ≤ m := ⟨h a (by simp), fun d hd => h d (by simp [hd])⟩
theorem dvd_low (a B r : Nat) (h : a < B) : (a + B * r) / B = r := by
  rw [Nat.add_mul_div_left _ _ (by omega), Nat.div_eq_of_lt h, Nat.zero_add]
theorem fold8 (l : List Nat) (hl : l.length = 8) (h : ∀ d ∈ l, d ≤ 8) :
    val 256 l < 2 ^ 60 ∧ (let d := val 256 l + val 256 l / 256; let e := d + d / 65536; let f := e + e / 4294967296; d < 2 ^ 61 ∧ e < 2 ^ 62 ∧ f < 2 ^ 63 ∧ f % 128 = l.sum) := by
  match l, hl with
  | [a, b, c, d, e, f, g, i], _ =>
    obtain ⟨h0, h⟩ := le_mem_cons h
    obtain ⟨h1, h⟩ := le_mem_cons h
    obtain ⟨h2, h⟩ := le_mem_cons h
    obtain ⟨h3, h⟩ := le_mem_cons h
    obtain ⟨h4, h⟩ := le_mem_cons h
    obtain ⟨h5, h⟩ := le_mem_cons h
    obtain ⟨h6, h⟩ := le_mem_cons h
    obtain ⟨h7, h⟩ := le_mem_cons h
    clear h
    have e0 : val 256 [a, b, c, d, e, f, g, i] = a + 256 * (b + 256 * (c + 256 * (d + 256 * (e + 256 * (f + 256 * (g + 256 * i)))))) := by simp [val]
    have s0 : [a, b, c, d, e, f, g, i].sum = a + b + c + d + e + f + g + i := by simp; omega
    rw [e0, s0, dvd_low _ _ _ (by omega)]
    clear e0 s0
    have q1 : a + 256 * (b + 256 * (c + 256 * (d + 256 * (e + 256 * (f + 256 * (g + 256 * i)))))) + (b + 256 * (c + 256 * (d + 256 * (e + 256 * (f + 256 * (g + 256 * i)))))) =
      (a + b + 256 * (b + c)) + 65536 * ((c + d) + 256 * ((d + e) + 256 * ((e + f) + 256 * ((f + g) + 256 * ((g + i) + 256 * i))))) := by omega
    dsimp only
    rw [q1, dvd_low _ _ _ (by omega)]
    have q2 : (a + b + 256 * (b + c)) + 65536 * ((c + d) + 256 * ((d + e) + 256 * ((e + f) + 256 * ((f + g) + 256 * ((g + i) + 256 * i))))) + ((c + d) + 256 * ((d + e) + 256 * ((e + f) + 256 * ((f + g) + 256 * ((g + i) + 256 * i))))) =
      ((a + b + c + d) + 256 * ((b + c + d + e) + 256 * ((c + d + e + f) + 256 * (d + e + f + g)))) + 4294967296 * ((e + f + g + i) + 256 * ((f + g + i) + 256 * ((g + i) + 256 * i))) := by omega
    rw [q2, dvd_low _ _ _ (by omega)]
    have q3 : ((a + b + c + d) + 256 * ((b + c + d + e) + 256 * ((c + d + e + f) + 256 * (d + e + f + g)))) + 4294967296 * ((e + f + g + i) + 256 * ((f + g + i) + 256 * ((g + i) + 256 * i))) + ((e + f + g + i) + 256 * ((f + g + i) + 256 * ((g + i) + 256 * i))) =
      (a + b + c + d + e + f + g + i) + 128 * (2 * ((b + c + d + e + (f + g + i)) + 256 * ((c + d + e + f + (g + i)) + 256 * ((d + e + f + g + i) + 256 * ((e + f + g + i) + 256 * ((f + g + i) + 256 * ((g + i) + 256 * i))))))) := by omega
    refine ⟨by omega, by omega, by omega, by omega, ?_⟩
    rw [q3, Nat.add_mul_mod_self_left, Nat.mod_eq_of_lt (by omega)]
/-- How many bits of a number are 1, by halves. -/
def onesA (x : Nat) : Nat := (x &&& 6148914691236517205) + (x / 2 &&& 6148914691236517205)
def onesB (x : Nat) : Nat := (onesA x &&& 3689348814741910323) + (onesA x / 4 &&& 3689348814741910323)
def onesC (x : Nat) : Nat := (onesB x / 16 + onesB x) &&& 1085102592571150095
theorem sum_toNat (l : List Bool) : (l.map Bool.toNat).sum = l.count true := by
  induction l with
  | nil => rfl
  | cons b l ih => cases b <;> simp [ih]; omega
theorem val_lt (B : Nat) : ∀ l : List Nat, (∀ d ∈ l, d < B) → val B l < B ^ l.length
  | [], _ => by simp [val]
  | d :: l, h => by
    have h1 := h d (by simp)
    have h2 := val_lt B l (fun d hm => h d (by simp [hm]))
    simp only [val, List.length_cons, Nat.pow_succ]
    have : B * (val B l + 1) ≤ B * B ^ l.length := Nat.mul_le_mul_left _ h2
    rw [Nat.mul_comm (B ^ l.length)]
    rw [Nat.mul_add] at this; omega
theorem pack_pad (l : List Bool) (n : Nat) : pack (l ++ List.replicate n false) = pack l := by
  have h : pack (List.replicate n false) = 0 := by
    induction n with
    | zero => rfl
    | succ n ih => simp [List.replicate_succ, pack, ih]
  rw [pack_append, h]; simp
theorem ones_pack (l : List Bool) (hl : l.length ≤ 64) :
    onesA (pack l) < 2 ^ 64 ∧ onesB (pack l) < 2 ^ 64 ∧ onesB (pack l) / 16 + onesB (pack l) < 2 ^ 64 ∧ onesC (pack l) < 2 ^ 60 ∧
      (let d := onesC (pack l) + onesC (pack l) / 256; let e := d + d / 65536; let f := e + e / 4294967296; d < 2 ^ 61 ∧ e < 2 ^ 62 ∧ f < 2 ^ 63 ∧ f % 128 = l.count true) := by
  obtain ⟨m, hm, hp, hc⟩ : ∃ m : List Bool, m.length = 64 ∧ pack m = pack l ∧ m.count true = l.count true :=
    ⟨l ++ List.replicate (64 - l.length) false, by simp; omega, pack_pad _ _, by simp [List.count_append, List.count_replicate]⟩
  rw [← hp, ← hc]
  clear hp hc hl
  have h0 : ∀ d ∈ m.map Bool.toNat, d ≤ 1 := by
    intro d hd
    obtain ⟨b, _, rfl⟩ := List.mem_map.1 hd
    cases b <;> simp
  have l0 : (m.map Bool.toNat).length = 2 * 32 := by simp [hm]
  have a1 := swar_low 1 32 _ l0 (fun d hd => by have := h0 d hd; omega)
  have h1 := pairUp_le 1 _ h0
  have l1 := pairUp_length 32 _ l0
  have a2 := swar_low 2 16 _ l1 (fun d hd => by have := h1 d hd; omega)
  have h2 := pairUp_le 2 _ h1
  have l2 := pairUp_length 16 _ l1
  have a3 := swar_add 8 _ l2 (fun d hd => by have := h2 d hd; omega)
  have h3 := pairUp_le 4 _ h2
  have l3 := pairUp_length 8 _ l2
  have v1 := val_lt 4 _ (fun d hd => by have := h1 d hd; omega)
  have v2 := val_lt 16 (pairUp (pairUp (m.map Bool.toNat))) (fun d hd => by have := h2 d hd; omega)
  have hs : (pairUp (pairUp (pairUp (m.map Bool.toNat)))).sum = m.count true := by rw [pairUp_sum, pairUp_sum, pairUp_sum, sum_toNat]
  have m1 : msk 1 32 = 6148914691236517205 := by decide +kernel
  have m2 : msk 2 16 = 3689348814741910323 := by decide +kernel
  have m3 : msk 4 8 = 1085102592571150095 := by decide +kernel
  rw [m1] at a1; rw [m2] at a2; rw [m3] at a3
  have b0 : val (2 ^ 1) (m.map Bool.toNat) = pack m := val_pack m
  rw [b0] at a1
  have eA : onesA (pack m) = val 4 (pairUp (m.map Bool.toNat)) := a1
  have eB : onesB (pack m) = val 16 (pairUp (pairUp (m.map Bool.toNat))) := by unfold onesB; rw [eA]; exact a2
  have eC : onesC (pack m) = val 256 (pairUp (pairUp (pairUp (m.map Bool.toNat)))) := by unfold onesC; rw [eB]; exact a3
  have f8 := fold8 _ l3 (by simpa using h3)
  rw [hs, ← eC] at f8
  rw [eA, eB]
  rw [l1] at v1; rw [l2] at v2
  have v3 : val 16 (pairUp (pairUp (m.map Bool.toNat))) ≤ 8 * 1229782938247303441 := by
    have : ∀ l : List Nat, (∀ d ∈ l, d ≤ 4) → val 16 l * 15 ≤ 4 * (16 ^ l.length - 1) := by
      intro l
      induction l with
      | nil => simp [val]
      | cons d l ih =>
        intro h
        have h1 := h d (by simp)
        have h2 := ih (fun d hm => h d (by simp [hm]))
        have h3 : 0 < 16 ^ l.length := Nat.pow_pos (by omega)
        simp only [val, List.length_cons, Nat.pow_succ]; omega
    have := this _ (by simpa using h2)
    rw [l2] at this
    omega
  have p1 : (4:Nat) ^ 32 = 2 ^ 64 := by decide
  rw [p1] at v1
  exact ⟨v1, by omega, by omega, f8⟩
theorem and_mask (a m : Nat) (ha : a < 2 ^ 64) (hm : m < 2 ^ 64) : Go.bits .and .u64 (a : Int) (m : Int) = ((a &&& m : Nat) : Int) := u64_and_nat a m (by omega) (by omega)
/-- What the steps of a count of bits come to. -/
theorem ones_steps (l : List Bool) (hl : l.length ≤ 64) :
    IntKind.u64.wrap (Go.bits .and .u64 ((pack l : Int) / 2) 6148914691236517205 + Go.bits .and .u64 (pack l : Int) 6148914691236517205) = (onesA (pack l) : Int) ∧
    IntKind.u64.wrap (Go.bits .and .u64 ((onesA (pack l) : Int) / 4) 3689348814741910323 + Go.bits .and .u64 (onesA (pack l) : Int) 3689348814741910323) = (onesB (pack l) : Int) ∧
    Go.bits .and .u64 (IntKind.u64.wrap ((onesB (pack l) : Int) / 16 + (onesB (pack l) : Int))) 1085102592571150095 = (onesC (pack l) : Int) := by
  obtain ⟨hA, hB, hC, _⟩ := ones_pack l hl
  have h0 := pack_lt64 hl
  refine ⟨?_, ?_, ?_⟩
  · have e1 := and_mask (pack l / 2) 6148914691236517205 (by omega) (by omega)
    have e2 := and_mask (pack l) 6148914691236517205 h0 (by omega)
    rw [show ((pack l : Int) / 2) = ((pack l / 2 : Nat) : Int) by omega, show (6148914691236517205 : Int) = ((6148914691236517205 : Nat) : Int) by rfl, e1, e2,
      show ∀ a b : Nat, (a : Int) + (b : Int) = ((b + a : Nat) : Int) by intros; omega]
    change IntKind.u64.wrap (onesA (pack l) : Int) = _
    exact wrap_u64 (by omega) (by omega)
  · have e1 := and_mask (onesA (pack l) / 4) 3689348814741910323 (by omega) (by omega)
    have e2 := and_mask (onesA (pack l)) 3689348814741910323 hA (by omega)
    rw [show ((onesA (pack l) : Int) / 4) = ((onesA (pack l) / 4 : Nat) : Int) by omega, show (3689348814741910323 : Int) = ((3689348814741910323 : Nat) : Int) by rfl, e1, e2,
      show ∀ a b : Nat, (a : Int) + (b : Int) = ((b + a : Nat) : Int) by intros; omega]
    change IntKind.u64.wrap (onesB (pack l) : Int) = _
    exact wrap_u64 (by omega) (by omega)
  · rw [show ((onesB (pack l) : Int) / 16 + (onesB (pack l) : Int)) = ((onesB (pack l) / 16 + onesB (pack l) : Nat) : Int) by omega, wrap_u64 (by omega) (by omega),
      show (1085102592571150095 : Int) = ((1085102592571150095 : Nat) : Int) by rfl, and_mask _ _ hC (by omega)]
    rfl
theorem ones_end (c n : Nat) (h : c < 2 ^ 60) (hh : let d := c + c / 256; let e := d + d / 65536; let f := e + e / 4294967296; d < 2 ^ 61 ∧ e < 2 ^ 62 ∧ f < 2 ^ 63 ∧ f % 128 = n) :
    IntKind.u64.wrap ((c : Int) + (c : Int) / 256) = ((c + c / 256 : Nat) : Int) ∧
    IntKind.u64.wrap (((c + c / 256 : Nat) : Int) + ((c + c / 256 : Nat) : Int) / 65536) = ((c + c / 256 + (c + c / 256) / 65536 : Nat) : Int) ∧
    IntKind.u64.wrap (((c + c / 256 + (c + c / 256) / 65536 : Nat) : Int) + ((c + c / 256 + (c + c / 256) / 65536 : Nat) : Int) / 4294967296) = ((c + c / 256 + (c + c / 256) / 65536 + (c + c / 256 + (c + c / 256) / 65536) / 4294967296 : Nat) : Int) ∧
    c + c / 256 + (c + c / 256) / 65536 + (c + c / 256 + (c + c / 256) / 65536) / 4294967296 < 9223372036854775808 ∧
    Go.bits .and .i64 ((c + c / 256 + (c + c / 256) / 65536 + (c + c / 256 + (c + c / 256) / 65536) / 4294967296 : Nat) : Int) 127 = (n : Int) := by
  dsimp only at hh
  obtain ⟨h1, h2, h3, h4⟩ := hh
  generalize hd : c + c / 256 = d at *
  generalize he : d + d / 65536 = e at *
  generalize hf : e + e / 4294967296 = f at *
  refine ⟨?_, ?_, ?_, by omega, ?_⟩
  · rw [← hd]; rw [wrap_u64 (by omega) (by omega)]; omega
  · rw [← he]; rw [wrap_u64 (by omega) (by omega)]; omega
  · rw [← hf]; rw [wrap_u64 (by omega) (by omega)]; omega
  · have hb : Go.bits .and .i64 (f : Int) ((127 : Nat) : Int) = ((f &&& 127 : Nat) : Int) := by
      have hx : f &&& 127 < 2 ^ 63 := Nat.and_lt_two_pow _ (by omega)
      have o : ∀ a : Nat, a < 9223372036854775808 → (BitVec.ofInt 64 (a : Int)).toNat = a := fun a ha => by
        rw [BitVec.ofInt_natCast, BitVec.toNat_ofNat]; exact Nat.mod_eq_of_lt (by omega)
      show IntKind.i64.wrap ((BitVec.ofInt 64 (f : Int) &&& BitVec.ofInt 64 ((127 : Nat) : Int)).toNat : Int) = _
      rw [BitVec.toNat_and, o f (by omega), o 127 (by omega), IntKind.wrap_i64]
      omega
    rw [show (127 : Int) = ((127 : Nat) : Int) by rfl, hb, show (127 : Nat) = 2 ^ 7 - 1 by rfl, Nat.and_two_pow_sub_one_eq_mod, ← h4]
theorem clamp_to (l : List Bool) (i : Int) : ∃ k : Nat, (if (l.length : Int) < (if i < 0 then 0 else i) then (l.length : Int) else if i < 0 then 0 else i) = (k : Int) ∧ k ≤ l.length ∧ l.take k = l.take i.toNat ∧ l.drop k = l.drop i.toNat ∧ k = min i.toNat l.length := by
  refine ⟨min i.toNat l.length, ?_, Nat.min_le_right _ _, ?_, ?_, rfl⟩
  · split <;> split <;> omega
  · rcases Nat.le_total i.toNat l.length with h | h
    · rw [Nat.min_eq_left h]
    · rw [Nat.min_eq_right h, List.take_of_length_le h]; simp
  · rcases Nat.le_total i.toNat l.length with h | h
    · rw [Nat.min_eq_left h]
    · rw [Nat.min_eq_right h, List.drop_of_length_le h]; simp
/-- The k-th place, from p on, at which a row has this bit; -1: there is none. -/
def selFrom (one : Bool) : List Bool → Nat → Nat → Int
  | [], _, _ => -1
  | b :: l, k, p => if b = one then (if k = 0 then (p : Int) else selFrom one l (k - 1) (p + 1)) else selFrom one l k (p + 1)
def selL (l : List Bool) (one : Bool) (k : Int) : Int := if k < 0 then -1 else selFrom one l k.toNat 0
/-- May there be such a leaf? -/
def Rt (b : Nat) (n : Int) : Prop := 0 ≤ n ∧ n ≤ 64 ∧ b < 2 ^ n.toNat
instance (b n) : Decidable (Rt b n) := by unfold Rt; infer_instance
def getL (l : List Bool) (i : Int) : Bool := decide (0 ≤ i) && l.getD i.toNat false
def insL (l : List Bool) (i : Nat) (one : Bool) : List Bool := l.take i ++ one :: l.drop i
end Go.Proofs.Ytkgabbenmoocgaa
