/- The check sum of bytes: what the program and the reference come to, over numbers from 0 on. Plain Lean. No condition. -/
import Derived.Test.YtdabjklbmmnlkaaPAllx1
import Derived.Test.YtdabjklbmmnlkaaPAllx2
import Derived.Test.YtdabjklbmmnlkaaNums
namespace Go.Proofs.Ytdabjklbmmnlkaa.CrcM
set_option linter.unusedVariables false
open Go Go.RowKit Go.Proofs.Ytdabjklbmmnlkaa.PAll Go.Proofs.Ytdabjklbmmnlkaa.Nums Go.Proofs.YtdabjklbmmnlkaaW.PrintWords Go.Proofs.YtdabjklbmmnlkaaW.PrintLast Go.Proofs.YtdabjklbmmnlkaaW.PrintMore
theorem xmod2 (a b : Nat) : (a ^^^ b) % 2 = (a + b) % 2 := by
  have := Nat.xor_mod_two_pow (a := a) (b := b) (n := 1)
  rw [Nat.pow_one] at this
  rw [this]
  rcases Nat.mod_two_eq_zero_or_one a with ha | ha <;> rcases Nat.mod_two_eq_zero_or_one b with hb | hb <;> rw [ha, hb, Nat.add_mod, ha, hb] <;> rfl
theorem xlc (a b c : Nat) : a ^^^ (b ^^^ c) = b ^^^ (a ^^^ c) := by rw [← Nat.xor_assoc, Nat.xor_comm a b, Nat.xor_assoc]
theorem xor_zero_eq {a b : Nat} (h : a ^^^ b = 0) : a = b := by
  have : (a ^^^ b) ^^^ b = b := by rw [h]; simp
  rw [Nat.xor_assoc, Nat.xor_self, Nat.xor_zero] at this
  exact this
/-- One bit further. -/
def st1 (x : Nat) : Nat := x / 2 ^^^ (if x % 2 = 1 then 2197175160 else 0)
def it (f : Nat → Nat) : Nat → Nat → Nat
  | 0, x => x
  | n + 1, x => it f n (f x)
theorem it_add (f : Nat → Nat) : ∀ (a b x : Nat), it f (a + b) x = it f b (it f a x)
  | 0, b, x => by rw [Nat.zero_add]; rfl
  | a + 1, b, x => by rw [show a + 1 + b = (a + b) + 1 by omega, it, it, it_add f a b]
theorem it_succ (f : Nat → Nat) (n x : Nat) : it f (n + 1) x = f (it f n x) := by rw [it_add f n 1]; rfl
structure Lin (L : Nat → Nat) : Prop where
  xor : ∀ a b, L (a ^^^ b) = L a ^^^ L b
  lt : ∀ a, a < 4294967296 → L a < 4294967296
theorem Lin.zero {L : Nat → Nat} (h : Lin L) : L 0 = 0 := by have := h.xor 0 0; simpa using this
theorem Lin.comp {L K : Nat → Nat} (h : Lin L) (k : Lin K) : Lin (fun x => K (L x)) := ⟨fun a b => by rw [h.xor, k.xor], fun a ha => k.lt _ (h.lt _ ha)⟩
theorem Lin.id_ : Lin (fun x => x) := ⟨fun _ _ => rfl, fun _ h => h⟩
theorem Lin.it {L : Nat → Nat} (h : Lin L) : ∀ n, Lin (it L n)
  | 0 => Lin.id_
  | n + 1 => h.comp (Lin.it h n)
theorem st1_lin : Lin st1 := by
  constructor
  · intro a b
    have hm : (a ^^^ b) % 2 = (a + b) % 2 := xmod2 _ _
    have hd : (a ^^^ b) / 2 = a / 2 ^^^ b / 2 := Nat.xor_div_two
    unfold st1
    rw [hm, hd]
    rcases Nat.mod_two_eq_zero_or_one a with ha | ha <;> rcases Nat.mod_two_eq_zero_or_one b with hb | hb
    · rw [if_neg (by omega), if_neg (by omega), if_neg (by omega)]; simp
    · rw [if_pos (by omega), if_neg (by omega), if_pos hb]; simp [Nat.xor_assoc]
    · rw [if_pos (by omega), if_pos ha, if_neg (by omega)]; simp only [Nat.xor_zero]; rw [Nat.xor_assoc, Nat.xor_assoc, Nat.xor_comm (b / 2)]
    · rw [if_neg (by omega), if_pos ha, if_pos hb]
      rw [Nat.xor_assoc (a / 2) 2197175160, xlc 2197175160 (b / 2), Nat.xor_self]; simp
  · intro a ha
    unfold st1
    have h1 : a / 2 < 2 ^ 32 := by omega
    have h2 : (if a % 2 = 1 then 2197175160 else 0 : Nat) < 2 ^ 32 := by split <;> omega
    exact Nat.xor_lt_two_pow h1 h2
theorem st1_even (x : Nat) : st1 (2 * x) = x := by
  unfold st1
  rw [if_neg (by omega), show 2 * x / 2 = x by omega]; simp
theorem it_even : ∀ (k x : Nat), it st1 k (x * 2 ^ k) = x
  | 0, x => by simp [it]
  | k + 1, x => by rw [it, show x * 2 ^ (k + 1) = 2 * (x * 2 ^ k) by rw [Nat.pow_succ]; rw [← Nat.mul_assoc, Nat.mul_comm], st1_even, it_even k]
theorem st1_ne {x : Nat} (h : x < 4294967296) (h0 : x ≠ 0) : st1 x ≠ 0 := by
  unfold st1
  intro he
  by_cases hb : x % 2 = 1
  · rw [if_pos hb] at he
    have := xor_zero_eq he
    omega
  · rw [if_neg hb] at he
    simp at he
    omega
theorem it_ne : ∀ (n x : Nat), x < 4294967296 → x ≠ 0 → it st1 n x ≠ 0
  | 0, x, h, h0 => h0
  | n + 1, x, h, h0 => it_ne n (st1 x) (st1_lin.lt x h) (st1_ne h h0)
/-- Eight bits further. -/
def step (x : Nat) : Nat := it st1 8 x
theorem step_lin : Lin step := st1_lin.it 8
theorem xor32 {a b : Nat} (ha : a < 4294967296) (hb : b < 4294967296) : bits .xor .u32 (a : Int) (b : Int) = ((a ^^^ b : Nat) : Int) := xorN .u32 rfl a b (by show _ < 2 ^ 32; omega) (by show _ < 2 ^ 32; omega)
theorem xor32_lt {a b : Nat} (ha : a < 4294967296) (hb : b < 4294967296) : a ^^^ b < 4294967296 := by
  have := Nat.xor_lt_two_pow (x := a) (y := b) (n := 32) (by omega) (by omega)
  omega
theorem step1_int {x : Nat} (h : x < 4294967296) : bits .xor .u32 ((x : Int) / 2) (bits .and .u32 2197175160 ((-(bits .and .u32 (x : Int) 1)) % 4294967296)) = ((st1 x : Nat) : Int) := by
  have h1 : bits .and .u32 (x : Int) 1 = ((x % 2 : Nat) : Int) := by
    have := andN .u32 rfl x 1 (by show _ < 2 ^ 32; omega) (by decide)
    rw [show (1 : Int) = ((1 : Nat) : Int) from rfl, this, Nat.and_one_is_mod]
  have h2 : bits .and .u32 2197175160 ((-(((x % 2 : Nat) : Int))) % 4294967296) = (((if x % 2 = 1 then 2197175160 else 0 : Nat)) : Int) := by
    rcases Nat.mod_two_eq_zero_or_one x with hx | hx
    · rw [hx]; decide
    · rw [hx]; decide
  rw [h1, h2, show (x : Int) / 2 = ((x / 2 : Nat) : Int) by simp, xor32 (by omega) (by split <;> omega)]
  rfl
theorem step_l0 : ∀ (d k j x : Nat), x < 4294967296 → j + d = 8 → d + 1 ≤ k → crc_step.l0 k (x : Int) (j : Int) = some ((it st1 d x : Nat) : Int)
  | 0, k, j, x, hx, hj, hk => by
    obtain ⟨k, rfl⟩ : ∃ m, k = m + 1 := ⟨k - 1, by omega⟩
    rw [crc_step.l0, if_neg (by omega)]; rfl
  | d + 1, k, j, x, hx, hj, hk => by
    obtain ⟨k, rfl⟩ : ∃ m, k = m + 1 := ⟨k - 1, by omega⟩
    rw [crc_step.l0, if_pos (by omega), step1_int hx, w64_in (by omega) (by omega)]
    exact step_l0 d k (j + 1) (st1 x) (st1_lin.lt x hx) (by omega) (by omega)
theorem step_eq {x : Nat} (hx : x < 4294967296) (k : Nat) (hk : 9 ≤ k) : crc_step.f k (x : Int) = some ((step x : Nat) : Int) := step_l0 8 k 0 x hx (by omega) (by omega)
/-- Bytes into the register. -/
def feed (r : Nat) (b : List Int) : Nat := b.foldl (fun r x => step (r ^^^ x.toNat)) r
theorem feed_append (r : Nat) (a b : List Int) : feed r (a ++ b) = feed (feed r a) b := by unfold feed; rw [List.foldl_append]
theorem feed_lt : ∀ (b : List Int) (r : Nat), Bytes b → r < 4294967296 → feed r b < 4294967296
  | [], r, hb, hr => hr
  | x :: b, r, hb, hr => by
    have hx := hb x (by simp)
    exact feed_lt b _ (fun y hy => hb y (by simp [hy])) (step_lin.lt _ (xor32_lt hr (by omega)))
def M : Nat := 4294967295
theorem M_xor {a : Nat} : M ^^^ (M ^^^ a) = a := by rw [← Nat.xor_assoc]; simp
theorem drop_feed (b : List Int) (i r : Nat) (hi : i < b.length) : feed r (b.drop i) = feed (step (r ^^^ (rd b (i : Int)).toNat)) (b.drop (i + 1)) := by
  rw [List.drop_eq_getElem_cons hi, rd_get hi]; rfl
theorem more_l0 {b : List Int} (hb : Bytes b) (hl : b.length ≤ 9223372036854775807) : ∀ (d k i r : Nat), r < 4294967296 → i + d = b.length → d + 20 ≤ k → crc_More.l0 k (r : Int) b (b.length : Int) (i : Int) = some ((M ^^^ feed r (b.drop i) : Nat) : Int)
  | 0, k, i, r, hr, hi, hk => by
    obtain ⟨k, rfl⟩ : ∃ m, k = m + 1 := ⟨k - 1, by omega⟩
    rw [crc_More.l0, if_neg (by omega), List.drop_of_length_le (by omega), show (4294967295 : Int) = ((M : Nat) : Int) from rfl, xor32 (by decide) hr]; rfl
  | d + 1, k, i, r, hr, hi, hk => by
    obtain ⟨k, rfl⟩ : ∃ m, k = m + 1 := ⟨k - 1, by omega⟩
    have hx := rd_byte hb i
    obtain ⟨x, hxe⟩ := Int.eq_ofNat_of_zero_le hx.1
    rw [hxe] at hx
    have hlt := xor32_lt (b := x) hr (by omega)
    rw [crc_More.l0, if_pos (by omega), if_pos (by omega), if_pos (by omega), hxe, show (x : Int) % 4294967296 = (x : Int) by omega, xor32 hr (by omega), step_eq hlt k (by omega)]
    simp only [Option.bind_some]
    rw [w64_in (by omega) (by omega), drop_feed b i r (by omega), hxe, Int.toNat_natCast]
    exact more_l0 hb hl d k (i + 1) _ (step_lin.lt _ hlt) (by omega) (by omega)
def moreN (s : Nat) (b : List Int) : Nat := M ^^^ feed (M ^^^ s) b
theorem moreN_lt {s : Nat} {b : List Int} (hs : s < 4294967296) (hb : Bytes b) : moreN s b < 4294967296 := xor32_lt (by decide) (feed_lt b _ hb (xor32_lt (by decide) hs))
theorem more_eq {b : List Int} (hb : Bytes b) (hl : b.length ≤ 9223372036854775807) {s : Nat} (hs : s < 4294967296) (k : Nat) (hk : b.length + 20 ≤ k) : crc_More.f k (s : Int) b = some ((moreN s b : Nat) : Int) := by
  unfold crc_More.f
  rw [show (4294967295 : Int) = ((M : Nat) : Int) from rfl, xor32 (by decide) hs]
  have := more_l0 hb hl b.length k 0 (M ^^^ s) (xor32_lt (by decide) hs) (by omega) (by omega)
  rw [List.drop_zero] at this
  exact this
/-! the reference, bit by bit -/
/-- The register behind d bits of y, from bit j on. -/
def rb (y : Nat) : Nat → Nat → Nat → Nat
  | 0, _, r => r
  | d + 1, j, r => rb y d (j + 1) (if y / 2 ^ j % 2 = r % 2 then r / 2 else r / 2 ^^^ 2197175160)
theorem rb_it (y : Nat) : ∀ (d j r : Nat), it st1 d (r ^^^ y / 2 ^ j) = rb y d j r ^^^ y / 2 ^ (j + d)
  | 0, j, r => rfl
  | d + 1, j, r => by
    have hm : (r ^^^ y / 2 ^ j) % 2 = (r + y / 2 ^ j) % 2 := xmod2 _ _
    have hd : (r ^^^ y / 2 ^ j) / 2 = r / 2 ^^^ y / 2 ^ j / 2 := Nat.xor_div_two
    have hq : y / 2 ^ j / 2 = y / 2 ^ (j + 1) := by rw [Nat.div_div_eq_div_mul, ← Nat.pow_succ]
    have e : st1 (r ^^^ y / 2 ^ j) = (if y / 2 ^ j % 2 = r % 2 then r / 2 else r / 2 ^^^ 2197175160) ^^^ y / 2 ^ (j + 1) := by
      unfold st1
      rw [hm, hd, hq]
      by_cases h : y / 2 ^ j % 2 = r % 2
      · rw [if_pos h, if_neg (by omega)]; simp
      · rw [if_neg h, if_pos (by omega), Nat.xor_assoc, Nat.xor_assoc, Nat.xor_comm (y / 2 ^ (j + 1))]
    rw [it, e, rb, rb_it y d (j + 1), show j + 1 + d = j + (d + 1) by omega]
theorem rb_step {y r : Nat} (hy : y < 256) : rb y 8 0 r = step (r ^^^ y) := by
  have := rb_it y 8 0 r
  rw [Nat.pow_zero, Nat.div_one, Nat.zero_add, Nat.div_eq_of_lt (show y < 2 ^ 8 by omega), Nat.xor_zero] at this
  exact this.symm
theorem bit_in {y j : Nat} (hy : y < 256) (hj : j < 8) : shr .u32 ((y : Int) % 4294967296) (IntKind.u64.wrap (j : Int)) % 2 = ((y / 2 ^ j % 2 : Nat) : Int) := by
  rw [u64_in (by omega) (by omega), show (y : Int) % 4294967296 = (y : Int) by omega, shrN, Nat.min_eq_left (by show j ≤ 32; omega)]
  simp
end Go.Proofs.Ytdabjklbmmnlkaa.CrcM
